/- Part of a proof over the given program: Ob. -/
import Derived.Test.YtehnkebcbomidaaGreatDoorCn27
import Derived.WalkMore
import Derived.ScopeJumps
set_option linter.unusedVariables false
set_option linter.unusedSimpArgs false
namespace Go.Proofs.YtehnkebcbomidaaGreatDoor.Rt
open Go Go.RowKit Go.Proofs Go.Proofs.YtehnkebcbomidaaGreatDoorW.PrintWords Go.Proofs.YtehnkebcbomidaaGreatDoorW.PrintLast Go.Proofs.YtehnkebcbomidaaGreatDoorW.PrintMore
attribute [local go_sem] max2_int min2_int max_two min_two
def hgL (L : List LM) : List Bool := L.map fun m => m.reg && m.hangs
def cntT (B : Nat) (W : World) : Nat := match W.heap[B + 3]? with
 | some (.cells cs _ _) => cs.toList.countP fun v => match v with
  | .bool true => true
  | _ => false
 | _ => 0
theorem OuAt.cnt {B : Nat} {W : World} {L : List LM} {A : Option Addr} {c : Nat} {hg op : List Bool} {out : List Int} (h : OuAt B W L A c hg op out) : cntT B W = op.countP id := by
 unfold cntT
 rw [h.b3]
 simp only [bC]
 rw [List.countP_map]
 refine congrArg (fun f => List.countP f op) (funext fun b => ?_)
 cases b <;> rfl
theorem below_set {B : Nat} {w W : World} (h : Below B w W) (p : Addr) (hp : B ≤ p.block) (u : Value) : Below B w (W.setCell p u) :=
 ⟨h.os, h.tape, h.output, by simpa [World.setCell] using h.size, fun k hk => (heap_setCell_other W p k u (by omega)).trans (h.block k hk)⟩
theorem cell_set_ne {W : World} {p q : Addr} {v : Value} (h : W.cell? p = some v) (hne : p.block ≠ q.block) (u : Value) : (W.setCell q u).cell? p = some v :=
 (World.cell?_of_block (w := W) (heap_setCell_other W q p.block u hne)).trans h
theorem below_drewN {B : Nat} {w W : World} (h : Below B w W) (m : Nat) : Below B w (W.drewN m) := ⟨h.os, h.tape, h.output, h.size, h.block⟩
def JJ (w : World) (L : List LM) (A : Option Addr) (c B : Nat) (a' : Act) (w' : World) : Prop :=
 ∃ (op : List Bool) (out : List Int) (k : Nat), (∃ u : Nat → Value, a' = { tmps := #[.slice A L.length c, .pointer (some ⟨B, 0, none⟩), .slice none 0 0, .pointer (some ⟨B + 2, 0, none⟩), .pointer (some ⟨B + 4, 0, none⟩), .slice (some ⟨B + 5, 0, none⟩) L.length L.length, u 6, u 7, u 8, u 9, .func (.func 137) #[] #[.pointer (some ⟨B, 0, none⟩), .pointer (some ⟨B + 4, 0, none⟩), .pointer (some ⟨B + 2, 0, none⟩)], u 11, u 12, u 13, u 14, u 15, u 16, u 17, u 18, u 19, u 20, u 21, u 22, u 23, u 24, u 25, u 26, u 27, u 28, u 29, u 30, u 31, u 32, u 33, u 34, u 35, u 36, u 37, u 38, u 39, u 40, u 41, u 42, u 43, u 44, u 45, u 46, u 47, u 48, u 49, u 50, u 51, u 52, u 53, u 54, u 55, u 56, u 57, u 58, u 59, u 60, u 61, u 62, u 63, u 64, u 65, u 66, u 67, u 68, u 69, u 70, u 71, u 72, u 73, u 74, u 75, u 76, u 77, u 78, u 79, u 80, u 81, u 82, u 83, u 84, u 85, u 86, u 87, u 88, u 89, u 90, u 91, u 92, u 93, u 94, u 95, u 96, u 97, u 98], defers := [] }) ∧ OuAt B w' L A c (hgL L) op out ∧ Below B w w' ∧ outs L = outsGo L (hgL L) k out op ∧ op.countP id < k
theorem wp_scope_jumps2 {P : Program} {a : Act} {w : World} {Q : Exit → Act → World → Prop} {c rest : Code} (l : Nat) (J : Act → World → Prop) (μ : Act → World → Nat) (hf : findLabel c l = some (Code.skip.seq rest))
  (pass : ∀ a w, J a w → rest.wp P (Exit.jump l (fun a' w' => J a' w' ∧ μ a' w' < μ a w) Q) a w)
  (first : (∀ a w, J a w → rest.wp P (Exit.jump l J Q) a w) → c.wp P (Exit.jump l J Q) a w) : (Code.scope c).wp P Q a w :=
 wp_scope_jumps l J μ hf (first fun a w h => Code.wp_mono (fun e a w hq => by cases e <;> first | exact ⟨hq.1, hq.2.1⟩ | exact hq) (pass a w h)) (fun a w h => wp_seq (wp_skip (pass a w h)))
theorem frame_of {L : List LM} {A : Option Addr} {c B : Nat} (a' : Act) (h : a' = (fun u : Nat → Value => ({ tmps := #[.slice A L.length c, .pointer (some ⟨B, 0, none⟩), .slice none 0 0, .pointer (some ⟨B + 2, 0, none⟩), .pointer (some ⟨B + 4, 0, none⟩), .slice (some ⟨B + 5, 0, none⟩) L.length L.length, u 6, u 7, u 8, u 9, .func (.func 137) #[] #[.pointer (some ⟨B, 0, none⟩), .pointer (some ⟨B + 4, 0, none⟩), .pointer (some ⟨B + 2, 0, none⟩)], u 11, u 12, u 13, u 14, u 15, u 16, u 17, u 18, u 19, u 20, u 21, u 22, u 23, u 24, u 25, u 26, u 27, u 28, u 29, u 30, u 31, u 32, u 33, u 34, u 35, u 36, u 37, u 38, u 39, u 40, u 41, u 42, u 43, u 44, u 45, u 46, u 47, u 48, u 49, u 50, u 51, u 52, u 53, u 54, u 55, u 56, u 57, u 58, u 59, u 60, u 61, u 62, u 63, u 64, u 65, u 66, u 67, u 68, u 69, u 70, u 71, u 72, u 73, u 74, u 75, u 76, u 77, u 78, u 79, u 80, u 81, u 82, u 83, u 84, u 85, u 86, u 87, u 88, u 89, u 90, u 91, u 92, u 93, u 94, u 95, u 96, u 97, u 98], defers := [] } : Act)) (fun k => a'.tmps.getD k undef)) : ∃ u : Nat → Value, a' = { tmps := #[.slice A L.length c, .pointer (some ⟨B, 0, none⟩), .slice none 0 0, .pointer (some ⟨B + 2, 0, none⟩), .pointer (some ⟨B + 4, 0, none⟩), .slice (some ⟨B + 5, 0, none⟩) L.length L.length, u 6, u 7, u 8, u 9, .func (.func 137) #[] #[.pointer (some ⟨B, 0, none⟩), .pointer (some ⟨B + 4, 0, none⟩), .pointer (some ⟨B + 2, 0, none⟩)], u 11, u 12, u 13, u 14, u 15, u 16, u 17, u 18, u 19, u 20, u 21, u 22, u 23, u 24, u 25, u 26, u 27, u 28, u 29, u 30, u 31, u 32, u 33, u 34, u 35, u 36, u 37, u 38, u 39, u 40, u 41, u 42, u 43, u 44, u 45, u 46, u 47, u 48, u 49, u 50, u 51, u 52, u 53, u 54, u 55, u 56, u 57, u 58, u 59, u 60, u 61, u 62, u 63, u 64, u 65, u 66, u 67, u 68, u 69, u 70, u 71, u 72, u 73, u 74, u 75, u 76, u 77, u 78, u 79, u 80, u 81, u 82, u 83, u 84, u 85, u 86, u 87, u 88, u 89, u 90, u 91, u 92, u 93, u 94, u 95, u 96, u 97, u 98], defers := [] } := ⟨fun k => a'.tmps.getD k undef, h⟩
set_option maxHeartbeats 16000000 in
set_option maxRecDepth 1000000 in
theorem outputs_call (w : World) (L : List LM) (A : Option Addr) (c : Nat) (hn : L.length ≤ 1000) (hrow : w.ownsRow 0 195 7 (.slice A L.length c) L.length (lmF L)) :
  Calls Tryz.prog 68 #[.slice A L.length c] w fun e w' => ∃ g, e = .returned (.slice (some ⟨g, 0, none⟩) L.length L.length) ∧ w.heap.size ≤ g ∧ w'.heap[g]? = some (.cells (iC (outs L)) 3 (0, 0)) ∧ Below w.heap.size w w' := by
 have hu123 := Tryz.underlying123
 have hu195 := Tryz.underlying195
 have hu36 := Tryz.underlying36
 have hu52 := Tryz.underlying52
 have HROW := Lib.hid hrow
 have hl1000 : (L.length : Int) ≤ 1000 := by omega
 have m52 := make52 L.length hn
 have m36 := make36 L.length hn
 have hnew := OuAt.new w L A c hrow
 have HNEW := Lib.hid hnew
 clear hrow hnew
 go_enter Tryz.func68, Tryz.ntmps68
 have hmix : Tryz.prog.follows .mixedOrders = true := by kernel_rfl
 go_wp2_with fail
 obtain ⟨B, hB⟩ : ∃ B, B = w.heap.size := ⟨_, rfl⟩
 have HB := Lib.hid hB
 clear hB
 refine wp_scope_jumps2 0 (JJ w L A c B) (fun _ w' => cntT B w') rfl ?_ ?_
 ·rintro a' w' ⟨op, out, k, ⟨u, rfl⟩, ho, hb, hout, hcnt⟩
  have m0 := hn
  clear m52 m36 HNEW HROW
  obtain ⟨k, rfl⟩ : ∃ k', k = k' + 1 := ⟨k - 1, by omega⟩
  rw [outsGo_step] at hout
  have hle := least_call w' L.length hn B (B + 4) (B + 2) (B + 3) (B + 1) A c op out ho.le
  have hopen := leastO_open out op L.length
  have hlt := leastO_lt out op L.length
  have HO := Lib.hid ho
  have HBW := Lib.hid hb
  have HLE := Lib.hid hle
  have HCN := Lib.hid hcnt
  clear ho hb hle hcnt
  cases hl : leastO out op L.length with
  | none =>
   rw [hl] at hout
   have HOU := Lib.hid hout
   have hle := HLE.out
   rw [hl] at hle
   have HLE := Lib.hid hle
   have c2 := HO.out.c2
   clear hout hle hopen hlt hl
   go_wp2_with fail
   refine HLE.out.mono ?_
   rintro e w5 ⟨rfl, m5, rfl⟩
   unfold bestV
   have hneg : ¬ (0 : Int) ≤ -1 := by decide
   go_wp2
   simp only [Exit.jump]
   go_ret
   refine ⟨B + 1, rfl, by have := HB.out; omega, ?_, ?_⟩
   ·rw [HOU.out]
    exact HO.out.b1
   ·rw [← HB.out]
    exact below_drewN HBW.out m5
  | some i =>
   rw [hl] at hout
   have hin := hlt i hl
   have hop := hopen i hl
   have hle := HLE.out
   rw [hl] at hle
   have hc3 := HO.out.c3 i hin
   rw [hop] at hc3
   have HOU := Lib.hid hout
   have HLE := Lib.hid hle
   clear hout hle hopen hlt hl
   go_wp2_with fail
   refine HLE.out.mono ?_
   rintro e w5 ⟨rfl, m5, rfl⟩
   unfold bestV
   have hpos : (0 : Int) ≤ (i : Int) := by omega
   have hni : ¬ (i : Int) < 0 := by omega
   have hin' : (i : Int) < (L.length : Int) := by omega
   have c4 : (w'.drewN m5).cell? ⟨B + 4, 0, none⟩ = _ := HO.out.c4
   have c3 : (w'.drewN m5).cell? ⟨B + 3, i, none⟩ = _ := hc3
   have f3 : (w'.drewN m5).frozen? ⟨B + 3, i, none⟩ = false := HO.out.f3 i
   have c0 : (w'.drewN m5).cell? ⟨B, 0, none⟩ = _ := HO.out.c0
   have ho5 : OuAt B (w'.drewN m5) L A c (hgL L) op out := HO.out.frame (fun _ _ => rfl)
   have hb5 : Below B w (w'.drewN m5) := below_drewN HBW.out m5
   have hcn : cntT B (w'.drewN m5) = cntT B w' := rfl
   have ho6 := ho5.set3 i false
   have hb6 := below_set hb5 ⟨B + 3, i, none⟩ (by show B ≤ B + 3; omega) (.bool false)
   have hq1 := countP_set op i hop
   have hq2 := HO.out.cnt
   have hq3 := oset_getD op i
   have HQ1 := Lib.hid hq1
   have HQ2 := Lib.hid hq2
   have HQ3 := Lib.hid hq3
   have HO6 := Lib.hid ho6
   have HB6 := Lib.hid hb6
   have HC6 := Lib.hid hcn
   clear hc3 ho5 hb5 ho6 hb6 hq1 hq2 hcn hop hq3
   generalize w'.drewN m5 = w5 at *
   go_wp2
   clear c4 c3 f3 c0
   obtain ⟨W6, hW6⟩ : ∃ W6, W6 = w5.setCell ⟨B + 3, i, none⟩ (.bool false) := ⟨_, rfl⟩
   have ho6 := HO6.out
   have hb6 := HB6.out
   rw [← hW6] at ho6 hb6 ⊢
   have HO7 := Lib.hid ho6
   have HB7 := Lib.hid hb6
   clear ho6 hb6 hW6 HO6 HB6
   obtain ⟨op2, hop2⟩ : ∃ op2, op2 = op.set i false := ⟨_, rfl⟩
   have HP2 := Lib.hid hop2
   clear hop2
   go_loopw [64] (fun jv wr => ∃ j : Nat, j ≤ L.length ∧ jv = .int .i64 j ∧ OuAt B wr L A c (hgL L) op2 (rdTo L i op2 (hgL L) out j) ∧ Below B w wr) (fun jv _ => L.length - (RowKit.intOf jv).toNat)
   case atStart =>
    refine ⟨0, Nat.zero_le _, rfl, ?_, HB7.out⟩
    rw [rdTo_zero L i op2 (hgL L) out HO7.out.n1, HP2.out]
    exact HO7.out
   case round =>
    obtain ⟨j, hj, rfl, ho, hb⟩ := hrel
    by_cases hjn : j < L.length
    ·have hjl : (j : Int) < (L.length : Int) := by omega
     have hj0 : (0 : Int) ≤ (j : Int) := by omega
     obtain ⟨g, hg, hgB, hgc⟩ := ho.rows j hjn
     have hmm : L.getD j default = L[j] := by rw [List.getD_eq_getElem?_getD, List.getElem?_eq_getElem hjn]; rfl
     have hrv : rdV L i out j = min (out.getD j 0) (L[j].later (max (tadd L[j].time 0) (out.getD i 0))) := by unfold rdV; rw [hmm]
     have hoj := rdTo_at L i op2 (hgL L) out j j hjn (.inl (Nat.le_refl _))
     have hoi := rdTo_at L i op2 (hgL L) out j i hin (.inr (by rw [HP2.out]; exact HQ3.out))
     have e1 := ho.c1 j hjn
     have e1i := ho.c1 i hin
     rw [hoj] at e1
     rw [hoi] at e1i
     generalize L[j] = m at hgc hrv
     obtain ⟨reg, con, time, look, kind, ask, first⟩ := m
     have d0 : wr.cell? ⟨g, j * 7, none⟩ = some (.bool reg) := hgc 0 _ (by decide) rfl
     have d1 : wr.cell? ⟨g, j * 7 + 1, none⟩ = some (.bool con) := hgc 1 _ (by decide) rfl
     have d2 : wr.cell? ⟨g, j * 7 + 2, none⟩ = some (.int .i64 time) := hgc 2 _ (by decide) rfl
     have d3 : wr.cell? ⟨g, j * 7 + 3, none⟩ = some (.int .i64 look) := hgc 3 _ (by decide) rfl
     have d4 : wr.cell? ⟨g, j * 7 + 4, none⟩ = some (.int .i64 kind) := hgc 4 _ (by decide) rfl
     have d5 : wr.cell? ⟨g, j * 7 + 5, none⟩ = some (.int .i64 ask) := hgc 5 _ (by decide) rfl
     have d6 : wr.cell? ⟨g, j * 7 + 6, none⟩ = some (.int .i64 first) := hgc 6 _ (by decide) rfl
     have e2 := ho.c2
     have e4 := ho.c4
     have e3 := ho.c3 j hjn
     have e5 := ho.c5 j hjn
     have hlt1 : B + 1 < wr.heap.size := by have := ho.size; omega
     have hlt2 : B + 2 < wr.heap.size := by have := ho.size; omega
     have hlt3 : B + 3 < wr.heap.size := by have := ho.size; omega
     have hlt4 : B + 4 < wr.heap.size := by have := ho.size; omega
     have hlt5 : B + 5 < wr.heap.size := by have := ho.size; omega
     subst hg
     have hno := rdTo_no L i op2 (hgL L) out j
     have hye := rdTo_yes L i op2 (hgL L) out j hjn
     cases hopj : op2.getD j false with
     | false =>
      rw [hopj] at e3
      have hno := hno (by rw [hopj]; rfl)
      have HNO := Lib.hid hno
      have HO := Lib.hid ho
      have HBW := Lib.hid hb
      clear ho hb hgc hno hye hopj hrv hoj hoi hmm
      go_wp2_with fail
      refine ⟨⟨j + 1, hjn, by simp, ?_, ?_⟩, by simp [RowKit.intOf]; omega⟩
      ·rw [HNO.out]
       exact HO.out.below ((Below.refl _ _).alloc (Nat.le_refl _) _)
      ·exact HBW.out.alloc (by have := HO.out.size; omega) _
     | true =>
      rw [hopj] at e3
      cases hhgj : (hgL L).getD j false with
      | false =>
       rw [hhgj] at e5
       have hno := hno (by rw [hopj, hhgj]; rfl)
       have HNO := Lib.hid hno
       have HO := Lib.hid ho
       have HBW := Lib.hid hb
       clear ho hb hgc hno hye hopj hhgj hrv hoj hoi hmm
       go_wp2_with fail
       refine ⟨⟨j + 1, hjn, by simp, ?_, ?_⟩, by simp [RowKit.intOf]; omega⟩
       ·rw [HNO.out]
        exact HO.out.below ((Below.refl _ _).alloc (Nat.le_refl _) _)
       ·exact HBW.out.alloc (by have := HO.out.size; omega) _
      | true =>
       rw [hhgj] at e5
       have hye := hye (by rw [hopj, hhgj]; rfl)
       rw [hrv] at hye
       generalize out.getD j 0 = oj at e1 hye
       generalize out.getD i 0 = oi at e1i hye
       have hlat := fun W => later_call W (⟨reg, con, time, look, kind, ask, first⟩ : LM) (mx (tadd time 0) oi)
       unfold LM.val at hlat
       have hye2 : rdTo L i op2 (hgL L) out (j + 1) = (rdTo L i op2 (hgL L) out j).set j (if LM.later (⟨reg, con, time, look, kind, ask, first⟩ : LM) (mx (tadd time 0) oi) < oj then LM.later (⟨reg, con, time, look, kind, ask, first⟩ : LM) (mx (tadd time 0) oi) else oj) := by rw [hye, ← mx_max, ← mn_min]; rfl
       generalize LM.later (⟨reg, con, time, look, kind, ask, first⟩ : LM) (mx (tadd time 0) oi) = lt at hlat hye2
       have HYE := Lib.hid hye2
       have HLA := Lib.hid hlat
       have HO := Lib.hid ho
       have HBW := Lib.hid hb
       clear ho hb hgc hno hye hye2 hopj hhgj hrv hoj hoi hmm hlat
       go_wp2_with fail
       obtain ⟨W7, hW7⟩ : ∃ W7, W7 = wr.alloc (Obj.cells #[.bool reg, .bool con, .int .i64 time, .int .i64 look, .int .i64 kind, .int .i64 ask, .int .i64 first] 195) := ⟨_, rfl⟩
       have hx := heap_alloc_new wr (Obj.cells #[.bool reg, .bool con, .int .i64 time, .int .i64 look, .int .i64 kind, .int .i64 ask, .int .i64 first] 195)
       have hb7 : Below wr.heap.size wr W7 := by rw [hW7]; exact (Below.refl _ _).alloc (Nat.le_refl _) _
       rw [← hW7] at hx ⊢
       have x2 := pw_cell_below hb7 e2
       have xj := pw_cell_below hb7 e1
       have xi := pw_cell_below hb7 e1i
       obtain ⟨bb, hbb⟩ : ∃ bb, bb = wr.heap.size := ⟨_, rfl⟩
       rw [← hbb] at hx ⊢
       have y0 := cell_of_row W7 bb 0 #[.bool reg, .bool con, .int .i64 time, .int .i64 look, .int .i64 kind, .int .i64 ask, .int .i64 first] 195 (0, 0) hx
       have y1 := cell_of_row W7 bb 1 #[.bool reg, .bool con, .int .i64 time, .int .i64 look, .int .i64 kind, .int .i64 ask, .int .i64 first] 195 (0, 0) hx
       have y2 := cell_of_row W7 bb 2 #[.bool reg, .bool con, .int .i64 time, .int .i64 look, .int .i64 kind, .int .i64 ask, .int .i64 first] 195 (0, 0) hx
       have y3 := cell_of_row W7 bb 3 #[.bool reg, .bool con, .int .i64 time, .int .i64 look, .int .i64 kind, .int .i64 ask, .int .i64 first] 195 (0, 0) hx
       have y4 := cell_of_row W7 bb 4 #[.bool reg, .bool con, .int .i64 time, .int .i64 look, .int .i64 kind, .int .i64 ask, .int .i64 first] 195 (0, 0) hx
       have y5 := cell_of_row W7 bb 5 #[.bool reg, .bool con, .int .i64 time, .int .i64 look, .int .i64 kind, .int .i64 ask, .int .i64 first] 195 (0, 0) hx
       have y6 := cell_of_row W7 bb 6 #[.bool reg, .bool con, .int .i64 time, .int .i64 look, .int .i64 kind, .int .i64 ask, .int .i64 first] 195 (0, 0) hx
       have HBB := Lib.hid hbb
       have HW7 := Lib.hid hb7
       clear hx hW7 hbb hb7 d0 d1 d2 d3 d4 d5 d6 e1 e1i e2 e3 e4 e5 hlt1 hlt2 hlt3 hlt4 hlt5
       refine st_ (n := 19) (S := fun w' => w'.cell? ⟨B + 2, 0, none⟩ = some (.slice (some ⟨B + 1, 0, none⟩) L.length L.length) ∧ w'.cell? ⟨B + 1, j, none⟩ = some (.int .i64 oj) ∧ w'.cell? ⟨B + 1, i, none⟩ = some (.int .i64 oi) ∧ w'.cell? ⟨bb, 0, none⟩ = some (.bool reg) ∧ w'.cell? ⟨bb, 1, none⟩ = some (.bool con) ∧ w'.cell? ⟨bb, 2, none⟩ = some (.int .i64 time) ∧ w'.cell? ⟨bb, 3, none⟩ = some (.int .i64 look) ∧ w'.cell? ⟨bb, 4, none⟩ = some (.int .i64 kind) ∧ w'.cell? ⟨bb, 5, none⟩ = some (.int .i64 ask) ∧ w'.cell? ⟨bb, 6, none⟩ = some (.int .i64 first)) (ds := [18]) hmix rfl ⟨x2, xj, xi, y0, y1, y2, y3, y4, y5, y6⟩ (fun hHeld => ?_)
       refine tk_ (i := 0) (N := (some 79)) (v := ?_) (a' := ?_) rfl rfl (by kernel_rfl) (fun _ _ _ h => h) (Or.inl ⟨by rfl, ?_⟩) hHeld ?_ ?_
       rotate_left
       ·intro w' hS_
        obtain ⟨zz0, zz1, zz2, zz3, zz4, zz5, zz6, zz7, zz8, zz9⟩ := hS_
        go_simp
        try with_reducible rfl
       rotate_left
       ·simp only [Act.put, qa, qb, qc]
        rfl
       refine pu_ (i := 1) (N := (some 80)) (v := ?_) (a' := ?_) rfl rfl (by kernel_rfl) (fun _ _ _ h => h) (Or.inl ⟨by rfl, ?_⟩) ?_ ?_
       rotate_left
       ·intro w'
        go_simp
        try with_reducible rfl
       rotate_left
       ·simp only [Act.put, qa, qb, qc]
        rfl
       refine tk_ (i := 2) (N := (some 81)) (v := ?_) (a' := ?_) rfl rfl (by kernel_rfl) (fun _ _ _ h => h) (Or.inl ⟨by rfl, ?_⟩) hHeld ?_ ?_
       rotate_left
       ·intro w' hS_
        obtain ⟨zz0, zz1, zz2, zz3, zz4, zz5, zz6, zz7, zz8, zz9⟩ := hS_
        go_simp
        try with_reducible rfl
       rotate_left
       ·simp only [Act.put, qa, qb, qc]
        rfl
       refine pu_ (i := 3) (N := (some 82)) (v := ?_) (a' := ?_) rfl rfl (by kernel_rfl) (fun _ _ _ h => h) (Or.inl ⟨by rfl, ?_⟩) ?_ ?_
       rotate_left
       ·intro w'
        go_simp
        try with_reducible rfl
       rotate_left
       ·simp only [Act.put, qa, qb, qc]
        rfl
       refine pu_ (i := 4) (N := (some 83)) (v := ?_) (a' := ?_) rfl rfl (by kernel_rfl) (fun _ _ _ h => h) (Or.inl ⟨by rfl, ?_⟩) ?_ ?_
       rotate_left
       ·intro w'
        go_simp
        try with_reducible rfl
       rotate_left
       ·simp only [Act.put, qa, qb, qc]
        rfl
       refine tk_ (i := 5) (N := (some 84)) (v := ?_) (a' := ?_) rfl rfl (by kernel_rfl) (fun _ _ _ h => h) (Or.inl ⟨by rfl, ?_⟩) hHeld ?_ ?_
       rotate_left
       ·intro w' hS_
        obtain ⟨zz0, zz1, zz2, zz3, zz4, zz5, zz6, zz7, zz8, zz9⟩ := hS_
        go_simp
        try with_reducible rfl
       rotate_left
       ·simp only [Act.put, qa, qb, qc]
        rfl
       refine tk_ (i := 6) (N := (some 85)) (v := ?_) (a' := ?_) rfl rfl (by kernel_rfl) (fun _ _ _ h => h) (Or.inl ⟨by rfl, ?_⟩) hHeld ?_ ?_
       rotate_left
       ·intro w' hS_
        obtain ⟨zz0, zz1, zz2, zz3, zz4, zz5, zz6, zz7, zz8, zz9⟩ := hS_
        go_simp
        try with_reducible rfl
       rotate_left
       ·simp only [Act.put, qa, qb, qc]
        rfl
       refine pu_ (i := 7) (N := (some 86)) (v := ?_) (a' := ?_) rfl rfl (by kernel_rfl) (fun _ _ _ h => h) (Or.inl ⟨by rfl, ?_⟩) ?_ ?_
       rotate_left
       ·intro w'
        go_simp
        try with_reducible rfl
       rotate_left
       ·simp only [Act.put, qa, qb, qc]
        rfl
       refine tk_ (i := 8) (N := (some 87)) (v := ?_) (a' := ?_) rfl rfl (by kernel_rfl) (fun _ _ _ h => h) (Or.inl ⟨by rfl, ?_⟩) hHeld ?_ ?_
       rotate_left
       ·intro w' hS_
        obtain ⟨zz0, zz1, zz2, zz3, zz4, zz5, zz6, zz7, zz8, zz9⟩ := hS_
        go_simp
        try with_reducible rfl
       rotate_left
       ·simp only [Act.put, qa, qb, qc]
        rfl
       refine tk_ (i := 10) (N := (some 89)) (v := ?_) (a' := ?_) rfl rfl (by kernel_rfl) (fun _ _ _ h => h) (Or.inl ⟨by rfl, ?_⟩) hHeld ?_ ?_
       rotate_left
       ·intro w' hS_
        obtain ⟨zz0, zz1, zz2, zz3, zz4, zz5, zz6, zz7, zz8, zz9⟩ := hS_
        go_simp
        try with_reducible rfl
       rotate_left
       ·simp only [Act.put, qa, qb, qc]
        rfl
       refine pu_ (i := 11) (N := (some 90)) (v := ?_) (a' := ?_) rfl rfl (by kernel_rfl) (fun _ _ _ h => h) (Or.inl ⟨by rfl, ?_⟩) ?_ ?_
       rotate_left
       ·intro w'
        go_simp
        try with_reducible rfl
       rotate_left
       ·simp only [Act.put, qa, qb, qc]
        rfl
       refine pu_ (i := 12) (N := (some 91)) (v := ?_) (a' := ?_) rfl rfl (by kernel_rfl) (fun _ _ _ h => h) (Or.inl ⟨by rfl, ?_⟩) ?_ ?_
       rotate_left
       ·intro w'
        go_simp
        try with_reducible rfl
       rotate_left
       ·simp only [Act.put, qa, qb, qc]
        rfl
       refine tk_ (i := 13) (N := (some 92)) (v := ?_) (a' := ?_) rfl rfl (by kernel_rfl) (fun _ _ _ h => h) (Or.inl ⟨by rfl, ?_⟩) hHeld ?_ ?_
       rotate_left
       ·intro w' hS_
        obtain ⟨zz0, zz1, zz2, zz3, zz4, zz5, zz6, zz7, zz8, zz9⟩ := hS_
        go_simp
        try with_reducible rfl
       rotate_left
       ·simp only [Act.put, qa, qb, qc]
        rfl
       refine on_ (i := 9) (N := (some 88)) rfl rfl (by kernel_rfl) (by decide) (fun K hK => ?_)
       refine goes_ Tryz.func138 (by kernel_rfl) rfl #[.int .i64 time] (by rfl) rfl rfl (by simp only [List.map_toArray, List.map_cons, List.map_nil]; rfl) ?_
       refine (lclamp_call _ time).mono ?_
       rintro x w8 ⟨rfl, ⟨m8, rfl⟩⟩
       refine ⟨_, rfl, hK.out _ _ (by exact hHeld) (fun hHeld => ?_)⟩
       clear hK K
       refine norm_ (a' := ?_) ?_ ?_
       rotate_left
       ·show Act.put _ (some 88) _ = _
        simp only [Act.put, qa, qb, qc]
        rfl
       refine pu_ (i := 14) (N := (some 93)) (v := (.int .i64 (if tadd time 0 < oi then oi else tadd time 0))) (a' := ?_) rfl rfl (by kernel_rfl) (fun _ _ _ h => h) (Or.inl ⟨by rfl, ?_⟩) ?_ ?_
       ·intro w'
        go_simp
        try with_reducible rfl
       rotate_left
       ·simp only [Act.put, qa, qb, qc]
        rfl
       refine on_ (i := 15) (N := (some 94)) rfl rfl (by kernel_rfl) (by decide) (fun K hK => ?_)
       refine goes_ Tryz.func136 (by kernel_rfl) rfl #[.agg #[.bool reg, .bool con, .int .i64 time, .int .i64 look, .int .i64 kind, .int .i64 ask, .int .i64 first], .int .i64 (mx (tadd time 0) oi)] (by rfl) rfl rfl (by simp only [List.map_toArray, List.map_cons, List.map_nil]; rfl) ?_
       refine (HLA.out _).mono ?_
       rintro x w9 ⟨rfl, hb7⟩
       refine ⟨_, rfl, hK.out _ _ ⟨pw_cell_below hb7 hHeld.1, pw_cell_below hb7 hHeld.2.1, pw_cell_below hb7 hHeld.2.2.1, pw_cell_below hb7 hHeld.2.2.2.1, pw_cell_below hb7 hHeld.2.2.2.2.1, pw_cell_below hb7 hHeld.2.2.2.2.2.1, pw_cell_below hb7 hHeld.2.2.2.2.2.2.1, pw_cell_below hb7 hHeld.2.2.2.2.2.2.2.1, pw_cell_below hb7 hHeld.2.2.2.2.2.2.2.2.1, pw_cell_below hb7 hHeld.2.2.2.2.2.2.2.2.2⟩ (fun hHeld => ?_)⟩
       clear hK K
       refine norm_ (a' := ?_) ?_ ?_
       rotate_left
       ·show Act.put _ (some 94) _ = _
        simp only [Act.put, qa, qb, qc]
        rfl
       refine pu_ (i := 16) (N := (some 95)) (v := (.int .i64 (if lt < oj then lt else oj))) (a' := ?_) rfl rfl (by kernel_rfl) (fun _ _ _ h => h) (Or.inl ⟨by rfl, ?_⟩) ?_ ?_
       ·intro w'
        go_simp
        try with_reducible rfl
       rotate_left
       ·simp only [Act.put, qa, qb, qc]
        rfl
       refine pu_ (i := 17) (N := (some 96)) (v := ?_) (a' := ?_) rfl rfl (by kernel_rfl) (fun _ _ _ h => h) (Or.inl ⟨by rfl, ?_⟩) ?_ ?_
       rotate_left
       ·intro w'
        go_simp
        try with_reducible rfl
       rotate_left
       ·simp only [Act.put, qa, qb, qc]
        rfl
       refine la_ (i := 18) (N := none) rfl rfl (by kernel_rfl) (by decide) (fun K hK => ?_)
       have ho9 := (((HO.out.below HW7.out).below ((Below.refl _ _).drew)).frame (W' := (World.drewN W7.drew m8)) (fun _ _ => rfl)).below hb7
       have k1 := ho9.c1 j hjn
       have kf1 := ho9.f1 j
       refine skip_ (w1 := w9.setCell ⟨B + 1, j, none⟩ (.int .i64 (if lt < oj then lt else oj))) (by rfl) rfl (by go_simp) ?_
       refine hK.out _ _ ?_
       clear hK K
       refine done_ (by kernel_rfl) ?_
       go_wp2
       refine ⟨⟨j + 1, hjn, by simp, ?_, ?_⟩, by simp [RowKit.intOf]; omega⟩
       ·rw [HYE.out]
        exact ho9.set1 j (if lt < oj then lt else oj)
       ·have hs9 := HO.out.size
        have hs7 := HW7.out.size
        exact below_set ((below_drewN ((HBW.out.trans (HW7.out.mono (by omega))).drew) m8).trans (hb7.mono (by show B ≤ W7.heap.size; omega))) ⟨B + 1, j, none⟩ (by show B ≤ B + 1; omega) _
    ·obtain rfl : j = L.length := by omega
     have hji : ¬ (L.length : Int) < (L.length : Int) := by omega
     have HO := Lib.hid ho
     have HBW := Lib.hid hb
     clear ho hb
     go_wp2_with fail
     go_step3
     have hc1 := HO.out.cnt
     refine ⟨rfl, ⟨op2, rdTo L i op2 (hgL L) out L.length, k, frame_of _ rfl, HO.out, HBW.out, ?_, ?_⟩, ?_⟩
     ·rw [rdTo_all, HP2.out]
      exact HOU.out
     ·have h1 := HQ1.out
      have h2 := HCN.out
      rw [HP2.out]
      omega
     ·have h1 := HQ1.out
      rw [HQ2.out, hc1, HP2.out]
      omega
 ·intro hpass
  have HPASS := Lib.hid hpass
  clear hpass
  go_wp2
  obtain ⟨W1, hW1⟩ : ∃ W1, W1 = ((((((w.alloc (Obj.cells #[.slice A L.length c] 123)).alloc (Obj.cells (iC (List.replicate L.length 0)) 3)).alloc (Obj.cells #[.slice (some ⟨w.heap.size + 1, 0, none⟩) L.length L.length] 52)).alloc (Obj.cells (bC (List.replicate L.length false)) 4)).alloc (Obj.cells #[.slice (some ⟨w.heap.size + 1 + 1 + 1, 0, none⟩) L.length L.length] 36)).alloc (Obj.cells (bC (List.replicate L.length false)) 4)) := ⟨_, rfl⟩
  rw [← hW1]
  have hnew := HNEW.out
  rw [← hW1] at hnew
  have hbel : Below w.heap.size w W1 := by rw [hW1]; exact (((((((Below.refl _ w).alloc (Nat.le_refl _) _).alloc (by simp) _).alloc (by simp; omega) _).alloc (by simp; omega) _).alloc (by simp; omega) _).alloc (by simp; omega) _)
  have HN1 := Lib.hid hnew
  have HB1 := Lib.hid hbel
  clear hW1 hnew hbel HNEW m52 m36
  simp only [Nat.add_assoc, Nat.reduceAdd, ← HB.out]
  go_loopw [25] (fun i wr => ∃ j : Nat, j ≤ L.length ∧ i = .int .i64 j ∧ OuAt B wr L A c (hg1 L j) (op1 L j) (out1 L j) ∧ Below B w wr) (fun i _ => L.length - (RowKit.intOf i).toNat)
  case atStart => exact ⟨0, Nat.zero_le _, rfl, by rw [HB.out]; exact HN1.out, by rw [HB.out]; exact HB1.out⟩
  case round =>
   obtain ⟨j, hj, rfl, ho, hb⟩ := hrel
   by_cases hjn : j < L.length
   ·have hjl : (j : Int) < (L.length : Int) := by omega
    have hj0 : (0 : Int) ≤ (j : Int) := by omega
    obtain ⟨g, hg, hgB, hgc⟩ := ho.rows j hjn
    have s1 := fill_step L (fun m : LM => m.reg && m.hangs) false j hjn
    have s2 := fill_step L (fun m : LM => m.reg) false j hjn
    have s3 := fill_step L (fun m : LM => if m.reg then m.later m.base else 1125899906842624) 0 j hjn
    have q1 := fill_same L (fun m : LM => m.reg && m.hangs) false j hjn
    have q2 := fill_same L (fun m : LM => m.reg) false j hjn
    generalize L[j] = m at hgc s1 s2 s3 q1 q2
    obtain ⟨reg, con, time, look, kind, ask, first⟩ := m
    have HS1 := Lib.hid s1
    have HS2 := Lib.hid s2
    have HS3 := Lib.hid s3
    have HQ1 := Lib.hid q1
    have HQ2 := Lib.hid q2
    have d0 : wr.cell? ⟨g, j * 7, none⟩ = some (.bool reg) := hgc 0 _ (by decide) rfl
    have d1 : wr.cell? ⟨g, j * 7 + 1, none⟩ = some (.bool con) := hgc 1 _ (by decide) rfl
    have d2 : wr.cell? ⟨g, j * 7 + 2, none⟩ = some (.int .i64 time) := hgc 2 _ (by decide) rfl
    have d3 : wr.cell? ⟨g, j * 7 + 3, none⟩ = some (.int .i64 look) := hgc 3 _ (by decide) rfl
    have d4 : wr.cell? ⟨g, j * 7 + 4, none⟩ = some (.int .i64 kind) := hgc 4 _ (by decide) rfl
    have d5 : wr.cell? ⟨g, j * 7 + 5, none⟩ = some (.int .i64 ask) := hgc 5 _ (by decide) rfl
    have d6 : wr.cell? ⟨g, j * 7 + 6, none⟩ = some (.int .i64 first) := hgc 6 _ (by decide) rfl
    have e1 := ho.c1 j hjn
    have e2 := ho.c2
    have f1 := ho.f1 j
    have hsz := ho.size
    have hne : ¬ wr.heap.size = B + 1 := by omega
    have hne' : ¬ B + 1 = wr.heap.size := by omega
    have hlt1 : B + 1 < wr.heap.size := by omega
    have hlt2 : B + 2 < wr.heap.size := by omega
    subst hg
    have HO := Lib.hid ho
    have HBW := Lib.hid hb
    clear ho hb hgc s1 s2 s3 q1 q2
    cases reg with
    | false =>
     go_wp2_with fail
     refine ⟨⟨j + 1, hjn, by simp, ?_, ?_⟩, by simp [RowKit.intOf]; omega⟩
     ·have h1 := (HO.out.set1 j 1125899906842624).below (W' := (wr.setCell ⟨B + 1, j, none⟩ (.int .i64 1125899906842624)).alloc (Obj.cells #[.bool false, .bool con, .int .i64 time, .int .i64 look, .int .i64 kind, .int .i64 ask, .int .i64 first] 195)) ((Below.refl _ _).alloc (Nat.le_refl _) _)
      have z1 : hg1 L (j + 1) = hg1 L j := (HQ1.out rfl).symm
      have z2 : op1 L (j + 1) = op1 L j := (HQ2.out rfl).symm
      have z3 : out1 L (j + 1) = (out1 L j).set j 1125899906842624 := HS3.out.symm
      rw [z1, z2, z3]
      exact h1
     ·exact (below_set HBW.out ⟨B + 1, j, none⟩ (by show B ≤ B + 1; omega) _).alloc (by simp [World.setCell]; omega) _
    | true =>
     obtain ⟨W2, hW2⟩ : ∃ W2, W2 = (wr.setCell ⟨B + 1, j, none⟩ (.int .i64 1125899906842624)).alloc (Obj.cells #[.bool true, .bool con, .int .i64 time, .int .i64 look, .int .i64 kind, .int .i64 ask, .int .i64 first] 195) := ⟨_, rfl⟩
     have ho2 : OuAt B W2 L (some ⟨g, 0, none⟩) c (hg1 L j) (op1 L j) ((out1 L j).set j 1125899906842624) := by
      rw [hW2]
      exact (HO.out.set1 j 1125899906842624).below ((Below.refl _ _).alloc (Nat.le_refl _) _)
     have hb2 : Below B w W2 := by
      rw [hW2]
      exact (below_set HBW.out ⟨B + 1, j, none⟩ (by show B ≤ B + 1; omega) _).alloc (by simp [World.setCell]; omega) _
     have hx := heap_alloc_new (wr.setCell ⟨B + 1, j, none⟩ (.int .i64 1125899906842624)) (Obj.cells #[.bool true, .bool con, .int .i64 time, .int .i64 look, .int .i64 kind, .int .i64 ask, .int .i64 first] 195)
     rw [← hW2] at hx
     have hss : (wr.setCell ⟨B + 1, j, none⟩ (.int .i64 1125899906842624)).heap.size = wr.heap.size := by simp [World.setCell]
     rw [hss] at hx
     have hs2 : W2.heap.size = wr.heap.size + 1 := by rw [hW2]; simp [World.setCell]
     have hown := own_call W2 (⟨true, con, time, look, kind, ask, first⟩ : LM)
     have hlat := fun W => later_call W (⟨true, con, time, look, kind, ask, first⟩ : LM) (LM.base (⟨true, con, time, look, kind, ask, first⟩ : LM))
     unfold LM.val at hown hlat
     have hs3 : (out1 L j).set j (LM.later (⟨true, con, time, look, kind, ask, first⟩ : LM) (LM.base (⟨true, con, time, look, kind, ask, first⟩ : LM))) = out1 L (j + 1) := HS3.out
     have hs4 : (op1 L j).set j true = op1 L (j + 1) := HS2.out
     have hs5 : (hg1 L j).set j (LM.hangs (⟨true, con, time, look, kind, ask, first⟩ : LM)) = hg1 L (j + 1) := HS1.out
     generalize LM.later (⟨true, con, time, look, kind, ask, first⟩ : LM) (LM.base (⟨true, con, time, look, kind, ask, first⟩ : LM)) = lt at hlat hs3
     generalize LM.base (⟨true, con, time, look, kind, ask, first⟩ : LM) = bs at hown hlat
     generalize LM.hangs (⟨true, con, time, look, kind, ask, first⟩ : LM) = hs at hown hs5
     obtain ⟨bb, hbb⟩ : ∃ bb, bb = wr.heap.size := ⟨_, rfl⟩
     have HW2 := Lib.hid hW2
     have HO2 := Lib.hid ho2
     have HB2 := Lib.hid hb2
     have HX := Lib.hid hx
     have HOW := Lib.hid hown
     have HLA := Lib.hid hlat
     have HS3' := Lib.hid hs3
     have HS4' := Lib.hid hs4
     have HS5' := Lib.hid hs5
     have hbb6 : B + 6 ≤ bb := by rw [hbb]; exact HO.out.size
     have HBB := Lib.hid hbb
     have HSS := Lib.hid hs2
     clear hW2 ho2 hb2 hx hown hlat hs3 hs4 hs5 hbb hss hs2 HO HBW HS1 HS2 HS3 HQ1 HQ2
     go_wp2_with fail
     rw [← HW2.out]
     refine HOW.out.mono ?_
     rintro e w5 ⟨rfl, hb5⟩
     have ho5 := HO2.out.below hb5
     have hx5 := (hb5.block wr.heap.size (by rw [HSS.out]; omega)).trans HX.out
     rw [← HBB.out] at hx5 ⊢
     have x0 := cell_of_row w5 bb 0 #[.bool true, .bool con, .int .i64 time, .int .i64 look, .int .i64 kind, .int .i64 ask, .int .i64 first] 195 (0, 0) hx5
     have x1 := cell_of_row w5 bb 1 #[.bool true, .bool con, .int .i64 time, .int .i64 look, .int .i64 kind, .int .i64 ask, .int .i64 first] 195 (0, 0) hx5
     have x2 := cell_of_row w5 bb 2 #[.bool true, .bool con, .int .i64 time, .int .i64 look, .int .i64 kind, .int .i64 ask, .int .i64 first] 195 (0, 0) hx5
     have x3 := cell_of_row w5 bb 3 #[.bool true, .bool con, .int .i64 time, .int .i64 look, .int .i64 kind, .int .i64 ask, .int .i64 first] 195 (0, 0) hx5
     have x4 := cell_of_row w5 bb 4 #[.bool true, .bool con, .int .i64 time, .int .i64 look, .int .i64 kind, .int .i64 ask, .int .i64 first] 195 (0, 0) hx5
     have x5 := cell_of_row w5 bb 5 #[.bool true, .bool con, .int .i64 time, .int .i64 look, .int .i64 kind, .int .i64 ask, .int .i64 first] 195 (0, 0) hx5
     have x6 := cell_of_row w5 bb 6 #[.bool true, .bool con, .int .i64 time, .int .i64 look, .int .i64 kind, .int .i64 ask, .int .i64 first] 195 (0, 0) hx5
     have y2 := ho5.c2
     have y4 := ho5.c4
     have HO5 := Lib.hid ho5
     have HB5 := Lib.hid hb5
     clear hx5 ho5 hb5 d0 d1 d2 d3 d4 d5 d6 e1 e2 f1 hne hne' hlt1 hlt2 hsz HX HOW
     go_wp2_with fail
     refine st_ (n := 16) (S := fun w' => w'.cell? ⟨B + 2, 0, none⟩ = some (.slice (some ⟨B + 1, 0, none⟩) L.length L.length) ∧ w'.cell? ⟨B + 4, 0, none⟩ = some (.slice (some ⟨B + 3, 0, none⟩) L.length L.length) ∧ w'.cell? ⟨bb, 0, none⟩ = some (.bool true) ∧ w'.cell? ⟨bb, 1, none⟩ = some (.bool con) ∧ w'.cell? ⟨bb, 2, none⟩ = some (.int .i64 time) ∧ w'.cell? ⟨bb, 3, none⟩ = some (.int .i64 look) ∧ w'.cell? ⟨bb, 4, none⟩ = some (.int .i64 kind) ∧ w'.cell? ⟨bb, 5, none⟩ = some (.int .i64 ask) ∧ w'.cell? ⟨bb, 6, none⟩ = some (.int .i64 first)) (ds := [13, 15]) hmix rfl ⟨y2, y4, x0, x1, x2, x3, x4, x5, x6⟩ (fun hHeld => ?_)
     refine tk_ (i := 0) (N := (some 40)) (v := ?_) (a' := ?_) rfl rfl (by kernel_rfl) (fun _ _ _ h => h) (Or.inl ⟨by rfl, ?_⟩) hHeld ?_ ?_
     rotate_left
     ·intro w' hS_
      obtain ⟨zz0, zz1, zz2, zz3, zz4, zz5, zz6, zz7, zz8⟩ := hS_
      go_simp
      try with_reducible rfl
     rotate_left
     ·simp only [Act.put, qa, qb, qc]
      rfl
     refine pu_ (i := 1) (N := (some 41)) (v := ?_) (a' := ?_) rfl rfl (by kernel_rfl) (fun _ _ _ h => h) (Or.inl ⟨by rfl, ?_⟩) ?_ ?_
     rotate_left
     ·intro w'
      go_simp
      try with_reducible rfl
     rotate_left
     ·simp only [Act.put, qa, qb, qc]
      rfl
     refine tk_ (i := 2) (N := (some 42)) (v := ?_) (a' := ?_) rfl rfl (by kernel_rfl) (fun _ _ _ h => h) (Or.inl ⟨by rfl, ?_⟩) hHeld ?_ ?_
     rotate_left
     ·intro w' hS_
      obtain ⟨zz0, zz1, zz2, zz3, zz4, zz5, zz6, zz7, zz8⟩ := hS_
      go_simp
      try with_reducible rfl
     rotate_left
     ·simp only [Act.put, qa, qb, qc]
      rfl
     refine pu_ (i := 3) (N := (some 43)) (v := ?_) (a' := ?_) rfl rfl (by kernel_rfl) (fun _ _ _ h => h) (Or.inl ⟨by rfl, ?_⟩) ?_ ?_
     rotate_left
     ·intro w'
      go_simp
      try with_reducible rfl
     rotate_left
     ·simp only [Act.put, qa, qb, qc]
      rfl
     refine pu_ (i := 4) (N := (some 44)) (v := ?_) (a' := ?_) rfl rfl (by kernel_rfl) (fun _ _ _ h => h) (Or.inl ⟨by rfl, ?_⟩) ?_ ?_
     rotate_left
     ·intro w'
      go_simp
      try with_reducible rfl
     rotate_left
     ·simp only [Act.put, qa, qb, qc]
      rfl
     refine pu_ (i := 5) (N := (some 45)) (v := ?_) (a' := ?_) rfl rfl (by kernel_rfl) (fun _ _ _ h => h) (Or.inl ⟨by rfl, ?_⟩) ?_ ?_
     rotate_left
     ·intro w'
      go_simp
      try with_reducible rfl
     rotate_left
     ·simp only [Act.put, qa, qb, qc]
      rfl
     refine tk_ (i := 6) (N := (some 46)) (v := ?_) (a' := ?_) rfl rfl (by kernel_rfl) (fun _ _ _ h => h) (Or.inl ⟨by rfl, ?_⟩) hHeld ?_ ?_
     rotate_left
     ·intro w' hS_
      obtain ⟨zz0, zz1, zz2, zz3, zz4, zz5, zz6, zz7, zz8⟩ := hS_
      go_simp
      try with_reducible rfl
     rotate_left
     ·simp only [Act.put, qa, qb, qc]
      rfl
     refine pu_ (i := 7) (N := (some 47)) (v := ?_) (a' := ?_) rfl rfl (by kernel_rfl) (fun _ _ _ h => h) (Or.inl ⟨by rfl, ?_⟩) ?_ ?_
     rotate_left
     ·intro w'
      go_simp
      try with_reducible rfl
     rotate_left
     ·simp only [Act.put, qa, qb, qc]
      rfl
     refine pu_ (i := 9) (N := (some 49)) (v := ?_) (a' := ?_) rfl rfl (by kernel_rfl) (fun _ _ _ h => h) (Or.inl ⟨by rfl, ?_⟩) ?_ ?_
     rotate_left
     ·intro w'
      go_simp
      try with_reducible rfl
     rotate_left
     ·simp only [Act.put, qa, qb, qc]
      rfl
     refine on_ (i := 8) (N := (some 48)) rfl rfl (by kernel_rfl) (by decide) (fun K hK => ?_)
     refine goes_ Tryz.func136 (by kernel_rfl) rfl #[.agg #[.bool true, .bool con, .int .i64 time, .int .i64 look, .int .i64 kind, .int .i64 ask, .int .i64 first], .int .i64 bs] (by rfl) rfl rfl (by simp only [List.map_toArray, List.map_cons, List.map_nil]; rfl) ?_
     refine (HLA.out _).mono ?_
     rintro x w6 ⟨rfl, hb6⟩
     refine ⟨_, rfl, hK.out _ _ ⟨pw_cell_below hb6 y2, pw_cell_below hb6 y4, pw_cell_below hb6 x0, pw_cell_below hb6 x1, pw_cell_below hb6 x2, pw_cell_below hb6 x3, pw_cell_below hb6 x4, pw_cell_below hb6 x5, pw_cell_below hb6 x6⟩ (fun hHeld => ?_)⟩
     clear hK K
     refine norm_ (a' := ?_) ?_ ?_
     rotate_left
     ·show Act.put _ (some 48) _ = _
      simp only [Act.put, qa, qb, qc]
      rfl
     refine pu_ (i := 10) (N := (some 50)) (v := ?_) (a' := ?_) rfl rfl (by kernel_rfl) (fun _ _ _ h => h) (Or.inl ⟨by rfl, ?_⟩) ?_ ?_
     rotate_left
     ·intro w'
      go_simp
      try with_reducible rfl
     rotate_left
     ·simp only [Act.put, qa, qb, qc]
      rfl
     refine on_ (i := 11) (N := none) rfl rfl (by kernel_rfl) (by decide) (fun K hK => ?_)
     have ho6 := (HO5.out.below ((Below.refl _ _).drew)).below hb6
     have k1 := ho6.c1 j hjn
     have kf1 := ho6.f1 j
     refine skip_ (w1 := w6.setCell ⟨B + 1, j, none⟩ (.int .i64 lt)) (by rfl) rfl (by go_simp) ?_
     refine hK.out _ _ ⟨cell_set_ne hHeld.1 (by first | (show B + 2 ≠ B + 1; omega) | (show B + 4 ≠ B + 1; omega) | (show bb ≠ B + 1; omega)) _, cell_set_ne hHeld.2.1 (by first | (show B + 2 ≠ B + 1; omega) | (show B + 4 ≠ B + 1; omega) | (show bb ≠ B + 1; omega)) _, cell_set_ne hHeld.2.2.1 (by first | (show B + 2 ≠ B + 1; omega) | (show B + 4 ≠ B + 1; omega) | (show bb ≠ B + 1; omega)) _, cell_set_ne hHeld.2.2.2.1 (by first | (show B + 2 ≠ B + 1; omega) | (show B + 4 ≠ B + 1; omega) | (show bb ≠ B + 1; omega)) _, cell_set_ne hHeld.2.2.2.2.1 (by first | (show B + 2 ≠ B + 1; omega) | (show B + 4 ≠ B + 1; omega) | (show bb ≠ B + 1; omega)) _, cell_set_ne hHeld.2.2.2.2.2.1 (by first | (show B + 2 ≠ B + 1; omega) | (show B + 4 ≠ B + 1; omega) | (show bb ≠ B + 1; omega)) _, cell_set_ne hHeld.2.2.2.2.2.2.1 (by first | (show B + 2 ≠ B + 1; omega) | (show B + 4 ≠ B + 1; omega) | (show bb ≠ B + 1; omega)) _, cell_set_ne hHeld.2.2.2.2.2.2.2.1 (by first | (show B + 2 ≠ B + 1; omega) | (show B + 4 ≠ B + 1; omega) | (show bb ≠ B + 1; omega)) _, cell_set_ne hHeld.2.2.2.2.2.2.2.2 (by first | (show B + 2 ≠ B + 1; omega) | (show B + 4 ≠ B + 1; omega) | (show bb ≠ B + 1; omega)) _⟩ (fun hHeld => ?_)
     clear hK K
     refine pu_ (i := 12) (N := (some 51)) (v := ?_) (a' := ?_) rfl rfl (by kernel_rfl) (fun _ _ _ h => h) (Or.inl ⟨by rfl, ?_⟩) ?_ ?_
     rotate_left
     ·intro w'
      go_simp
      try with_reducible rfl
     rotate_left
     ·simp only [Act.put, qa, qb, qc]
      rfl
     refine la_ (i := 13) (N := none) rfl rfl (by kernel_rfl) (by decide) (fun K hK => ?_)
     have ho7 := ho6.set1 j lt
     have k3 := ho7.c3 j hjn
     have kf3 := ho7.f3 j
     refine skip_ (w1 := (w6.setCell ⟨B + 1, j, none⟩ (.int .i64 lt)).setCell ⟨B + 3, j, none⟩ (.bool true)) (by rfl) rfl (by go_simp) ?_
     refine hK.out _ _ ?_
     clear hK K
     refine pu_ (i := 14) (N := (some 52)) (v := ?_) (a' := ?_) rfl rfl (by kernel_rfl) (fun _ _ _ h => h) (Or.inl ⟨by rfl, ?_⟩) ?_ ?_
     rotate_left
     ·intro w'
      go_simp
      try with_reducible rfl
     rotate_left
     ·simp only [Act.put, qa, qb, qc]
      rfl
     refine la_ (i := 15) (N := none) rfl rfl (by kernel_rfl) (by decide) (fun K hK => ?_)
     have ho8 := ho7.set3 j true
     have k5 := ho8.c5 j hjn
     have kf5 := ho8.f5 j
     refine skip_ (w1 := ((w6.setCell ⟨B + 1, j, none⟩ (.int .i64 lt)).setCell ⟨B + 3, j, none⟩ (.bool true)).setCell ⟨B + 5, j, none⟩ (.bool hs)) (by rfl) rfl (by go_simp) ?_
     refine hK.out _ _ ?_
     clear hK K
     refine done_ (by kernel_rfl) ?_
     go_wp2
     refine ⟨⟨j + 1, hjn, by simp, ?_, ?_⟩, by simp [RowKit.intOf]; omega⟩
     ·rw [← HS3'.out, ← HS4'.out, ← HS5'.out]
      have h9 := ho8.set5 j hs
      rw [List.set_set] at h9
      exact h9
     ·have hbz : Below B w w6 := HB2.out.trans ((HB5.out.mono (by have := HO2.out.size; omega)).trans (((Below.refl B w5).drew).trans (hb6.mono (by have := HO5.out.size; show B ≤ w5.heap.size; omega))))
      exact below_set (below_set (below_set hbz ⟨B + 1, j, none⟩ (by show B ≤ B + 1; omega) _) ⟨B + 3, j, none⟩ (by show B ≤ B + 3; omega) _) ⟨B + 5, j, none⟩ (by show B ≤ B + 5; omega) _
   ·obtain rfl : j = L.length := by omega
    have hji : ¬ (L.length : Int) < (L.length : Int) := by omega
    have HO := Lib.hid ho
    have HBW := Lib.hid hb
    clear ho hb
    go_wp2_with fail
    go_step3
    rename_i aK
    refine aK _ _ (HPASS.out _ _ ⟨op1 L L.length, out1 L L.length, L.length + 1, frame_of _ rfl, ?_, HBW.out, ?_, ?_⟩)
    ·have e : hg1 L L.length = hgL L := by simp [hg1, hgL]
     have h1 := HO.out
     rw [e] at h1
     exact h1
    ·have e1 : out1 L L.length = L.map (fun m => if m.reg then m.later m.base else 1125899906842624) := by simp [out1]
     have e2 : op1 L L.length = L.map (·.reg) := by simp [op1]
     rw [e1, e2]
     rfl
    ·have := List.countP_le_length (p := id) (l := op1 L L.length)
     have h2 := HO.out.n3
     omega
end Go.Proofs.YtehnkebcbomidaaGreatDoor.Rt
