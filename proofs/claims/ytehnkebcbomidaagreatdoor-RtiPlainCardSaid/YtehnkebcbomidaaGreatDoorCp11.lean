/- Part of a proof over the given program: Qy, Ta, Al, By, Ti, Ra, Er. -/
import Derived.Test.YtehnkebcbomidaaGreatDoorCp10
import Derived.Deep.QuietTactic
import Derived.BigQuiet
import Derived.Test.YtehnkebcbomidaaGreatDoorCp08
import Derived.BigRegion
import Derived.Test.YtehnkebcbomidaaGreatDoorCp05
import Derived.Outline
section
set_option linter.unusedVariables false
set_option linter.unusedSimpArgs false
namespace Go.Proofs.YtehnkebcbomidaaGreatDoor.Rt
open Go Go.RowKit Go.Proofs Go.Proofs.YtehnkebcbomidaaGreatDoorW.PrintWords Go.Proofs.YtehnkebcbomidaaGreatDoorW.PrintLast
def QIn (W : World) (q b : Nat) (v : Value) (Q : List Mg) : Prop := ∃ L, QAt W q b v L ∧ QH L Q
def QInPost (w : World) (q b : Nat) (v : Value) (Q : List Mg) (r : Value) (e : Ending) (w' : World) : Prop := ∃ v', e = .returned r ∧ QIn w' q b v' Q ∧ (∀ k, v'.ownBlock = some k → v.ownBlock = some k ∨ w.heap.size ≤ k) ∧ Tch (QFp q b v) w w'
set_option maxHeartbeats 8000000 in
set_option maxRecDepth 100000 in
theorem push_call (w : World) (q b : Nat) (v : Value) (Q : List Mg) (m : Mg) (h : QIn w q b v Q) (hm : m.k.ok ∧ I64 m.d ∧ I64 m.cl ∧ I64 m.bd) (hn : ∀ x ∈ Q, x.k ≠ m.k) (hl : Q.length < 64) :
    Calls Tryz.prog 70 #[.pointer (some ⟨q, 0, none⟩), m.val] w (QInPost w q b v (ins m Q) (.int .i64 0)) := by
  obtain ⟨L, hq, hh⟩ := h
  have hll := hh.len
  have hn' : ∀ x ∈ L, x.k ≠ m.k := fun x hx => hn x (hh.perm.mem_iff.1 hx)
  obtain ⟨c0, c1, c2⟩ := hq.cells
  obtain ⟨A, c, rfl, hc⟩ := hq.form
  have hql := World.block_lt_of_cell? w _ c1
  have hln : L.length < 64 := by omega
  have hln2 : ¬ (64 : Int) ≤ (L.length : Int) := by omega
  have hu192 := Tryz.underlying192
  have hu200 := Tryz.underlying200
  have hu29 := Tryz.underlying29
  have hu41 := Tryz.underlying41
  have hu39 := Tryz.underlying39
  have hu190 := Tryz.underlying190
  obtain ⟨W, hW⟩ : ∃ W1, W1 = w.alloc (Obj.cells #[.int .i64 m.k.t, .int .i64 m.k.f, .int .i64 m.k.s, .int .i64 m.d, .int .i64 m.cl, .int .i64 m.bd] 41) := ⟨_, rfl⟩
  obtain ⟨bx, hbx⟩ : ∃ bx, bx = w.heap.size := ⟨_, rfl⟩
  have hB1 : Below w.heap.size w W := by rw [hW]; exact (Below.refl _ _).alloc (Nat.le_refl _) _
  have x0 : ∀ j, W.cell? ⟨bx, j, none⟩ = m.cells[j]? := fun j => by
    have := heap_alloc_new w (Obj.cells #[.int .i64 m.k.t, .int .i64 m.k.f, .int .i64 m.k.s, .int .i64 m.d, .int .i64 m.cl, .int .i64 m.bd] 41)
    rw [← hW, ← hbx] at this
    simp [World.cell?, this, Mg.cells]
  have y0 := x0 0
  have y1 := x0 1
  have y2 := x0 2
  have y3 := x0 3
  have y4 := x0 4
  have y5 := x0 5
  simp only [Mg.cells, List.getElem?_cons_zero, List.getElem?_cons_succ] at y0 y1 y2 y3 y4 y5
  have c0' := pw_cell_below hB1 c0
  have c1' := pw_cell_below hB1 c1
  have c2' := pw_cell_below hB1 c2
  have hqW := hq.below hB1
  have hidn : idx L m.k = none := (idx_none m.k).2 hn'
  obtain ⟨cc, hk0, _⟩ := map_look' hqW.map m.k hm.1
  have hk := fun n => hk0 (W.drewN n) rfl
  rw [hidn] at hk
  have hp := fun n => hpush_call (W.drewN n) q b (.slice A L.length c) L m (hqW.frame (fun _ _ _ => rfl)) hm hn' hln
  unfold fac Mg.val at hp
  unfold Ky.val at hk
  unfold Mg.val
  have HW := Lib.hid hW
  have HBX := Lib.hid hbx
  have HB1 := Lib.hid hB1
  have HQW := Lib.hid hqW
  have HID := Lib.hid hidn
  have HP := Lib.hid hp
  have HQ := Lib.hid hq
  have HH := Lib.hid hh
  clear hW hbx hB1 hqW hidn hp hq hh
  have HN := Lib.hid hn
  clear x0 c0 c1 c2 hk0 hn hn'
  go_enter Tryz.func70, Tryz.ntmps70
  have hmix : Tryz.prog.follows .mixedOrders = true := by kernel_rfl
  go_wp2
  rw [← HW.out, ← HBX.out]
  go_quiet (fail)
  go_wp2
  go_quiet (fail)
  go_wp2_with (go_at_call 140; (with_reducible refine (HP.out _).mono ?_); rintro e w1 ⟨v1, rfl, hq1, ho1, ht1⟩)
  go_ret
  refine ⟨v1, rfl, ⟨_, hq1, HH.out.push m HN.out⟩, fun k hk => ?_, ?_⟩
  · rcases ho1 k hk with e | e
    · exact .inl e
    · have e : W.heap.size ≤ k := e
      have := HB1.out.size
      exact .inr (by omega)
  · exact ((Tch.of_below HB1.out).drewN _).trans ht1 (fun _ _ e => e)
theorem put6 {W : World} {b : Nat} {a0 a1 a2 a3 a4 a5 : Value} (h : W.heap[b]? = some (.cells #[a0, a1, a2, a3, a4, a5] 41 (0, 0))) (v0 v1 v2 v3 v4 v5 : Value) :
    ((((((W.setCell ⟨b, 0, none⟩ v0).setCell ⟨b, 1, none⟩ v1).setCell ⟨b, 2, none⟩ v2).setCell ⟨b, 3, none⟩ v3).setCell ⟨b, 4, none⟩ v4).setCell ⟨b, 5, none⟩ v5).heap[b]? = some (.cells #[v0, v1, v2, v3, v4, v5] 41 (0, 0)) := by
  have h0 := heap_setCell_same W b 0 _ 41 v0 h
  have h1 := heap_setCell_same _ b 1 _ 41 v1 h0
  have h2 := heap_setCell_same _ b 2 _ 41 v2 h1
  have h3 := heap_setCell_same _ b 3 _ 41 v3 h2
  have h4 := heap_setCell_same _ b 4 _ 41 v4 h3
  have h5 := heap_setCell_same _ b 5 _ 41 v5 h4
  rw [h5]
  rfl
theorem tch6 (W : World) (b : Nat) (v0 v1 v2 v3 v4 v5 : Value) : Tch (fun k => k = b) W ((((((W.setCell ⟨b, 0, none⟩ v0).setCell ⟨b, 1, none⟩ v1).setCell ⟨b, 2, none⟩ v2).setCell ⟨b, 3, none⟩ v3).setCell ⟨b, 4, none⟩ v4).setCell ⟨b, 5, none⟩ v5) :=
  (((((Tch.setCell (P := fun k => k = b) (Tch.refl _ W) (p := ⟨b, 0, none⟩) (.inl rfl) _).setCell (p := ⟨b, 1, none⟩) (.inl rfl) _).setCell (p := ⟨b, 2, none⟩) (.inl rfl) _).setCell (p := ⟨b, 3, none⟩) (.inl rfl) _).setCell (p := ⟨b, 4, none⟩) (.inl rfl) _).setCell (p := ⟨b, 5, none⟩) (.inl rfl) _
set_option maxHeartbeats 8000000 in
set_option maxRecDepth 100000 in
theorem pop_call (w : World) (q b : Nat) (v : Value) (m : Mg) (Q : List Mg) (h : QIn w q b v (m :: Q)) :
    Calls Tryz.prog 74 #[.pointer (some ⟨q, 0, none⟩)] w (QInPost w q b v Q (.tuple #[m.val, .bool true])) := by
  obtain ⟨L, hq, hh⟩ := h
  have hll := hh.len
  obtain ⟨h1, h2⟩ := hh.pop
  have h0 : 0 < L.length := hh.head.1
  obtain ⟨c0, c1, c2⟩ := hq.cells
  obtain ⟨A, c, rfl, hc⟩ := hq.form
  have hql := World.block_lt_of_cell? w _ c1
  have hne : ¬ (L.length : Int) = 0 := by omega
  have hu192 := Tryz.underlying192
  have hu200 := Tryz.underlying200
  have hu29 := Tryz.underlying29
  have hu41 := Tryz.underlying41
  have hi := info41
  have has := as41
  obtain ⟨W, hW⟩ : ∃ W1, W1 = w.alloc (Obj.cells #[.int .i64 0, .int .i64 0, .int .i64 0, .int .i64 0, .int .i64 0, .int .i64 0] 41) := ⟨_, rfl⟩
  have hB1 : Below w.heap.size w W := by rw [hW]; exact (Below.refl _ _).alloc (Nat.le_refl _) _
  have hp := hpop_call W q b (.slice A L.length c) L (hq.below hB1) h0
  rw [h2] at hp
  unfold fac Mg.val at hp
  unfold Mg.val
  have HP := Lib.hid hp
  have HQ := Lib.hid hq
  have HH := Lib.hid hh
  have H1 := Lib.hid h1
  have H2 := Lib.hid h2
  have HW := Lib.hid hW
  have HB1 := Lib.hid hB1
  have HLL := Lib.hid hll
  clear hp hq hh h1 h2 hW hB1 hll
  go_enter Tryz.func74, Tryz.ntmps74
  go_wp2_with fail
  rw [← HW.out]
  (with_reducible refine HP.out.mono ?_)
  rintro e w1 ⟨v1, rfl, hq1, ho1, ht1⟩
  obtain ⟨bx, hbx⟩ : ∃ bx, bx = w.heap.size := ⟨_, rfl⟩
  rw [← hbx]
  have hblk0 : W.heap[bx]? = some (.cells #[.int .i64 0, .int .i64 0, .int .i64 0, .int .i64 0, .int .i64 0, .int .i64 0] 41 (0, 0)) := by rw [HW.out, hbx]; exact heap_alloc_new _ _
  have hnq : ¬ QFp q b (.slice A L.length c) bx := fun e => by
    rcases e with e | e | e
    · omega
    · obtain ⟨D, ⟨es, clock, h1, _⟩, _⟩ := HQ.out.map
      have := (Array.getElem?_eq_some_iff.1 h1).1
      omega
    · have := own_lt HQ.out.row bx e
      omega
  have hblk1 := (ht1.block bx (Array.getElem?_eq_some_iff.1 hblk0).1 hnq).trans hblk0
  have z0 : w1.cell? ⟨bx, 0, none⟩ = some (.int .i64 0) := by simp [World.cell?, hblk1]
  have z1 : w1.cell? ⟨bx, 1, none⟩ = some (.int .i64 0) := by simp [World.cell?, hblk1]
  have z2 : w1.cell? ⟨bx, 2, none⟩ = some (.int .i64 0) := by simp [World.cell?, hblk1]
  have z3 : w1.cell? ⟨bx, 3, none⟩ = some (.int .i64 0) := by simp [World.cell?, hblk1]
  have z4 : w1.cell? ⟨bx, 4, none⟩ = some (.int .i64 0) := by simp [World.cell?, hblk1]
  have z5 : w1.cell? ⟨bx, 5, none⟩ = some (.int .i64 0) := by simp [World.cell?, hblk1]
  have f0 : ∀ j, w1.frozen? ⟨bx, j, none⟩ = false := fun j => by simp [World.frozen?, hblk1]
  have g0 := f0 0
  have g1 := f0 1
  have g2 := f0 2
  have g3 := f0 3
  have g4 := f0 4
  have g5 := f0 5
  have hno : ∀ k, v1.ownBlock = some k → k ≠ bx ∧ (k < w.heap.size ∨ W.heap.size ≤ k) := fun k hk => by
    rcases ho1 k hk with e | e
    · have := own_lt HQ.out.row k e
      exact ⟨by omega, .inl this⟩
    · have : bx < W.heap.size := (Array.getElem?_eq_some_iff.1 hblk0).1
      exact ⟨by omega, .inr e⟩
  have HBX := Lib.hid hbx
  have HB0 := Lib.hid hblk0
  have HBK := Lib.hid hblk1
  have HNQ := Lib.hid hnq
  have HQ1 := Lib.hid hq1
  have HO1 := Lib.hid ho1
  have HT1 := Lib.hid ht1
  have HNO := Lib.hid hno
  clear hbx hblk0 hblk1 hnq hq1 ho1 ht1 hno
  clear f0
  go_wp2
  refine bodyPost_ret (results_ct rfl _ _ bx 41 _ (0, 0) _ rfl (put6 HBK.out _ _ _ _ _ _) hu41 rfl (by rw [hi]; rfl)) rfl ?_
  have ht6 := tch6 w1 bx (.int .i64 m.k.t) (.int .i64 m.k.f) (.int .i64 m.k.s) (.int .i64 m.d) (.int .i64 m.cl) (.int .i64 m.bd)
  refine ⟨v1, rfl, ⟨_, HQ1.out.frame (fun k hk hf => ht6.block k hk (fun e => ?_)), H1.out⟩, fun k hk => ?_, ?_⟩
  · subst e
    rcases hf with e | e | e
    · have := HBX.out; omega
    · obtain ⟨D, ⟨es, clock, h1, _⟩, _⟩ := HQ.out.map
      have := (Array.getElem?_eq_some_iff.1 h1).1
      have := HBX.out
      omega
    · exact (HNO.out _ e).1 rfl
  · rcases HO1.out k hk with e | e
    · exact .inl e
    · have := HB1.out.size
      exact .inr (by omega)
  · refine ((Tch.of_below HB1.out).trans HT1.out (fun _ _ e => e)).trans ht6 (fun k hk e => ?_)
    have := HBX.out
    omega
end Go.Proofs.YtehnkebcbomidaaGreatDoor.Rt
end
section
set_option linter.unusedVariables false
set_option linter.unusedSimpArgs false
namespace Go.Proofs.YtehnkebcbomidaaGreatDoor.Rt
open Go Go.RowKit Go.Proofs Go.Proofs.YtehnkebcbomidaaGreatDoorW.PrintWords Go.Proofs.YtehnkebcbomidaaGreatDoorW.PrintLast
structure TabAt (W : World) (g : Nat) (v : Value) (above : List Nat) (pubs subs : List Nat) : Prop where
  blk : W.heap[g]? = some (.cells (v :: (pubs ++ subs).map (fun n => Value.int .u32 (n : Nat))).toArray 189 (0, 0))
  row : ∃ e, W.ownsRow 0 e 1 v above.length (above.map (fun n => Value.int .u32 (n : Nat)))
  p8 : pubs.length = 8
  s8 : subs.length = 8
def chk (f c : Int) (n : Nat) : Int := if f < 0 ∨ 8 ≤ f then 1 else if c < 0 ∨ n ≤ c then 81 else 0
theorem TabAt.below {W W' : World} {g : Nat} {v : Value} {above pubs subs : List Nat} (h : TabAt W g v above pubs subs) (hb : Below W.heap.size W W') : TabAt W' g v above pubs subs := by
  obtain ⟨e, hr⟩ := h.row
  exact ⟨(hb.block g (Array.getElem?_eq_some_iff.1 h.blk).1).trans h.blk, ⟨e, own_move hr (fun k hk => hb.block k (own_lt hr k hk))⟩, h.p8, h.s8⟩
theorem TabAt.c0 {W : World} {g : Nat} {v : Value} {above pubs subs : List Nat} (h : TabAt W g v above pubs subs) : W.cell? ⟨g, 0, none⟩ = some v := by
  have e := h.blk
  simp [World.cell?, e]
theorem TabAt.form {W : World} {g : Nat} {v : Value} {above pubs subs : List Nat} (h : TabAt W g v above pubs subs) : ∃ A c, v = .slice A above.length c ∧ above.length ≤ c := by
  obtain ⟨e, hr⟩ := h.row
  obtain ⟨A, c, q⟩ := own_slice hr
  subst q
  exact ⟨A, c, rfl, own_le hr⟩
set_option maxHeartbeats 1000000 in
theorem check_call (w : World) (g : Nat) (v : Value) (above pubs subs : List Nat) (h : TabAt w g v above pubs subs) (f c : Int) :
    Calls Tryz.prog 134 #[.pointer (some ⟨g, 0, none⟩), .int .i64 f, .int .i64 c] w fun e w' => e = .returned (.int .i64 (chk f c above.length)) ∧ w' = w := by
  have hu189 := Tryz.underlying189
  have hu186 := Tryz.underlying186
  have c0 := h.c0
  obtain ⟨A, cc, rfl, hc⟩ := h.form
  clear h
  unfold chk
  by_cases h1 : f < 0
  · rw [if_pos (.inl h1)]
    go_enter Tryz.func134, Tryz.ntmps134
    go_wp2_with fail
    go_ret
    exact ⟨rfl, rfl⟩
  · by_cases h2 : 8 ≤ f
    · rw [if_pos (.inr h2)]
      go_enter Tryz.func134, Tryz.ntmps134
      go_wp2_with fail
      go_ret
      exact ⟨rfl, rfl⟩
    · rw [if_neg (by omega)]
      by_cases h3 : c < 0
      · rw [if_pos (.inl h3)]
        go_enter Tryz.func134, Tryz.ntmps134
        go_wp2_with fail
        go_ret
        exact ⟨rfl, rfl⟩
      · by_cases h4 : (above.length : Int) ≤ c
        · rw [if_pos (.inr h4)]
          go_enter Tryz.func134, Tryz.ntmps134
          go_wp2_with fail
          go_ret
          exact ⟨rfl, rfl⟩
        · rw [if_neg (by omega)]
          go_enter Tryz.func134, Tryz.ntmps134
          go_wp2_with fail
          go_ret
          exact ⟨rfl, rfl⟩
end Go.Proofs.YtehnkebcbomidaaGreatDoor.Rt
end
section
set_option linter.unusedVariables false
set_option linter.unusedSimpArgs false
namespace Go.Proofs.YtehnkebcbomidaaGreatDoor.Rt
open Go Go.RowKit Go.Proofs Go.Proofs.YtehnkebcbomidaaGreatDoorW.PrintWords Go.Proofs.YtehnkebcbomidaaGreatDoorW.PrintLast
def firstNo : List (Bool × Int) → Option Int
  | [] => none
  | (b, c) :: l => if b then firstNo l else some c
def AllRes (w : World) (f : Int) (o : Option Int) (e : Ending) (w' : World) : Prop := match o with
  | none => e = .returned .nilIface
  | some c => ∃ g, w.heap.size ≤ g ∧ e = .returned (.iface 180 (.pointer (some ⟨g, 0, none⟩))) ∧ w'.heap[g]? = some (.cells #[.int .i64 f, .iface 25 (.int .i64 c)] 182 (0, 0))
theorem firstNo_drop (l : List (Bool × Int)) (j : Nat) (hj : j < l.length) : firstNo (l.drop j) = if l[j].1 then firstNo (l.drop (j + 1)) else some l[j].2 := by
  rw [List.drop_eq_getElem_cons hj]
  generalize l[j] = x
  obtain ⟨b, c⟩ := x
  rfl
set_option maxHeartbeats 4000000 in
set_option maxRecDepth 100000 in
theorem all_call (w : World) (f : Int) (s cap : Nat) (l : List (Bool × Int)) (hl : l.length ≤ 1000) (hc : l.length ≤ cap) (hcell : ∀ j (hj : j < l.length), w.cell? ⟨s, j * 2, none⟩ = some (.bool l[j].1) ∧ w.cell? ⟨s, j * 2 + 1, none⟩ = some (.int .i64 l[j].2)) :
    Calls Tryz.prog 67 #[.int .i64 f, .slice (some ⟨s, 0, none⟩) l.length cap] w fun e w' => AllRes w f (firstNo l) e w' ∧ Below w.heap.size w w' := by
  have hu193 := Tryz.underlying193
  have hu121 := Tryz.underlying121
  have hu182 := Tryz.underlying182
  have hu180 := Tryz.underlying180
  have hu25 := Tryz.underlying25
  have HC := Lib.hid hcell
  clear hcell
  go_enter Tryz.func67, Tryz.ntmps67
  go_wp2
  go_loopw [9] (fun i wr => ∃ j : Nat, j ≤ l.length ∧ i = .int .i64 j ∧ firstNo l = firstNo (l.drop j) ∧ Below w.heap.size w wr) (fun i _ => l.length - (RowKit.intOf i).toNat)
  case atStart => exact ⟨0, Nat.zero_le _, rfl, rfl, Below.refl _ _⟩
  case round =>
    obtain ⟨j, hj, rfl, hfn, hbe⟩ := hrel
    by_cases hjl : j < l.length
    · obtain ⟨d0, d1⟩ := HC.out j hjl
      have d0' := pw_cell_below hbe d0
      have d1' := pw_cell_below hbe d1
      have hsl := World.block_lt_of_cell? wr _ d0'
      have hji : (j : Int) < (l.length : Int) := by omega
      rw [firstNo_drop l j hjl] at hfn
      generalize l[j] = x at *
      obtain ⟨bb, cc⟩ := x
      simp only at d0' d1' hfn
      have HFN := Lib.hid hfn
      have HBE := Lib.hid hbe
      have D0 := Lib.hid d0
      have D1 := Lib.hid d1
      clear hfn hbe d0 d1
      cases bb with
      | true =>
        go_wp2
        exact ⟨⟨j + 1, hjl, by simp, by rw [HFN.out]; rfl, HBE.out.alloc HBE.out.size _⟩, by simp [RowKit.intOf]; omega⟩
      | false =>
        go_wp2
        go_ret
        rw [HFN.out]
        refine ⟨⟨wr.heap.size + 1, by have := HBE.out.size; omega, rfl, ?_⟩, (HBE.out.alloc HBE.out.size _).alloc (by have := HBE.out.size; simp; omega) _⟩
        have h := heap_alloc_new (wr.alloc (Obj.cells #[Value.bool false, Value.int IntKind.i64 cc] 121)) (Obj.cells #[.int .i64 f, .iface 25 (.int .i64 cc)] 182)
        rw [World.size_alloc] at h
        exact h
    · obtain rfl : j = l.length := by omega
      have hji : ¬ (l.length : Int) < (l.length : Int) := by omega
      rw [List.drop_length] at hfn
      have HFN := Lib.hid hfn
      have HBE := Lib.hid hbe
      clear hfn hbe
      go_wp2
      go_ret
      rw [HFN.out]
      exact ⟨rfl, HBE.out⟩
end Go.Proofs.YtehnkebcbomidaaGreatDoor.Rt
end
section
set_option linter.unusedVariables false
set_option linter.unusedSimpArgs false
namespace Go.Proofs.YtehnkebcbomidaaGreatDoor.Rt
open Go Go.RowKit Go.Proofs Go.Proofs.YtehnkebcbomidaaGreatDoorW.PrintWords Go.Proofs.YtehnkebcbomidaaGreatDoorW.PrintLast
theorem AllRes.mono {w w1 : World} {f : Int} {o : Option Int} {e : Ending} {w' : World} (h : AllRes w1 f o e w') (hs : w.heap.size ≤ w1.heap.size) : AllRes w f o e w' := by
  cases o with
  | none => exact h
  | some c => obtain ⟨g, h1, h2, h3⟩ := h; exact ⟨g, Nat.le_trans hs h1, h2, h3⟩
theorem AllRes.ret {w : World} {f : Int} {o : Option Int} {e : Ending} {w' : World} (h : AllRes w f o e w') : ∃ v, e = .returned v ∧ AllRes w f o (.returned v) w' := by
  cases o with
  | none => exact ⟨_, h, rfl⟩
  | some c => obtain ⟨g, h1, h2, h3⟩ := h; exact ⟨_, h2, g, h1, rfl, h3⟩
theorem by_out (w : World) (g : Nat) (f : Int) (h : f < 0 ∨ 8 ≤ f) : Calls Tryz.prog 63 #[.pointer (some ⟨g, 0, none⟩), .int .i64 f] w fun e w' => AllRes w f (some 1) e w' ∧ Below w.heap.size w w' := by
  have hu182 := Tryz.underlying182
  have hu180 := Tryz.underlying180
  have hu25 := Tryz.underlying25
  have fin : AllRes w f (some 1) (.returned (.iface 180 (.pointer (some ⟨w.heap.size, 0, none⟩)))) (w.alloc (Obj.cells #[.int .i64 f, .iface 25 (.int .i64 1)] 182)) ∧ Below w.heap.size w (w.alloc (Obj.cells #[.int .i64 f, .iface 25 (.int .i64 1)] 182)) :=
    ⟨⟨w.heap.size, Nat.le_refl _, rfl, heap_alloc_new _ _⟩, (Below.refl _ _).alloc (Nat.le_refl _) _⟩
  have FIN := Lib.hid fin
  clear fin
  rcases h with h | h
  · go_enter Tryz.func63, Tryz.ntmps63
    go_wp2_with fail
    go_ret
    exact FIN.out
  · have h0 : ¬ f < 0 := by omega
    go_enter Tryz.func63, Tryz.ntmps63
    go_wp2_with fail
    go_ret
    exact FIN.out
set_option maxHeartbeats 4000000 in
set_option maxRecDepth 100000 in
theorem by_call (w : World) (g n : Nat) (is sv : Bool) (hn : n < 8) (c1 : w.cell? ⟨g, 2 + n * 10, none⟩ = some (.bool is)) (c2 : w.cell? ⟨g, 82, none⟩ = some (.bool sv)) :
    Calls Tryz.prog 63 #[.pointer (some ⟨g, 0, none⟩), .int .i64 n] w fun e w' => AllRes w n (firstNo [(is, 201), (!sv, 212)]) e w' ∧ Below w.heap.size w w' := by
  have hu115 := Tryz.underlying115
  have hu113 := Tryz.underlying113
  have hu112 := Tryz.underlying112
  have hu121 := Tryz.underlying121
  have hu193 := Tryz.underlying193
  have hmix : Tryz.prog.follows .mixedOrders = true := by kernel_rfl
  have h0 : ¬ (n : Int) < 0 := by omega
  have h8 : ¬ (8 : Int) ≤ (n : Int) := by omega
  have hgl := World.block_lt_of_cell? w _ c2
  go_enter Tryz.func63, Tryz.ntmps63
  go_wp2_with fail
  have hall := all_call (w.alloc (Obj.cells #[Value.bool is, Value.int IntKind.i64 201, Value.bool !sv, Value.int IntKind.i64 212] 121)).drew n w.heap.size 2 [(is, 201), (!sv, 212)] (by simp) (by simp) (fun j hj => by
    have e : (w.alloc (Obj.cells #[Value.bool is, Value.int IntKind.i64 201, Value.bool !sv, Value.int IntKind.i64 212] 121)).drew.heap[w.heap.size]? = some (Obj.cells #[Value.bool is, Value.int IntKind.i64 201, Value.bool !sv, Value.int IntKind.i64 212] 121) := heap_alloc_new _ _
    have h2 : j = 0 ∨ j = 1 := by simp at hj; omega
    rcases h2 with rfl | rfl
    · exact ⟨by rw [World.cell?, e]; rfl, by rw [World.cell?, e]; rfl⟩
    · exact ⟨by rw [World.cell?, e]; rfl, by rw [World.cell?, e]; rfl⟩)
  have HALL := Lib.hid hall
  clear hall
  go_region_held3 (fun w' => w'.cell? ⟨g, 2 + n * 10, none⟩ = some (.bool is) ∧ w'.cell? ⟨g, 82, none⟩ = some (.bool sv))
    ((go_split_ands; refine ⟨?_, ?_⟩ <;> first | assumption | go_keep | exact pw_cell_below hb8 (by assumption)))
    ((go_at_call 67; refine HALL.out.mono ?_; rintro e w8 ⟨hr8, hb8⟩; obtain ⟨v8, rfl, hr8⟩ := hr8.ret))
  all_goals (
    have hB : Below w.heap.size w w8 := ((Below.refl _ w).alloc (Nat.le_refl _) _).trans ((show Below (w.alloc (Obj.cells #[Value.bool is, Value.int IntKind.i64 201, Value.bool !sv, Value.int IntKind.i64 212] 121)).heap.size (w.alloc (Obj.cells #[Value.bool is, Value.int IntKind.i64 201, Value.bool !sv, Value.int IntKind.i64 212] 121)) w8 from ⟨hb8.os, hb8.tape, hb8.output, hb8.size, hb8.block⟩).mono (by simp))
    have hr := AllRes.mono (w := w) hr8 (by simp)
    have HR := Lib.hid hr
    have HBB := Lib.hid hB
    clear hr hB hr8 hb8
    go_wp2
    go_ret
    exact ⟨HR.out, HBB.out⟩)
end Go.Proofs.YtehnkebcbomidaaGreatDoor.Rt
end
section
set_option linter.unusedVariables false
set_option linter.unusedSimpArgs false
namespace Go.Proofs.YtehnkebcbomidaaGreatDoor.Rt
open Go Go.RowKit Go.Proofs Go.Proofs.YtehnkebcbomidaaGreatDoorW.PrintWords Go.Proofs.YtehnkebcbomidaaGreatDoorW.PrintLast
theorem time_out (w : World) (g : Nat) (f : Int) (h : f < 0 ∨ 8 ≤ f) : Calls Tryz.prog 39 #[.pointer (some ⟨g, 0, none⟩), .int .i64 f] w fun e w' => e = .returned (.int .i64 (-1)) ∧ Below w.heap.size w w' := by
  rcases h with h | h
  · go_enter Tryz.func39, Tryz.ntmps39
    go_wp2_with fail
    go_ret
    exact ⟨rfl, Below.refl _ _⟩
  · have h0 : ¬ f < 0 := by omega
    go_enter Tryz.func39, Tryz.ntmps39
    go_wp2_with fail
    go_ret
    exact ⟨rfl, Below.refl _ _⟩
set_option maxHeartbeats 4000000 in
set_option maxRecDepth 100000 in
theorem time_call (w : World) (g n : Nat) (is : Bool) (t : Int) (hn : n < 8) (c1 : w.cell? ⟨g, 2 + n * 10, none⟩ = some (.bool is)) (c2 : w.cell? ⟨g, 2 + n * 10 + 2, none⟩ = some (.int .i64 t)) :
    Calls Tryz.prog 39 #[.pointer (some ⟨g, 0, none⟩), .int .i64 n] w fun e w' => e = .returned (.int .i64 (if is then t else -1)) ∧ Below w.heap.size w w' := by
  have hu115 := Tryz.underlying115
  have hu113 := Tryz.underlying113
  have hu112 := Tryz.underlying112
  have h0 : ¬ (n : Int) < 0 := by omega
  have h8 : ¬ (8 : Int) ≤ (n : Int) := by omega
  cases is with
  | true =>
    go_enter Tryz.func39, Tryz.ntmps39
    go_wp2_with fail
    go_ret
    exact ⟨rfl, Below.refl _ _⟩
  | false =>
    go_enter Tryz.func39, Tryz.ntmps39
    go_wp2_with fail
    go_ret
    exact ⟨rfl, Below.refl _ _⟩
end Go.Proofs.YtehnkebcbomidaaGreatDoor.Rt
end
section
set_option linter.unusedVariables false
set_option linter.unusedSimpArgs false
namespace Go.Proofs.YtehnkebcbomidaaGreatDoor.Rt
open Go Go.RowKit Go.Proofs Go.Proofs.YtehnkebcbomidaaGreatDoorW.PrintWords Go.Proofs.YtehnkebcbomidaaGreatDoorW.PrintLast
structure Sh where
  r : Nat
  tb : Nat
  pv : Value
  av : Value
  q : Nat → Nat
  b : Nat → Nat
  v : Nat → Value
  pl : Nat → Value
  own : Nat → Nat
def mcells (H : Sh) (n : Nat) (m : Mem) : List Value := [.bool m.is, .bool m.con, .int .i64 m.time, .int .i64 m.look, .int .i64 m.kind, .int .i64 m.ask, .int .i64 m.sent, .pointer (some ⟨H.q n, 0, none⟩), H.pl n, .int .u32 (m.subs : Nat)]
theorem mcells_length (H : Sh) (n : Nat) (m : Mem) : (mcells H n m).length = 10 := rfl
def rcells (H : Sh) (S : St) : List Value := H.pv :: .pointer (some ⟨H.tb, 0, none⟩) :: ((List.range 8).flatMap (fun n => mcells H n (S.get n)) ++ [.bool S.saving])
def Env (W : World) : Prop := W.cell? ⟨0, 0, none⟩ = some (.iface 291 (.agg #[.pointer (some ⟨9, 104, none⟩)]))
structure RAt (H : Sh) (W : World) (S : St) : Prop where
  env : Env W
  o0 : H.own 0 = 0
  blk : W.heap[H.r]? = some (.cells (rcells H S).toArray 115 (0, 0))
  tab : TabAt W H.tb H.av S.above S.pubs ((List.range 8).map fun n => (S.get n).subs)
  par : W.ownsRow 0 3 1 H.pv S.par.length (S.par.map (Value.int .i64))
  que : ∀ n, n < 8 → QIn W (H.q n) (H.b n) (H.v n) (S.get n).Q
  pla : ∀ n, n < 8 → W.ownsRow 0 41 6 (H.pl n) (S.get n).P.length (flatM (S.get n).P)
  o1 : H.own H.r = 1
  o2 : H.own H.tb = 2
  o3 : ∀ k, H.av.ownBlock = some k → H.own k = 3
  o4 : ∀ k, H.pv.ownBlock = some k → H.own k = 4
  oq : ∀ n, n < 8 → ∀ k, QFp (H.q n) (H.b n) (H.v n) k → H.own k = 8 + n
  op : ∀ n, n < 8 → ∀ k, (H.pl n).ownBlock = some k → H.own k = 16 + n
  lt : ∀ k, H.own k ≠ 0 → k < W.heap.size
theorem flat8_length (f : Nat → List Value) (h : ∀ n, (f n).length = 10) : ((List.range 8).flatMap f).length = 80 := by rw [flat_length f 10 h]; rfl
theorem rcells_mem (H : Sh) (S : St) (n j : Nat) (hn : n < 8) (hj : j < 10) : (rcells H S)[2 + n * 10 + j]? = (mcells H n (S.get n))[j]? := by
  unfold rcells
  rw [show 2 + n * 10 + j = (n * 10 + j) + 1 + 1 by omega, List.getElem?_cons_succ, List.getElem?_cons_succ, List.getElem?_append_left (by rw [flat8_length _ (fun n => mcells_length H n _)]; omega)]
  exact flatR_get _ 8 10 (fun n => mcells_length H n _) n j hn hj
theorem rcells_sv (H : Sh) (S : St) : (rcells H S)[82]? = some (.bool S.saving) := by
  unfold rcells
  rw [show 82 = 80 + 1 + 1 by rfl, List.getElem?_cons_succ, List.getElem?_cons_succ, List.getElem?_append_right (by rw [flat8_length _ (fun n => mcells_length H n _)]; omega), flat8_length _ (fun n => mcells_length H n _)]
  rfl
theorem RAt.cell {H : Sh} {W : World} {S : St} (h : RAt H W S) {k : Nat} {u : Value} (hk : (rcells H S)[k]? = some u) : W.cell? ⟨H.r, k, none⟩ = some u := by
  have := cell_of_row W H.r k _ 115 (0, 0) h.blk
  rw [this]
  simpa using hk
theorem RAt.free {H : Sh} {W : World} {S : St} (h : RAt H W S) (k : Nat) : W.frozen? ⟨H.r, k, none⟩ = false := by
  have e := h.blk
  simp [World.frozen?, e]
theorem RAt.c_is {H : Sh} {W : World} {S : St} (h : RAt H W S) {n : Nat} (hn : n < 8) : W.cell? ⟨H.r, 2 + n * 10, none⟩ = some (.bool (S.get n).is) := h.cell (rcells_mem H S n 0 hn (by decide))
theorem RAt.c_con {H : Sh} {W : World} {S : St} (h : RAt H W S) {n : Nat} (hn : n < 8) : W.cell? ⟨H.r, 2 + n * 10 + 1, none⟩ = some (.bool (S.get n).con) := h.cell (rcells_mem H S n 1 hn (by decide))
theorem RAt.c_time {H : Sh} {W : World} {S : St} (h : RAt H W S) {n : Nat} (hn : n < 8) : W.cell? ⟨H.r, 2 + n * 10 + 2, none⟩ = some (.int .i64 (S.get n).time) := h.cell (rcells_mem H S n 2 hn (by decide))
theorem RAt.c_look {H : Sh} {W : World} {S : St} (h : RAt H W S) {n : Nat} (hn : n < 8) : W.cell? ⟨H.r, 2 + n * 10 + 3, none⟩ = some (.int .i64 (S.get n).look) := h.cell (rcells_mem H S n 3 hn (by decide))
theorem RAt.c_kind {H : Sh} {W : World} {S : St} (h : RAt H W S) {n : Nat} (hn : n < 8) : W.cell? ⟨H.r, 2 + n * 10 + 4, none⟩ = some (.int .i64 (S.get n).kind) := h.cell (rcells_mem H S n 4 hn (by decide))
theorem RAt.c_ask {H : Sh} {W : World} {S : St} (h : RAt H W S) {n : Nat} (hn : n < 8) : W.cell? ⟨H.r, 2 + n * 10 + 5, none⟩ = some (.int .i64 (S.get n).ask) := h.cell (rcells_mem H S n 5 hn (by decide))
theorem RAt.c_sent {H : Sh} {W : World} {S : St} (h : RAt H W S) {n : Nat} (hn : n < 8) : W.cell? ⟨H.r, 2 + n * 10 + 6, none⟩ = some (.int .i64 (S.get n).sent) := h.cell (rcells_mem H S n 6 hn (by decide))
theorem RAt.c_q {H : Sh} {W : World} {S : St} (h : RAt H W S) {n : Nat} (hn : n < 8) : W.cell? ⟨H.r, 2 + n * 10 + 7, none⟩ = some (.pointer (some ⟨H.q n, 0, none⟩)) := h.cell (rcells_mem H S n 7 hn (by decide))
theorem RAt.c_pl {H : Sh} {W : World} {S : St} (h : RAt H W S) {n : Nat} (hn : n < 8) : W.cell? ⟨H.r, 2 + n * 10 + 8, none⟩ = some (H.pl n) := h.cell (rcells_mem H S n 8 hn (by decide))
theorem RAt.c_sv {H : Sh} {W : World} {S : St} (h : RAt H W S) : W.cell? ⟨H.r, 82, none⟩ = some (.bool S.saving) := h.cell (rcells_sv H S)
theorem RAt.c_tb {H : Sh} {W : World} {S : St} (h : RAt H W S) : W.cell? ⟨H.r, 1, none⟩ = some (.pointer (some ⟨H.tb, 0, none⟩)) := h.cell rfl
theorem TabAt.frame {W W' : World} {g : Nat} {v : Value} {above pubs subs : List Nat} (h : TabAt W g v above pubs subs) (hb : ∀ k, k < W.heap.size → (k = g ∨ v.ownBlock = some k) → W'.heap[k]? = W.heap[k]?) : TabAt W' g v above pubs subs := by
  obtain ⟨e, hr⟩ := h.row
  exact ⟨(hb g (Array.getElem?_eq_some_iff.1 h.blk).1 (.inl rfl)).trans h.blk, ⟨e, own_move hr (fun k hk => hb k (own_lt hr k hk) (.inr hk))⟩, h.p8, h.s8⟩
theorem QIn.frame {W W' : World} {q b : Nat} {v : Value} {Q : List Mg} (h : QIn W q b v Q) (hb : ∀ k, k < W.heap.size → QFp q b v k → W'.heap[k]? = W.heap[k]?) : QIn W' q b v Q := by
  obtain ⟨L, h1, h2⟩ := h
  exact ⟨L, h1.frame hb, h2⟩
theorem RAt.frame {H : Sh} {W W' : World} {S : St} (h : RAt H W S) {P : Nat → Prop} (ht : Tch P W W') (hP : ∀ k, k < W.heap.size → P k → H.own k = 0) (hP0 : ¬ P 0) : RAt H W' S := by
  have hb : ∀ k, k < W.heap.size → H.own k ≠ 0 → W'.heap[k]? = W.heap[k]? := fun k hk ho => ht.block k hk (fun p => ho (hP k hk p))
  refine ⟨ht.cell h.env hP0, h.o0, (hb _ (Array.getElem?_eq_some_iff.1 h.blk).1 (by rw [h.o1]; decide)).trans h.blk, h.tab.frame (fun k hk e => hb k hk ?_), own_move h.par (fun k hk => hb k (own_lt h.par k hk) (by rw [h.o4 k hk]; decide)), fun n hn => (h.que n hn).frame (fun k hk e => hb k hk (by rw [h.oq n hn k e]; omega)), fun n hn => own_move (h.pla n hn) (fun k hk => hb k (own_lt (h.pla n hn) k hk) (by rw [h.op n hn k hk]; omega)),
    h.o1, h.o2, h.o3, h.o4, h.oq, h.op, fun k hk => Nat.lt_of_lt_of_le (h.lt k hk) ht.size⟩
  rcases e with e | e
  · rw [e, h.o2]; decide
  · rw [h.o3 k e]; decide
theorem RAt.below {H : Sh} {W W' : World} {S : St} (h : RAt H W S) (hb : Below W.heap.size W W') : RAt H W' S := h.frame (P := fun _ => False) (Tch.of_below hb) (fun _ _ e => e.elim) id
theorem RAt.turn {H : Sh} {W W' : World} {S S' : St} (h : RAt H W S) (ht : Tch (fun k => k = H.r) W W') (hblk : W'.heap[H.r]? = some (.cells (rcells H S').toArray 115 (0, 0))) (h1 : S'.par = S.par) (h2 : S'.above = S.above) (h3 : S'.pubs = S.pubs)
    (h4 : ∀ n, n < 8 → (S'.get n).subs = (S.get n).subs ∧ (S'.get n).Q = (S.get n).Q ∧ (S'.get n).P = (S.get n).P) : RAt H W' S' := by
  have hb : ∀ k, k < W.heap.size → k ≠ H.r → W'.heap[k]? = W.heap[k]? := fun k hk hr => ht.block k hk hr
  have hne : ∀ k, H.own k ≠ 1 → k ≠ H.r := fun k hk e => hk (by rw [e]; exact h.o1)
  have hsub : ((List.range 8).map fun n => (S'.get n).subs) = (List.range 8).map fun n => (S.get n).subs := List.map_congr_left (fun n hn => (h4 n (by simpa using hn)).1)
  refine ⟨ht.cell h.env (hne 0 (by rw [h.o0]; decide)), h.o0, hblk, ?_, ?_, fun n hn => ?_, fun n hn => ?_, h.o1, h.o2, h.o3, h.o4, h.oq, h.op, fun k hk => Nat.lt_of_lt_of_le (h.lt k hk) ht.size⟩
  · rw [h2, h3, hsub]
    refine h.tab.frame (fun k hk e => hb k hk (hne k ?_))
    rcases e with e | e
    · rw [e, h.o2]; decide
    · rw [h.o3 k e]; decide
  · rw [h1]
    exact own_move h.par (fun k hk => hb k (own_lt h.par k hk) (hne k (by rw [h.o4 k hk]; decide)))
  · rw [(h4 n hn).2.1]
    exact (h.que n hn).frame (fun k hk e => hb k hk (hne k (by rw [h.oq n hn k e]; omega)))
  · rw [(h4 n hn).2.2]
    exact own_move (h.pla n hn) (fun k hk => hb k (own_lt (h.pla n hn) k hk) (hne k (by rw [h.op n hn k hk]; omega)))
theorem blk_put {H : Sh} {W : World} {S : St} (hblk : W.heap[H.r]? = some (.cells (rcells H S).toArray 115 (0, 0))) (h8 : S.l.length = 8) (n j : Nat) (hn : n < 8) (hj : j < 10) (u : Value) (m : Mem) (hm : mcells H n m = (mcells H n (S.get n)).set j u) :
    (W.setCell ⟨H.r, 2 + n * 10 + j, none⟩ u).heap[H.r]? = some (.cells (rcells H (S.put n m)).toArray 115 (0, 0)) := by
  rw [heap_setCell_same W H.r (2 + n * 10 + j) _ 115 u hblk]
  have e : (rcells H S).set (2 + n * 10 + j) u = rcells H (S.put n m) := by
    unfold rcells
    rw [show 2 + n * 10 + j = (n * 10 + j) + 1 + 1 by omega, List.set_cons_succ, List.set_cons_succ, List.set_append_left _ _ (by rw [flat8_length _ (fun n => mcells_length H n _)]; omega)]
    rw [flatR_set (fun k => mcells H k (S.get k)) (fun k => mcells H k ((S.put n m).get k)) 8 10 (fun k => mcells_length H k _) (fun k => mcells_length H k _) n j hn hj u (by simp only [St.get_put S h8 n n hn, if_true]; exact hm) (fun k hk hkn => by simp only [St.get_put S h8 n k hn, if_neg hkn])]
    rfl
  rw [← e]
  simp
end Go.Proofs.YtehnkebcbomidaaGreatDoor.Rt
end
section
set_option linter.unusedVariables false
set_option linter.unusedSimpArgs false
namespace Go.Proofs.YtehnkebcbomidaaGreatDoor.Rt
open Go Go.RowKit Go.Proofs Go.Proofs.YtehnkebcbomidaaGreatDoorW.PrintWords Go.Proofs.YtehnkebcbomidaaGreatDoorW.PrintLast
theorem is_any (tb : Nat) (c e : Int) (w : World) (h1 : w.cell? ⟨tb, 1, none⟩ = some (.iface 25 (.int .i64 c))) (r : Bool) (hr : (c == e) = r) :
    Calls Tryz.prog 133 #[.iface 180 (.pointer (some ⟨tb, 0, none⟩)), .iface 25 (.int .i64 e)] w fun x w' => x = .returned (.bool r) ∧ w' = w := As.is_ref tb c e w h1 r hr
set_option maxHeartbeats 4000000 in
theorem errno_ref (w : World) (henv : Env w) (g : Nat) (f c : Int) (hc0 : 0 ≤ c) (hc : c < 220) (hg : w.heap[g]? = some (.cells #[.int .i64 f, .iface 25 (.int .i64 c)] 182 (0, 0))) :
    Calls Tryz.prog 64 #[.iface 180 (.pointer (some ⟨g, 0, none⟩))] w fun e w' => e = .returned (.int .i64 c) ∧ Below w.heap.size w w' := by
  have hgl : g < w.heap.size := (Array.getElem?_eq_some_iff.1 hg).1
  have h0l := World.block_lt_of_cell? w _ henv
  obtain ⟨W, hW⟩ : ∃ W1, W1 = w.alloc (Obj.cells #[.pointer none] 180) := ⟨_, rfl⟩
  have hB1 : Below w.heap.size w W := by rw [hW]; exact (Below.refl _ _).alloc (Nat.le_refl _) _
  have hblk : W.heap[w.heap.size]? = some (.cells #[.pointer none] 180 (0, 0)) := by rw [hW]; exact heap_alloc_new _ _
  have has := As.as_trouble ⟨g, 0, none⟩ w.heap.size (.pointer none) W (pw_cell_below hB1 henv) (by simp [World.cell?, hblk]) (by simp [World.frozen?, hblk])
  obtain ⟨bx, hbx⟩ : ∃ bx, bx = w.heap.size := ⟨_, rfl⟩
  rw [← hbx] at has
  have HAS := Lib.hid has
  have HW := Lib.hid hW
  have HBX := Lib.hid hbx
  have HB1 := Lib.hid hB1
  have HBLK := Lib.hid hblk
  have HG := Lib.hid hg
  clear has hW hB1 hblk hg henv h0l
  clear hbx
  have hu25 := Tryz.underlying25
  have hu180 := Tryz.underlying180
  go_enter Tryz.func64, Tryz.ntmps64
  go_wp2_with fail
  rw [← HW.out, ← HBX.out]
  (with_reducible refine HAS.out.mono ?_)
  rintro e w1 ⟨rfl, hb1⟩
  have hb2 : Below w.heap.size w w1 := by
    have h2 : Below w.heap.size W (W.setCell ⟨bx, 0, none⟩ (.pointer (some ⟨g, 0, none⟩))) := (Below.refl _ _).setCell (by rw [HBX.out]; exact Nat.le_refl _) _
    exact (HB1.out.trans h2).trans (hb1.mono HB1.out.size)
  have hx1 : w1.heap[bx]? = some (.cells #[.pointer (some ⟨g, 0, none⟩)] 180 (0, 0)) := by
    have hlt : bx < W.heap.size := by rw [HW.out, HBX.out]; simp
    rw [hb1.block bx hlt, heap_setCell_same W bx 0 _ 180 _ (by rw [HBX.out]; exact HBLK.out)]
    rfl
  have hg1 : w1.heap[g]? = some (.cells #[.int .i64 f, .iface 25 (.int .i64 c)] 182 (0, 0)) := (hb2.block g hgl).trans HG.out
  have z0 : w1.cell? ⟨bx, 0, none⟩ = some (.pointer (some ⟨g, 0, none⟩)) := by simp [World.cell?, hx1]
  have z1 : w1.cell? ⟨g, 1, none⟩ = some (.iface 25 (.int .i64 c)) := by simp [World.cell?, hg1]
  have HB2 := Lib.hid hb2
  clear hb1 hb2 hx1 hg1
  go_wp2
  go_loop [9] (fun i => ∃ k : Nat, (k : Int) ≤ c ∧ i = .int .i64 k) (fun i => (220 - intOf i).toNat)
  case atStart => exact ⟨0, by omega, rfl⟩
  case round =>
    obtain ⟨k, hk, rfl⟩ := hrel
    have hk2 : (k : Int) < 220 := by omega
    by_cases hkc : (k : Int) = c
    · have hr : (c == (k : Int)) = true := by simp [hkc]
      have HR := Lib.hid hr
      have HKC := Lib.hid hkc
      clear hr hkc
      go_wp2_with (go_at_call 133; (with_reducible refine (is_any g c _ _ z1 true HR.out).mono ?_); rintro e w2 ⟨rfl, rfl⟩)
      go_ret
      exact ⟨by rw [HKC.out]; rfl, HB2.out⟩
    · have hr : (c == (k : Int)) = false := by simp; omega
      have HR := Lib.hid hr
      have HKC := Lib.hid hkc
      clear hr hkc
      go_wp2_with (go_at_call 133; (with_reducible refine (is_any g c _ _ z1 false HR.out).mono ?_); rintro e w2 ⟨rfl, rfl⟩)
      go_round
      case rel => exact ⟨k + 1, by have := HKC.out; omega, by go_num⟩
      case measure => simp [intOf]; omega
end Go.Proofs.YtehnkebcbomidaaGreatDoor.Rt
end
