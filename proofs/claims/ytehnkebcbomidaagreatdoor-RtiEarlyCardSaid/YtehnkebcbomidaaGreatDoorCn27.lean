/- Part of a proof over the given program: Gd, Oc. -/
import Derived.Test.YtehnkebcbomidaaGreatDoorCn26
import Derived.Shelf.SlSorted.Search
set_option linter.unusedVariables false
set_option linter.unusedSimpArgs false
section
namespace Go.Proofs.YtehnkebcbomidaaGreatDoor.Rt
def schRen : Go.Shelf.Ren := ⟨fun | 16 => 209 | n => n, fun | 3 => 3 | 35 => 272 | 4 => 4 | 38 => 157 | n => n, fun | n => n⟩
open Go in
theorem schLay : Go.Proofs.SlLaysO.n16 Tryz.prog schRen := {
 mixed := by kernel_rfl
 f16 := Tryz.func209.trans (congrArg some (by kernel_rfl))
 t3 := Tryz.underlying3
 a3 := Tryz.isAgg3
 z3 := Tryz.sizeOf3
 v3 := Tryz.zeroValue3
 t4 := Tryz.underlying4
 a4 := Tryz.isAgg4
 z4 := Tryz.sizeOf4
 v4 := Tryz.zeroValue4
 t35 := Tryz.underlying272
 a35 := Tryz.isAgg272
 z35 := Tryz.sizeOf272
 v35 := Tryz.zeroValue272
 t38 := Tryz.underlying157
 a38 := Tryz.isAgg157
 z38 := Tryz.sizeOf157
 v38 := Tryz.zeroValue157 }
open Go Go.RowKit Go.Shelf Go.Lib Go.Sort Go.Proofs Go.Proofs.YtehnkebcbomidaaGreatDoorW.PrintWords Go.Proofs.YtehnkebcbomidaaGreatDoorW.PrintLast Go.Proofs.YtehnkebcbomidaaGreatDoorW.PrintMore
attribute [local go_sem] max2_int min2_int max_two min_two max_three min_three max_four min_four
def IntsAt (W : World) (A : Option Addr) (l : List Int) : Prop := l.length ≠ 0 → ∃ g, A = some ⟨g, 0, none⟩ ∧ ∀ i, i < l.length → W.cell? ⟨g, i, none⟩ = some (.int .i64 (l.getD i 0))
theorem IntsAt.below {W W' : World} {A : Option Addr} {l : List Int} (h : IntsAt W A l) (hb : Below W.heap.size W W') : IntsAt W' A l := fun h0 => by
 obtain ⟨g, e, hc⟩ := h h0
 exact ⟨g, e, fun i hi => pw_cell_below hb (hc i hi)⟩
theorem ints_own {W : World} {base c : Nat} {A : Option Addr} {l : List Int} (h : W.ownsRow base 3 1 (.slice A l.length c) l.length (l.map (Value.int .i64))) : IntsAt W A l := by
 intro h0
 rcases h.2 with ⟨e, h1⟩ | ⟨g, cap, cur, e, _⟩
 ·omega
 ·simp only [Value.slice.injEq] at e
  obtain ⟨e1, e2, e3⟩ := e
  refine ⟨g, e1, fun i hi => ?_⟩
  have := h.cells (g := g) (by rw [e1]; rfl) i (.int .i64 (l.getD i 0)) (by
   rw [List.getElem?_map, List.getElem?_eq_getElem hi, List.getD_eq_getElem?_getD, List.getElem?_eq_getElem hi]
   rfl)
  rwa [add_plain] at this
set_option maxHeartbeats 2000000 in
theorem closure_up (bq bt : Nat) (g : Nat) (n c : Nat) (x t : Int) (i : Nat) (W : World) (hi : i < n) (_hn : n < 4611686018427387904)
  (ha : W.cell? ⟨bq, 0, none⟩ = some (.slice (some ⟨g, 0, none⟩) n c)) (hx : W.cell? ⟨bt, 0, none⟩ = some (.int .i64 t)) (hc : W.cell? ⟨g, i, none⟩ = some (.int .i64 x)) :
  Calls Tryz.prog 210 #[.int .i64 i, .pointer (some ⟨bq, 0, none⟩), .pointer (some ⟨bt, 0, none⟩)] W fun e w' => e = .returned (.bool (decide (t < x))) ∧ ∃ q, w' = W.drewN q := by
 have hiz : (i : Int) < (n : Int) := by omega
 have hiz0 : (0 : Int) ≤ (i : Int) := by omega
 go_enter Tryz.func210, Tryz.ntmps210
 go_wp2
 go_region
 all_goals go_wp2
 all_goals go_ret
 all_goals exact ⟨by first | rfl | simp, 1, rfl⟩
theorem count_range (l : List Int) (t : Int) : (List.range l.length).countP (fun i => !decide (t < l.getD i 0)) = upN l t := by
 have h : l = (List.range l.length).map (fun i => l.getD i 0) := by
  apply List.ext_getElem
  ·simp
  ·intro i h1 h2
   simp [h1]
 unfold upN
 conv => rhs; rw [h]
 rw [List.countP_map]
 congr 1
 funext i
 simp only [Function.comp]
 rw [Bool.eq_iff_iff]
 simp
set_option maxHeartbeats 4000000 in
theorem upto_call (w : World) (A : Option Addr) (c : Nat) (l : List Int) (t : Int) (hs : l.Pairwise (· ≤ ·)) (hl : l.length ≤ 4096) (hI : IntsAt w A l) :
  Calls Tryz.prog 146 #[.slice A l.length c, .int .i64 t] w fun e w' => e = .returned (.int .i64 (upN l t : Nat)) ∧ Below w.heap.size w w' := by
 obtain ⟨W0, hW0⟩ : ∃ W0, W0 = (w.alloc (.cells #[.slice A l.length c] 52)).alloc (.cells #[.int .i64 t] 3) := ⟨_, rfl⟩
 have hsize : W0.heap.size = w.heap.size + 1 + 1 := by rw [hW0]; simp
 have ca : W0.cell? ⟨w.heap.size, 0, none⟩ = some (.slice A l.length c) := by rw [hW0]; exact cell_alloc_sl _ (cell_new_sl w _ _)
 have cx : W0.cell? ⟨w.heap.size + 1, 0, none⟩ = some ((Value.int .i64) t) := by rw [hW0]; have := cell_new_sl (w.alloc (.cells #[.slice A l.length c] 52)) ((Value.int .i64) t) 3; rwa [World.size_alloc] at this
 have hB0 : Below w.heap.size w W0 := by rw [hW0]; exact ((Below.refl _ w).alloc (Nat.le_refl _) _).alloc (by simp) _
 have hI0 : IntsAt W0 A l := hI.below hB0
 have eg : ∀ args w, (callFunc 210 args).run Tryz.prog w = .ok (.enter 210 args) w := enters_of Tryz.func210 (by kernel_rfl) rfl
 have hlen : l.length < 4611686018427387904 := by omega
 have hS := Any.sort_Search schLay 210 #[.pointer (some ⟨w.heap.size, 0, none⟩), .pointer (some ⟨w.heap.size + 1, 0, none⟩)] l.length (fun i => decide (t < l.getD i 0)) W0 eg hlen
  (fun m os i hi => by
   obtain ⟨g, rfl, hcell⟩ := hI0 (by omega)
   have hci := hcell i hi
   exact (closure_up w.heap.size (w.heap.size + 1) g l.length c _ t i _ hi hlen (cell_grown (by simp [hsize]; omega) ca m os) (cell_grown (by simp [hsize]) cx m os) (cell_grown (World.block_lt_of_cell? _ _ hci) hci m os)).mono
    fun _ _ ⟨he, q, hq⟩ => ⟨he, q, #[], by rw [hq, grow_empty]⟩)
  (fun a b hab hb h => by
   have hp := List.pairwise_iff_getElem.1 hs
   simp only [decide_eq_true_eq] at h ⊢
   by_cases e : a = b
   ·subst e; exact h
   ·have := hp a b (by omega) hb (by omega)
    rw [List.getD_eq_getElem?_getD, List.getElem?_eq_getElem (by omega)] at h ⊢
    simp only [Option.getD_some] at h ⊢
    omega)
 change Calls Tryz.prog 209 _ _ _ at hS
 rw [count_range] at hS
 clear hI hI0 ca cx hs
 generalize upN l t = r at hS ⊢
 have HS := Lib.hid hS
 have HB0 := Lib.hid hB0
 have HSZ := Lib.hid hsize
 clear hS hB0 hsize
 go_enter Tryz.func146, Tryz.ntmps146
 go_wp2_with (go_at_call 209; rw [← hW0]; refine HS.out.mono ?_; rintro e w' ⟨rfl, q, os, rfl⟩)
 go_ret
 refine ⟨rfl, ?_⟩
 rw [← hW0]
 exact HB0.out.trans (below_grown_sl w.heap.size W0 q os (by have := HSZ.out; omega))
set_option maxHeartbeats 4000000 in
set_option maxRecDepth 100000 in
theorem next_call (w : World) (A : Option Addr) (c : Nat) (l : List Int) (ask time bound : Int) (hs : l.Pairwise (· ≤ ·)) (hl : l.length ≤ 4096) (hc : l.length ≤ c) (hI : IntsAt w A l) :
  Calls Tryz.prog 147 #[.int .i64 ask, .int .i64 time, .int .i64 bound, .slice A l.length c] w fun e w' => e = .returned (.tuple #[.bool (dec 2 ask time bound l).1, .int .i64 (dec 2 ask time bound l).2.1, .int .i64 ((dec 2 ask time bound l).2.2 : Nat)]) ∧ Below w.heap.size w w' := by
 have hd : dec 2 ask time bound l = if l ≠ [] ∧ l.getD 0 0 ≤ ask then (if bound > l.getD 0 0 then (true, max time (l.getD 0 0), upN l (l.getD 0 0)) else (false, 0, 0)) else if bound > ask then (true, ask, 0) else (false, 0, 0) := by
  unfold dec; rw [if_neg (by decide), if_pos rfl]
 rw [hd]
 clear hd
 have hu52 := Tryz.underlying52
 by_cases h0 : l = []
 ·subst h0
  rw [if_neg (by simp)]
  by_cases hb : bound > ask
  ·have hb2 : ¬ bound ≤ ask := by omega
   rw [if_pos hb]
   go_enter Tryz.func147, Tryz.ntmps147
   go_wp2
   go_ret3
   exact ⟨rfl, Below.refl _ _⟩
  ·have hb2 : bound ≤ ask := by omega
   rw [if_neg hb]
   go_enter Tryz.func147, Tryz.ntmps147
   go_wp2
   go_ret3
   exact ⟨rfl, Below.refl _ _⟩
 ·have hn : 0 < l.length := List.length_pos_iff.2 h0
  obtain ⟨g, rfl, hcell⟩ := hI (by omega)
  have c0 := hcell 0 hn
  have hu := fun w' (hb : Below w.heap.size w w') => upto_call w' (some ⟨g, 0, none⟩) c l (l.getD 0 0) hs hl (hI.below hb)
  have hpos : 0 < upN l (l.getD 0 0) := by
   cases l with
   | nil => simp at hn
   | cons a l => unfold upN; rw [List.countP_cons]; simp
  have hn0 : (0 : Int) < (l.length : Int) := by omega
  have hz : l.length ≠ 0 := by omega
  generalize l.getD 0 0 = x at c0 hu hpos ⊢
  generalize upN l x = u at hu hpos ⊢
  have hu0 : (0 : Int) < (u : Int) := by omega
  have HU := Lib.hid hu
  clear hu hI hcell hs
  by_cases hx : x ≤ ask
  ·rw [if_pos ⟨h0, hx⟩]
   generalize l.length = n at *
   by_cases hb : bound > x
   ·have hb2 : ¬ bound ≤ x := by omega
    obtain ⟨r, hr⟩ : ∃ r, (if time < x then x else time) = r := ⟨_, rfl⟩
    rw [if_pos hb, show max time x = r by omega]
    go_enter Tryz.func147, Tryz.ntmps147
    have hmix : Tryz.prog.follows .mixedOrders = true := by kernel_rfl
    go_wp2_with fail
    refine st_ (n := 10) (S := fun w' => w'.cell? ⟨g, 0, none⟩ = some (.int .i64 x)) (ds := []) hmix rfl c0 (fun hHeld => ?_)
    refine pu_ (i := 0) (N := (some 24)) (v := ?_) (a' := ?_) rfl rfl (by kernel_rfl) (fun _ _ _ h => h) (Or.inl ⟨by rfl, ?_⟩) ?_ ?_
    rotate_left
    ·intro w'
     go_simp
     try with_reducible rfl
    rotate_left
    ·simp only [Act.put, qa, qb, qc]
     rfl
    refine pu_ (i := 1) (N := (some 25)) (v := ?_) (a' := ?_) rfl rfl (by kernel_rfl) (fun _ _ _ h => h) (Or.inl ⟨by rfl, ?_⟩) ?_ ?_
    rotate_left
    ·intro w'
     go_simp
     try with_reducible rfl
    rotate_left
    ·simp only [Act.put, qa, qb, qc]
     rfl
    refine tk_ (i := 2) (N := (some 26)) (v := ?_) (a' := ?_) rfl rfl (by kernel_rfl) (fun _ _ _ h => h) (Or.inl ⟨by rfl, ?_⟩) hHeld ?_ ?_
    rotate_left
    ·intro w' hS_
     have zz0 := hS_
     go_simp
     try with_reducible rfl
    rotate_left
    ·simp only [Act.put, qa, qb, qc]
     rfl
    refine pu_ (i := 3) (N := (some 27)) (v := ?_) (a' := ?_) rfl rfl (by kernel_rfl) (fun _ _ _ h => h) (Or.inl ⟨by rfl, ?_⟩) ?_ ?_
    rotate_left
    ·intro w'
     go_simp
     try with_reducible rfl
    rotate_left
    ·simp only [Act.put, qa, qb, qc]
     rfl
    refine pu_ (i := 4) (N := (some 28)) (v := ?_) (a' := ?_) rfl rfl (by kernel_rfl) (fun _ _ _ h => h) (Or.inl ⟨by rfl, ?_⟩) ?_ ?_
    rotate_left
    ·intro w'
     go_simp
     try with_reducible rfl
    rotate_left
    ·simp only [Act.put, qa, qb, qc]
     rfl
    refine pu_ (i := 5) (N := (some 29)) (v := ?_) (a' := ?_) rfl rfl (by kernel_rfl) (fun _ _ _ h => h) (Or.inl ⟨by rfl, ?_⟩) ?_ ?_
    rotate_left
    ·intro w'
     go_simp
     try with_reducible rfl
    rotate_left
    ·simp only [Act.put, qa, qb, qc]
     rfl
    refine tk_ (i := 6) (N := (some 30)) (v := ?_) (a' := ?_) rfl rfl (by kernel_rfl) (fun _ _ _ h => h) (Or.inl ⟨by rfl, ?_⟩) hHeld ?_ ?_
    rotate_left
    ·intro w' hS_
     have zz0 := hS_
     go_simp
     try with_reducible rfl
    rotate_left
    ·simp only [Act.put, qa, qb, qc]
     rfl
    refine on_ (i := 7) (N := (some 31)) rfl rfl (by kernel_rfl) (by decide) (fun K hK => ?_)
    refine goes_ Tryz.func146 (by kernel_rfl) rfl #[.slice (some ⟨g, 0, none⟩) n c, .int .i64 x] (by rfl) rfl rfl (by simp only [List.map_toArray, List.map_cons, List.map_nil]; rfl) ?_
    refine (HU.out _ ((Below.refl _ w).drew)).mono ?_
    rintro e5 w5 ⟨rfl, hb5⟩
    refine ⟨_, rfl, hK.out _ _ (pw_cell_below hb5 c0) (fun hHeld => ?_)⟩
    clear hK K
    refine norm_ (a' := ?_) ?_ ?_
    rotate_left
    ·show Act.put _ (some 31) _ = _
     simp only [Act.put, qa, qb, qc]
     rfl
    refine pu_ (i := 8) (N := (some 11)) (v := ?_) (a' := ?_) rfl rfl (by kernel_rfl) (fun _ _ _ h => h) (Or.inl ⟨by rfl, ?_⟩) ?_ ?_
    rotate_left
    ·intro w'
     go_simp
     try with_reducible rfl
    rotate_left
    ·simp only [Act.put, qa, qb, qc]
     rfl
    refine pu_ (i := 9) (N := (some 12)) (v := ?_) (a' := ?_) rfl rfl (by kernel_rfl) (fun _ _ _ h => h) (Or.inl ⟨by rfl, ?_⟩) ?_ ?_
    rotate_left
    ·intro w'
     go_simp
     try with_reducible rfl
    rotate_left
    ·simp only [Act.put, qa, qb, qc]
     rfl
    refine done_ (by kernel_rfl) ?_
    go_wp2
    go_ret3
    exact ⟨rfl, (Below.refl _ w).drew.trans hb5⟩
   ·have hb2 : bound ≤ x := by omega
    rw [if_neg hb]
    go_enter Tryz.func147, Tryz.ntmps147
    have hmix : Tryz.prog.follows .mixedOrders = true := by kernel_rfl
    go_wp2_with fail
    refine st_ (n := 10) (S := fun w' => w'.cell? ⟨g, 0, none⟩ = some (.int .i64 x)) (ds := []) hmix rfl c0 (fun hHeld => ?_)
    refine pu_ (i := 0) (N := (some 24)) (v := ?_) (a' := ?_) rfl rfl (by kernel_rfl) (fun _ _ _ h => h) (Or.inl ⟨by rfl, ?_⟩) ?_ ?_
    rotate_left
    ·intro w'
     go_simp
     try with_reducible rfl
    rotate_left
    ·simp only [Act.put, qa, qb, qc]
     rfl
    refine pu_ (i := 1) (N := (some 25)) (v := ?_) (a' := ?_) rfl rfl (by kernel_rfl) (fun _ _ _ h => h) (Or.inl ⟨by rfl, ?_⟩) ?_ ?_
    rotate_left
    ·intro w'
     go_simp
     try with_reducible rfl
    rotate_left
    ·simp only [Act.put, qa, qb, qc]
     rfl
    refine tk_ (i := 2) (N := (some 26)) (v := ?_) (a' := ?_) rfl rfl (by kernel_rfl) (fun _ _ _ h => h) (Or.inl ⟨by rfl, ?_⟩) hHeld ?_ ?_
    rotate_left
    ·intro w' hS_
     have zz0 := hS_
     go_simp
     try with_reducible rfl
    rotate_left
    ·simp only [Act.put, qa, qb, qc]
     rfl
    refine pu_ (i := 3) (N := (some 27)) (v := ?_) (a' := ?_) rfl rfl (by kernel_rfl) (fun _ _ _ h => h) (Or.inl ⟨by rfl, ?_⟩) ?_ ?_
    rotate_left
    ·intro w'
     go_simp
     try with_reducible rfl
    rotate_left
    ·simp only [Act.put, qa, qb, qc]
     rfl
    refine pu_ (i := 4) (N := (some 28)) (v := ?_) (a' := ?_) rfl rfl (by kernel_rfl) (fun _ _ _ h => h) (Or.inl ⟨by rfl, ?_⟩) ?_ ?_
    rotate_left
    ·intro w'
     go_simp
     try with_reducible rfl
    rotate_left
    ·simp only [Act.put, qa, qb, qc]
     rfl
    refine pu_ (i := 5) (N := (some 29)) (v := ?_) (a' := ?_) rfl rfl (by kernel_rfl) (fun _ _ _ h => h) (Or.inl ⟨by rfl, ?_⟩) ?_ ?_
    rotate_left
    ·intro w'
     go_simp
     try with_reducible rfl
    rotate_left
    ·simp only [Act.put, qa, qb, qc]
     rfl
    refine tk_ (i := 6) (N := (some 30)) (v := ?_) (a' := ?_) rfl rfl (by kernel_rfl) (fun _ _ _ h => h) (Or.inl ⟨by rfl, ?_⟩) hHeld ?_ ?_
    rotate_left
    ·intro w' hS_
     have zz0 := hS_
     go_simp
     try with_reducible rfl
    rotate_left
    ·simp only [Act.put, qa, qb, qc]
     rfl
    refine on_ (i := 7) (N := (some 31)) rfl rfl (by kernel_rfl) (by decide) (fun K hK => ?_)
    refine goes_ Tryz.func146 (by kernel_rfl) rfl #[.slice (some ⟨g, 0, none⟩) n c, .int .i64 x] (by rfl) rfl rfl (by simp only [List.map_toArray, List.map_cons, List.map_nil]; rfl) ?_
    refine (HU.out _ ((Below.refl _ w).drew)).mono ?_
    rintro e5 w5 ⟨rfl, hb5⟩
    refine ⟨_, rfl, hK.out _ _ (pw_cell_below hb5 c0) (fun hHeld => ?_)⟩
    clear hK K
    refine norm_ (a' := ?_) ?_ ?_
    rotate_left
    ·show Act.put _ (some 31) _ = _
     simp only [Act.put, qa, qb, qc]
     rfl
    refine pu_ (i := 8) (N := (some 11)) (v := ?_) (a' := ?_) rfl rfl (by kernel_rfl) (fun _ _ _ h => h) (Or.inl ⟨by rfl, ?_⟩) ?_ ?_
    rotate_left
    ·intro w'
     go_simp
     try with_reducible rfl
    rotate_left
    ·simp only [Act.put, qa, qb, qc]
     rfl
    refine pu_ (i := 9) (N := (some 12)) (v := ?_) (a' := ?_) rfl rfl (by kernel_rfl) (fun _ _ _ h => h) (Or.inl ⟨by rfl, ?_⟩) ?_ ?_
    rotate_left
    ·intro w'
     go_simp
     try with_reducible rfl
    rotate_left
    ·simp only [Act.put, qa, qb, qc]
     rfl
    refine done_ (by kernel_rfl) ?_
    go_wp2
    go_ret3
    exact ⟨rfl, (Below.refl _ w).drew.trans hb5⟩
  ·rw [if_neg (fun z => hx z.2)]
   generalize l.length = n at *
   by_cases hb : bound > ask
   ·have hb2 : ¬ bound ≤ ask := by omega
    rw [if_pos hb]
    go_enter Tryz.func147, Tryz.ntmps147
    go_wp2
    go_ret3
    exact ⟨rfl, Below.refl _ _⟩
   ·have hb2 : bound ≤ ask := by omega
    rw [if_neg hb]
    go_enter Tryz.func147, Tryz.ntmps147
    go_wp2
    go_ret3
    exact ⟨rfl, Below.refl _ _⟩
set_option maxHeartbeats 4000000 in
set_option maxRecDepth 100000 in
theorem decide3_nil (A4 : Option Addr) (c4 : Nat) (a1 a2 a3 m r : Int) (w : World) (hm : (if a3 < a1 then a3 else a1) = m) (hr : (if a2 < m then m else a2) = r) :
  Calls Tryz.prog 73 #[.int .i64 3, .int .i64 a1, .int .i64 a2, .int .i64 a3, .slice A4 0 c4] w fun e w' => e = .returned (.tuple #[.bool true, .int .i64 r, .int .i64 0]) ∧ Below w.heap.size w w' := by
 have hu52 := Tryz.underlying52
 go_enter Tryz.func73, Tryz.ntmps73
 go_wp2
 go_loop [13, 47] (fun s i => i = .int .i64 0 ∧ s = .int .i64 m) (fun _ _ => 0)
 case atStart => exact ⟨rfl, rfl⟩
 case round =>
  obtain ⟨rfl, rfl⟩ := hrel
  go_wp2
  go_ret3
  exact ⟨rfl, Below.refl _ _⟩
set_option maxHeartbeats 4000000 in
set_option maxRecDepth 100000 in
theorem decide3_cons (A4 : Addr) (n c4 : Nat) (a1 a2 a3 m x m2 r : Int) (w : World) (hn : 0 < n) (hc : n ≤ c4) (hl : n ≤ 4096) (hcell : w.cell? A4 = some (.int .i64 x)) (hm : (if a3 < a1 then a3 else a1) = m) (hm2 : (if x < m then x else m) = m2) (hr : (if a2 < m2 then m2 else a2) = r) :
  Calls Tryz.prog 73 #[.int .i64 3, .int .i64 a1, .int .i64 a2, .int .i64 a3, .slice (some A4) n c4] w fun e w' => e = .returned (.tuple #[.bool true, .int .i64 r, .int .i64 n]) ∧ Below w.heap.size w w' := by
 have hu52 := Tryz.underlying52
 have h1 : (if 1 < (n : Int) then 1 else (n : Int)) = 1 := by split <;> omega
 have hc1 : (1 : Int) ≤ (c4 : Int) := by omega
 go_enter Tryz.func73, Tryz.ntmps73
 go_wp2
 go_loop [13, 47] (fun s i => (i = .int .i64 0 ∧ s = .int .i64 m) ∨ (i = .int .i64 1 ∧ s = .int .i64 m2)) (fun _ i => 1 - (intOf i).toNat)
 case atStart => exact Or.inl ⟨rfl, rfl⟩
 case round =>
  rcases hrel with ⟨rfl, rfl⟩ | ⟨rfl, rfl⟩
  ·go_wp2
   go_round
   case rel => exact Or.inr ⟨rfl, rfl⟩
   case measure => simp [intOf]
  ·go_wp2
   go_ret3
   exact ⟨rfl, Below.refl _ _⟩
set_option maxHeartbeats 4000000 in
set_option maxRecDepth 100000 in
theorem decide_call (w : World) (A : Option Addr) (c : Nat) (l : List Int) (kind ask time bound : Int) (hs : l.Pairwise (· ≤ ·)) (hl : l.length ≤ 4096) (hc : l.length ≤ c) (hI : IntsAt w A l) :
  Calls Tryz.prog 73 #[.int .i64 kind, .int .i64 ask, .int .i64 time, .int .i64 bound, .slice A l.length c] w fun e w' => e = .returned (.tuple #[.bool (dec kind ask time bound l).1, .int .i64 (dec kind ask time bound l).2.1, .int .i64 ((dec kind ask time bound l).2.2 : Nat)]) ∧ Below w.heap.size w w' := by
 by_cases c1 : kind = 1
 ·subst c1
  have k1 : ((1 : Int) == 1) = true := rfl
  have hd : dec 1 ask time bound l = if bound > ask then (true, ask, upN l ask) else (false, 0, 0) := by unfold dec; rw [if_pos rfl]
  rw [hd]
  by_cases cb : bound > ask
  ·rw [if_pos cb]
   have hu := Lib.hid (upto_call w A c l ask hs hl hI)
   have hcb : decide (ask < bound) = true := decide_eq_true cb
   clear hs hl hI hd hc
   generalize upN l ask = u at hu ⊢
   generalize l.length = n at hu ⊢
   go_enter Tryz.func73, Tryz.ntmps73
   go_wp2_with (go_at_call 146; refine hu.out.mono ?_; rintro e w' ⟨rfl, hb⟩)
   go_ret3
   exact ⟨rfl, hb⟩
  ·rw [if_neg cb]
   have hcb : decide (ask < bound) = false := decide_eq_false cb
   clear hs hl hI hd hc
   go_enter Tryz.func73, Tryz.ntmps73
   go_wp2
   go_ret3
   exact ⟨rfl, Below.refl _ _⟩
 ·have k1 : (kind == 1) = false := beq_eq_false_iff_ne.mpr c1
  by_cases c2 : kind = 2
  ·subst c2
   have hn := Lib.hid (next_call w A c l ask time bound hs hl hc hI)
   clear hs hl hc hI c1 k1
   generalize dec 2 ask time bound l = d at hn ⊢
   generalize l.length = n at hn ⊢
   go_enter Tryz.func73, Tryz.ntmps73
   go_wp2_with (go_at_call 147; refine hn.out.mono ?_; rintro e w' ⟨rfl, hb⟩)
   go_ret3
   exact ⟨rfl, hb⟩
  ·have k2 : (kind == 2) = false := beq_eq_false_iff_ne.mpr c2
   by_cases c3 : kind = 3
   ·subst c3
    have hd : dec 3 ask time bound l = (true, max time (if l = [] then min ask bound else min (min ask bound) (l.getD 0 0)), l.length) := by unfold dec; rw [if_neg (by decide), if_neg (by decide), if_pos rfl]
    rw [hd]
    have em : (if bound < ask then bound else ask) = min ask bound := by omega
    cases l with
    | nil =>
     refine (decide3_nil A c ask time bound _ _ w em rfl).mono ?_
     rintro e w' ⟨rfl, hb⟩
     refine ⟨?_, hb⟩
     simp only [if_true, List.length_nil]
     rw [show max time (min ask bound) = (if time < min ask bound then min ask bound else time) by omega]; rfl
    | cons x l =>
     obtain ⟨g, rfl, hcell⟩ := hI (by simp)
     have hx := hcell 0 (by simp)
     refine (decide3_cons ⟨g, 0, none⟩ (x :: l).length c ask time bound _ x _ _ w (by simp) hc hl (by simpa using hx) em rfl rfl).mono ?_
     rintro e w' ⟨rfl, hb⟩
     refine ⟨?_, hb⟩
     rw [if_neg (show ¬ ((x :: l) = []) by simp)]
     show _ = Ending.returned (Value.tuple #[.bool true, .int .i64 (max time (min (min ask bound) x)), _])
     rw [show max time (min (min ask bound) x) = (if time < (if x < min ask bound then x else min ask bound) then (if x < min ask bound then x else min ask bound) else time) by omega]
   ·have k3 : (kind == 3) = false := beq_eq_false_iff_ne.mpr c3
    have hd : dec kind ask time bound l = (false, 0, 0) := by unfold dec; rw [if_neg c1, if_neg c2, if_neg c3]
    rw [hd]
    clear hs hl hc hI hd c1 c2 c3
    go_enter Tryz.func73, Tryz.ntmps73
    go_wp2
    go_ret3
    exact ⟨rfl, Below.refl _ _⟩
end Go.Proofs.YtehnkebcbomidaaGreatDoor.Rt
end
namespace Go.Proofs.YtehnkebcbomidaaGreatDoor.Rt
open Go Go.RowKit Go.Proofs
def rdV (L : List LM) (i : Nat) (out : List Int) (k : Nat) : Int := min (out.getD k 0) ((L.getD k default).later (max (tadd (L.getD k default).time 0) (out.getD i 0)))
def rdTo (L : List LM) (i : Nat) (op hg : List Bool) (out : List Int) (j : Nat) : List Int := (List.range L.length).map fun k => if decide (k < j) && (op.getD k false && hg.getD k false) then rdV L i out k else out.getD k 0
theorem rdTo_length (L : List LM) (i : Nat) (op hg : List Bool) (out : List Int) (j : Nat) : (rdTo L i op hg out j).length = L.length := by simp [rdTo]
theorem rdTo_get (L : List LM) (i : Nat) (op hg : List Bool) (out : List Int) (j k : Nat) (hk : k < L.length) : (rdTo L i op hg out j)[k]? = some (if decide (k < j) && (op.getD k false && hg.getD k false) then rdV L i out k else out.getD k 0) := by
 unfold rdTo
 rw [List.getElem?_map, List.getElem?_range hk]
 rfl
theorem rdTo_zero (L : List LM) (i : Nat) (op hg : List Bool) (out : List Int) (h : out.length = L.length) : rdTo L i op hg out 0 = out := by
 refine List.ext_getElem? fun k => ?_
 by_cases hk : k < L.length
 ·rw [rdTo_get L i op hg out 0 k hk]
  have hk2 : k < out.length := by omega
  simp [List.getD_eq_getElem?_getD, List.getElem?_eq_getElem hk2]
 ·rw [List.getElem?_eq_none (by rw [rdTo_length]; omega), List.getElem?_eq_none (by omega)]
theorem rdTo_all (L : List LM) (i : Nat) (op hg : List Bool) (out : List Int) : rdTo L i op hg out L.length = roundO L i op hg out := by
 unfold rdTo roundO
 refine List.map_congr_left fun k hk => ?_
 have hk : k < L.length := by simpa using hk
 rw [decide_eq_true hk, Bool.true_and]
 rfl
theorem rdTo_no (L : List LM) (i : Nat) (op hg : List Bool) (out : List Int) (j : Nat) (h : (op.getD j false && hg.getD j false) = false) : rdTo L i op hg out (j + 1) = rdTo L i op hg out j := by
 unfold rdTo
 refine List.map_congr_left fun k hk => ?_
 by_cases e : k = j
 ·subst e
  rw [h]
  simp
 ·have : decide (k < j + 1) = decide (k < j) := decide_eq_decide.2 (by omega)
  rw [this]
theorem rdTo_yes (L : List LM) (i : Nat) (op hg : List Bool) (out : List Int) (j : Nat) (hj : j < L.length) (h : (op.getD j false && hg.getD j false) = true) : rdTo L i op hg out (j + 1) = (rdTo L i op hg out j).set j (rdV L i out j) := by
 refine List.ext_getElem? fun k => ?_
 rw [List.getElem?_set]
 by_cases hk : k < L.length
 ·rw [rdTo_get L i op hg out (j + 1) k hk, rdTo_get L i op hg out j k hk, rdTo_length]
  by_cases e : j = k
  ·subst e
   rw [if_pos rfl, if_pos hj, h, decide_eq_true (Nat.lt_succ_self _)]
   rfl
  ·have : decide (k < j + 1) = decide (k < j) := decide_eq_decide.2 (by omega)
   rw [if_neg e, this]
 ·rw [List.getElem?_eq_none (by rw [rdTo_length]; omega), if_neg (by omega), List.getElem?_eq_none (by rw [rdTo_length]; omega)]
theorem rdTo_at (L : List LM) (i : Nat) (op hg : List Bool) (out : List Int) (j k : Nat) (hk : k < L.length) (h : j ≤ k ∨ op.getD k false = false) : (rdTo L i op hg out j).getD k 0 = out.getD k 0 := by
 rw [List.getD_eq_getElem?_getD, rdTo_get L i op hg out j k hk]
 rcases h with h | h
 ·rw [decide_eq_false (by omega : ¬ k < j)]; rfl
 ·rw [h]; simp
theorem leastO_open (out : List Int) (op : List Bool) (n b : Nat) (h : leastO out op n = some b) : op.getD b false = true := by
 induction n generalizing b with
 | zero => cases h
 | succ n ih =>
  unfold leastO at h
  split at h
  ·split at h
   ·rename_i e; cases h; exact e
   ·cases h
  ·rename_i b' hb'
   split at h
   ·rename_i e; cases h; simp only [Bool.and_eq_true] at e; exact e.1
   ·cases h; exact ih _ hb'
theorem countP_set (op : List Bool) (i : Nat) (h : op.getD i false = true) : (op.set i false).countP id + 1 = op.countP id := by
 induction op generalizing i with
 | nil => simp at h
 | cons a l ih =>
  cases i with
  | zero =>
   have : a = true := by simpa using h
   subst this
   simp
  | succ i =>
   have h' : l.getD i false = true := by simpa using h
   have := ih i h'
   rw [List.set_cons_succ, List.countP_cons, List.countP_cons]
   omega
theorem oset_getD (op : List Bool) (i : Nat) : (op.set i false).getD i false = false := by
 rw [List.getD_eq_getElem?_getD, List.getElem?_set]
 rw [if_pos rfl]
 split <;> rfl
end Go.Proofs.YtehnkebcbomidaaGreatDoor.Rt
