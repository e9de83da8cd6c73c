/- Part of a proof over the given program: Gd, XCheckx1. -/
import Derived.Test.YtehnkebcbomidaaGreatDoorCb24
import Derived.Shelf.SlSorted.Search
set_option linter.unusedVariables false
set_option linter.unusedSimpArgs false
section
namespace Go.Proofs.YtehnkebcbomidaaGreatDoor.Rt
def schRen : Go.Shelf.Ren := ⟨fun | 16 => 209 | n => n, fun | 3 => 3 | 35 => 272 | 4 => 4 | 38 => 157 | n => n, fun | n => n⟩
open Go in
theorem schLay : Go.Proofs.SlLaysO.n16 Tryz.prog schRen := {
  mixed := by kernel_rfl
  f16 := Tryz.func209.trans (congrArg some (by kernel_rfl))
  t3 := Tryz.underlying3
  a3 := Tryz.isAgg3
  z3 := Tryz.sizeOf3
  v3 := Tryz.zeroValue3
  t4 := Tryz.underlying4
  a4 := Tryz.isAgg4
  z4 := Tryz.sizeOf4
  v4 := Tryz.zeroValue4
  t35 := Tryz.underlying272
  a35 := Tryz.isAgg272
  z35 := Tryz.sizeOf272
  v35 := Tryz.zeroValue272
  t38 := Tryz.underlying157
  a38 := Tryz.isAgg157
  z38 := Tryz.sizeOf157
  v38 := Tryz.zeroValue157 }
open Go Go.RowKit Go.Shelf Go.Lib Go.Sort Go.Proofs Go.Proofs.YtehnkebcbomidaaGreatDoorW.PrintWords Go.Proofs.YtehnkebcbomidaaGreatDoorW.PrintLast Go.Proofs.YtehnkebcbomidaaGreatDoorW.PrintMore
attribute [local go_sem] max2_int min2_int max_two min_two max_three min_three max_four min_four
def IntsAt (W : World) (A : Option Addr) (l : List Int) : Prop := l.length ≠ 0 → ∃ g, A = some ⟨g, 0, none⟩ ∧ ∀ i, i < l.length → W.cell? ⟨g, i, none⟩ = some (.int .i64 (l.getD i 0))
theorem IntsAt.below {W W' : World} {A : Option Addr} {l : List Int} (h : IntsAt W A l) (hb : Below W.heap.size W W') : IntsAt W' A l := fun h0 => by
  obtain ⟨g, e, hc⟩ := h h0
  exact ⟨g, e, fun i hi => pw_cell_below hb (hc i hi)⟩
theorem ints_own {W : World} {base c : Nat} {A : Option Addr} {l : List Int} (h : W.ownsRow base 3 1 (.slice A l.length c) l.length (l.map (Value.int .i64))) : IntsAt W A l := by
  intro h0
  rcases h.2 with ⟨e, h1⟩ | ⟨g, cap, cur, e, _⟩
  · omega
  · simp only [Value.slice.injEq] at e
    obtain ⟨e1, e2, e3⟩ := e
    refine ⟨g, e1, fun i hi => ?_⟩
    have := h.cells (g := g) (by rw [e1]; rfl) i (.int .i64 (l.getD i 0)) (by
      rw [List.getElem?_map, List.getElem?_eq_getElem hi, List.getD_eq_getElem?_getD, List.getElem?_eq_getElem hi]
      rfl)
    rwa [add_plain] at this
set_option maxHeartbeats 2000000 in
theorem closure_up (bq bt : Nat) (g : Nat) (n c : Nat) (x t : Int) (i : Nat) (W : World) (hi : i < n) (_hn : n < 4611686018427387904)
    (ha : W.cell? ⟨bq, 0, none⟩ = some (.slice (some ⟨g, 0, none⟩) n c)) (hx : W.cell? ⟨bt, 0, none⟩ = some (.int .i64 t)) (hc : W.cell? ⟨g, i, none⟩ = some (.int .i64 x)) :
    Calls Tryz.prog 210 #[.int .i64 i, .pointer (some ⟨bq, 0, none⟩), .pointer (some ⟨bt, 0, none⟩)] W fun e w' => e = .returned (.bool (decide (t < x))) ∧ ∃ q, w' = W.drewN q := by
  have hiz : (i : Int) < (n : Int) := by omega
  have hiz0 : (0 : Int) ≤ (i : Int) := by omega
  go_enter Tryz.func210, Tryz.ntmps210
  go_wp2
  go_region
  all_goals go_wp2
  all_goals go_ret
  all_goals exact ⟨by first | rfl | simp, 1, rfl⟩
theorem count_range (l : List Int) (t : Int) : (List.range l.length).countP (fun i => !decide (t < l.getD i 0)) = upN l t := by
  have h : l = (List.range l.length).map (fun i => l.getD i 0) := by
    apply List.ext_getElem
    · simp
    · intro i h1 h2
      simp [h1]
  unfold upN
  conv => rhs; rw [h]
  rw [List.countP_map]
  congr 1
  funext i
  simp only [Function.comp]
  rw [Bool.eq_iff_iff]
  simp
set_option maxHeartbeats 4000000 in
theorem upto_call (w : World) (A : Option Addr) (c : Nat) (l : List Int) (t : Int) (hs : l.Pairwise (· ≤ ·)) (hl : l.length ≤ 4096) (hI : IntsAt w A l) :
    Calls Tryz.prog 146 #[.slice A l.length c, .int .i64 t] w fun e w' => e = .returned (.int .i64 (upN l t : Nat)) ∧ Below w.heap.size w w' := by
  obtain ⟨W0, hW0⟩ : ∃ W0, W0 = (w.alloc (.cells #[.slice A l.length c] 52)).alloc (.cells #[.int .i64 t] 3) := ⟨_, rfl⟩
  have hsize : W0.heap.size = w.heap.size + 1 + 1 := by rw [hW0]; simp
  have ca : W0.cell? ⟨w.heap.size, 0, none⟩ = some (.slice A l.length c) := by rw [hW0]; exact cell_alloc_sl _ (cell_new_sl w _ _)
  have cx : W0.cell? ⟨w.heap.size + 1, 0, none⟩ = some ((Value.int .i64) t) := by rw [hW0]; have := cell_new_sl (w.alloc (.cells #[.slice A l.length c] 52)) ((Value.int .i64) t) 3; rwa [World.size_alloc] at this
  have hB0 : Below w.heap.size w W0 := by rw [hW0]; exact ((Below.refl _ w).alloc (Nat.le_refl _) _).alloc (by simp) _
  have hI0 : IntsAt W0 A l := hI.below hB0
  have eg : ∀ args w, (callFunc 210 args).run Tryz.prog w = .ok (.enter 210 args) w := enters_of Tryz.func210 (by kernel_rfl) rfl
  have hlen : l.length < 4611686018427387904 := by omega
  have hS := Any.sort_Search schLay 210 #[.pointer (some ⟨w.heap.size, 0, none⟩), .pointer (some ⟨w.heap.size + 1, 0, none⟩)] l.length (fun i => decide (t < l.getD i 0)) W0 eg hlen
    (fun m os i hi => by
      obtain ⟨g, rfl, hcell⟩ := hI0 (by omega)
      have hci := hcell i hi
      exact (closure_up w.heap.size (w.heap.size + 1) g l.length c _ t i _ hi hlen (cell_grown (by simp [hsize]; omega) ca m os) (cell_grown (by simp [hsize]) cx m os) (cell_grown (World.block_lt_of_cell? _ _ hci) hci m os)).mono
        fun _ _ ⟨he, q, hq⟩ => ⟨he, q, #[], by rw [hq, grow_empty]⟩)
    (fun a b hab hb h => by
      have hp := List.pairwise_iff_getElem.1 hs
      simp only [decide_eq_true_eq] at h ⊢
      by_cases e : a = b
      · subst e; exact h
      · have := hp a b (by omega) hb (by omega)
        rw [List.getD_eq_getElem?_getD, List.getElem?_eq_getElem (by omega)] at h ⊢
        simp only [Option.getD_some] at h ⊢
        omega)
  change Calls Tryz.prog 209 _ _ _ at hS
  rw [count_range] at hS
  clear hI hI0 ca cx hs
  generalize upN l t = r at hS ⊢
  have HS := Lib.hid hS
  have HB0 := Lib.hid hB0
  have HSZ := Lib.hid hsize
  clear hS hB0 hsize
  go_enter Tryz.func146, Tryz.ntmps146
  go_wp2_with (go_at_call 209; rw [← hW0]; refine HS.out.mono ?_; rintro e w' ⟨rfl, q, os, rfl⟩)
  go_ret
  refine ⟨rfl, ?_⟩
  rw [← hW0]
  exact HB0.out.trans (below_grown_sl w.heap.size W0 q os (by have := HSZ.out; omega))
set_option maxHeartbeats 4000000 in
set_option maxRecDepth 100000 in
theorem next_call (w : World) (A : Option Addr) (c : Nat) (l : List Int) (ask time bound : Int) (hs : l.Pairwise (· ≤ ·)) (hl : l.length ≤ 4096) (hc : l.length ≤ c) (hI : IntsAt w A l) :
    Calls Tryz.prog 147 #[.int .i64 ask, .int .i64 time, .int .i64 bound, .slice A l.length c] w fun e w' => e = .returned (.tuple #[.bool (dec 2 ask time bound l).1, .int .i64 (dec 2 ask time bound l).2.1, .int .i64 ((dec 2 ask time bound l).2.2 : Nat)]) ∧ Below w.heap.size w w' := by
  have hd : dec 2 ask time bound l = if l ≠ [] ∧ l.getD 0 0 ≤ ask then (if bound > l.getD 0 0 then (true, max time (l.getD 0 0), upN l (l.getD 0 0)) else (false, 0, 0)) else if bound > ask then (true, ask, 0) else (false, 0, 0) := by
    unfold dec; rw [if_neg (by decide), if_pos rfl]
  rw [hd]
  clear hd
  have hu52 := Tryz.underlying52
  by_cases h0 : l = []
  · subst h0
    rw [if_neg (by simp)]
    by_cases hb : bound > ask
    · have hb2 : ¬ bound ≤ ask := by omega
      rw [if_pos hb]
      go_enter Tryz.func147, Tryz.ntmps147
      go_wp2
      go_ret3
      exact ⟨rfl, Below.refl _ _⟩
    · have hb2 : bound ≤ ask := by omega
      rw [if_neg hb]
      go_enter Tryz.func147, Tryz.ntmps147
      go_wp2
      go_ret3
      exact ⟨rfl, Below.refl _ _⟩
  · have hn : 0 < l.length := List.length_pos_iff.2 h0
    obtain ⟨g, rfl, hcell⟩ := hI (by omega)
    have c0 := hcell 0 hn
    have hu := fun w' (hb : Below w.heap.size w w') => upto_call w' (some ⟨g, 0, none⟩) c l (l.getD 0 0) hs hl (hI.below hb)
    have hpos : 0 < upN l (l.getD 0 0) := by
      cases l with
      | nil => simp at hn
      | cons a l => unfold upN; rw [List.countP_cons]; simp
    have hn0 : (0 : Int) < (l.length : Int) := by omega
    have hz : l.length ≠ 0 := by omega
    generalize l.getD 0 0 = x at c0 hu hpos ⊢
    generalize upN l x = u at hu hpos ⊢
    have hu0 : (0 : Int) < (u : Int) := by omega
    have HU := Lib.hid hu
    clear hu hI hcell hs
    by_cases hx : x ≤ ask
    · rw [if_pos ⟨h0, hx⟩]
      generalize l.length = n at *
      by_cases hb : bound > x
      · have hb2 : ¬ bound ≤ x := by omega
        obtain ⟨r, hr⟩ : ∃ r, (if time < x then x else time) = r := ⟨_, rfl⟩
        rw [if_pos hb, show max time x = r by omega]
        go_enter Tryz.func147, Tryz.ntmps147
        have hmix : Tryz.prog.follows .mixedOrders = true := by kernel_rfl
        go_wp2_with fail
        refine start_ (n := 10) (S := fun w' => w'.cell? ⟨g, 0, none⟩ = some (.int .i64 x)) (ds := []) #[false, false, false, false, false, false, false, false, false, false] hmix rfl rfl c0 (fun hHeld => ?_)
        refine pure_ (i := 0) (N := (some 24)) (v := ?_) (a' := ?_) #[true, false, false, false, false, false, false, false, false, false] rfl rfl (by kernel_rfl) (fun _ _ _ h => h) (Or.inl ⟨by rfl, ?_⟩) ?_ ?_
        rotate_left
        · intro w'
          go_simp
          try with_reducible rfl
        rotate_left
        · simp only [Act.put, List.setIfInBounds_toArray, List.set_cons_zero, List.set_cons_succ]
          rfl
        refine pure_ (i := 1) (N := (some 25)) (v := ?_) (a' := ?_) #[true, true, false, false, false, false, false, false, false, false] rfl rfl (by kernel_rfl) (fun _ _ _ h => h) (Or.inl ⟨by rfl, ?_⟩) ?_ ?_
        rotate_left
        · intro w'
          go_simp
          try with_reducible rfl
        rotate_left
        · simp only [Act.put, List.setIfInBounds_toArray, List.set_cons_zero, List.set_cons_succ]
          rfl
        refine take_ (i := 2) (N := (some 26)) (v := ?_) (a' := ?_) #[true, true, true, false, false, false, false, false, false, false] rfl rfl (by kernel_rfl) (fun _ _ _ h => h) (Or.inl ⟨by rfl, ?_⟩) hHeld ?_ ?_
        rotate_left
        · intro w' hS_
          have zz0 := hS_
          go_simp
          try with_reducible rfl
        rotate_left
        · simp only [Act.put, List.setIfInBounds_toArray, List.set_cons_zero, List.set_cons_succ]
          rfl
        refine pure_ (i := 3) (N := (some 27)) (v := ?_) (a' := ?_) #[true, true, true, true, false, false, false, false, false, false] rfl rfl (by kernel_rfl) (fun _ _ _ h => h) (Or.inl ⟨by rfl, ?_⟩) ?_ ?_
        rotate_left
        · intro w'
          go_simp
          try with_reducible rfl
        rotate_left
        · simp only [Act.put, List.setIfInBounds_toArray, List.set_cons_zero, List.set_cons_succ]
          rfl
        refine pure_ (i := 4) (N := (some 28)) (v := ?_) (a' := ?_) #[true, true, true, true, true, false, false, false, false, false] rfl rfl (by kernel_rfl) (fun _ _ _ h => h) (Or.inl ⟨by rfl, ?_⟩) ?_ ?_
        rotate_left
        · intro w'
          go_simp
          try with_reducible rfl
        rotate_left
        · simp only [Act.put, List.setIfInBounds_toArray, List.set_cons_zero, List.set_cons_succ]
          rfl
        refine pure_ (i := 5) (N := (some 29)) (v := ?_) (a' := ?_) #[true, true, true, true, true, true, false, false, false, false] rfl rfl (by kernel_rfl) (fun _ _ _ h => h) (Or.inl ⟨by rfl, ?_⟩) ?_ ?_
        rotate_left
        · intro w'
          go_simp
          try with_reducible rfl
        rotate_left
        · simp only [Act.put, List.setIfInBounds_toArray, List.set_cons_zero, List.set_cons_succ]
          rfl
        refine take_ (i := 6) (N := (some 30)) (v := ?_) (a' := ?_) #[true, true, true, true, true, true, true, false, false, false] rfl rfl (by kernel_rfl) (fun _ _ _ h => h) (Or.inl ⟨by rfl, ?_⟩) hHeld ?_ ?_
        rotate_left
        · intro w' hS_
          have zz0 := hS_
          go_simp
          try with_reducible rfl
        rotate_left
        · simp only [Act.put, List.setIfInBounds_toArray, List.set_cons_zero, List.set_cons_succ]
          rfl
        refine one_ (i := 7) (N := (some 31)) #[true, true, true, true, true, true, true, true, false, false] rfl rfl (by kernel_rfl) (by decide) (fun K hK => ?_)
        refine goes_ Tryz.func146 (by kernel_rfl) rfl #[.slice (some ⟨g, 0, none⟩) n c, .int .i64 x] (by rfl) rfl rfl (by simp only [List.map_toArray, List.map_cons, List.map_nil]; rfl) ?_
        refine (HU.out _ ((Below.refl _ w).drew)).mono ?_
        rintro e5 w5 ⟨rfl, hb5⟩
        refine ⟨_, rfl, hK.out _ _ (pw_cell_below hb5 c0) (fun hHeld => ?_)⟩
        clear hK K
        refine norm_ (a' := ?_) ?_ ?_
        rotate_left
        · show Act.put _ (some 31) _ = _
          simp only [Act.put, List.setIfInBounds_toArray, List.set_cons_zero, List.set_cons_succ]
          rfl
        refine pure_ (i := 8) (N := (some 11)) (v := ?_) (a' := ?_) #[true, true, true, true, true, true, true, true, true, false] rfl rfl (by kernel_rfl) (fun _ _ _ h => h) (Or.inl ⟨by rfl, ?_⟩) ?_ ?_
        rotate_left
        · intro w'
          go_simp
          try with_reducible rfl
        rotate_left
        · simp only [Act.put, List.setIfInBounds_toArray, List.set_cons_zero, List.set_cons_succ]
          rfl
        refine pure_ (i := 9) (N := (some 12)) (v := ?_) (a' := ?_) #[true, true, true, true, true, true, true, true, true, true] rfl rfl (by kernel_rfl) (fun _ _ _ h => h) (Or.inl ⟨by rfl, ?_⟩) ?_ ?_
        rotate_left
        · intro w'
          go_simp
          try with_reducible rfl
        rotate_left
        · simp only [Act.put, List.setIfInBounds_toArray, List.set_cons_zero, List.set_cons_succ]
          rfl
        refine done_ (by kernel_rfl) ?_
        go_wp2
        go_ret3
        exact ⟨rfl, (Below.refl _ w).drew.trans hb5⟩
      · have hb2 : bound ≤ x := by omega
        rw [if_neg hb]
        go_enter Tryz.func147, Tryz.ntmps147
        have hmix : Tryz.prog.follows .mixedOrders = true := by kernel_rfl
        go_wp2_with fail
        refine start_ (n := 10) (S := fun w' => w'.cell? ⟨g, 0, none⟩ = some (.int .i64 x)) (ds := []) #[false, false, false, false, false, false, false, false, false, false] hmix rfl rfl c0 (fun hHeld => ?_)
        refine pure_ (i := 0) (N := (some 24)) (v := ?_) (a' := ?_) #[true, false, false, false, false, false, false, false, false, false] rfl rfl (by kernel_rfl) (fun _ _ _ h => h) (Or.inl ⟨by rfl, ?_⟩) ?_ ?_
        rotate_left
        · intro w'
          go_simp
          try with_reducible rfl
        rotate_left
        · simp only [Act.put, List.setIfInBounds_toArray, List.set_cons_zero, List.set_cons_succ]
          rfl
        refine pure_ (i := 1) (N := (some 25)) (v := ?_) (a' := ?_) #[true, true, false, false, false, false, false, false, false, false] rfl rfl (by kernel_rfl) (fun _ _ _ h => h) (Or.inl ⟨by rfl, ?_⟩) ?_ ?_
        rotate_left
        · intro w'
          go_simp
          try with_reducible rfl
        rotate_left
        · simp only [Act.put, List.setIfInBounds_toArray, List.set_cons_zero, List.set_cons_succ]
          rfl
        refine take_ (i := 2) (N := (some 26)) (v := ?_) (a' := ?_) #[true, true, true, false, false, false, false, false, false, false] rfl rfl (by kernel_rfl) (fun _ _ _ h => h) (Or.inl ⟨by rfl, ?_⟩) hHeld ?_ ?_
        rotate_left
        · intro w' hS_
          have zz0 := hS_
          go_simp
          try with_reducible rfl
        rotate_left
        · simp only [Act.put, List.setIfInBounds_toArray, List.set_cons_zero, List.set_cons_succ]
          rfl
        refine pure_ (i := 3) (N := (some 27)) (v := ?_) (a' := ?_) #[true, true, true, true, false, false, false, false, false, false] rfl rfl (by kernel_rfl) (fun _ _ _ h => h) (Or.inl ⟨by rfl, ?_⟩) ?_ ?_
        rotate_left
        · intro w'
          go_simp
          try with_reducible rfl
        rotate_left
        · simp only [Act.put, List.setIfInBounds_toArray, List.set_cons_zero, List.set_cons_succ]
          rfl
        refine pure_ (i := 4) (N := (some 28)) (v := ?_) (a' := ?_) #[true, true, true, true, true, false, false, false, false, false] rfl rfl (by kernel_rfl) (fun _ _ _ h => h) (Or.inl ⟨by rfl, ?_⟩) ?_ ?_
        rotate_left
        · intro w'
          go_simp
          try with_reducible rfl
        rotate_left
        · simp only [Act.put, List.setIfInBounds_toArray, List.set_cons_zero, List.set_cons_succ]
          rfl
        refine pure_ (i := 5) (N := (some 29)) (v := ?_) (a' := ?_) #[true, true, true, true, true, true, false, false, false, false] rfl rfl (by kernel_rfl) (fun _ _ _ h => h) (Or.inl ⟨by rfl, ?_⟩) ?_ ?_
        rotate_left
        · intro w'
          go_simp
          try with_reducible rfl
        rotate_left
        · simp only [Act.put, List.setIfInBounds_toArray, List.set_cons_zero, List.set_cons_succ]
          rfl
        refine take_ (i := 6) (N := (some 30)) (v := ?_) (a' := ?_) #[true, true, true, true, true, true, true, false, false, false] rfl rfl (by kernel_rfl) (fun _ _ _ h => h) (Or.inl ⟨by rfl, ?_⟩) hHeld ?_ ?_
        rotate_left
        · intro w' hS_
          have zz0 := hS_
          go_simp
          try with_reducible rfl
        rotate_left
        · simp only [Act.put, List.setIfInBounds_toArray, List.set_cons_zero, List.set_cons_succ]
          rfl
        refine one_ (i := 7) (N := (some 31)) #[true, true, true, true, true, true, true, true, false, false] rfl rfl (by kernel_rfl) (by decide) (fun K hK => ?_)
        refine goes_ Tryz.func146 (by kernel_rfl) rfl #[.slice (some ⟨g, 0, none⟩) n c, .int .i64 x] (by rfl) rfl rfl (by simp only [List.map_toArray, List.map_cons, List.map_nil]; rfl) ?_
        refine (HU.out _ ((Below.refl _ w).drew)).mono ?_
        rintro e5 w5 ⟨rfl, hb5⟩
        refine ⟨_, rfl, hK.out _ _ (pw_cell_below hb5 c0) (fun hHeld => ?_)⟩
        clear hK K
        refine norm_ (a' := ?_) ?_ ?_
        rotate_left
        · show Act.put _ (some 31) _ = _
          simp only [Act.put, List.setIfInBounds_toArray, List.set_cons_zero, List.set_cons_succ]
          rfl
        refine pure_ (i := 8) (N := (some 11)) (v := ?_) (a' := ?_) #[true, true, true, true, true, true, true, true, true, false] rfl rfl (by kernel_rfl) (fun _ _ _ h => h) (Or.inl ⟨by rfl, ?_⟩) ?_ ?_
        rotate_left
        · intro w'
          go_simp
          try with_reducible rfl
        rotate_left
        · simp only [Act.put, List.setIfInBounds_toArray, List.set_cons_zero, List.set_cons_succ]
          rfl
        refine pure_ (i := 9) (N := (some 12)) (v := ?_) (a' := ?_) #[true, true, true, true, true, true, true, true, true, true] rfl rfl (by kernel_rfl) (fun _ _ _ h => h) (Or.inl ⟨by rfl, ?_⟩) ?_ ?_
        rotate_left
        · intro w'
          go_simp
          try with_reducible rfl
        rotate_left
        · simp only [Act.put, List.setIfInBounds_toArray, List.set_cons_zero, List.set_cons_succ]
          rfl
        refine done_ (by kernel_rfl) ?_
        go_wp2
        go_ret3
        exact ⟨rfl, (Below.refl _ w).drew.trans hb5⟩
    · rw [if_neg (fun z => hx z.2)]
      generalize l.length = n at *
      by_cases hb : bound > ask
      · have hb2 : ¬ bound ≤ ask := by omega
        rw [if_pos hb]
        go_enter Tryz.func147, Tryz.ntmps147
        go_wp2
        go_ret3
        exact ⟨rfl, Below.refl _ _⟩
      · have hb2 : bound ≤ ask := by omega
        rw [if_neg hb]
        go_enter Tryz.func147, Tryz.ntmps147
        go_wp2
        go_ret3
        exact ⟨rfl, Below.refl _ _⟩
set_option maxHeartbeats 4000000 in
set_option maxRecDepth 100000 in
theorem decide3_nil (A4 : Option Addr) (c4 : Nat) (a1 a2 a3 m r : Int) (w : World) (hm : (if a3 < a1 then a3 else a1) = m) (hr : (if a2 < m then m else a2) = r) :
    Calls Tryz.prog 73 #[.int .i64 3, .int .i64 a1, .int .i64 a2, .int .i64 a3, .slice A4 0 c4] w fun e w' => e = .returned (.tuple #[.bool true, .int .i64 r, .int .i64 0]) ∧ Below w.heap.size w w' := by
  have hu52 := Tryz.underlying52
  go_enter Tryz.func73, Tryz.ntmps73
  go_wp2
  go_loop [13, 47] (fun s i => i = .int .i64 0 ∧ s = .int .i64 m) (fun _ _ => 0)
  case atStart => exact ⟨rfl, rfl⟩
  case round =>
    obtain ⟨rfl, rfl⟩ := hrel
    go_wp2
    go_ret3
    exact ⟨rfl, Below.refl _ _⟩
set_option maxHeartbeats 4000000 in
set_option maxRecDepth 100000 in
theorem decide3_cons (A4 : Addr) (n c4 : Nat) (a1 a2 a3 m x m2 r : Int) (w : World) (hn : 0 < n) (hc : n ≤ c4) (hl : n ≤ 4096) (hcell : w.cell? A4 = some (.int .i64 x)) (hm : (if a3 < a1 then a3 else a1) = m) (hm2 : (if x < m then x else m) = m2) (hr : (if a2 < m2 then m2 else a2) = r) :
    Calls Tryz.prog 73 #[.int .i64 3, .int .i64 a1, .int .i64 a2, .int .i64 a3, .slice (some A4) n c4] w fun e w' => e = .returned (.tuple #[.bool true, .int .i64 r, .int .i64 n]) ∧ Below w.heap.size w w' := by
  have hu52 := Tryz.underlying52
  have h1 : (if 1 < (n : Int) then 1 else (n : Int)) = 1 := by split <;> omega
  have hc1 : (1 : Int) ≤ (c4 : Int) := by omega
  go_enter Tryz.func73, Tryz.ntmps73
  go_wp2
  go_loop [13, 47] (fun s i => (i = .int .i64 0 ∧ s = .int .i64 m) ∨ (i = .int .i64 1 ∧ s = .int .i64 m2)) (fun _ i => 1 - (intOf i).toNat)
  case atStart => exact Or.inl ⟨rfl, rfl⟩
  case round =>
    rcases hrel with ⟨rfl, rfl⟩ | ⟨rfl, rfl⟩
    · go_wp2
      go_round
      case rel => exact Or.inr ⟨rfl, rfl⟩
      case measure => simp [intOf]
    · go_wp2
      go_ret3
      exact ⟨rfl, Below.refl _ _⟩
set_option maxHeartbeats 4000000 in
set_option maxRecDepth 100000 in
theorem decide_call (w : World) (A : Option Addr) (c : Nat) (l : List Int) (kind ask time bound : Int) (hs : l.Pairwise (· ≤ ·)) (hl : l.length ≤ 4096) (hc : l.length ≤ c) (hI : IntsAt w A l) :
    Calls Tryz.prog 73 #[.int .i64 kind, .int .i64 ask, .int .i64 time, .int .i64 bound, .slice A l.length c] w fun e w' => e = .returned (.tuple #[.bool (dec kind ask time bound l).1, .int .i64 (dec kind ask time bound l).2.1, .int .i64 ((dec kind ask time bound l).2.2 : Nat)]) ∧ Below w.heap.size w w' := by
  by_cases c1 : kind = 1
  · subst c1
    have k1 : ((1 : Int) == 1) = true := rfl
    have hd : dec 1 ask time bound l = if bound > ask then (true, ask, upN l ask) else (false, 0, 0) := by unfold dec; rw [if_pos rfl]
    rw [hd]
    by_cases cb : bound > ask
    · rw [if_pos cb]
      have hu := Lib.hid (upto_call w A c l ask hs hl hI)
      have hcb : decide (ask < bound) = true := decide_eq_true cb
      clear hs hl hI hd hc
      generalize upN l ask = u at hu ⊢
      generalize l.length = n at hu ⊢
      go_enter Tryz.func73, Tryz.ntmps73
      go_wp2_with (go_at_call 146; refine hu.out.mono ?_; rintro e w' ⟨rfl, hb⟩)
      go_ret3
      exact ⟨rfl, hb⟩
    · rw [if_neg cb]
      have hcb : decide (ask < bound) = false := decide_eq_false cb
      clear hs hl hI hd hc
      go_enter Tryz.func73, Tryz.ntmps73
      go_wp2
      go_ret3
      exact ⟨rfl, Below.refl _ _⟩
  · have k1 : (kind == 1) = false := beq_eq_false_iff_ne.mpr c1
    by_cases c2 : kind = 2
    · subst c2
      have hn := Lib.hid (next_call w A c l ask time bound hs hl hc hI)
      clear hs hl hc hI c1 k1
      generalize dec 2 ask time bound l = d at hn ⊢
      generalize l.length = n at hn ⊢
      go_enter Tryz.func73, Tryz.ntmps73
      go_wp2_with (go_at_call 147; refine hn.out.mono ?_; rintro e w' ⟨rfl, hb⟩)
      go_ret3
      exact ⟨rfl, hb⟩
    · have k2 : (kind == 2) = false := beq_eq_false_iff_ne.mpr c2
      by_cases c3 : kind = 3
      · subst c3
        have hd : dec 3 ask time bound l = (true, max time (if l = [] then min ask bound else min (min ask bound) (l.getD 0 0)), l.length) := by unfold dec; rw [if_neg (by decide), if_neg (by decide), if_pos rfl]
        rw [hd]
        have em : (if bound < ask then bound else ask) = min ask bound := by omega
        cases l with
        | nil =>
          refine (decide3_nil A c ask time bound _ _ w em rfl).mono ?_
          rintro e w' ⟨rfl, hb⟩
          refine ⟨?_, hb⟩
          simp only [if_true, List.length_nil]
          rw [show max time (min ask bound) = (if time < min ask bound then min ask bound else time) by omega]; rfl
        | cons x l =>
          obtain ⟨g, rfl, hcell⟩ := hI (by simp)
          have hx := hcell 0 (by simp)
          refine (decide3_cons ⟨g, 0, none⟩ (x :: l).length c ask time bound _ x _ _ w (by simp) hc hl (by simpa using hx) em rfl rfl).mono ?_
          rintro e w' ⟨rfl, hb⟩
          refine ⟨?_, hb⟩
          rw [if_neg (show ¬ ((x :: l) = []) by simp)]
          show _ = Ending.returned (Value.tuple #[.bool true, .int .i64 (max time (min (min ask bound) x)), _])
          rw [show max time (min (min ask bound) x) = (if time < (if x < min ask bound then x else min ask bound) then (if x < min ask bound then x else min ask bound) else time) by omega]
      · have k3 : (kind == 3) = false := beq_eq_false_iff_ne.mpr c3
        have hd : dec kind ask time bound l = (false, 0, 0) := by unfold dec; rw [if_neg c1, if_neg c2, if_neg c3]
        rw [hd]
        clear hs hl hc hI hd c1 c2 c3
        go_enter Tryz.func73, Tryz.ntmps73
        go_wp2
        go_ret3
        exact ⟨rfl, Below.refl _ _⟩
end Go.Proofs.YtehnkebcbomidaaGreatDoor.Rt
end
section
namespace Go.Proofs.YtehnkebcbomidaaGreatDoor.XCheck
open Go.RowKit Go.Proofs.YtehnkebcbomidaaGreatDoorW.PrintWords Go.Proofs.YtehnkebcbomidaaGreatDoorW.PrintLast Go.Proofs.YtehnkebcbomidaaGreatDoorW.PrintMore
attribute [local go_sem] max2_int min2_int max_two min_two max_three min_three max_four min_four   -- for this text's walks alone
mutual
def tree_Check.j0 : Nat → List Int → Bool → Option (Int)
  | 0, _, _ => none
  | k + 1, x0, x13 => if x13 = true then (some 50) else (tree_Check.l0 k x0 (x0.length : Int) 0)
def tree_Check.l0 : Nat → List Int → Int → Int → Option (Int)
  | 0, _, _, _ => none
  | k + 1, x14, x15, x16 => if x16 < x15 then (if 0 ≤ x16 then (if x16 < (x14.length : Int) then (if (rd x14 x16) < (-1) then (some 50) else (if (rd x14 x16) ≥ x16 then (some 50) else (tree_Check.l0 k x14 x15 (wrap64 (x16 + 1))))) else (none)) else (none)) else (some 0)
end
def tree_Check.f (k : Nat) (l0 : List Int) : Option (Int) := if (l0.length : Int) < 1 then (tree_Check.j0 k l0 true) else (tree_Check.j0 k l0 (decide ((l0.length : Int) > 16)))
set_option maxHeartbeats 8000000 in
set_option maxRecDepth 100000 in
theorem tree_Check.calls (k : Nat) (A0 : Option Addr) (c0 : Nat) (l0 : List Int) (r : Int) (w : World) (hr0 : Kd.C (Kd.int .i64) w A0 l0.length l0) (hc0 : l0.length ≤ c0) (h : tree_Check.f k l0 = some r) :
    Calls Tryz.prog 88 #[.slice A0 l0.length c0] w fun e w' => e = .returned (.int .i64 r) ∧ Drawn0 w w' := by
  have HR0 := Aside0.mk hr0
  have HC0 := Aside0.mk hc0
  clear hr0 hc0
  have H : (if (l0.length : Int) < 1 then (tree_Check.j0 k l0 true) else (tree_Check.j0 k l0 (decide ((l0.length : Int) > 16)))) = some r := h
  clear h
  have HC2 := Aside0.mk H
  clear H
  go_enter Tryz.func88, Tryz.ntmps88
  go_upto_region 2 with (fail)
  go_cut [13] (fun v13 wc => ∃ (kq : Nat) (x13_1 : Bool), v13 = .bool x13_1 ∧ Aside0 (tree_Check.j0 kq l0 x13_1 = some r) ∧ Aside0 (kq ≤ k) ∧ Drawn0 w wc)
  case first =>
    have H := HC2.out
    clear HC2
    by_cases c3 : (l0.length : Int) < 1
    · rw [if_pos c3] at H
      have c3b0 : decide ((l0.length : Int) < 1) = true := decide_eq_true c3
      have c3b1 : decide (l0.length < 1) = true := decide_eq_true (by omega)
      clear c3
      (first | rw [c3b0] | (simp only [i64_w, i32_w]; rw [c3b0]) | skip)
      have H' := Aside0.mk H
      clear H
      go_wp2
      go_meet
      case rel => exact ⟨_, (true), (by first | rfl | (simp; done) | (simp [*]; done)), H', ⟨by first | omega | exact Nat.le_refl _⟩, by repeat (first | exact Drawn0.refl _ | apply Drawn0.step)⟩
    · rw [if_neg c3] at H
      have c3b0 : decide ((l0.length : Int) < 1) = false := decide_eq_false c3
      have c3b1 : decide (l0.length < 1) = false := decide_eq_false (by omega)
      clear c3
      (first | rw [c3b0] | (simp only [i64_w, i32_w]; rw [c3b0]) | skip)
      have H' := Aside0.mk H
      clear H
      go_wp2
      go_meet
      case rel => exact ⟨_, (decide ((l0.length : Int) > 16)), (by first | rfl | (simp; done) | (simp [*]; done)), H', ⟨by first | omega | exact Nat.le_refl _⟩, by repeat (first | exact Drawn0.refl _ | apply Drawn0.step)⟩
  case rest =>
    clear HC2
    try clear p2
    try clear c3
    try clear c3b0
    try clear c3b1
    obtain ⟨kq, x13_1, rfl, HA, HJ1, ⟨mc1, rfl⟩⟩ := hcut
    cases kq with
    | zero => exact absurd HA.out (by simp [tree_Check.j0])
    | succ kj1 =>
      have H := HA.out
      clear HA
      simp only [tree_Check.j0] at H
      by_cases c4 : x13_1 = true
      · subst c4
        have H1 : (some 50) = some r := by rw [if_pos rfl] at H; exact H
        clear H
        have H := H1
        clear H1
        obtain rfl := Option.some.inj H
        go_wp2
        go_ret
        exact ⟨by first | rfl | (simp; done) | (simp [*]; done), by repeat (first | exact Drawn0.refl _ | apply Drawn0.step)⟩
      · replace c4 := Bool.eq_false_iff.mpr c4
        subst c4
        have H1 : (tree_Check.l0 kj1 l0 (l0.length : Int) 0) = some r := by rw [if_neg (show ¬ (false = true) by decide)] at H; exact H
        clear H
        have H := H1
        clear H1
        have H' := Aside0.mk H
        clear H
        go_wp2
        go_loopg [16] kj1 (fun kq v16 w' => ∃ (x16_2 : Int), v16 = .int .i64 x16_2 ∧ Aside0 (tree_Check.l0 kq l0 (l0.length : Int) x16_2 = some r) ∧ Aside0 (kq ≤ kj1) ∧ Drawn0 w w')
        case atStart => exact ⟨(0), (by first | rfl | (simp; done) | (simp [*]; done)), H', ⟨Nat.le_refl _⟩, by repeat (first | exact Drawn0.refl _ | apply Drawn0.step)⟩
        case round =>
          clear H'
          try clear c1
          try clear p2
          try clear c3
          try clear c3b0
          try clear c3b1
          try clear c4
          try clear p2
          obtain ⟨x16_2, rfl, HA, HK2, ⟨m2, rfl⟩⟩ := hrel
          cases gk with
          | zero => exact absurd HA.out (by simp [tree_Check.l0])
          | succ k2 =>
            have H := HA.out
            clear HA
            simp only [tree_Check.l0] at H
            by_cases c5 : x16_2 < (l0.length : Int)
            · rw [if_pos c5] at H
              have c5b0 : decide (x16_2 < (l0.length : Int)) = true := decide_eq_true c5
              clear c5
              by_cases c6 : 0 ≤ x16_2
              · rw [if_pos c6] at H
                have c6b0 : decide (0 ≤ x16_2) = true := decide_eq_true c6
                clear c6
                by_cases c7 : x16_2 < (l0.length : Int)
                · rw [if_pos c7] at H
                  have c7b0 : decide (x16_2 < (l0.length : Int)) = true := decide_eq_true c7
                  clear c7
                  by_cases c8 : (rd l0 x16_2) < (-1)
                  · rw [if_pos c8] at H
                    have c8b0 : decide ((rd l0 x16_2) < (-1)) = true := decide_eq_true c8
                    clear c8
                    obtain rfl := Option.some.inj H
                    have p101 : 0 ≤ (x16_2 : Int) := of_decide_eq_true (by first | (with_reducible assumption) | assumption)
                    have q101 : x16_2 < (l0.length : Int) := of_decide_eq_true (by first | (with_reducible assumption) | assumption)
                    obtain ⟨ad101, e101, hx101_0⟩ := Kd.at_int HR0.out x16_2 p101 q101
                    cases e101
                    replace p101 := eq_true p101
                    replace q101 := eq_true q101
                    go_wp2
                    go_ret
                    exact ⟨by first | rfl | (simp; done) | (simp [*]; done), by repeat (first | exact Drawn0.refl _ | apply Drawn0.step)⟩
                  · rw [if_neg c8] at H
                    have c8b0 : decide ((rd l0 x16_2) < (-1)) = false := decide_eq_false c8
                    clear c8
                    by_cases c9 : (rd l0 x16_2) ≥ x16_2
                    · rw [if_pos c9] at H
                      have c9b0 : decide (x16_2 ≤ (rd l0 x16_2)) = true := decide_eq_true c9
                      clear c9
                      obtain rfl := Option.some.inj H
                      have p101 : 0 ≤ (x16_2 : Int) := of_decide_eq_true (by first | (with_reducible assumption) | assumption)
                      have q101 : x16_2 < (l0.length : Int) := of_decide_eq_true (by first | (with_reducible assumption) | assumption)
                      obtain ⟨ad101, e101, hx101_0⟩ := Kd.at_int HR0.out x16_2 p101 q101
                      cases e101
                      replace p101 := eq_true p101
                      replace q101 := eq_true q101
                      go_wp2
                      go_ret
                      exact ⟨by first | rfl | (simp; done) | (simp [*]; done), by repeat (first | exact Drawn0.refl _ | apply Drawn0.step)⟩
                    · rw [if_neg c9] at H
                      have c9b0 : decide (x16_2 ≤ (rd l0 x16_2)) = false := decide_eq_false c9
                      clear c9
                      have H' := Aside0.mk H
                      clear H
                      have p101 : 0 ≤ (x16_2 : Int) := of_decide_eq_true (by first | (with_reducible assumption) | assumption)
                      have q101 : x16_2 < (l0.length : Int) := of_decide_eq_true (by first | (with_reducible assumption) | assumption)
                      obtain ⟨ad101, e101, hx101_0⟩ := Kd.at_int HR0.out x16_2 p101 q101
                      cases e101
                      replace p101 := eq_true p101
                      replace q101 := eq_true q101
                      go_wp2
                      go_roundg k2
                      case measure => have := HJ1.out; have := HK2.out; omega
                      case rel => exact ⟨(wrap64 (x16_2 + 1)), (by first | rfl | (simp; done) | (simp [*]; done)), H', ⟨by have := HJ1.out; have := HK2.out; omega⟩, by repeat (first | exact Drawn0.refl _ | apply Drawn0.step)⟩
                · rw [if_neg c7] at H
                  exact absurd H (by simp)
              · rw [if_neg c6] at H
                exact absurd H (by simp)
            · rw [if_neg c5] at H
              have c5b0 : decide (x16_2 < (l0.length : Int)) = false := decide_eq_false c5
              clear c5
              obtain rfl := Option.some.inj H
              go_wp2
              go_ret
              exact ⟨by first | rfl | (simp; done) | (simp [*]; done), by repeat (first | exact Drawn0.refl _ | apply Drawn0.step)⟩
end Go.Proofs.YtehnkebcbomidaaGreatDoor.XCheck
end
