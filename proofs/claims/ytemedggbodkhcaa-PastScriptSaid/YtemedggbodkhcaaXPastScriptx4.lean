/- Functions of the given program as plain Lean functions, each with a proof that its call comes to what the function says; printed by a program of this session out of the kit's print and contracts proved by hand. -/
import Derived.Test.YtemedggbodkhcaaXPastScriptx0
import Derived.Test.YtemedggbodkhcaaXPastScriptx3
namespace Go.Proofs.Ytemedggbodkhcaa.XPastScript
open Go.RowKit Go.Proofs.YtemedggbodkhcaaW.PrintWords Go.Proofs.YtemedggbodkhcaaW.PrintLast Go.Proofs.YtemedggbodkhcaaW.PrintMore
attribute [local go_sem] max2_int min2_int max_two min_two max_three min_three max_four min_four   -- for this text's walks alone
set_option linter.unusedVariables false
set_option linter.unusedSimpArgs false

/-! ### pacelinelaw13_same: function 19 -/
def pacelinelaw13_same.l0 : Nat → List (S32) → List (S52) → Int → Option (Bool)
  | 0, _, _, _ => none
  | k + 1, x0, x1, x5 => if x5 < (x0.length : Int) then (if 0 ≤ x5 then (if x5 < (x1.length : Int) then ((pacelinelaw13_sameEntry.f k ((rd_T32 x0 x5).f0.f0.f0) ((rd_T32 x0 x5).f0.f0.f1) ((rd_T32 x0 x5).f0.f0.f2) ((rd_T32 x0 x5).f0.f1) ((rd_T32 x0 x5).f0.f2) ((rd_T32 x0 x5).f0.f3) ((rd_T32 x0 x5).f1) ((rd_T32 x0 x5).f2) ((rd_T32 x0 x5).f3) ((rd_T32 x0 x5).f4) ((rd_T52 x1 x5).f0.f0.f0) ((rd_T52 x1 x5).f0.f0.f1) ((rd_T52 x1 x5).f0.f0.f2) ((rd_T52 x1 x5).f0.f1) ((rd_T52 x1 x5).f0.f2) ((rd_T52 x1 x5).f0.f3) ((rd_T52 x1 x5).f1) ((rd_T52 x1 x5).f2) ((rd_T52 x1 x5).f3) ((rd_T52 x1 x5).f4)).bind fun t108 => (if t108 = true then (pacelinelaw13_same.l0 k x0 x1 (wrap64 (x5 + 1))) else (some false))) else (none)) else (none)) else (some true)
def pacelinelaw13_same.f (k : Nat) (l0 : List (S32)) (l1 : List (S52)) : Option (Bool) := if (l0.length : Int) = (l1.length : Int) then (pacelinelaw13_same.l0 k l0 l1 0) else (some false)
theorem pacelinelaw13_same.mono_l : ∀ k, (∀ y0 y1 y2, LeO (pacelinelaw13_same.l0 k y0 y1 y2) (pacelinelaw13_same.l0 (k + 1) y0 y1 y2))
  | 0 => fun _ _ _ r h => by simp [pacelinelaw13_same.l0] at h
  | k + 1 => by
    have ih0 := pacelinelaw13_same.mono_l k
    · intro y0 y1 y2
      unfold pacelinelaw13_same.l0
      repeat' first
      | (with_reducible exact ih0 _ _ _)
      | (with_reducible exact pacelinelaw13_sameEntry.mono _ _ _ _ _ _ _ _ _ _ _ _ _ _ _ _ _ _ _ _ _)
      | (with_reducible exact LeO.refl _)
      | (with_reducible exact LeO.none _)
      | (with_reducible refine LeO.ite ?_ ?_)
      | (with_reducible refine LeO.bind ?_ (fun _ => ?_))
      | exact ih0 _ _ _
      | exact pacelinelaw13_sameEntry.mono _ _ _ _ _ _ _ _ _ _ _ _ _ _ _ _ _ _ _ _ _
      | exact LeO.none _
      | refine LeO.ite ?_ ?_
      | refine LeO.bind ?_ (fun _ => ?_)
theorem pacelinelaw13_same.mono : ∀ a0 a1 k, LeO (pacelinelaw13_same.f k a0 a1) (pacelinelaw13_same.f (k + 1) a0 a1) := by
  intro a0 a1 k
  have ih0 := pacelinelaw13_same.mono_l k
  unfold pacelinelaw13_same.f
  repeat' first
      | (with_reducible exact ih0 _ _ _)
      | (with_reducible exact pacelinelaw13_sameEntry.mono _ _ _ _ _ _ _ _ _ _ _ _ _ _ _ _ _ _ _ _ _)
      | (with_reducible exact LeO.refl _)
      | (with_reducible exact LeO.none _)
      | (with_reducible refine LeO.ite ?_ ?_)
      | (with_reducible refine LeO.bind ?_ (fun _ => ?_))
      | exact ih0 _ _ _
      | exact pacelinelaw13_sameEntry.mono _ _ _ _ _ _ _ _ _ _ _ _ _ _ _ _ _ _ _ _ _
      | exact LeO.none _
      | refine LeO.ite ?_ ?_
      | refine LeO.bind ?_ (fun _ => ?_)
def pacelinelaw13_same.T6 : Bool × List (List Nat × List Nat) := (true, [([], []), ([], []), ([0, 1], [0, 1]), ([2], [2]), ([], []), ([], []), ([4, 5], [4, 5]), ([6], [6]), ([3, 7], [3, 7]), ([8], [8])])
def pacelinelaw13_same.B6 : List Nat := [0, 0, 3, 7, 0, 0, 48, 112, 255, 511]
theorem pacelinelaw13_same.tab6 : rtab .any (opsOf Try.f19 6) = pacelinelaw13_same.T6 := by kernel_rfl
theorem pacelinelaw13_same.bits6 : waitsOk pacelinelaw13_same.T6.2 pacelinelaw13_same.B6 = true := by kernel_rfl
set_option maxHeartbeats 8000000 in
set_option maxRecDepth 100000 in
theorem pacelinelaw13_same.calls (k : Nat) (A0 : Option Addr) (c0 : Nat) (l0 : List (S32)) (A1 : Option Addr) (c1 : Nat) (l1 : List (S52)) (r : Bool) (w : World) (hr0 : Kd.C k32 w A0 l0.length l0) (hc0 : l0.length ≤ c0) (hr1 : Kd.C k52 w A1 l1.length l1) (hc1 : l1.length ≤ c1) (h : pacelinelaw13_same.f k l0 l1 = some r) :
    Calls Try.prog 19 #[.slice A0 l0.length c0, .slice A1 l1.length c1] w fun e w' => e = .returned (.bool r) ∧ Below w.heap.size w w' := by
  have hu32 := Try.underlying32
  have hu52 := Try.underlying52
  have HR0 := Aside0.mk hr0
  have HC0 := Aside0.mk hc0
  clear hr0 hc0
  have HR1 := Aside0.mk hr1
  have HC1 := Aside0.mk hc1
  clear hr1 hc1
  have HB := Aside0.mk (Below.refl w.heap.size w)
  have H : (if (l0.length : Int) = (l1.length : Int) then (pacelinelaw13_same.l0 k l0 l1 0) else (some false)) = some r := h
  clear h
  by_cases c3 : (l0.length : Int) = (l1.length : Int)
  · rw [if_pos c3] at H
    have c3b0 : ((l0.length : Int) == (l1.length : Int)) = true := beq_iff_eq.mpr c3
    have c3b1 : ((l0.length : Int) != (l1.length : Int)) = false := bne_eq_false_iff_eq.mpr c3
    have c3b2 : (l0.length == l1.length) = true := by first | simpa using c3 | (simp at c3 ⊢; omega)
    clear c3
    have H' := Aside0.mk H
    clear H
    go_enter Try.func19, Try.ntmps19
    go_wp2
    go_loopg [5] k (fun kq v5 w' => ∃ (x5_1 : Int), v5 = .int .i64 x5_1 ∧ Aside0 (pacelinelaw13_same.l0 kq l0 l1 x5_1 = some r) ∧ Aside0 (kq ≤ k) ∧ Aside0 (Below w.heap.size w w'))
    case atStart => exact ⟨(0), (by first | rfl | (simp; done) | (simp [*]; done)), H', ⟨Nat.le_refl _⟩, ⟨by repeat (first | (with_reducible first | exact HB.out | apply below_alloc | apply pw_below_drewN | apply below_drew1) | exact HB.out)⟩⟩
    case round =>
      clear H'
      try clear c1
      try clear p2
      try clear c3
      try clear c3b0
      try clear c3b1
      try clear c3b2
      obtain ⟨x5_1, rfl, HA, HK1, HB⟩ := hrel
      cases gk with
      | zero => exact absurd HA.out (by simp [pacelinelaw13_same.l0])
      | succ k1 =>
        have H := HA.out
        clear HA
        simp only [pacelinelaw13_same.l0] at H
        by_cases c4 : x5_1 < (l0.length : Int)
        · rw [if_pos c4] at H
          have c4b0 : decide (x5_1 < (l0.length : Int)) = true := decide_eq_true c4
          clear c4
          by_cases c5 : 0 ≤ x5_1
          · rw [if_pos c5] at H
            have c5b0 : decide (0 ≤ x5_1) = true := decide_eq_true c5
            clear c5
            by_cases c6 : x5_1 < (l1.length : Int)
            · rw [if_pos c6] at H
              have c6b0 : decide (x5_1 < (l1.length : Int)) = true := decide_eq_true c6
              clear c6
              replace H := Option.bind_eq_some_iff.mp H
              obtain ⟨t108, A70, H⟩ := H
              replace H : (if t108 = true then (pacelinelaw13_same.l0 k1 l0 l1 (wrap64 (x5_1 + 1))) else (some false)) = some r := H
              have A7 := Aside0.mk A70
              clear A70
              by_cases c8 : t108 = true
              · subst c8
                have H1 : (pacelinelaw13_same.l0 k1 l0 l1 (wrap64 (x5_1 + 1))) = some r := by rw [if_pos rfl] at H; exact H
                clear H
                have H := H1
                clear H1
                have H' := Aside0.mk H
                clear H
                try go_wp2
                have n0_ := Aside0.mk (below_drew1 HB.out)
                clear HB
                have HB := n0_
                clear n0_
                have p106 : 0 ≤ (x5_1 : Int) := of_decide_eq_true (by first | (with_reducible assumption) | assumption)
                have q106 : x5_1 < (l0.length : Int) := of_decide_eq_true (by first | (with_reducible assumption) | assumption)
                obtain ⟨ad106, A106_9, c106_9, e106, hx106_0, hx106_1, hx106_2, hx106_3, hx106_4, hx106_5, hx106_6, hx106_7, hx106_8, hx106_9, hl106_9, hi106_9⟩ := at_T32 HR0.out x5_1 p106 q106
                have hw106_9 := hx106_9
                have hw106_8 := hx106_8
                have hw106_7 := hx106_7
                have hw106_6 := hx106_6
                have hw106_5 := hx106_5
                have hw106_4 := hx106_4
                have hw106_3 := hx106_3
                have hw106_2 := hx106_2
                have hw106_1 := hx106_1
                have hw106_0 := hx106_0
                cases e106
                replace hx106_0 := (HB.out.cell (World.block_lt_of_cell? w _ hx106_0)).trans hx106_0
                replace hx106_1 := (HB.out.cell (World.block_lt_of_cell? w _ hx106_1)).trans hx106_1
                replace hx106_2 := (HB.out.cell (World.block_lt_of_cell? w _ hx106_2)).trans hx106_2
                replace hx106_3 := (HB.out.cell (World.block_lt_of_cell? w _ hx106_3)).trans hx106_3
                replace hx106_4 := (HB.out.cell (World.block_lt_of_cell? w _ hx106_4)).trans hx106_4
                replace hx106_5 := (HB.out.cell (World.block_lt_of_cell? w _ hx106_5)).trans hx106_5
                replace hx106_6 := (HB.out.cell (World.block_lt_of_cell? w _ hx106_6)).trans hx106_6
                replace hx106_7 := (HB.out.cell (World.block_lt_of_cell? w _ hx106_7)).trans hx106_7
                replace hx106_8 := (HB.out.cell (World.block_lt_of_cell? w _ hx106_8)).trans hx106_8
                replace hx106_9 := (HB.out.cell (World.block_lt_of_cell? w _ hx106_9)).trans hx106_9
                have HR106_9 := Aside0.mk hi106_9
                have HC106_9 := Aside0.mk hl106_9
                clear hi106_9 hl106_9
                replace p106 := eq_true p106
                replace q106 := eq_true q106
                have p107 : 0 ≤ (x5_1 : Int) := of_decide_eq_true (by first | (with_reducible assumption) | assumption)
                have q107 : x5_1 < (l1.length : Int) := of_decide_eq_true (by first | (with_reducible assumption) | assumption)
                obtain ⟨ad107, A107_9, c107_9, e107, hx107_0, hx107_1, hx107_2, hx107_3, hx107_4, hx107_5, hx107_6, hx107_7, hx107_8, hx107_9, hl107_9, hi107_9⟩ := at_T52 HR1.out x5_1 p107 q107
                have hw107_9 := hx107_9
                have hw107_8 := hx107_8
                have hw107_7 := hx107_7
                have hw107_6 := hx107_6
                have hw107_5 := hx107_5
                have hw107_4 := hx107_4
                have hw107_3 := hx107_3
                have hw107_2 := hx107_2
                have hw107_1 := hx107_1
                have hw107_0 := hx107_0
                cases e107
                replace hx107_0 := (HB.out.cell (World.block_lt_of_cell? w _ hx107_0)).trans hx107_0
                replace hx107_1 := (HB.out.cell (World.block_lt_of_cell? w _ hx107_1)).trans hx107_1
                replace hx107_2 := (HB.out.cell (World.block_lt_of_cell? w _ hx107_2)).trans hx107_2
                replace hx107_3 := (HB.out.cell (World.block_lt_of_cell? w _ hx107_3)).trans hx107_3
                replace hx107_4 := (HB.out.cell (World.block_lt_of_cell? w _ hx107_4)).trans hx107_4
                replace hx107_5 := (HB.out.cell (World.block_lt_of_cell? w _ hx107_5)).trans hx107_5
                replace hx107_6 := (HB.out.cell (World.block_lt_of_cell? w _ hx107_6)).trans hx107_6
                replace hx107_7 := (HB.out.cell (World.block_lt_of_cell? w _ hx107_7)).trans hx107_7
                replace hx107_8 := (HB.out.cell (World.block_lt_of_cell? w _ hx107_8)).trans hx107_8
                replace hx107_9 := (HB.out.cell (World.block_lt_of_cell? w _ hx107_9)).trans hx107_9
                have HR107_9 := Aside0.mk hi107_9
                have HC107_9 := Aside0.mk hl107_9
                clear hi107_9 hl107_9
                replace p107 := eq_true p107
                replace q107 := eq_true q107
                refine start_ (n := 10) (S := fun w' => w'.cell? (ad106.add ((x5_1).toNat * 10)) = some (.int .i64 ((rd_T32 l0 x5_1).f0.f0.f0)) ∧ w'.cell? ⟨(ad106.add ((x5_1).toNat * 10)).block, (ad106.add ((x5_1).toNat * 10)).off + 1, none⟩ = some (.int .i64 ((rd_T32 l0 x5_1).f0.f0.f1)) ∧ w'.cell? ⟨(ad106.add ((x5_1).toNat * 10)).block, (ad106.add ((x5_1).toNat * 10)).off + 2, none⟩ = some (.int .i64 ((rd_T32 l0 x5_1).f0.f0.f2)) ∧ w'.cell? ⟨(ad106.add ((x5_1).toNat * 10)).block, (ad106.add ((x5_1).toNat * 10)).off + 3, none⟩ = some (.int .i64 ((rd_T32 l0 x5_1).f0.f1)) ∧ w'.cell? ⟨(ad106.add ((x5_1).toNat * 10)).block, (ad106.add ((x5_1).toNat * 10)).off + 4, none⟩ = some (.int .i64 ((rd_T32 l0 x5_1).f0.f2)) ∧ w'.cell? ⟨(ad106.add ((x5_1).toNat * 10)).block, (ad106.add ((x5_1).toNat * 10)).off + 5, none⟩ = some (.int .i64 ((rd_T32 l0 x5_1).f0.f3)) ∧ w'.cell? ⟨(ad106.add ((x5_1).toNat * 10)).block, (ad106.add ((x5_1).toNat * 10)).off + 6, none⟩ = some (.int .i64 ((rd_T32 l0 x5_1).f1)) ∧ w'.cell? ⟨(ad106.add ((x5_1).toNat * 10)).block, (ad106.add ((x5_1).toNat * 10)).off + 7, none⟩ = some (.int .i64 ((rd_T32 l0 x5_1).f2)) ∧ w'.cell? ⟨(ad106.add ((x5_1).toNat * 10)).block, (ad106.add ((x5_1).toNat * 10)).off + 8, none⟩ = some (.int .i64 ((rd_T32 l0 x5_1).f3)) ∧ w'.cell? ⟨(ad106.add ((x5_1).toNat * 10)).block, (ad106.add ((x5_1).toNat * 10)).off + 9, none⟩ = some (.slice A106_9 ((rd_T32 l0 x5_1).f4).length c106_9) ∧ w'.cell? (ad107.add ((x5_1).toNat * 10)) = some (.int .i64 ((rd_T52 l1 x5_1).f0.f0.f0)) ∧ w'.cell? ⟨(ad107.add ((x5_1).toNat * 10)).block, (ad107.add ((x5_1).toNat * 10)).off + 1, none⟩ = some (.int .i64 ((rd_T52 l1 x5_1).f0.f0.f1)) ∧ w'.cell? ⟨(ad107.add ((x5_1).toNat * 10)).block, (ad107.add ((x5_1).toNat * 10)).off + 2, none⟩ = some (.int .i64 ((rd_T52 l1 x5_1).f0.f0.f2)) ∧ w'.cell? ⟨(ad107.add ((x5_1).toNat * 10)).block, (ad107.add ((x5_1).toNat * 10)).off + 3, none⟩ = some (.int .i64 ((rd_T52 l1 x5_1).f0.f1)) ∧ w'.cell? ⟨(ad107.add ((x5_1).toNat * 10)).block, (ad107.add ((x5_1).toNat * 10)).off + 4, none⟩ = some (.int .i64 ((rd_T52 l1 x5_1).f0.f2)) ∧ w'.cell? ⟨(ad107.add ((x5_1).toNat * 10)).block, (ad107.add ((x5_1).toNat * 10)).off + 5, none⟩ = some (.int .i64 ((rd_T52 l1 x5_1).f0.f3)) ∧ w'.cell? ⟨(ad107.add ((x5_1).toNat * 10)).block, (ad107.add ((x5_1).toNat * 10)).off + 6, none⟩ = some (.int .i64 ((rd_T52 l1 x5_1).f1)) ∧ w'.cell? ⟨(ad107.add ((x5_1).toNat * 10)).block, (ad107.add ((x5_1).toNat * 10)).off + 7, none⟩ = some (.int .i64 ((rd_T52 l1 x5_1).f2)) ∧ w'.cell? ⟨(ad107.add ((x5_1).toNat * 10)).block, (ad107.add ((x5_1).toNat * 10)).off + 8, none⟩ = some (.int .i64 ((rd_T52 l1 x5_1).f3)) ∧ w'.cell? ⟨(ad107.add ((x5_1).toNat * 10)).block, (ad107.add ((x5_1).toNat * 10)).off + 9, none⟩ = some (.slice A107_9 ((rd_T52 l1 x5_1).f4).length c107_9)) (ds := []) #[false, false, false, false, false, false, false, false, false, false] (by kernel_rfl) rfl rfl ⟨((HB.out.cell (World.block_lt_of_cell? w _ hw106_0)).trans hw106_0), ((HB.out.cell (World.block_lt_of_cell? w _ hw106_1)).trans hw106_1), ((HB.out.cell (World.block_lt_of_cell? w _ hw106_2)).trans hw106_2), ((HB.out.cell (World.block_lt_of_cell? w _ hw106_3)).trans hw106_3), ((HB.out.cell (World.block_lt_of_cell? w _ hw106_4)).trans hw106_4), ((HB.out.cell (World.block_lt_of_cell? w _ hw106_5)).trans hw106_5), ((HB.out.cell (World.block_lt_of_cell? w _ hw106_6)).trans hw106_6), ((HB.out.cell (World.block_lt_of_cell? w _ hw106_7)).trans hw106_7), ((HB.out.cell (World.block_lt_of_cell? w _ hw106_8)).trans hw106_8), ((HB.out.cell (World.block_lt_of_cell? w _ hw106_9)).trans hw106_9), ((HB.out.cell (World.block_lt_of_cell? w _ hw107_0)).trans hw107_0), ((HB.out.cell (World.block_lt_of_cell? w _ hw107_1)).trans hw107_1), ((HB.out.cell (World.block_lt_of_cell? w _ hw107_2)).trans hw107_2), ((HB.out.cell (World.block_lt_of_cell? w _ hw107_3)).trans hw107_3), ((HB.out.cell (World.block_lt_of_cell? w _ hw107_4)).trans hw107_4), ((HB.out.cell (World.block_lt_of_cell? w _ hw107_5)).trans hw107_5), ((HB.out.cell (World.block_lt_of_cell? w _ hw107_6)).trans hw107_6), ((HB.out.cell (World.block_lt_of_cell? w _ hw107_7)).trans hw107_7), ((HB.out.cell (World.block_lt_of_cell? w _ hw107_8)).trans hw107_8), ((HB.out.cell (World.block_lt_of_cell? w _ hw107_9)).trans hw107_9)⟩ (fun hHeld => ?_); refine with_tabW pacelinelaw13_same.tab6 pacelinelaw13_same.bits6 (fun HT_ HW_ => ?_)
                generalize wr.drew = w9 at HB HR106_9 HR107_9 hx106_0 hx106_1 hx106_2 hx106_3 hx106_4 hx106_5 hx106_6 hx106_7 hx106_8 hx106_9 hx107_0 hx107_1 hx107_2 hx107_3 hx107_4 hx107_5 hx107_6 hx107_7 hx107_8 hx107_9 hHeld ⊢
                refine pure_ (i := 0) (N := some 17) (v := ?_) (a' := ?_) #[true, false, false, false, false, false, false, false, false, false] rfl rfl (any_of HT_.out (by kernel_rfl)) (fun _ _ _ h => h) (Or.inl ⟨by rfl, ?_⟩) ?_ ?_
                rotate_left
                · intro w'
                  go_simp
                  with_reducible rfl
                rotate_left
                · simp only [Act.put, List.setIfInBounds_toArray, List.set_cons_zero, List.set_cons_succ, i64_w, i32_w]
                  rfl
                refine pure_ (i := 1) (N := some 18) (v := ?_) (a' := ?_) #[true, true, false, false, false, false, false, false, false, false] rfl rfl (any_of HT_.out (by kernel_rfl)) (fun _ _ _ h => h) (Or.inl ⟨by rfl, ?_⟩) ?_ ?_
                rotate_left
                · intro w'
                  go_simp
                  with_reducible rfl
                rotate_left
                · simp only [Act.put, List.setIfInBounds_toArray, List.set_cons_zero, List.set_cons_succ, i64_w, i32_w]
                  rfl
                refine pure_ (i := 2) (N := some 19) (v := ?_) (a' := ?_) #[true, true, true, false, false, false, false, false, false, false] rfl rfl (any_of HT_.out (by kernel_rfl)) (fun _ _ _ h => h) (Or.inl ⟨by rfl, ?_⟩) ?_ ?_
                rotate_left
                · intro w'
                  go_simp
                  with_reducible rfl
                rotate_left
                · simp only [Act.put, List.setIfInBounds_toArray, List.set_cons_zero, List.set_cons_succ, i64_w, i32_w]
                  rfl
                refine pure_ (i := 4) (N := some 21) (v := ?_) (a' := ?_) #[true, true, true, false, true, false, false, false, false, false] rfl rfl (any_of HT_.out (by kernel_rfl)) (fun _ _ _ h => h) (Or.inl ⟨by rfl, ?_⟩) ?_ ?_
                rotate_left
                · intro w'
                  go_simp
                  with_reducible rfl
                rotate_left
                · simp only [Act.put, List.setIfInBounds_toArray, List.set_cons_zero, List.set_cons_succ, i64_w, i32_w]
                  rfl
                refine pure_ (i := 5) (N := some 22) (v := ?_) (a' := ?_) #[true, true, true, false, true, true, false, false, false, false] rfl rfl (any_of HT_.out (by kernel_rfl)) (fun _ _ _ h => h) (Or.inl ⟨by rfl, ?_⟩) ?_ ?_
                rotate_left
                · intro w'
                  go_simp
                  with_reducible rfl
                rotate_left
                · simp only [Act.put, List.setIfInBounds_toArray, List.set_cons_zero, List.set_cons_succ, i64_w, i32_w]
                  rfl
                refine pure_ (i := 6) (N := some 23) (v := ?_) (a' := ?_) #[true, true, true, false, true, true, true, false, false, false] rfl rfl (any_of HT_.out (by kernel_rfl)) (fun _ _ _ h => h) (Or.inl ⟨by rfl, ?_⟩) ?_ ?_
                rotate_left
                · intro w'
                  go_simp
                  with_reducible rfl
                rotate_left
                · simp only [Act.put, List.setIfInBounds_toArray, List.set_cons_zero, List.set_cons_succ, i64_w, i32_w]
                  rfl
                refine take_ (i := 3) (N := some 20) (v := ?_) (a' := ?_) #[true, true, true, true, true, true, true, false, false, false] rfl rfl (take_ofW HT_.out HW_.out (by kernel_rfl)) (fun _ _ _ h => h) (Or.inl ⟨by rfl, ?_⟩) hHeld ?_ ?_
                rotate_left
                · rintro w' ⟨s0, s1, s2, s3, s4, s5, s6, s7, s8, s9, s10, s11, s12, s13, s14, s15, s16, s17, s18, s19⟩
                  go_simp
                  with_reducible rfl
                rotate_left
                · simp only [Act.put, List.setIfInBounds_toArray, List.set_cons_zero, List.set_cons_succ, i64_w, i32_w]
                  rfl
                refine take_ (i := 7) (N := some 24) (v := ?_) (a' := ?_) #[true, true, true, true, true, true, true, true, false, false] rfl rfl (take_ofW HT_.out HW_.out (by kernel_rfl)) (fun _ _ _ h => h) (Or.inl ⟨by rfl, ?_⟩) hHeld ?_ ?_
                rotate_left
                · rintro w' ⟨s0, s1, s2, s3, s4, s5, s6, s7, s8, s9, s10, s11, s12, s13, s14, s15, s16, s17, s18, s19⟩
                  go_simp
                  with_reducible rfl
                rotate_left
                · simp only [Act.put, List.setIfInBounds_toArray, List.set_cons_zero, List.set_cons_succ, i64_w, i32_w]
                  rfl
                refine one_ (i := 8) (N := some 25) #[true, true, true, true, true, true, true, true, true, false] rfl rfl (one_of HT_.out (by kernel_rfl)) (by decide) (fun K hK => ?_)
                refine goes_ Try.func25 (by kernel_rfl) rfl #[.agg #[.int .i64 ((rd_T32 l0 x5_1).f0.f0.f0), .int .i64 ((rd_T32 l0 x5_1).f0.f0.f1), .int .i64 ((rd_T32 l0 x5_1).f0.f0.f2), .int .i64 ((rd_T32 l0 x5_1).f0.f1), .int .i64 ((rd_T32 l0 x5_1).f0.f2), .int .i64 ((rd_T32 l0 x5_1).f0.f3), .int .i64 ((rd_T32 l0 x5_1).f1), .int .i64 ((rd_T32 l0 x5_1).f2), .int .i64 ((rd_T32 l0 x5_1).f3), .slice A106_9 ((rd_T32 l0 x5_1).f4).length c106_9], .agg #[.int .i64 ((rd_T52 l1 x5_1).f0.f0.f0), .int .i64 ((rd_T52 l1 x5_1).f0.f0.f1), .int .i64 ((rd_T52 l1 x5_1).f0.f0.f2), .int .i64 ((rd_T52 l1 x5_1).f0.f1), .int .i64 ((rd_T52 l1 x5_1).f0.f2), .int .i64 ((rd_T52 l1 x5_1).f0.f3), .int .i64 ((rd_T52 l1 x5_1).f1), .int .i64 ((rd_T52 l1 x5_1).f2), .int .i64 ((rd_T52 l1 x5_1).f3), .slice A107_9 ((rd_T52 l1 x5_1).f4).length c107_9]] (by rfl) rfl rfl (by (try simp only [List.map_toArray, List.map_cons, List.map_nil]); first | done | rfl | (simp only [List.length_drop, List.length_take]; rfl)) ?_
                with_reducible refine (pacelinelaw13_sameEntry.calls k1 ((rd_T32 l0 x5_1).f0.f0.f0) ((rd_T32 l0 x5_1).f0.f0.f1) ((rd_T32 l0 x5_1).f0.f0.f2) ((rd_T32 l0 x5_1).f0.f1) ((rd_T32 l0 x5_1).f0.f2) ((rd_T32 l0 x5_1).f0.f3) ((rd_T32 l0 x5_1).f1) ((rd_T32 l0 x5_1).f2) ((rd_T32 l0 x5_1).f3) _ _ ((rd_T32 l0 x5_1).f4) ((rd_T52 l1 x5_1).f0.f0.f0) ((rd_T52 l1 x5_1).f0.f0.f1) ((rd_T52 l1 x5_1).f0.f0.f2) ((rd_T52 l1 x5_1).f0.f1) ((rd_T52 l1 x5_1).f0.f2) ((rd_T52 l1 x5_1).f0.f3) ((rd_T52 l1 x5_1).f1) ((rd_T52 l1 x5_1).f2) ((rd_T52 l1 x5_1).f3) _ _ ((rd_T52 l1 x5_1).f4) true _ ?side1 ?side2 ?side3 ?side4 A7.out).mono ?_
                (case side1 => repeat (first | exact (Kd.C_below HR106_9.out HB.out) | (with_reducible refine Kd.C_alloc ?_ _) | (with_reducible refine Kd.C_drewN ?_ _) | (with_reducible refine Kd.C_drew ?_)))
                (case side2 => exact HC106_9.out)
                (case side3 => repeat (first | exact (Kd.C_below HR107_9.out HB.out) | (with_reducible refine Kd.C_alloc ?_ _) | (with_reducible refine Kd.C_drewN ?_ _) | (with_reducible refine Kd.C_drew ?_)))
                (case side4 => exact HC107_9.out)
                rintro e w10 ⟨rfl, hb⟩
                refine ⟨_, rfl, ?_⟩
                have n0_ := Aside0.mk (below_step (by repeat (first | (with_reducible first | exact HB.out | apply below_alloc | apply pw_below_drewN | apply below_drew1) | exact HB.out)) hb)
                clear HB
                have HB := n0_
                clear n0_
                (try clear hb)
                (try clear hb2)
                (try clear hk)
                (try clear hi)
                refine hK.out _ _ ⟨((HB.out.cell (World.block_lt_of_cell? w _ hw106_0)).trans hw106_0), ((HB.out.cell (World.block_lt_of_cell? w _ hw106_1)).trans hw106_1), ((HB.out.cell (World.block_lt_of_cell? w _ hw106_2)).trans hw106_2), ((HB.out.cell (World.block_lt_of_cell? w _ hw106_3)).trans hw106_3), ((HB.out.cell (World.block_lt_of_cell? w _ hw106_4)).trans hw106_4), ((HB.out.cell (World.block_lt_of_cell? w _ hw106_5)).trans hw106_5), ((HB.out.cell (World.block_lt_of_cell? w _ hw106_6)).trans hw106_6), ((HB.out.cell (World.block_lt_of_cell? w _ hw106_7)).trans hw106_7), ((HB.out.cell (World.block_lt_of_cell? w _ hw106_8)).trans hw106_8), ((HB.out.cell (World.block_lt_of_cell? w _ hw106_9)).trans hw106_9), ((HB.out.cell (World.block_lt_of_cell? w _ hw107_0)).trans hw107_0), ((HB.out.cell (World.block_lt_of_cell? w _ hw107_1)).trans hw107_1), ((HB.out.cell (World.block_lt_of_cell? w _ hw107_2)).trans hw107_2), ((HB.out.cell (World.block_lt_of_cell? w _ hw107_3)).trans hw107_3), ((HB.out.cell (World.block_lt_of_cell? w _ hw107_4)).trans hw107_4), ((HB.out.cell (World.block_lt_of_cell? w _ hw107_5)).trans hw107_5), ((HB.out.cell (World.block_lt_of_cell? w _ hw107_6)).trans hw107_6), ((HB.out.cell (World.block_lt_of_cell? w _ hw107_7)).trans hw107_7), ((HB.out.cell (World.block_lt_of_cell? w _ hw107_8)).trans hw107_8), ((HB.out.cell (World.block_lt_of_cell? w _ hw107_9)).trans hw107_9)⟩ (fun hHeld => ?_)
                clear hK K
                refine norm_ (a' := ?_) ?_ ?_
                rotate_left
                · show Act.put _ (some 25) _ = _
                  simp only [Act.put, List.setIfInBounds_toArray, List.set_cons_zero, List.set_cons_succ, i64_w, i32_w]
                  rfl
                refine pure_ (i := 9) (N := some 26) (v := ?_) (a' := ?_) #[true, true, true, true, true, true, true, true, true, true] rfl rfl (any_of HT_.out (by kernel_rfl)) (fun _ _ _ h => h) (Or.inl ⟨by rfl, ?_⟩) ?_ ?_
                rotate_left
                · intro w'
                  go_simp
                  with_reducible rfl
                rotate_left
                · simp only [Act.put, List.setIfInBounds_toArray, List.set_cons_zero, List.set_cons_succ, i64_w, i32_w]
                  rfl
                refine done_ (done_of HT_.out (by kernel_rfl)) ?_
                try go_wp2
                go_roundg k1
                case measure => have := HK1.out; omega
                case rel => exact ⟨(wrap64 (x5_1 + 1)), (by first | rfl | (simp; done) | (simp [*]; done)), H', ⟨by have := HK1.out; omega⟩, ⟨by repeat (first | (with_reducible first | exact HB.out | apply below_alloc | apply pw_below_drewN | apply below_drew1) | exact HB.out)⟩⟩
              · replace c8 := Bool.eq_false_iff.mpr c8
                subst c8
                have H1 : (some false) = some r := by rw [if_neg (show ¬ (false = true) by decide)] at H; exact H
                clear H
                have H := H1
                clear H1
                obtain rfl := Option.some.inj H
                try go_wp2
                have n0_ := Aside0.mk (below_drew1 HB.out)
                clear HB
                have HB := n0_
                clear n0_
                have p106 : 0 ≤ (x5_1 : Int) := of_decide_eq_true (by first | (with_reducible assumption) | assumption)
                have q106 : x5_1 < (l0.length : Int) := of_decide_eq_true (by first | (with_reducible assumption) | assumption)
                obtain ⟨ad106, A106_9, c106_9, e106, hx106_0, hx106_1, hx106_2, hx106_3, hx106_4, hx106_5, hx106_6, hx106_7, hx106_8, hx106_9, hl106_9, hi106_9⟩ := at_T32 HR0.out x5_1 p106 q106
                have hw106_9 := hx106_9
                have hw106_8 := hx106_8
                have hw106_7 := hx106_7
                have hw106_6 := hx106_6
                have hw106_5 := hx106_5
                have hw106_4 := hx106_4
                have hw106_3 := hx106_3
                have hw106_2 := hx106_2
                have hw106_1 := hx106_1
                have hw106_0 := hx106_0
                cases e106
                replace hx106_0 := (HB.out.cell (World.block_lt_of_cell? w _ hx106_0)).trans hx106_0
                replace hx106_1 := (HB.out.cell (World.block_lt_of_cell? w _ hx106_1)).trans hx106_1
                replace hx106_2 := (HB.out.cell (World.block_lt_of_cell? w _ hx106_2)).trans hx106_2
                replace hx106_3 := (HB.out.cell (World.block_lt_of_cell? w _ hx106_3)).trans hx106_3
                replace hx106_4 := (HB.out.cell (World.block_lt_of_cell? w _ hx106_4)).trans hx106_4
                replace hx106_5 := (HB.out.cell (World.block_lt_of_cell? w _ hx106_5)).trans hx106_5
                replace hx106_6 := (HB.out.cell (World.block_lt_of_cell? w _ hx106_6)).trans hx106_6
                replace hx106_7 := (HB.out.cell (World.block_lt_of_cell? w _ hx106_7)).trans hx106_7
                replace hx106_8 := (HB.out.cell (World.block_lt_of_cell? w _ hx106_8)).trans hx106_8
                replace hx106_9 := (HB.out.cell (World.block_lt_of_cell? w _ hx106_9)).trans hx106_9
                have HR106_9 := Aside0.mk hi106_9
                have HC106_9 := Aside0.mk hl106_9
                clear hi106_9 hl106_9
                replace p106 := eq_true p106
                replace q106 := eq_true q106
                have p107 : 0 ≤ (x5_1 : Int) := of_decide_eq_true (by first | (with_reducible assumption) | assumption)
                have q107 : x5_1 < (l1.length : Int) := of_decide_eq_true (by first | (with_reducible assumption) | assumption)
                obtain ⟨ad107, A107_9, c107_9, e107, hx107_0, hx107_1, hx107_2, hx107_3, hx107_4, hx107_5, hx107_6, hx107_7, hx107_8, hx107_9, hl107_9, hi107_9⟩ := at_T52 HR1.out x5_1 p107 q107
                have hw107_9 := hx107_9
                have hw107_8 := hx107_8
                have hw107_7 := hx107_7
                have hw107_6 := hx107_6
                have hw107_5 := hx107_5
                have hw107_4 := hx107_4
                have hw107_3 := hx107_3
                have hw107_2 := hx107_2
                have hw107_1 := hx107_1
                have hw107_0 := hx107_0
                cases e107
                replace hx107_0 := (HB.out.cell (World.block_lt_of_cell? w _ hx107_0)).trans hx107_0
                replace hx107_1 := (HB.out.cell (World.block_lt_of_cell? w _ hx107_1)).trans hx107_1
                replace hx107_2 := (HB.out.cell (World.block_lt_of_cell? w _ hx107_2)).trans hx107_2
                replace hx107_3 := (HB.out.cell (World.block_lt_of_cell? w _ hx107_3)).trans hx107_3
                replace hx107_4 := (HB.out.cell (World.block_lt_of_cell? w _ hx107_4)).trans hx107_4
                replace hx107_5 := (HB.out.cell (World.block_lt_of_cell? w _ hx107_5)).trans hx107_5
                replace hx107_6 := (HB.out.cell (World.block_lt_of_cell? w _ hx107_6)).trans hx107_6
                replace hx107_7 := (HB.out.cell (World.block_lt_of_cell? w _ hx107_7)).trans hx107_7
                replace hx107_8 := (HB.out.cell (World.block_lt_of_cell? w _ hx107_8)).trans hx107_8
                replace hx107_9 := (HB.out.cell (World.block_lt_of_cell? w _ hx107_9)).trans hx107_9
                have HR107_9 := Aside0.mk hi107_9
                have HC107_9 := Aside0.mk hl107_9
                clear hi107_9 hl107_9
                replace p107 := eq_true p107
                replace q107 := eq_true q107
                refine start_ (n := 10) (S := fun w' => w'.cell? (ad106.add ((x5_1).toNat * 10)) = some (.int .i64 ((rd_T32 l0 x5_1).f0.f0.f0)) ∧ w'.cell? ⟨(ad106.add ((x5_1).toNat * 10)).block, (ad106.add ((x5_1).toNat * 10)).off + 1, none⟩ = some (.int .i64 ((rd_T32 l0 x5_1).f0.f0.f1)) ∧ w'.cell? ⟨(ad106.add ((x5_1).toNat * 10)).block, (ad106.add ((x5_1).toNat * 10)).off + 2, none⟩ = some (.int .i64 ((rd_T32 l0 x5_1).f0.f0.f2)) ∧ w'.cell? ⟨(ad106.add ((x5_1).toNat * 10)).block, (ad106.add ((x5_1).toNat * 10)).off + 3, none⟩ = some (.int .i64 ((rd_T32 l0 x5_1).f0.f1)) ∧ w'.cell? ⟨(ad106.add ((x5_1).toNat * 10)).block, (ad106.add ((x5_1).toNat * 10)).off + 4, none⟩ = some (.int .i64 ((rd_T32 l0 x5_1).f0.f2)) ∧ w'.cell? ⟨(ad106.add ((x5_1).toNat * 10)).block, (ad106.add ((x5_1).toNat * 10)).off + 5, none⟩ = some (.int .i64 ((rd_T32 l0 x5_1).f0.f3)) ∧ w'.cell? ⟨(ad106.add ((x5_1).toNat * 10)).block, (ad106.add ((x5_1).toNat * 10)).off + 6, none⟩ = some (.int .i64 ((rd_T32 l0 x5_1).f1)) ∧ w'.cell? ⟨(ad106.add ((x5_1).toNat * 10)).block, (ad106.add ((x5_1).toNat * 10)).off + 7, none⟩ = some (.int .i64 ((rd_T32 l0 x5_1).f2)) ∧ w'.cell? ⟨(ad106.add ((x5_1).toNat * 10)).block, (ad106.add ((x5_1).toNat * 10)).off + 8, none⟩ = some (.int .i64 ((rd_T32 l0 x5_1).f3)) ∧ w'.cell? ⟨(ad106.add ((x5_1).toNat * 10)).block, (ad106.add ((x5_1).toNat * 10)).off + 9, none⟩ = some (.slice A106_9 ((rd_T32 l0 x5_1).f4).length c106_9) ∧ w'.cell? (ad107.add ((x5_1).toNat * 10)) = some (.int .i64 ((rd_T52 l1 x5_1).f0.f0.f0)) ∧ w'.cell? ⟨(ad107.add ((x5_1).toNat * 10)).block, (ad107.add ((x5_1).toNat * 10)).off + 1, none⟩ = some (.int .i64 ((rd_T52 l1 x5_1).f0.f0.f1)) ∧ w'.cell? ⟨(ad107.add ((x5_1).toNat * 10)).block, (ad107.add ((x5_1).toNat * 10)).off + 2, none⟩ = some (.int .i64 ((rd_T52 l1 x5_1).f0.f0.f2)) ∧ w'.cell? ⟨(ad107.add ((x5_1).toNat * 10)).block, (ad107.add ((x5_1).toNat * 10)).off + 3, none⟩ = some (.int .i64 ((rd_T52 l1 x5_1).f0.f1)) ∧ w'.cell? ⟨(ad107.add ((x5_1).toNat * 10)).block, (ad107.add ((x5_1).toNat * 10)).off + 4, none⟩ = some (.int .i64 ((rd_T52 l1 x5_1).f0.f2)) ∧ w'.cell? ⟨(ad107.add ((x5_1).toNat * 10)).block, (ad107.add ((x5_1).toNat * 10)).off + 5, none⟩ = some (.int .i64 ((rd_T52 l1 x5_1).f0.f3)) ∧ w'.cell? ⟨(ad107.add ((x5_1).toNat * 10)).block, (ad107.add ((x5_1).toNat * 10)).off + 6, none⟩ = some (.int .i64 ((rd_T52 l1 x5_1).f1)) ∧ w'.cell? ⟨(ad107.add ((x5_1).toNat * 10)).block, (ad107.add ((x5_1).toNat * 10)).off + 7, none⟩ = some (.int .i64 ((rd_T52 l1 x5_1).f2)) ∧ w'.cell? ⟨(ad107.add ((x5_1).toNat * 10)).block, (ad107.add ((x5_1).toNat * 10)).off + 8, none⟩ = some (.int .i64 ((rd_T52 l1 x5_1).f3)) ∧ w'.cell? ⟨(ad107.add ((x5_1).toNat * 10)).block, (ad107.add ((x5_1).toNat * 10)).off + 9, none⟩ = some (.slice A107_9 ((rd_T52 l1 x5_1).f4).length c107_9)) (ds := []) #[false, false, false, false, false, false, false, false, false, false] (by kernel_rfl) rfl rfl ⟨((HB.out.cell (World.block_lt_of_cell? w _ hw106_0)).trans hw106_0), ((HB.out.cell (World.block_lt_of_cell? w _ hw106_1)).trans hw106_1), ((HB.out.cell (World.block_lt_of_cell? w _ hw106_2)).trans hw106_2), ((HB.out.cell (World.block_lt_of_cell? w _ hw106_3)).trans hw106_3), ((HB.out.cell (World.block_lt_of_cell? w _ hw106_4)).trans hw106_4), ((HB.out.cell (World.block_lt_of_cell? w _ hw106_5)).trans hw106_5), ((HB.out.cell (World.block_lt_of_cell? w _ hw106_6)).trans hw106_6), ((HB.out.cell (World.block_lt_of_cell? w _ hw106_7)).trans hw106_7), ((HB.out.cell (World.block_lt_of_cell? w _ hw106_8)).trans hw106_8), ((HB.out.cell (World.block_lt_of_cell? w _ hw106_9)).trans hw106_9), ((HB.out.cell (World.block_lt_of_cell? w _ hw107_0)).trans hw107_0), ((HB.out.cell (World.block_lt_of_cell? w _ hw107_1)).trans hw107_1), ((HB.out.cell (World.block_lt_of_cell? w _ hw107_2)).trans hw107_2), ((HB.out.cell (World.block_lt_of_cell? w _ hw107_3)).trans hw107_3), ((HB.out.cell (World.block_lt_of_cell? w _ hw107_4)).trans hw107_4), ((HB.out.cell (World.block_lt_of_cell? w _ hw107_5)).trans hw107_5), ((HB.out.cell (World.block_lt_of_cell? w _ hw107_6)).trans hw107_6), ((HB.out.cell (World.block_lt_of_cell? w _ hw107_7)).trans hw107_7), ((HB.out.cell (World.block_lt_of_cell? w _ hw107_8)).trans hw107_8), ((HB.out.cell (World.block_lt_of_cell? w _ hw107_9)).trans hw107_9)⟩ (fun hHeld => ?_); refine with_tabW pacelinelaw13_same.tab6 pacelinelaw13_same.bits6 (fun HT_ HW_ => ?_)
                generalize wr.drew = w11 at HB HR106_9 HR107_9 hx106_0 hx106_1 hx106_2 hx106_3 hx106_4 hx106_5 hx106_6 hx106_7 hx106_8 hx106_9 hx107_0 hx107_1 hx107_2 hx107_3 hx107_4 hx107_5 hx107_6 hx107_7 hx107_8 hx107_9 hHeld ⊢
                refine pure_ (i := 0) (N := some 17) (v := ?_) (a' := ?_) #[true, false, false, false, false, false, false, false, false, false] rfl rfl (any_of HT_.out (by kernel_rfl)) (fun _ _ _ h => h) (Or.inl ⟨by rfl, ?_⟩) ?_ ?_
                rotate_left
                · intro w'
                  go_simp
                  with_reducible rfl
                rotate_left
                · simp only [Act.put, List.setIfInBounds_toArray, List.set_cons_zero, List.set_cons_succ, i64_w, i32_w]
                  rfl
                refine pure_ (i := 1) (N := some 18) (v := ?_) (a' := ?_) #[true, true, false, false, false, false, false, false, false, false] rfl rfl (any_of HT_.out (by kernel_rfl)) (fun _ _ _ h => h) (Or.inl ⟨by rfl, ?_⟩) ?_ ?_
                rotate_left
                · intro w'
                  go_simp
                  with_reducible rfl
                rotate_left
                · simp only [Act.put, List.setIfInBounds_toArray, List.set_cons_zero, List.set_cons_succ, i64_w, i32_w]
                  rfl
                refine pure_ (i := 2) (N := some 19) (v := ?_) (a' := ?_) #[true, true, true, false, false, false, false, false, false, false] rfl rfl (any_of HT_.out (by kernel_rfl)) (fun _ _ _ h => h) (Or.inl ⟨by rfl, ?_⟩) ?_ ?_
                rotate_left
                · intro w'
                  go_simp
                  with_reducible rfl
                rotate_left
                · simp only [Act.put, List.setIfInBounds_toArray, List.set_cons_zero, List.set_cons_succ, i64_w, i32_w]
                  rfl
                refine pure_ (i := 4) (N := some 21) (v := ?_) (a' := ?_) #[true, true, true, false, true, false, false, false, false, false] rfl rfl (any_of HT_.out (by kernel_rfl)) (fun _ _ _ h => h) (Or.inl ⟨by rfl, ?_⟩) ?_ ?_
                rotate_left
                · intro w'
                  go_simp
                  with_reducible rfl
                rotate_left
                · simp only [Act.put, List.setIfInBounds_toArray, List.set_cons_zero, List.set_cons_succ, i64_w, i32_w]
                  rfl
                refine pure_ (i := 5) (N := some 22) (v := ?_) (a' := ?_) #[true, true, true, false, true, true, false, false, false, false] rfl rfl (any_of HT_.out (by kernel_rfl)) (fun _ _ _ h => h) (Or.inl ⟨by rfl, ?_⟩) ?_ ?_
                rotate_left
                · intro w'
                  go_simp
                  with_reducible rfl
                rotate_left
                · simp only [Act.put, List.setIfInBounds_toArray, List.set_cons_zero, List.set_cons_succ, i64_w, i32_w]
                  rfl
                refine pure_ (i := 6) (N := some 23) (v := ?_) (a' := ?_) #[true, true, true, false, true, true, true, false, false, false] rfl rfl (any_of HT_.out (by kernel_rfl)) (fun _ _ _ h => h) (Or.inl ⟨by rfl, ?_⟩) ?_ ?_
                rotate_left
                · intro w'
                  go_simp
                  with_reducible rfl
                rotate_left
                · simp only [Act.put, List.setIfInBounds_toArray, List.set_cons_zero, List.set_cons_succ, i64_w, i32_w]
                  rfl
                refine take_ (i := 3) (N := some 20) (v := ?_) (a' := ?_) #[true, true, true, true, true, true, true, false, false, false] rfl rfl (take_ofW HT_.out HW_.out (by kernel_rfl)) (fun _ _ _ h => h) (Or.inl ⟨by rfl, ?_⟩) hHeld ?_ ?_
                rotate_left
                · rintro w' ⟨s0, s1, s2, s3, s4, s5, s6, s7, s8, s9, s10, s11, s12, s13, s14, s15, s16, s17, s18, s19⟩
                  go_simp
                  with_reducible rfl
                rotate_left
                · simp only [Act.put, List.setIfInBounds_toArray, List.set_cons_zero, List.set_cons_succ, i64_w, i32_w]
                  rfl
                refine take_ (i := 7) (N := some 24) (v := ?_) (a' := ?_) #[true, true, true, true, true, true, true, true, false, false] rfl rfl (take_ofW HT_.out HW_.out (by kernel_rfl)) (fun _ _ _ h => h) (Or.inl ⟨by rfl, ?_⟩) hHeld ?_ ?_
                rotate_left
                · rintro w' ⟨s0, s1, s2, s3, s4, s5, s6, s7, s8, s9, s10, s11, s12, s13, s14, s15, s16, s17, s18, s19⟩
                  go_simp
                  with_reducible rfl
                rotate_left
                · simp only [Act.put, List.setIfInBounds_toArray, List.set_cons_zero, List.set_cons_succ, i64_w, i32_w]
                  rfl
                refine one_ (i := 8) (N := some 25) #[true, true, true, true, true, true, true, true, true, false] rfl rfl (one_of HT_.out (by kernel_rfl)) (by decide) (fun K hK => ?_)
                refine goes_ Try.func25 (by kernel_rfl) rfl #[.agg #[.int .i64 ((rd_T32 l0 x5_1).f0.f0.f0), .int .i64 ((rd_T32 l0 x5_1).f0.f0.f1), .int .i64 ((rd_T32 l0 x5_1).f0.f0.f2), .int .i64 ((rd_T32 l0 x5_1).f0.f1), .int .i64 ((rd_T32 l0 x5_1).f0.f2), .int .i64 ((rd_T32 l0 x5_1).f0.f3), .int .i64 ((rd_T32 l0 x5_1).f1), .int .i64 ((rd_T32 l0 x5_1).f2), .int .i64 ((rd_T32 l0 x5_1).f3), .slice A106_9 ((rd_T32 l0 x5_1).f4).length c106_9], .agg #[.int .i64 ((rd_T52 l1 x5_1).f0.f0.f0), .int .i64 ((rd_T52 l1 x5_1).f0.f0.f1), .int .i64 ((rd_T52 l1 x5_1).f0.f0.f2), .int .i64 ((rd_T52 l1 x5_1).f0.f1), .int .i64 ((rd_T52 l1 x5_1).f0.f2), .int .i64 ((rd_T52 l1 x5_1).f0.f3), .int .i64 ((rd_T52 l1 x5_1).f1), .int .i64 ((rd_T52 l1 x5_1).f2), .int .i64 ((rd_T52 l1 x5_1).f3), .slice A107_9 ((rd_T52 l1 x5_1).f4).length c107_9]] (by rfl) rfl rfl (by (try simp only [List.map_toArray, List.map_cons, List.map_nil]); first | done | rfl | (simp only [List.length_drop, List.length_take]; rfl)) ?_
                with_reducible refine (pacelinelaw13_sameEntry.calls k1 ((rd_T32 l0 x5_1).f0.f0.f0) ((rd_T32 l0 x5_1).f0.f0.f1) ((rd_T32 l0 x5_1).f0.f0.f2) ((rd_T32 l0 x5_1).f0.f1) ((rd_T32 l0 x5_1).f0.f2) ((rd_T32 l0 x5_1).f0.f3) ((rd_T32 l0 x5_1).f1) ((rd_T32 l0 x5_1).f2) ((rd_T32 l0 x5_1).f3) _ _ ((rd_T32 l0 x5_1).f4) ((rd_T52 l1 x5_1).f0.f0.f0) ((rd_T52 l1 x5_1).f0.f0.f1) ((rd_T52 l1 x5_1).f0.f0.f2) ((rd_T52 l1 x5_1).f0.f1) ((rd_T52 l1 x5_1).f0.f2) ((rd_T52 l1 x5_1).f0.f3) ((rd_T52 l1 x5_1).f1) ((rd_T52 l1 x5_1).f2) ((rd_T52 l1 x5_1).f3) _ _ ((rd_T52 l1 x5_1).f4) false _ ?side1 ?side2 ?side3 ?side4 A7.out).mono ?_
                (case side1 => repeat (first | exact (Kd.C_below HR106_9.out HB.out) | (with_reducible refine Kd.C_alloc ?_ _) | (with_reducible refine Kd.C_drewN ?_ _) | (with_reducible refine Kd.C_drew ?_)))
                (case side2 => exact HC106_9.out)
                (case side3 => repeat (first | exact (Kd.C_below HR107_9.out HB.out) | (with_reducible refine Kd.C_alloc ?_ _) | (with_reducible refine Kd.C_drewN ?_ _) | (with_reducible refine Kd.C_drew ?_)))
                (case side4 => exact HC107_9.out)
                rintro e w12 ⟨rfl, hb⟩
                refine ⟨_, rfl, ?_⟩
                have n0_ := Aside0.mk (below_step (by repeat (first | (with_reducible first | exact HB.out | apply below_alloc | apply pw_below_drewN | apply below_drew1) | exact HB.out)) hb)
                clear HB
                have HB := n0_
                clear n0_
                (try clear hb)
                (try clear hb2)
                (try clear hk)
                (try clear hi)
                refine hK.out _ _ ⟨((HB.out.cell (World.block_lt_of_cell? w _ hw106_0)).trans hw106_0), ((HB.out.cell (World.block_lt_of_cell? w _ hw106_1)).trans hw106_1), ((HB.out.cell (World.block_lt_of_cell? w _ hw106_2)).trans hw106_2), ((HB.out.cell (World.block_lt_of_cell? w _ hw106_3)).trans hw106_3), ((HB.out.cell (World.block_lt_of_cell? w _ hw106_4)).trans hw106_4), ((HB.out.cell (World.block_lt_of_cell? w _ hw106_5)).trans hw106_5), ((HB.out.cell (World.block_lt_of_cell? w _ hw106_6)).trans hw106_6), ((HB.out.cell (World.block_lt_of_cell? w _ hw106_7)).trans hw106_7), ((HB.out.cell (World.block_lt_of_cell? w _ hw106_8)).trans hw106_8), ((HB.out.cell (World.block_lt_of_cell? w _ hw106_9)).trans hw106_9), ((HB.out.cell (World.block_lt_of_cell? w _ hw107_0)).trans hw107_0), ((HB.out.cell (World.block_lt_of_cell? w _ hw107_1)).trans hw107_1), ((HB.out.cell (World.block_lt_of_cell? w _ hw107_2)).trans hw107_2), ((HB.out.cell (World.block_lt_of_cell? w _ hw107_3)).trans hw107_3), ((HB.out.cell (World.block_lt_of_cell? w _ hw107_4)).trans hw107_4), ((HB.out.cell (World.block_lt_of_cell? w _ hw107_5)).trans hw107_5), ((HB.out.cell (World.block_lt_of_cell? w _ hw107_6)).trans hw107_6), ((HB.out.cell (World.block_lt_of_cell? w _ hw107_7)).trans hw107_7), ((HB.out.cell (World.block_lt_of_cell? w _ hw107_8)).trans hw107_8), ((HB.out.cell (World.block_lt_of_cell? w _ hw107_9)).trans hw107_9)⟩ (fun hHeld => ?_)
                clear hK K
                refine norm_ (a' := ?_) ?_ ?_
                rotate_left
                · show Act.put _ (some 25) _ = _
                  simp only [Act.put, List.setIfInBounds_toArray, List.set_cons_zero, List.set_cons_succ, i64_w, i32_w]
                  rfl
                refine pure_ (i := 9) (N := some 26) (v := ?_) (a' := ?_) #[true, true, true, true, true, true, true, true, true, true] rfl rfl (any_of HT_.out (by kernel_rfl)) (fun _ _ _ h => h) (Or.inl ⟨by rfl, ?_⟩) ?_ ?_
                rotate_left
                · intro w'
                  go_simp
                  with_reducible rfl
                rotate_left
                · simp only [Act.put, List.setIfInBounds_toArray, List.set_cons_zero, List.set_cons_succ, i64_w, i32_w]
                  rfl
                refine done_ (done_of HT_.out (by kernel_rfl)) ?_
                try go_wp2
                go_ret
                exact ⟨by first | rfl | (simp [errW_none, errW_some] <;> rfl) | (simp [*, errW_none, errW_some] <;> rfl), by repeat (first | (with_reducible first | exact HB.out | apply below_alloc | apply pw_below_drewN | apply below_drew1) | exact HB.out)⟩
            · rw [if_neg c6] at H
              exact absurd H (by simp)
          · rw [if_neg c5] at H
            exact absurd H (by simp)
        · rw [if_neg c4] at H
          have c4b0 : decide (x5_1 < (l0.length : Int)) = false := decide_eq_false c4
          clear c4
          obtain rfl := Option.some.inj H
          go_wp2
          go_ret
          exact ⟨by first | rfl | (simp [errW_none, errW_some] <;> rfl) | (simp [*, errW_none, errW_some] <;> rfl), by repeat (first | (with_reducible first | exact HB.out | apply below_alloc | apply pw_below_drewN | apply below_drew1) | exact HB.out)⟩
  · rw [if_neg c3] at H
    have c3b0 : ((l0.length : Int) == (l1.length : Int)) = false := beq_eq_false_iff_ne.mpr c3
    have c3b1 : ((l0.length : Int) != (l1.length : Int)) = true := bne_iff_ne.mpr c3
    have c3b2 : (l0.length == l1.length) = false := by first | simpa using c3 | (simp at c3 ⊢; omega)
    obtain rfl := Option.some.inj H
    go_enter Try.func19, Try.ntmps19
    go_wp2
    go_ret
    exact ⟨by first | rfl | (simp [errW_none, errW_some] <;> rfl) | (simp [*, errW_none, errW_some] <;> rfl), by repeat (first | (with_reducible first | exact HB.out | apply below_alloc | apply pw_below_drewN | apply below_drew1) | exact HB.out)⟩

-- pacelinelaw13_PastScript: function 7: by hand

end Go.Proofs.Ytemedggbodkhcaa.XPastScript
