/- Functions of the given program as plain Lean functions, each with a proof that its call comes to what the function says; printed by a program of this session out of the kit's print and contracts proved by hand. -/
import Derived.Test.YtmjjejjlfkigjaaXGrantFreex0
import Derived.Test.YtmjjejjlfkigjaaXGrantFreex1
namespace Go.Proofs.Ytmjjejjlfkigjaa.XGrantFree
open Go.Proofs.Ytmjjejjlfkigjaa.Ext Go.Proofs.Ytmjjejjlfkigjaa.Plain
open Go.RowKit Go.Proofs.YtmjjejjlfkigjaaW.PrintWords Go.Proofs.YtmjjejjlfkigjaaW.PrintLast Go.Proofs.YtmjjejjlfkigjaaW.PrintMore
attribute [local go_sem] max2_int min2_int max_two min_two max_three min_three max_four min_four   -- for this text's walks alone
set_option linter.unusedVariables false
set_option linter.unusedSimpArgs false

/-! ### pacelinelaw19_GrantFree: function 7 -/
mutual
def pacelinelaw19_GrantFree.l0 : Nat → Int → Int → List Int → List Int → Int → Option (Bool)
  | 0, _, _, _, _, _ => none
  | k + 1, x0, x1, x7, x8, x9 => if x9 < (x7.length : Int) then (if 0 ≤ x9 then (if (rd x7 x9) ≥ (wrap64 (x1)) then (if x8.length < 17592186044416 then (pacelinelaw19_GrantFree.l0 k x0 x1 x7 (x8 ++ [rd x7 x9]) (wrap64 (x9 + 1))) else (none)) else (pacelinelaw19_GrantFree.l0 k x0 x1 x7 x8 (wrap64 (x9 + 1)))) else (none)) else ((grant_Decide.f 1 (mx (wrap64 (x0)) (wrap64 (x1))) (wrap64 (x1)) 1125899906842624 x8).bind fun bt129 => ((grant_Decide.f 2 (mx (wrap64 (x0)) (wrap64 (x1))) (wrap64 (x1)) 1125899906842624 x8).bind fun bt132 => (if bt129.1 = true then (if bt132.1 = true then (pacelinelaw19_GrantFree.j1 k x8 (mx (wrap64 (x0)) (wrap64 (x1))) bt129.2.2 bt132.2.1 bt132.2.2 (bt129.2.1 != (mx (wrap64 (x0)) (wrap64 (x1))))) else (pacelinelaw19_GrantFree.j1 k x8 (mx (wrap64 (x0)) (wrap64 (x1))) bt129.2.2 bt132.2.1 bt132.2.2 true)) else (pacelinelaw19_GrantFree.j1 k x8 (mx (wrap64 (x0)) (wrap64 (x1))) bt129.2.2 bt132.2.1 bt132.2.2 true))))
def pacelinelaw19_GrantFree.j1 : Nat → List Int → Int → Int → Int → Int → Bool → Option (Bool)
  | 0, _, _, _, _, _, _ => none
  | k + 1, x8, x10, x13, x15, x16, x77 => if x77 = true then (some false) else (pacelinelaw19_GrantFree.l1 k x8 x10 x13 x15 x16 0)
def pacelinelaw19_GrantFree.l1 : Nat → List Int → Int → Int → Int → Int → Int → Option (Bool)
  | 0, _, _, _, _, _, _ => none
  | k + 1, x8, x10, x13, x15, x16, x17 => if x17 < (x8.length : Int) then (if 0 ≤ x17 then (if ((decide (x17 < x13)) != (decide ((rd x8 x17) ≤ x10))) = true then (some false) else (pacelinelaw19_GrantFree.l1 k x8 x10 x13 x15 x16 (wrap64 (x17 + 1)))) else (none)) else (if (x8.length : Int) > 0 then (if 0 < (x8.length : Int) then (if (rd x8 0) ≤ x10 then (if x15 = (rd x8 0) then (if x16 ≥ 1 then (if x16 ≤ x13 then (if x16 = (x8.length : Int) then (some true) else (if 0 ≤ x16 then (if x16 < (x8.length : Int) then (some (decide ((rd x8 x16) > (rd x8 0)))) else (none)) else (none))) else (some false)) else (some false)) else (some false)) else (if x15 = x10 then (if x16 = 0 then (some (x13 == 0)) else (some false)) else (some false))) else (none)) else (if x15 = x10 then (if x16 = 0 then (some (x13 == 0)) else (some false)) else (some false)))
end
def pacelinelaw19_GrantFree.f (k : Nat) (a0 : Int) (a1 : Int) (l2 : List Int) : Option (Bool) := if (l2.length : Int) > 4096 then (some true) else ((pacelinelaw19_rising.f k l2).bind fun t118 => (pacelinelaw19_GrantFree.l0 k a0 a1 t118 (([] : List Int)) 0))
theorem pacelinelaw19_GrantFree.mono_l : ∀ k, (∀ y0 y1 y2 y3 y4, LeO (pacelinelaw19_GrantFree.l0 k y0 y1 y2 y3 y4) (pacelinelaw19_GrantFree.l0 (k + 1) y0 y1 y2 y3 y4)) ∧ (∀ y0 y1 y2 y3 y4 y5, LeO (pacelinelaw19_GrantFree.j1 k y0 y1 y2 y3 y4 y5) (pacelinelaw19_GrantFree.j1 (k + 1) y0 y1 y2 y3 y4 y5)) ∧ (∀ y0 y1 y2 y3 y4 y5, LeO (pacelinelaw19_GrantFree.l1 k y0 y1 y2 y3 y4 y5) (pacelinelaw19_GrantFree.l1 (k + 1) y0 y1 y2 y3 y4 y5))
  | 0 => ⟨fun _ _ _ _ _ r h => by simp [pacelinelaw19_GrantFree.l0] at h, fun _ _ _ _ _ _ r h => by simp [pacelinelaw19_GrantFree.j1] at h, fun _ _ _ _ _ _ r h => by simp [pacelinelaw19_GrantFree.l1] at h⟩
  | k + 1 => by
    obtain ⟨ih0, ih1, ih2⟩ := pacelinelaw19_GrantFree.mono_l k
    refine ⟨?_, ?_, ?_⟩
    · intro y0 y1 y2 y3 y4
      unfold pacelinelaw19_GrantFree.l0
      repeat' first
      | (with_reducible exact ih0 _ _ _ _ _)
      | (with_reducible exact ih1 _ _ _ _ _ _)
      | (with_reducible exact ih2 _ _ _ _ _ _)
      | (with_reducible exact pacelinelaw19_rising.mono _ _)
      | (with_reducible exact LeO.refl _)
      | (with_reducible exact LeO.none _)
      | (with_reducible refine LeO.ite ?_ ?_)
      | (with_reducible refine LeO.bind ?_ (fun _ => ?_))
      | exact ih0 _ _ _ _ _
      | exact ih1 _ _ _ _ _ _
      | exact ih2 _ _ _ _ _ _
      | exact pacelinelaw19_rising.mono _ _
      | exact LeO.none _
      | refine LeO.ite ?_ ?_
      | refine LeO.bind ?_ (fun _ => ?_)
    · intro y0 y1 y2 y3 y4 y5
      unfold pacelinelaw19_GrantFree.j1
      repeat' first
      | (with_reducible exact ih0 _ _ _ _ _)
      | (with_reducible exact ih1 _ _ _ _ _ _)
      | (with_reducible exact ih2 _ _ _ _ _ _)
      | (with_reducible exact pacelinelaw19_rising.mono _ _)
      | (with_reducible exact LeO.refl _)
      | (with_reducible exact LeO.none _)
      | (with_reducible refine LeO.ite ?_ ?_)
      | (with_reducible refine LeO.bind ?_ (fun _ => ?_))
      | exact ih0 _ _ _ _ _
      | exact ih1 _ _ _ _ _ _
      | exact ih2 _ _ _ _ _ _
      | exact pacelinelaw19_rising.mono _ _
      | exact LeO.none _
      | refine LeO.ite ?_ ?_
      | refine LeO.bind ?_ (fun _ => ?_)
    · intro y0 y1 y2 y3 y4 y5
      unfold pacelinelaw19_GrantFree.l1
      repeat' first
      | (with_reducible exact ih0 _ _ _ _ _)
      | (with_reducible exact ih1 _ _ _ _ _ _)
      | (with_reducible exact ih2 _ _ _ _ _ _)
      | (with_reducible exact pacelinelaw19_rising.mono _ _)
      | (with_reducible exact LeO.refl _)
      | (with_reducible exact LeO.none _)
      | (with_reducible refine LeO.ite ?_ ?_)
      | (with_reducible refine LeO.bind ?_ (fun _ => ?_))
      | exact ih0 _ _ _ _ _
      | exact ih1 _ _ _ _ _ _
      | exact ih2 _ _ _ _ _ _
      | exact pacelinelaw19_rising.mono _ _
      | exact LeO.none _
      | refine LeO.ite ?_ ?_
      | refine LeO.bind ?_ (fun _ => ?_)
theorem pacelinelaw19_GrantFree.mono : ∀ a0 a1 a2 k, LeO (pacelinelaw19_GrantFree.f k a0 a1 a2) (pacelinelaw19_GrantFree.f (k + 1) a0 a1 a2) := by
  intro a0 a1 a2 k
  obtain ⟨ih0, ih1, ih2⟩ := pacelinelaw19_GrantFree.mono_l k
  unfold pacelinelaw19_GrantFree.f
  repeat' first
      | (with_reducible exact ih0 _ _ _ _ _)
      | (with_reducible exact ih1 _ _ _ _ _ _)
      | (with_reducible exact ih2 _ _ _ _ _ _)
      | (with_reducible exact pacelinelaw19_rising.mono _ _)
      | (with_reducible exact LeO.refl _)
      | (with_reducible exact LeO.none _)
      | (with_reducible refine LeO.ite ?_ ?_)
      | (with_reducible refine LeO.bind ?_ (fun _ => ?_))
      | exact ih0 _ _ _ _ _
      | exact ih1 _ _ _ _ _ _
      | exact ih2 _ _ _ _ _ _
      | exact pacelinelaw19_rising.mono _ _
      | exact LeO.none _
      | refine LeO.ite ?_ ?_
      | refine LeO.bind ?_ (fun _ => ?_)
set_option maxHeartbeats 8000000 in
set_option maxRecDepth 100000 in
theorem pacelinelaw19_GrantFree.calls (k : Nat) (a0 : Int) (a1 : Int) (A2 : Option Addr) (c2 : Nat) (l2 : List Int) (r : Bool) (w : World) (hr2 : Kd.C (Kd.int .i64) w A2 l2.length l2) (hc2 : l2.length ≤ c2) (h : pacelinelaw19_GrantFree.f k a0 a1 l2 = some r) :
    Calls Try.prog 7 #[.int .u16 a0, .int .u16 a1, .slice A2 l2.length c2] w fun e w' => e = .returned (.bool r) ∧ Below w.heap.size w w' := by
  have HR2 := Aside0.mk hr2
  have HC2 := Aside0.mk hc2
  clear hr2 hc2
  have HB := Aside0.mk (Below.refl w.heap.size w)
  have H : (if (l2.length : Int) > 4096 then (some true) else ((pacelinelaw19_rising.f k l2).bind fun t118 => (pacelinelaw19_GrantFree.l0 k a0 a1 t118 (([] : List Int)) 0))) = some r := h
  clear h
  by_cases c4 : (l2.length : Int) > 4096
  · rw [if_pos c4] at H
    have c4b0 : decide (4096 < (l2.length : Int)) = true := decide_eq_true c4
    have c4b1 : decide (4096 < l2.length) = true := decide_eq_true (by omega)
    clear c4
    obtain rfl := Option.some.inj H
    go_enter Try.func7, Try.ntmps7
    go_wp2
    repeat (go_quiet (fail); try go_wp2)
    go_ret
    exact ⟨by first | rfl | (simp [errW_none, errW_some] <;> rfl) | (simp [*, errW_none, errW_some] <;> rfl), by repeat (first | (with_reducible first | exact HB.out | apply below_alloc | apply pw_below_drewN | apply below_drew1) | exact HB.out)⟩
  · rw [if_neg c4] at H
    have c4b0 : decide (4096 < (l2.length : Int)) = false := decide_eq_false c4
    have c4b1 : decide (4096 < l2.length) = false := decide_eq_false (by omega)
    clear c4
    replace H := Option.bind_eq_some_iff.mp H
    obtain ⟨t118, A50, H⟩ := H
    replace H : (pacelinelaw19_GrantFree.l0 k a0 a1 t118 (([] : List Int)) 0) = some r := H
    have A5 := Aside0.mk A50
    clear A50
    obtain ⟨y121, hy121⟩ : ∃ y_ : List Int, y_ = (([] : List Int)) := ⟨_, rfl⟩
    replace H : (pacelinelaw19_GrantFree.l0 k a0 a1 t118 y121 0) = some r := by first | (rw [hy121]; with_reducible exact H) | (have H2_ := (Option.bind_some _ _).symm.trans H; rw [hy121]; with_reducible exact H2_) | (have H2_ := (Option.bind_some _ _).symm.trans H; with_reducible exact H2_) | with_reducible exact H | (rw [hy121]; exact H) | exact H
    have Ny121 := Aside0.mk hy121
    clear hy121
    have H' := Aside0.mk H
    clear H
    go_enter Try.func7, Try.ntmps7
    go_wp2_with (first | (go_at_call 9; (with_reducible refine (pacelinelaw19_rising.calls k _ _ l2 t118 _ ?side1 ?side2 A5.out).mono ?_); (case side1 => repeat (first | exact HR2.out | (with_reducible refine Kd.C_alloc ?_ _) | (with_reducible refine Kd.C_drewN ?_ _) | (with_reducible refine Kd.C_drew ?_))); (case side2 => exact HC2.out); rintro e w6 ⟨v119, rfl, ho0, hb⟩; have n0_ := Aside0.mk (Kd.R_lower ho0 (below_size (by repeat (first | (with_reducible first | exact HB.out | apply below_alloc | apply pw_below_drewN | apply below_drew1) | exact HB.out)))); have n1_ := Aside0.mk (below_step (by repeat (first | (with_reducible first | exact HB.out | apply below_alloc | apply pw_below_drewN | apply below_drew1) | exact HB.out)) hb); clear HB; have HO120 := n0_; have HB := n1_; clear n0_ n1_; (try clear hb); (try clear hb2); (try clear hk); (try clear hi); (try clear ho0)) | ((with_reducible refine gate_dst (N := 23) rfl ?_); (try (refine gate_guard (by rfl) ?_; dsimp only)); refine Kd.R_lit (Kd.int .i64) _ 3 ?hg (N := 23) ?hd (xs := ([] : List Int)) (inner := []) (ok := fun _ => True) (okp := fun _ => True) ?hr ?hp (fun _ hk => hk) trivial (Below.refl _ _) (Nat.le_refl _) (by simp) ?_; (case hd => rfl); (case hg => rfl); (case hr => first | (go_simp; done) | (go_simp; rfl)); (case hp => exact (Reps.none _ _)); intro v122 w7 ho8 hb hg_ hnew_; clear hg_ hnew_; (first | rw [← Ny121.out] at ho8 | (simp only [Int.reduceToNat] at ho8; rw [← Ny121.out] at ho8)); have n0_ := Aside0.mk (Kd.R_elder' (by (with_reducible repeat (first | apply Kd.R_alloc | apply Kd.R_drewN | apply Kd.R_drew)); exact HO120.out) (Kd.R_base ho8) hb); have n1_ := Aside0.mk (Kd.R_lower (Kd.R_new' ho8 (Kd.R_lt (by (with_reducible repeat (first | apply Kd.R_alloc | apply Kd.R_drewN | apply Kd.R_drew)); exact HO120.out))) (below_size (by repeat (first | (with_reducible first | exact HB.out | apply below_alloc | apply pw_below_drewN | apply below_drew1) | exact HB.out)))); have n2_ := Aside0.mk (below_step (by repeat (first | (with_reducible first | exact HB.out | apply below_alloc | apply pw_below_drewN | apply below_drew1) | exact HB.out)) hb); clear HO120; clear HB; have HO120 := n0_; have HO123 := n1_; have HB := n2_; clear n0_ n1_ n2_; clear hb ho8))
    repeat (go_quiet (first | (go_at_call 9; (with_reducible refine (pacelinelaw19_rising.calls k _ _ l2 t118 _ ?side1 ?side2 A5.out).mono ?_); (case side1 => repeat (first | exact HR2.out | (with_reducible refine Kd.C_alloc ?_ _) | (with_reducible refine Kd.C_drewN ?_ _) | (with_reducible refine Kd.C_drew ?_))); (case side2 => exact HC2.out); rintro e w6 ⟨v119, rfl, ho0, hb⟩; have n0_ := Aside0.mk (Kd.R_lower ho0 (below_size (by repeat (first | (with_reducible first | exact HB.out | apply below_alloc | apply pw_below_drewN | apply below_drew1) | exact HB.out)))); have n1_ := Aside0.mk (below_step (by repeat (first | (with_reducible first | exact HB.out | apply below_alloc | apply pw_below_drewN | apply below_drew1) | exact HB.out)) hb); clear HB; have HO120 := n0_; have HB := n1_; clear n0_ n1_; (try clear hb); (try clear hb2); (try clear hk); (try clear hi); (try clear ho0)) | ((with_reducible refine gate_dst (N := 23) rfl ?_); (try (refine gate_guard (by rfl) ?_; dsimp only)); refine Kd.R_lit (Kd.int .i64) _ 3 ?hg (N := 23) ?hd (xs := ([] : List Int)) (inner := []) (ok := fun _ => True) (okp := fun _ => True) ?hr ?hp (fun _ hk => hk) trivial (Below.refl _ _) (Nat.le_refl _) (by simp) ?_; (case hd => rfl); (case hg => rfl); (case hr => first | (go_simp; done) | (go_simp; rfl)); (case hp => exact (Reps.none _ _)); intro v122 w7 ho8 hb hg_ hnew_; clear hg_ hnew_; (first | rw [← Ny121.out] at ho8 | (simp only [Int.reduceToNat] at ho8; rw [← Ny121.out] at ho8)); have n0_ := Aside0.mk (Kd.R_elder' (by (with_reducible repeat (first | apply Kd.R_alloc | apply Kd.R_drewN | apply Kd.R_drew)); exact HO120.out) (Kd.R_base ho8) hb); have n1_ := Aside0.mk (Kd.R_lower (Kd.R_new' ho8 (Kd.R_lt (by (with_reducible repeat (first | apply Kd.R_alloc | apply Kd.R_drewN | apply Kd.R_drew)); exact HO120.out))) (below_size (by repeat (first | (with_reducible first | exact HB.out | apply below_alloc | apply pw_below_drewN | apply below_drew1) | exact HB.out)))); have n2_ := Aside0.mk (below_step (by repeat (first | (with_reducible first | exact HB.out | apply below_alloc | apply pw_below_drewN | apply below_drew1) | exact HB.out)) hb); clear HO120; clear HB; have HO120 := n0_; have HO123 := n1_; have HB := n2_; clear n0_ n1_ n2_; clear hb ho8)); try go_wp2_with (first | (go_at_call 9; (with_reducible refine (pacelinelaw19_rising.calls k _ _ l2 t118 _ ?side1 ?side2 A5.out).mono ?_); (case side1 => repeat (first | exact HR2.out | (with_reducible refine Kd.C_alloc ?_ _) | (with_reducible refine Kd.C_drewN ?_ _) | (with_reducible refine Kd.C_drew ?_))); (case side2 => exact HC2.out); rintro e w6 ⟨v119, rfl, ho0, hb⟩; have n0_ := Aside0.mk (Kd.R_lower ho0 (below_size (by repeat (first | (with_reducible first | exact HB.out | apply below_alloc | apply pw_below_drewN | apply below_drew1) | exact HB.out)))); have n1_ := Aside0.mk (below_step (by repeat (first | (with_reducible first | exact HB.out | apply below_alloc | apply pw_below_drewN | apply below_drew1) | exact HB.out)) hb); clear HB; have HO120 := n0_; have HB := n1_; clear n0_ n1_; (try clear hb); (try clear hb2); (try clear hk); (try clear hi); (try clear ho0)) | ((with_reducible refine gate_dst (N := 23) rfl ?_); (try (refine gate_guard (by rfl) ?_; dsimp only)); refine Kd.R_lit (Kd.int .i64) _ 3 ?hg (N := 23) ?hd (xs := ([] : List Int)) (inner := []) (ok := fun _ => True) (okp := fun _ => True) ?hr ?hp (fun _ hk => hk) trivial (Below.refl _ _) (Nat.le_refl _) (by simp) ?_; (case hd => rfl); (case hg => rfl); (case hr => first | (go_simp; done) | (go_simp; rfl)); (case hp => exact (Reps.none _ _)); intro v122 w7 ho8 hb hg_ hnew_; clear hg_ hnew_; (first | rw [← Ny121.out] at ho8 | (simp only [Int.reduceToNat] at ho8; rw [← Ny121.out] at ho8)); have n0_ := Aside0.mk (Kd.R_elder' (by (with_reducible repeat (first | apply Kd.R_alloc | apply Kd.R_drewN | apply Kd.R_drew)); exact HO120.out) (Kd.R_base ho8) hb); have n1_ := Aside0.mk (Kd.R_lower (Kd.R_new' ho8 (Kd.R_lt (by (with_reducible repeat (first | apply Kd.R_alloc | apply Kd.R_drewN | apply Kd.R_drew)); exact HO120.out))) (below_size (by repeat (first | (with_reducible first | exact HB.out | apply below_alloc | apply pw_below_drewN | apply below_drew1) | exact HB.out)))); have n2_ := Aside0.mk (below_step (by repeat (first | (with_reducible first | exact HB.out | apply below_alloc | apply pw_below_drewN | apply below_drew1) | exact HB.out)) hb); clear HO120; clear HB; have HO120 := n0_; have HO123 := n1_; have HB := n2_; clear n0_ n1_ n2_; clear hb ho8)))
    go_loopg [8, 9] k (fun kq v8 v9 w' => ∃ (x8_1 : List Int) (x9_1 : Int), v9 = .int .i64 x9_1 ∧ Aside0 (pacelinelaw19_GrantFree.l0 kq a0 a1 t118 x8_1 x9_1 = some r) ∧ Aside0 (kq ≤ k) ∧ Aside0 (Kd.R (Kd.int .i64) 3 w' w.heap.size (fun k_ => some k_ ≠ (v8 : Value).ownBlock) v119 t118) ∧ Aside0 (Kd.R (Kd.int .i64) 3 w' w.heap.size (fun k_ => some k_ ≠ (v119 : Value).ownBlock) v8 x8_1) ∧ Aside0 (Below w.heap.size w w'))
    case atStart => exact ⟨(y121), (0), (by first | rfl | (simp; done) | (simp [*]; done)), H', ⟨Nat.le_refl _⟩, ⟨by (with_reducible repeat (first | apply Kd.R_alloc | apply Kd.R_drewN | apply Kd.R_drew)); exact Kd.R_mono HO120.out (fun _ hk => hk.2)⟩, ⟨by (with_reducible repeat (first | apply Kd.R_alloc | apply Kd.R_drewN | apply Kd.R_drew)); exact Kd.R_mono HO123.out (fun _ hk => hk.2)⟩, ⟨by repeat (first | (with_reducible first | exact HB.out | apply below_alloc | apply pw_below_drewN | apply below_drew1) | exact HB.out)⟩⟩
    case round =>
      clear H'
      try clear c2
      try clear p2
      try clear c4
      try clear c4b0
      try clear c4b1
      try clear c7
      obtain ⟨x8_1, x9_1, rfl, HA, HK1, HO_7, HO_8, HB⟩ := hrel
      cases gk with
      | zero => exact absurd HA.out (by simp [pacelinelaw19_GrantFree.l0])
      | succ k1 =>
        have H := HA.out
        clear HA
        simp only [pacelinelaw19_GrantFree.l0] at H
        by_cases c9 : x9_1 < (t118.length : Int)
        · rw [if_pos c9] at H
          have c9b0 : decide (x9_1 < (t118.length : Int)) = true := decide_eq_true c9
          clear c9
          by_cases c10 : 0 ≤ x9_1
          · rw [if_pos c10] at H
            have c10b0 : decide (0 ≤ x9_1) = true := decide_eq_true c10
            clear c10
            by_cases c11 : (rd t118 x9_1) ≥ (wrap64 (a1))
            · rw [if_pos c11] at H
              have c11b0 : decide ((wrap64 (a1)) ≤ (rd t118 x9_1)) = true := decide_eq_true c11
              clear c11
              by_cases c12 : x8_1.length < 17592186044416
              · rw [if_pos c12] at H
                have LMc12 := Aside0.mk c12
                clear c12
                obtain ⟨y126, hy126⟩ : ∃ y_ : List Int, y_ = (x8_1 ++ [rd t118 x9_1]) := ⟨_, rfl⟩
                replace H : (pacelinelaw19_GrantFree.l0 k1 a0 a1 t118 y126 (wrap64 (x9_1 + 1))) = some r := by first | (rw [hy126]; with_reducible exact H) | (have H2_ := (Option.bind_some _ _).symm.trans H; rw [hy126]; with_reducible exact H2_) | (have H2_ := (Option.bind_some _ _).symm.trans H; with_reducible exact H2_) | with_reducible exact H | (rw [hy126]; exact H) | exact H
                have Ny126 := Aside0.mk hy126
                clear hy126
                have H' := Aside0.mk H
                clear H
                obtain ⟨Ao13, co13, eo13⟩ := Kd.R_slice HO_7.out
                subst eo13
                have p124 : 0 ≤ (x9_1 : Int) := of_decide_eq_true (by first | (with_reducible assumption) | assumption)
                have q124 : x9_1 < (t118.length : Int) := of_decide_eq_true (by first | (with_reducible assumption) | assumption)
                obtain ⟨ad124, e124, hx124_0⟩ := Kd.at_int (Kd.R_reads' HO_7.out).2.2 x9_1 p124 q124
                cases e124
                replace p124 := eq_true p124
                replace q124 := eq_true q124
                have p125 : 0 ≤ (x9_1 : Int) := of_decide_eq_true (by first | (with_reducible assumption) | assumption)
                have q125 : x9_1 < (t118.length : Int) := of_decide_eq_true (by first | (with_reducible assumption) | assumption)
                obtain ⟨ad125, e125, hx125_0⟩ := Kd.at_int (Kd.R_reads' HO_7.out).2.2 x9_1 p125 q125
                obtain rfl : ad124 = ad125 := (by injection e125)
                replace p125 := eq_true p125
                replace q125 := eq_true q125
                go_wp2_with (first | ((with_reducible refine gate_builtin (b := .append) (xs := #[.tmp 37, .tmp 42]) rfl ?_); (try (refine gate_guard (by rfl) ?_; dsimp only)); at_builtin; refine Kd.R_append (Kd.int .i64) (w0 := w) w.heap.size rfl (.tmp 37) (.tmp 42) 22 3 (.int .i64 0) 8 rfl Try.underlying22 info3 rfl (by decide) (by omega) u8 x8_1 (rd t118 x9_1) [.int .i64 (rd t118 x9_1)] (fun k_ => some k_ ≠ (.slice (some ad124) t118.length co13 : Value).ownBlock) (fun _ => False) rfl rfl ?aP (fun _ hk => hk.elim) ?aF ?aO ?aB ?aS ?aL ?_; (case aP => exact rfl); (case aB => exact (by repeat (first | (with_reducible first | exact HB.out | apply below_alloc | apply pw_below_drewN | apply below_drew1) | exact HB.out))); (case aF => exact (fun k_ hk => Kd.fresh' (Kd.R_lt (by (with_reducible repeat (first | apply Kd.R_alloc | apply Kd.R_drewN | apply Kd.R_drew)); exact HO_7.out)) k_ hk)); (case aO => exact (by (with_reducible repeat (first | apply Kd.R_alloc | apply Kd.R_drewN | apply Kd.R_drew)); exact HO_8.out)); (case aS => exact (below_size (by repeat (first | (with_reducible first | exact HB.out | apply below_alloc | apply pw_below_drewN | apply below_drew1) | exact HB.out)))); (case aL => have := LMc12.out; omega); intro v127 w14 ho hb hg hat; rw [← Ny126.out] at ho; have n0_ := Aside0.mk (Kd.R_after (ok := (fun _ => True)) (by (with_reducible repeat (first | apply Kd.R_alloc | apply Kd.R_drewN | apply Kd.R_drew)); exact Kd.R_mono HO_7.out (fun _ hk => ⟨trivial, hk⟩)) hg hat); have n1_ := Aside0.mk (hb); have n2_ := Aside0.mk (ho); clear HO_7; clear HB; clear HO_8; have HO_7 := n0_; have HB := n1_; have HO128 := n2_; clear n0_ n1_ n2_; clear ho hb hg hat))
                repeat (go_quiet (first | ((with_reducible refine gate_builtin (b := .append) (xs := #[.tmp 37, .tmp 42]) rfl ?_); (try (refine gate_guard (by rfl) ?_; dsimp only)); at_builtin; refine Kd.R_append (Kd.int .i64) (w0 := w) w.heap.size rfl (.tmp 37) (.tmp 42) 22 3 (.int .i64 0) 8 rfl Try.underlying22 info3 rfl (by decide) (by omega) u8 x8_1 (rd t118 x9_1) [.int .i64 (rd t118 x9_1)] (fun k_ => some k_ ≠ (.slice (some ad124) t118.length co13 : Value).ownBlock) (fun _ => False) rfl rfl ?aP (fun _ hk => hk.elim) ?aF ?aO ?aB ?aS ?aL ?_; (case aP => exact rfl); (case aB => exact (by repeat (first | (with_reducible first | exact HB.out | apply below_alloc | apply pw_below_drewN | apply below_drew1) | exact HB.out))); (case aF => exact (fun k_ hk => Kd.fresh' (Kd.R_lt (by (with_reducible repeat (first | apply Kd.R_alloc | apply Kd.R_drewN | apply Kd.R_drew)); exact HO_7.out)) k_ hk)); (case aO => exact (by (with_reducible repeat (first | apply Kd.R_alloc | apply Kd.R_drewN | apply Kd.R_drew)); exact HO_8.out)); (case aS => exact (below_size (by repeat (first | (with_reducible first | exact HB.out | apply below_alloc | apply pw_below_drewN | apply below_drew1) | exact HB.out)))); (case aL => have := LMc12.out; omega); intro v127 w14 ho hb hg hat; rw [← Ny126.out] at ho; have n0_ := Aside0.mk (Kd.R_after (ok := (fun _ => True)) (by (with_reducible repeat (first | apply Kd.R_alloc | apply Kd.R_drewN | apply Kd.R_drew)); exact Kd.R_mono HO_7.out (fun _ hk => ⟨trivial, hk⟩)) hg hat); have n1_ := Aside0.mk (hb); have n2_ := Aside0.mk (ho); clear HO_7; clear HB; clear HO_8; have HO_7 := n0_; have HB := n1_; have HO128 := n2_; clear n0_ n1_ n2_; clear ho hb hg hat)); try go_wp2_with (first | ((with_reducible refine gate_builtin (b := .append) (xs := #[.tmp 37, .tmp 42]) rfl ?_); (try (refine gate_guard (by rfl) ?_; dsimp only)); at_builtin; refine Kd.R_append (Kd.int .i64) (w0 := w) w.heap.size rfl (.tmp 37) (.tmp 42) 22 3 (.int .i64 0) 8 rfl Try.underlying22 info3 rfl (by decide) (by omega) u8 x8_1 (rd t118 x9_1) [.int .i64 (rd t118 x9_1)] (fun k_ => some k_ ≠ (.slice (some ad124) t118.length co13 : Value).ownBlock) (fun _ => False) rfl rfl ?aP (fun _ hk => hk.elim) ?aF ?aO ?aB ?aS ?aL ?_; (case aP => exact rfl); (case aB => exact (by repeat (first | (with_reducible first | exact HB.out | apply below_alloc | apply pw_below_drewN | apply below_drew1) | exact HB.out))); (case aF => exact (fun k_ hk => Kd.fresh' (Kd.R_lt (by (with_reducible repeat (first | apply Kd.R_alloc | apply Kd.R_drewN | apply Kd.R_drew)); exact HO_7.out)) k_ hk)); (case aO => exact (by (with_reducible repeat (first | apply Kd.R_alloc | apply Kd.R_drewN | apply Kd.R_drew)); exact HO_8.out)); (case aS => exact (below_size (by repeat (first | (with_reducible first | exact HB.out | apply below_alloc | apply pw_below_drewN | apply below_drew1) | exact HB.out)))); (case aL => have := LMc12.out; omega); intro v127 w14 ho hb hg hat; rw [← Ny126.out] at ho; have n0_ := Aside0.mk (Kd.R_after (ok := (fun _ => True)) (by (with_reducible repeat (first | apply Kd.R_alloc | apply Kd.R_drewN | apply Kd.R_drew)); exact Kd.R_mono HO_7.out (fun _ hk => ⟨trivial, hk⟩)) hg hat); have n1_ := Aside0.mk (hb); have n2_ := Aside0.mk (ho); clear HO_7; clear HB; clear HO_8; have HO_7 := n0_; have HB := n1_; have HO128 := n2_; clear n0_ n1_ n2_; clear ho hb hg hat)))
                go_roundg k1
                case measure => have := HK1.out; omega
                case rel => exact ⟨(y126), (wrap64 (x9_1 + 1)), (by first | rfl | (simp; done) | (simp [*]; done)), H', ⟨by have := HK1.out; omega⟩, ⟨by (with_reducible repeat (first | apply Kd.R_alloc | apply Kd.R_drewN | apply Kd.R_drew)); exact Kd.R_mono HO_7.out (fun _ hk => hk.2)⟩, ⟨by (with_reducible repeat (first | apply Kd.R_alloc | apply Kd.R_drewN | apply Kd.R_drew)); exact HO128.out⟩, ⟨by repeat (first | (with_reducible first | exact HB.out | apply below_alloc | apply pw_below_drewN | apply below_drew1) | exact HB.out)⟩⟩
              · rw [if_neg c12] at H
                exact absurd H (by simp)
            · rw [if_neg c11] at H
              have c11b0 : decide ((wrap64 (a1)) ≤ (rd t118 x9_1)) = false := decide_eq_false c11
              clear c11
              have H' := Aside0.mk H
              clear H
              obtain ⟨Ao15, co15, eo15⟩ := Kd.R_slice HO_7.out
              subst eo15
              have p124 : 0 ≤ (x9_1 : Int) := of_decide_eq_true (by first | (with_reducible assumption) | assumption)
              have q124 : x9_1 < (t118.length : Int) := of_decide_eq_true (by first | (with_reducible assumption) | assumption)
              obtain ⟨ad124, e124, hx124_0⟩ := Kd.at_int (Kd.R_reads' HO_7.out).2.2 x9_1 p124 q124
              cases e124
              replace p124 := eq_true p124
              replace q124 := eq_true q124
              go_wp2
              repeat (go_quiet (fail); try go_wp2)
              go_roundg k1
              case measure => have := HK1.out; omega
              case rel => exact ⟨(x8_1), (wrap64 (x9_1 + 1)), (by first | rfl | (simp; done) | (simp [*]; done)), H', ⟨by have := HK1.out; omega⟩, ⟨by (with_reducible repeat (first | apply Kd.R_alloc | apply Kd.R_drewN | apply Kd.R_drew)); exact HO_7.out⟩, ⟨by (with_reducible repeat (first | apply Kd.R_alloc | apply Kd.R_drewN | apply Kd.R_drew)); exact HO_8.out⟩, ⟨by repeat (first | (with_reducible first | exact HB.out | apply below_alloc | apply pw_below_drewN | apply below_drew1) | exact HB.out)⟩⟩
          · rw [if_neg c10] at H
            exact absurd H (by simp)
        · rw [if_neg c9] at H
          have c9b0 : decide (x9_1 < (t118.length : Int)) = false := decide_eq_false c9
          clear c9
          obtain ⟨ji16, hji16⟩ : ∃ j_ : Int, (mx (wrap64 (a0)) (wrap64 (a1))) = j_ := ⟨_, rfl⟩
          replace H : ((grant_Decide.f 1 (ji16) (wrap64 (a1)) 1125899906842624 x8_1).bind fun bt129 => ((grant_Decide.f 2 (ji16) (wrap64 (a1)) 1125899906842624 x8_1).bind fun bt132 => (if bt129.1 = true then (if bt132.1 = true then (pacelinelaw19_GrantFree.j1 k1 x8_1 ji16 bt129.2.2 bt132.2.1 bt132.2.2 (bt129.2.1 != (ji16))) else (pacelinelaw19_GrantFree.j1 k1 x8_1 ji16 bt129.2.2 bt132.2.1 bt132.2.2 true)) else (pacelinelaw19_GrantFree.j1 k1 x8_1 ji16 bt129.2.2 bt132.2.1 bt132.2.2 true)))) = some r := by first | (rw [hji16] at H; exact H) | (simp only [hji16] at H ⊢; exact H)
          have hji16_ : (if (wrap64 (a0)) < (wrap64 (a1)) then (wrap64 (a1)) else (wrap64 (a0))) = ji16 := hji16
          replace H := Option.bind_eq_some_iff.mp H
          obtain ⟨⟨t129, t130, t131⟩, A170, H⟩ := H
          replace H : ((grant_Decide.f 2 (ji16) (wrap64 (a1)) 1125899906842624 x8_1).bind fun bt132 => (if t129 = true then (if bt132.1 = true then (pacelinelaw19_GrantFree.j1 k1 x8_1 ji16 t131 bt132.2.1 bt132.2.2 (t130 != (ji16))) else (pacelinelaw19_GrantFree.j1 k1 x8_1 ji16 t131 bt132.2.1 bt132.2.2 true)) else (pacelinelaw19_GrantFree.j1 k1 x8_1 ji16 t131 bt132.2.1 bt132.2.2 true))) = some r := H
          have A17 := Aside0.mk A170
          clear A170
          replace H := Option.bind_eq_some_iff.mp H
          obtain ⟨⟨t132, t133, t134⟩, A180, H⟩ := H
          replace H : (if t129 = true then (if t132 = true then (pacelinelaw19_GrantFree.j1 k1 x8_1 ji16 t131 t133 t134 (t130 != (ji16))) else (pacelinelaw19_GrantFree.j1 k1 x8_1 ji16 t131 t133 t134 true)) else (pacelinelaw19_GrantFree.j1 k1 x8_1 ji16 t131 t133 t134 true)) = some r := H
          have A18 := Aside0.mk A180
          clear A180
          have HC19 := Aside0.mk H
          clear H
          obtain ⟨Ao20, co20, eo20⟩ := Kd.R_slice HO_7.out
          subst eo20
          obtain ⟨Ao21, co21, eo21⟩ := Kd.R_slice HO_8.out
          subst eo21
          go_upto_region 13 with (first | (go_at_call 10; (with_reducible refine (grant_Decide.calls 1 ji16 (wrap64 (a1)) 1125899906842624 _ _ x8_1 t129 t130 t131 _ ?side1 ?side2 A17.out).mono ?_); (case side1 => repeat (first | exact (Kd.R_reads' HO_8.out).2.2 | (with_reducible refine Kd.C_alloc ?_ _) | (with_reducible refine Kd.C_drewN ?_ _) | (with_reducible refine Kd.C_drew ?_))); (case side2 => exact (Kd.R_reads' HO_8.out).2.1); rintro e w22 ⟨rfl, hb⟩; have n0_ := Aside0.mk (Kd.R_below (by (with_reducible repeat (first | apply Kd.R_alloc | apply Kd.R_drewN | apply Kd.R_drew)); exact HO_7.out) hb); have n1_ := Aside0.mk (Kd.R_below (by (with_reducible repeat (first | apply Kd.R_alloc | apply Kd.R_drewN | apply Kd.R_drew)); exact HO_8.out) hb); have n2_ := Aside0.mk (below_step (by repeat (first | (with_reducible first | exact HB.out | apply below_alloc | apply pw_below_drewN | apply below_drew1) | exact HB.out)) hb); clear HO_7; clear HO_8; clear HB; have HO_7 := n0_; have HO_8 := n1_; have HB := n2_; clear n0_ n1_ n2_; (try clear hb); (try clear hb2); (try clear hk); (try clear hi)) | (go_at_call 10; (with_reducible refine (grant_Decide.calls 2 ji16 (wrap64 (a1)) 1125899906842624 _ _ x8_1 t132 t133 t134 _ ?side1 ?side2 A18.out).mono ?_); (case side1 => repeat (first | exact (Kd.R_reads' HO_8.out).2.2 | (with_reducible refine Kd.C_alloc ?_ _) | (with_reducible refine Kd.C_drewN ?_ _) | (with_reducible refine Kd.C_drew ?_))); (case side2 => exact (Kd.R_reads' HO_8.out).2.1); rintro e w23 ⟨rfl, hb⟩; have n0_ := Aside0.mk (Kd.R_below (by (with_reducible repeat (first | apply Kd.R_alloc | apply Kd.R_drewN | apply Kd.R_drew)); exact HO_7.out) hb); have n1_ := Aside0.mk (Kd.R_below (by (with_reducible repeat (first | apply Kd.R_alloc | apply Kd.R_drewN | apply Kd.R_drew)); exact HO_8.out) hb); have n2_ := Aside0.mk (below_step (by repeat (first | (with_reducible first | exact HB.out | apply below_alloc | apply pw_below_drewN | apply below_drew1) | exact HB.out)) hb); clear HO_7; clear HO_8; clear HB; have HO_7 := n0_; have HO_8 := n1_; have HB := n2_; clear n0_ n1_ n2_; (try clear hb); (try clear hb2); (try clear hk); (try clear hi)))
          repeat (go_quiet (first | (go_at_call 10; (with_reducible refine (grant_Decide.calls 1 ji16 (wrap64 (a1)) 1125899906842624 _ _ x8_1 t129 t130 t131 _ ?side1 ?side2 A17.out).mono ?_); (case side1 => repeat (first | exact (Kd.R_reads' HO_8.out).2.2 | (with_reducible refine Kd.C_alloc ?_ _) | (with_reducible refine Kd.C_drewN ?_ _) | (with_reducible refine Kd.C_drew ?_))); (case side2 => exact (Kd.R_reads' HO_8.out).2.1); rintro e w22 ⟨rfl, hb⟩; have n0_ := Aside0.mk (Kd.R_below (by (with_reducible repeat (first | apply Kd.R_alloc | apply Kd.R_drewN | apply Kd.R_drew)); exact HO_7.out) hb); have n1_ := Aside0.mk (Kd.R_below (by (with_reducible repeat (first | apply Kd.R_alloc | apply Kd.R_drewN | apply Kd.R_drew)); exact HO_8.out) hb); have n2_ := Aside0.mk (below_step (by repeat (first | (with_reducible first | exact HB.out | apply below_alloc | apply pw_below_drewN | apply below_drew1) | exact HB.out)) hb); clear HO_7; clear HO_8; clear HB; have HO_7 := n0_; have HO_8 := n1_; have HB := n2_; clear n0_ n1_ n2_; (try clear hb); (try clear hb2); (try clear hk); (try clear hi)) | (go_at_call 10; (with_reducible refine (grant_Decide.calls 2 ji16 (wrap64 (a1)) 1125899906842624 _ _ x8_1 t132 t133 t134 _ ?side1 ?side2 A18.out).mono ?_); (case side1 => repeat (first | exact (Kd.R_reads' HO_8.out).2.2 | (with_reducible refine Kd.C_alloc ?_ _) | (with_reducible refine Kd.C_drewN ?_ _) | (with_reducible refine Kd.C_drew ?_))); (case side2 => exact (Kd.R_reads' HO_8.out).2.1); rintro e w23 ⟨rfl, hb⟩; have n0_ := Aside0.mk (Kd.R_below (by (with_reducible repeat (first | apply Kd.R_alloc | apply Kd.R_drewN | apply Kd.R_drew)); exact HO_7.out) hb); have n1_ := Aside0.mk (Kd.R_below (by (with_reducible repeat (first | apply Kd.R_alloc | apply Kd.R_drewN | apply Kd.R_drew)); exact HO_8.out) hb); have n2_ := Aside0.mk (below_step (by repeat (first | (with_reducible first | exact HB.out | apply below_alloc | apply pw_below_drewN | apply below_drew1) | exact HB.out)) hb); clear HO_7; clear HO_8; clear HB; have HO_7 := n0_; have HO_8 := n1_; have HB := n2_; clear n0_ n1_ n2_; (try clear hb); (try clear hb2); (try clear hk); (try clear hi))); go_upto_region 13 with (first | (go_at_call 10; (with_reducible refine (grant_Decide.calls 1 ji16 (wrap64 (a1)) 1125899906842624 _ _ x8_1 t129 t130 t131 _ ?side1 ?side2 A17.out).mono ?_); (case side1 => repeat (first | exact (Kd.R_reads' HO_8.out).2.2 | (with_reducible refine Kd.C_alloc ?_ _) | (with_reducible refine Kd.C_drewN ?_ _) | (with_reducible refine Kd.C_drew ?_))); (case side2 => exact (Kd.R_reads' HO_8.out).2.1); rintro e w22 ⟨rfl, hb⟩; have n0_ := Aside0.mk (Kd.R_below (by (with_reducible repeat (first | apply Kd.R_alloc | apply Kd.R_drewN | apply Kd.R_drew)); exact HO_7.out) hb); have n1_ := Aside0.mk (Kd.R_below (by (with_reducible repeat (first | apply Kd.R_alloc | apply Kd.R_drewN | apply Kd.R_drew)); exact HO_8.out) hb); have n2_ := Aside0.mk (below_step (by repeat (first | (with_reducible first | exact HB.out | apply below_alloc | apply pw_below_drewN | apply below_drew1) | exact HB.out)) hb); clear HO_7; clear HO_8; clear HB; have HO_7 := n0_; have HO_8 := n1_; have HB := n2_; clear n0_ n1_ n2_; (try clear hb); (try clear hb2); (try clear hk); (try clear hi)) | (go_at_call 10; (with_reducible refine (grant_Decide.calls 2 ji16 (wrap64 (a1)) 1125899906842624 _ _ x8_1 t132 t133 t134 _ ?side1 ?side2 A18.out).mono ?_); (case side1 => repeat (first | exact (Kd.R_reads' HO_8.out).2.2 | (with_reducible refine Kd.C_alloc ?_ _) | (with_reducible refine Kd.C_drewN ?_ _) | (with_reducible refine Kd.C_drew ?_))); (case side2 => exact (Kd.R_reads' HO_8.out).2.1); rintro e w23 ⟨rfl, hb⟩; have n0_ := Aside0.mk (Kd.R_below (by (with_reducible repeat (first | apply Kd.R_alloc | apply Kd.R_drewN | apply Kd.R_drew)); exact HO_7.out) hb); have n1_ := Aside0.mk (Kd.R_below (by (with_reducible repeat (first | apply Kd.R_alloc | apply Kd.R_drewN | apply Kd.R_drew)); exact HO_8.out) hb); have n2_ := Aside0.mk (below_step (by repeat (first | (with_reducible first | exact HB.out | apply below_alloc | apply pw_below_drewN | apply below_drew1) | exact HB.out)) hb); clear HO_7; clear HO_8; clear HB; have HO_7 := n0_; have HO_8 := n1_; have HB := n2_; clear n0_ n1_ n2_; (try clear hb); (try clear hb2); (try clear hk); (try clear hi))))
          (try simp only [Act.put, List.setIfInBounds_toArray, List.set_cons_zero, List.set_cons_succ])
          go_cut [77] (fun v77 wc => ∃ (kq : Nat) (x77_18 : Bool), v77 = .bool x77_18 ∧ Aside0 (pacelinelaw19_GrantFree.j1 kq x8_1 ji16 t131 t133 t134 x77_18 = some r) ∧ Aside0 (kq ≤ k1) ∧ Aside0 (Kd.R (Kd.int .i64) 3 wc w.heap.size (fun _ => True) (.slice Ao21 x8_1.length co21) x8_1) ∧ Aside0 (Below w.heap.size w wc))
          case first =>
            have H := HC19.out
            clear HC19
            by_cases c24 : t129 = true
            · subst c24
              have H1 : (if t132 = true then (pacelinelaw19_GrantFree.j1 k1 x8_1 ji16 t131 t133 t134 (t130 != (ji16))) else (pacelinelaw19_GrantFree.j1 k1 x8_1 ji16 t131 t133 t134 true)) = some r := by rw [if_pos rfl] at H; exact H
              clear H
              have H := H1
              clear H1
              by_cases c25 : t132 = true
              · subst c25
                have H1 : (pacelinelaw19_GrantFree.j1 k1 x8_1 ji16 t131 t133 t134 (t130 != (ji16))) = some r := by rw [if_pos rfl] at H; exact H
                clear H
                have H := H1
                clear H1
                have H' := Aside0.mk H
                clear H
                go_wp2
                repeat (go_quiet (fail); try go_wp2)
                go_meet
                case rel => exact ⟨_, ((t130 != (ji16))), (by first | rfl | (simp; done) | (simp only [← hji16] <;> (first | rfl | simp)) | (simp [*]; done)), H', ⟨by have := HK1.out; first | omega | exact Nat.le_refl _⟩, ⟨by (with_reducible repeat (first | apply Kd.R_alloc | apply Kd.R_drewN | apply Kd.R_drew)); exact Kd.R_mono HO_8.out (fun _ hk => trivial)⟩, ⟨by repeat (first | (with_reducible first | exact HB.out | apply below_alloc | apply pw_below_drewN | apply below_drew1) | exact HB.out)⟩⟩
              · replace c25 := Bool.eq_false_iff.mpr c25
                subst c25
                have H1 : (pacelinelaw19_GrantFree.j1 k1 x8_1 ji16 t131 t133 t134 true) = some r := by rw [if_neg (show ¬ (false = true) by decide)] at H; exact H
                clear H
                have H := H1
                clear H1
                have H' := Aside0.mk H
                clear H
                go_wp2
                repeat (go_quiet (fail); try go_wp2)
                go_meet
                case rel => exact ⟨_, (true), (by first | rfl | (simp; done) | (simp [*]; done)), H', ⟨by have := HK1.out; first | omega | exact Nat.le_refl _⟩, ⟨by (with_reducible repeat (first | apply Kd.R_alloc | apply Kd.R_drewN | apply Kd.R_drew)); exact Kd.R_mono HO_8.out (fun _ hk => trivial)⟩, ⟨by repeat (first | (with_reducible first | exact HB.out | apply below_alloc | apply pw_below_drewN | apply below_drew1) | exact HB.out)⟩⟩
            · replace c24 := Bool.eq_false_iff.mpr c24
              subst c24
              have H1 : (pacelinelaw19_GrantFree.j1 k1 x8_1 ji16 t131 t133 t134 true) = some r := by rw [if_neg (show ¬ (false = true) by decide)] at H; exact H
              clear H
              have H := H1
              clear H1
              have H' := Aside0.mk H
              clear H
              go_wp2
              repeat (go_quiet (fail); try go_wp2)
              go_meet
              case rel => exact ⟨_, (true), (by first | rfl | (simp; done) | (simp [*]; done)), H', ⟨by have := HK1.out; first | omega | exact Nat.le_refl _⟩, ⟨by (with_reducible repeat (first | apply Kd.R_alloc | apply Kd.R_drewN | apply Kd.R_drew)); exact Kd.R_mono HO_8.out (fun _ hk => trivial)⟩, ⟨by repeat (first | (with_reducible first | exact HB.out | apply below_alloc | apply pw_below_drewN | apply below_drew1) | exact HB.out)⟩⟩
          case rest =>
            clear HC19
            try clear c1
            try clear p1
            try clear q1
            try clear hx1
            try clear c2
            try clear p2
            try clear c4
            try clear c4b0
            try clear c4b1
            try clear p6
            try clear c7
            try clear c9
            try clear c9b0
            try clear c10
            try clear c10b0
            try clear c11
            try clear c11b0
            try clear c12
            try clear p12
            try clear q12
            try clear hx12
            try clear c24
            try clear c25
            try clear hx124_0
            try clear hx125_0
            try clear p124
            try clear p125
            try clear p2
            try clear q124
            try clear q125
            obtain ⟨kq, x77_18, rfl, HA, HJ18, HO_8, HB⟩ := hcut
            cases kq with
            | zero => exact absurd HA.out (by simp [pacelinelaw19_GrantFree.j1])
            | succ kj18 =>
              have H := HA.out
              clear HA
              simp only [pacelinelaw19_GrantFree.j1] at H
              by_cases c26 : x77_18 = true
              · subst c26
                have H1 : (some false) = some r := by rw [if_pos rfl] at H; exact H
                clear H
                have H := H1
                clear H1
                obtain rfl := Option.some.inj H
                go_wp2
                repeat (go_quiet (fail); try go_wp2)
                go_ret
                exact ⟨by first | rfl | (simp [errW_none, errW_some] <;> rfl) | (simp only [← hji16]; first | rfl | (simp [errW_none, errW_some] <;> rfl)) | (simp [*, errW_none, errW_some] <;> rfl), by repeat (first | (with_reducible first | exact HB.out | apply below_alloc | apply pw_below_drewN | apply below_drew1) | exact HB.out)⟩
              · replace c26 := Bool.eq_false_iff.mpr c26
                subst c26
                have H1 : (pacelinelaw19_GrantFree.l1 kj18 x8_1 ji16 t131 t133 t134 0) = some r := by rw [if_neg (show ¬ (false = true) by decide)] at H; exact H
                clear H
                have H := H1
                clear H1
                have H' := Aside0.mk H
                clear H
                go_wp2
                repeat (go_quiet (fail); try go_wp2)
                go_loopg [17] kj18 (fun kq v17 w' => ∃ (x17_3 : Int), v17 = .int .i64 x17_3 ∧ Aside0 (pacelinelaw19_GrantFree.l1 kq x8_1 ji16 t131 t133 t134 x17_3 = some r) ∧ Aside0 (kq ≤ kj18) ∧ Aside0 (Kd.R (Kd.int .i64) 3 w' w.heap.size (fun _ => True) (.slice Ao21 x8_1.length co21) x8_1) ∧ Aside0 (Below w.heap.size w w'))
                case atStart => exact ⟨(0), (by first | rfl | (simp; done) | (simp [*]; done)), H', ⟨Nat.le_refl _⟩, ⟨by (with_reducible repeat (first | apply Kd.R_alloc | apply Kd.R_drewN | apply Kd.R_drew)); exact HO_8.out⟩, ⟨by repeat (first | (with_reducible first | exact HB.out | apply below_alloc | apply pw_below_drewN | apply below_drew1) | exact HB.out)⟩⟩
                case round =>
                  clear H'
                  try clear c1
                  try clear p1
                  try clear q1
                  try clear hx1
                  try clear c2
                  try clear p2
                  try clear c4
                  try clear c4b0
                  try clear c4b1
                  try clear p6
                  try clear c7
                  try clear c9
                  try clear c9b0
                  try clear c10
                  try clear c10b0
                  try clear c11
                  try clear c11b0
                  try clear c12
                  try clear p12
                  try clear q12
                  try clear hx12
                  try clear c24
                  try clear c25
                  try clear c26
                  try clear hx124_0
                  try clear hx125_0
                  try clear p1
                  try clear p12
                  try clear p124
                  try clear p125
                  try clear p2
                  try clear p6
                  try clear q1
                  try clear q12
                  try clear q124
                  try clear q125
                  obtain ⟨x17_3, rfl, HA, HK3, HO_8, HB⟩ := hrel
                  cases gk with
                  | zero => exact absurd HA.out (by simp [pacelinelaw19_GrantFree.l1])
                  | succ k3 =>
                    have H := HA.out
                    clear HA
                    simp only [pacelinelaw19_GrantFree.l1] at H
                    by_cases c27 : x17_3 < (x8_1.length : Int)
                    · rw [if_pos c27] at H
                      have c27b0 : decide (x17_3 < (x8_1.length : Int)) = true := decide_eq_true c27
                      clear c27
                      by_cases c28 : 0 ≤ x17_3
                      · rw [if_pos c28] at H
                        have c28b0 : decide (0 ≤ x17_3) = true := decide_eq_true c28
                        clear c28
                        by_cases c29 : ((decide (x17_3 < t131)) != (decide ((rd x8_1 x17_3) ≤ ji16))) = true
                        · rw [if_pos c29] at H
                          have c29b0 : ((decide (x17_3 < t131)) != (decide ((rd x8_1 x17_3) ≤ ji16))) = true := c29
                          (try (have c29b1 : decide ((decide (x17_3 < t131)) = (decide ((rd x8_1 x17_3) ≤ ji16))) = false := by simpa using c29))
                          (try (have c29b2 : ((decide (x17_3 < t131)) == (decide ((rd x8_1 x17_3) ≤ ji16))) = false := by simpa using c29))
                          (try (have c29b3 : ¬ ((decide (x17_3 < t131)) = (decide ((rd x8_1 x17_3) ≤ ji16))) := by simpa using c29))
                          clear c29
                          obtain rfl := Option.some.inj H
                          have p135 : 0 ≤ (x17_3 : Int) := of_decide_eq_true (by first | (with_reducible assumption) | assumption)
                          have q135 : x17_3 < (x8_1.length : Int) := of_decide_eq_true (by first | (with_reducible assumption) | assumption)
                          obtain ⟨ad135, e135, hx135_0⟩ := Kd.at_int (Kd.R_reads' HO_8.out).2.2 x17_3 p135 q135
                          cases e135
                          replace p135 := eq_true p135
                          replace q135 := eq_true q135
                          go_wp2
                          repeat (go_quiet (fail); try go_wp2)
                          go_ret
                          exact ⟨by first | rfl | (simp [errW_none, errW_some] <;> rfl) | (simp only [← hji16]; first | rfl | (simp [errW_none, errW_some] <;> rfl)) | (simp [*, errW_none, errW_some] <;> rfl), by repeat (first | (with_reducible first | exact HB.out | apply below_alloc | apply pw_below_drewN | apply below_drew1) | exact HB.out)⟩
                        · rw [if_neg c29] at H
                          have c29b0 : ((decide (x17_3 < t131)) != (decide ((rd x8_1 x17_3) ≤ ji16))) = false := by simpa using c29
                          (try (have c29b1 : decide ((decide (x17_3 < t131)) = (decide ((rd x8_1 x17_3) ≤ ji16))) = true := by simpa using c29))
                          (try (have c29b2 : ((decide (x17_3 < t131)) == (decide ((rd x8_1 x17_3) ≤ ji16))) = true := by simpa using c29))
                          clear c29
                          have H' := Aside0.mk H
                          clear H
                          have p135 : 0 ≤ (x17_3 : Int) := of_decide_eq_true (by first | (with_reducible assumption) | assumption)
                          have q135 : x17_3 < (x8_1.length : Int) := of_decide_eq_true (by first | (with_reducible assumption) | assumption)
                          obtain ⟨ad135, e135, hx135_0⟩ := Kd.at_int (Kd.R_reads' HO_8.out).2.2 x17_3 p135 q135
                          cases e135
                          replace p135 := eq_true p135
                          replace q135 := eq_true q135
                          go_wp2
                          repeat (go_quiet (fail); try go_wp2)
                          go_roundg k3
                          case measure => have := HK1.out; have := HJ18.out; have := HK3.out; omega
                          case rel => exact ⟨(wrap64 (x17_3 + 1)), (by first | rfl | (simp; done) | (simp [*]; done)), H', ⟨by have := HK1.out; have := HJ18.out; have := HK3.out; omega⟩, ⟨by (with_reducible repeat (first | apply Kd.R_alloc | apply Kd.R_drewN | apply Kd.R_drew)); exact HO_8.out⟩, ⟨by repeat (first | (with_reducible first | exact HB.out | apply below_alloc | apply pw_below_drewN | apply below_drew1) | exact HB.out)⟩⟩
                      · rw [if_neg c28] at H
                        exact absurd H (by simp)
                    · rw [if_neg c27] at H
                      have c27b0 : decide (x17_3 < (x8_1.length : Int)) = false := decide_eq_false c27
                      clear c27
                      by_cases c30 : (x8_1.length : Int) > 0
                      · rw [if_pos c30] at H
                        have c30b0 : decide (0 < (x8_1.length : Int)) = true := decide_eq_true c30
                        have c30b1 : decide (0 < x8_1.length) = true := decide_eq_true (by omega)
                        clear c30
                        by_cases c31 : 0 < (x8_1.length : Int)
                        · rw [if_pos c31] at H
                          have c31b0 : decide (0 < (x8_1.length : Int)) = true := decide_eq_true c31
                          have c31b1 : decide (0 < x8_1.length) = true := decide_eq_true (by omega)
                          clear c31
                          by_cases c32 : (rd x8_1 0) ≤ ji16
                          · rw [if_pos c32] at H
                            have c32b0 : decide ((rd x8_1 0) ≤ ji16) = true := decide_eq_true c32
                            clear c32
                            by_cases c33 : t133 = (rd x8_1 0)
                            · rw [if_pos c33] at H
                              have c33b0 : (t133 == (rd x8_1 0)) = true := beq_iff_eq.mpr c33
                              have c33b1 : (t133 != (rd x8_1 0)) = false := bne_eq_false_iff_eq.mpr c33
                              clear c33
                              by_cases c34 : t134 ≥ 1
                              · rw [if_pos c34] at H
                                have c34b0 : decide (1 ≤ t134) = true := decide_eq_true c34
                                clear c34
                                by_cases c35 : t134 ≤ t131
                                · rw [if_pos c35] at H
                                  have c35b0 : decide (t134 ≤ t131) = true := decide_eq_true c35
                                  clear c35
                                  by_cases c36 : t134 = (x8_1.length : Int)
                                  · rw [if_pos c36] at H
                                    have c36b0 : (t134 == (x8_1.length : Int)) = true := beq_iff_eq.mpr c36
                                    have c36b1 : (t134 != (x8_1.length : Int)) = false := bne_eq_false_iff_eq.mpr c36
                                    clear c36
                                    obtain rfl := Option.some.inj H
                                    have p136 : 0 ≤ (0 : Int) := (by omega)
                                    have q136 : 0 < (x8_1.length : Int) := of_decide_eq_true (by first | (with_reducible assumption) | assumption)
                                    obtain ⟨ad136, e136, hx136_0⟩ := Kd.at_int (Kd.R_reads' HO_8.out).2.2 0 p136 q136
                                    cases e136
                                    have qi136 : (0 < x8_1.length) = True := eq_true (by omega)
                                    (try rw [show ((0 : Int)).toNat = 0 from rfl] at hx136_0)
                                    (try rw [Addr.add_zero'] at hx136_0)
                                    replace p136 := eq_true p136
                                    replace q136 := eq_true q136
                                    have p137 : 0 ≤ (0 : Int) := (by omega)
                                    have q137 : 0 < (x8_1.length : Int) := of_decide_eq_true (by first | (with_reducible assumption) | assumption)
                                    obtain ⟨ad137, e137, hx137_0⟩ := Kd.at_int (Kd.R_reads' HO_8.out).2.2 0 p137 q137
                                    obtain rfl : ad136 = ad137 := (by injection e137)
                                    have qi137 : (0 < x8_1.length) = True := eq_true (by omega)
                                    (try rw [show ((0 : Int)).toNat = 0 from rfl] at hx137_0)
                                    (try rw [Addr.add_zero'] at hx137_0)
                                    replace p137 := eq_true p137
                                    replace q137 := eq_true q137
                                    go_wp2
                                    repeat (go_quiet (fail); try go_wp2)
                                    go_ret
                                    exact ⟨by first | rfl | (simp [errW_none, errW_some] <;> rfl) | (simp only [← hji16]; first | rfl | (simp [errW_none, errW_some] <;> rfl)) | (simp [*, errW_none, errW_some] <;> rfl), by repeat (first | (with_reducible first | exact HB.out | apply below_alloc | apply pw_below_drewN | apply below_drew1) | exact HB.out)⟩
                                  · rw [if_neg c36] at H
                                    have c36b0 : (t134 == (x8_1.length : Int)) = false := beq_eq_false_iff_ne.mpr c36
                                    have c36b1 : (t134 != (x8_1.length : Int)) = true := bne_iff_ne.mpr c36
                                    by_cases c37 : 0 ≤ t134
                                    · rw [if_pos c37] at H
                                      have c37b0 : decide (0 ≤ t134) = true := decide_eq_true c37
                                      clear c37
                                      by_cases c38 : t134 < (x8_1.length : Int)
                                      · rw [if_pos c38] at H
                                        have c38b0 : decide (t134 < (x8_1.length : Int)) = true := decide_eq_true c38
                                        clear c38
                                        obtain rfl := Option.some.inj H
                                        have p136 : 0 ≤ (0 : Int) := (by omega)
                                        have q136 : 0 < (x8_1.length : Int) := of_decide_eq_true (by first | (with_reducible assumption) | assumption)
                                        obtain ⟨ad136, e136, hx136_0⟩ := Kd.at_int (Kd.R_reads' HO_8.out).2.2 0 p136 q136
                                        cases e136
                                        have qi136 : (0 < x8_1.length) = True := eq_true (by omega)
                                        (try rw [show ((0 : Int)).toNat = 0 from rfl] at hx136_0)
                                        (try rw [Addr.add_zero'] at hx136_0)
                                        replace p136 := eq_true p136
                                        replace q136 := eq_true q136
                                        have p137 : 0 ≤ (0 : Int) := (by omega)
                                        have q137 : 0 < (x8_1.length : Int) := of_decide_eq_true (by first | (with_reducible assumption) | assumption)
                                        obtain ⟨ad137, e137, hx137_0⟩ := Kd.at_int (Kd.R_reads' HO_8.out).2.2 0 p137 q137
                                        obtain rfl : ad136 = ad137 := (by injection e137)
                                        have qi137 : (0 < x8_1.length) = True := eq_true (by omega)
                                        (try rw [show ((0 : Int)).toNat = 0 from rfl] at hx137_0)
                                        (try rw [Addr.add_zero'] at hx137_0)
                                        replace p137 := eq_true p137
                                        replace q137 := eq_true q137
                                        have p138 : 0 ≤ (t134 : Int) := of_decide_eq_true (by first | (with_reducible assumption) | assumption)
                                        have q138 : t134 < (x8_1.length : Int) := of_decide_eq_true (by first | (with_reducible assumption) | assumption)
                                        obtain ⟨ad138, e138, hx138_0⟩ := Kd.at_int (Kd.R_reads' HO_8.out).2.2 t134 p138 q138
                                        obtain rfl : ad136 = ad138 := (by injection e138)
                                        replace p138 := eq_true p138
                                        replace q138 := eq_true q138
                                        have p139 : 0 ≤ (0 : Int) := (by omega)
                                        have q139 : 0 < (x8_1.length : Int) := of_decide_eq_true (by first | (with_reducible assumption) | assumption)
                                        obtain ⟨ad139, e139, hx139_0⟩ := Kd.at_int (Kd.R_reads' HO_8.out).2.2 0 p139 q139
                                        obtain rfl : ad136 = ad139 := (by injection e139)
                                        have qi139 : (0 < x8_1.length) = True := eq_true (by omega)
                                        (try rw [show ((0 : Int)).toNat = 0 from rfl] at hx139_0)
                                        (try rw [Addr.add_zero'] at hx139_0)
                                        replace p139 := eq_true p139
                                        replace q139 := eq_true q139
                                        go_wp2
                                        repeat (go_quiet (fail); try go_wp2)
                                        go_ret
                                        exact ⟨by first | rfl | (simp [errW_none, errW_some] <;> rfl) | (simp only [← hji16]; first | rfl | (simp [errW_none, errW_some] <;> rfl)) | (simp [*, errW_none, errW_some] <;> rfl), by repeat (first | (with_reducible first | exact HB.out | apply below_alloc | apply pw_below_drewN | apply below_drew1) | exact HB.out)⟩
                                      · rw [if_neg c38] at H
                                        exact absurd H (by simp)
                                    · rw [if_neg c37] at H
                                      exact absurd H (by simp)
                                · rw [if_neg c35] at H
                                  have c35b0 : decide (t134 ≤ t131) = false := decide_eq_false c35
                                  clear c35
                                  obtain rfl := Option.some.inj H
                                  have p136 : 0 ≤ (0 : Int) := (by omega)
                                  have q136 : 0 < (x8_1.length : Int) := of_decide_eq_true (by first | (with_reducible assumption) | assumption)
                                  obtain ⟨ad136, e136, hx136_0⟩ := Kd.at_int (Kd.R_reads' HO_8.out).2.2 0 p136 q136
                                  cases e136
                                  have qi136 : (0 < x8_1.length) = True := eq_true (by omega)
                                  (try rw [show ((0 : Int)).toNat = 0 from rfl] at hx136_0)
                                  (try rw [Addr.add_zero'] at hx136_0)
                                  replace p136 := eq_true p136
                                  replace q136 := eq_true q136
                                  have p137 : 0 ≤ (0 : Int) := (by omega)
                                  have q137 : 0 < (x8_1.length : Int) := of_decide_eq_true (by first | (with_reducible assumption) | assumption)
                                  obtain ⟨ad137, e137, hx137_0⟩ := Kd.at_int (Kd.R_reads' HO_8.out).2.2 0 p137 q137
                                  obtain rfl : ad136 = ad137 := (by injection e137)
                                  have qi137 : (0 < x8_1.length) = True := eq_true (by omega)
                                  (try rw [show ((0 : Int)).toNat = 0 from rfl] at hx137_0)
                                  (try rw [Addr.add_zero'] at hx137_0)
                                  replace p137 := eq_true p137
                                  replace q137 := eq_true q137
                                  go_wp2
                                  repeat (go_quiet (fail); try go_wp2)
                                  go_ret
                                  exact ⟨by first | rfl | (simp [errW_none, errW_some] <;> rfl) | (simp only [← hji16]; first | rfl | (simp [errW_none, errW_some] <;> rfl)) | (simp [*, errW_none, errW_some] <;> rfl), by repeat (first | (with_reducible first | exact HB.out | apply below_alloc | apply pw_below_drewN | apply below_drew1) | exact HB.out)⟩
                              · rw [if_neg c34] at H
                                have c34b0 : decide (1 ≤ t134) = false := decide_eq_false c34
                                clear c34
                                obtain rfl := Option.some.inj H
                                have p136 : 0 ≤ (0 : Int) := (by omega)
                                have q136 : 0 < (x8_1.length : Int) := of_decide_eq_true (by first | (with_reducible assumption) | assumption)
                                obtain ⟨ad136, e136, hx136_0⟩ := Kd.at_int (Kd.R_reads' HO_8.out).2.2 0 p136 q136
                                cases e136
                                have qi136 : (0 < x8_1.length) = True := eq_true (by omega)
                                (try rw [show ((0 : Int)).toNat = 0 from rfl] at hx136_0)
                                (try rw [Addr.add_zero'] at hx136_0)
                                replace p136 := eq_true p136
                                replace q136 := eq_true q136
                                have p137 : 0 ≤ (0 : Int) := (by omega)
                                have q137 : 0 < (x8_1.length : Int) := of_decide_eq_true (by first | (with_reducible assumption) | assumption)
                                obtain ⟨ad137, e137, hx137_0⟩ := Kd.at_int (Kd.R_reads' HO_8.out).2.2 0 p137 q137
                                obtain rfl : ad136 = ad137 := (by injection e137)
                                have qi137 : (0 < x8_1.length) = True := eq_true (by omega)
                                (try rw [show ((0 : Int)).toNat = 0 from rfl] at hx137_0)
                                (try rw [Addr.add_zero'] at hx137_0)
                                replace p137 := eq_true p137
                                replace q137 := eq_true q137
                                go_wp2
                                repeat (go_quiet (fail); try go_wp2)
                                go_ret
                                exact ⟨by first | rfl | (simp [errW_none, errW_some] <;> rfl) | (simp only [← hji16]; first | rfl | (simp [errW_none, errW_some] <;> rfl)) | (simp [*, errW_none, errW_some] <;> rfl), by repeat (first | (with_reducible first | exact HB.out | apply below_alloc | apply pw_below_drewN | apply below_drew1) | exact HB.out)⟩
                            · rw [if_neg c33] at H
                              have c33b0 : (t133 == (rd x8_1 0)) = false := beq_eq_false_iff_ne.mpr c33
                              have c33b1 : (t133 != (rd x8_1 0)) = true := bne_iff_ne.mpr c33
                              obtain rfl := Option.some.inj H
                              have p136 : 0 ≤ (0 : Int) := (by omega)
                              have q136 : 0 < (x8_1.length : Int) := of_decide_eq_true (by first | (with_reducible assumption) | assumption)
                              obtain ⟨ad136, e136, hx136_0⟩ := Kd.at_int (Kd.R_reads' HO_8.out).2.2 0 p136 q136
                              cases e136
                              have qi136 : (0 < x8_1.length) = True := eq_true (by omega)
                              (try rw [show ((0 : Int)).toNat = 0 from rfl] at hx136_0)
                              (try rw [Addr.add_zero'] at hx136_0)
                              replace p136 := eq_true p136
                              replace q136 := eq_true q136
                              have p137 : 0 ≤ (0 : Int) := (by omega)
                              have q137 : 0 < (x8_1.length : Int) := of_decide_eq_true (by first | (with_reducible assumption) | assumption)
                              obtain ⟨ad137, e137, hx137_0⟩ := Kd.at_int (Kd.R_reads' HO_8.out).2.2 0 p137 q137
                              obtain rfl : ad136 = ad137 := (by injection e137)
                              have qi137 : (0 < x8_1.length) = True := eq_true (by omega)
                              (try rw [show ((0 : Int)).toNat = 0 from rfl] at hx137_0)
                              (try rw [Addr.add_zero'] at hx137_0)
                              replace p137 := eq_true p137
                              replace q137 := eq_true q137
                              go_wp2
                              repeat (go_quiet (fail); try go_wp2)
                              go_ret
                              exact ⟨by first | rfl | (simp [errW_none, errW_some] <;> rfl) | (simp only [← hji16]; first | rfl | (simp [errW_none, errW_some] <;> rfl)) | (simp [*, errW_none, errW_some] <;> rfl), by repeat (first | (with_reducible first | exact HB.out | apply below_alloc | apply pw_below_drewN | apply below_drew1) | exact HB.out)⟩
                          · rw [if_neg c32] at H
                            have c32b0 : decide ((rd x8_1 0) ≤ ji16) = false := decide_eq_false c32
                            clear c32
                            by_cases c39 : t133 = ji16
                            · rw [if_pos c39] at H
                              have c39b0 : (t133 == ji16) = true := beq_iff_eq.mpr c39
                              have c39b1 : (t133 != ji16) = false := bne_eq_false_iff_eq.mpr c39
                              clear c39
                              by_cases c40 : t134 = 0
                              · rw [if_pos c40] at H
                                have c40b0 : (t134 == 0) = true := beq_iff_eq.mpr c40
                                have c40b1 : (t134 != 0) = false := bne_eq_false_iff_eq.mpr c40
                                clear c40
                                obtain rfl := Option.some.inj H
                                have p136 : 0 ≤ (0 : Int) := (by omega)
                                have q136 : 0 < (x8_1.length : Int) := of_decide_eq_true (by first | (with_reducible assumption) | assumption)
                                obtain ⟨ad136, e136, hx136_0⟩ := Kd.at_int (Kd.R_reads' HO_8.out).2.2 0 p136 q136
                                cases e136
                                have qi136 : (0 < x8_1.length) = True := eq_true (by omega)
                                (try rw [show ((0 : Int)).toNat = 0 from rfl] at hx136_0)
                                (try rw [Addr.add_zero'] at hx136_0)
                                replace p136 := eq_true p136
                                replace q136 := eq_true q136
                                go_wp2
                                repeat (go_quiet (fail); try go_wp2)
                                go_ret
                                exact ⟨by first | rfl | (simp [errW_none, errW_some] <;> rfl) | (simp only [← hji16]; first | rfl | (simp [errW_none, errW_some] <;> rfl)) | (simp [*, errW_none, errW_some] <;> rfl), by repeat (first | (with_reducible first | exact HB.out | apply below_alloc | apply pw_below_drewN | apply below_drew1) | exact HB.out)⟩
                              · rw [if_neg c40] at H
                                have c40b0 : (t134 == 0) = false := beq_eq_false_iff_ne.mpr c40
                                have c40b1 : (t134 != 0) = true := bne_iff_ne.mpr c40
                                obtain rfl := Option.some.inj H
                                have p136 : 0 ≤ (0 : Int) := (by omega)
                                have q136 : 0 < (x8_1.length : Int) := of_decide_eq_true (by first | (with_reducible assumption) | assumption)
                                obtain ⟨ad136, e136, hx136_0⟩ := Kd.at_int (Kd.R_reads' HO_8.out).2.2 0 p136 q136
                                cases e136
                                have qi136 : (0 < x8_1.length) = True := eq_true (by omega)
                                (try rw [show ((0 : Int)).toNat = 0 from rfl] at hx136_0)
                                (try rw [Addr.add_zero'] at hx136_0)
                                replace p136 := eq_true p136
                                replace q136 := eq_true q136
                                go_wp2
                                repeat (go_quiet (fail); try go_wp2)
                                go_ret
                                exact ⟨by first | rfl | (simp [errW_none, errW_some] <;> rfl) | (simp only [← hji16]; first | rfl | (simp [errW_none, errW_some] <;> rfl)) | (simp [*, errW_none, errW_some] <;> rfl), by repeat (first | (with_reducible first | exact HB.out | apply below_alloc | apply pw_below_drewN | apply below_drew1) | exact HB.out)⟩
                            · rw [if_neg c39] at H
                              have c39b0 : (t133 == ji16) = false := beq_eq_false_iff_ne.mpr c39
                              have c39b1 : (t133 != ji16) = true := bne_iff_ne.mpr c39
                              obtain rfl := Option.some.inj H
                              have p136 : 0 ≤ (0 : Int) := (by omega)
                              have q136 : 0 < (x8_1.length : Int) := of_decide_eq_true (by first | (with_reducible assumption) | assumption)
                              obtain ⟨ad136, e136, hx136_0⟩ := Kd.at_int (Kd.R_reads' HO_8.out).2.2 0 p136 q136
                              cases e136
                              have qi136 : (0 < x8_1.length) = True := eq_true (by omega)
                              (try rw [show ((0 : Int)).toNat = 0 from rfl] at hx136_0)
                              (try rw [Addr.add_zero'] at hx136_0)
                              replace p136 := eq_true p136
                              replace q136 := eq_true q136
                              go_wp2
                              repeat (go_quiet (fail); try go_wp2)
                              go_ret
                              exact ⟨by first | rfl | (simp [errW_none, errW_some] <;> rfl) | (simp only [← hji16]; first | rfl | (simp [errW_none, errW_some] <;> rfl)) | (simp [*, errW_none, errW_some] <;> rfl), by repeat (first | (with_reducible first | exact HB.out | apply below_alloc | apply pw_below_drewN | apply below_drew1) | exact HB.out)⟩
                        · rw [if_neg c31] at H
                          exact absurd H (by simp)
                      · rw [if_neg c30] at H
                        have c30b0 : decide (0 < (x8_1.length : Int)) = false := decide_eq_false c30
                        have c30b1 : decide (0 < x8_1.length) = false := decide_eq_false (by omega)
                        clear c30
                        by_cases c41 : t133 = ji16
                        · rw [if_pos c41] at H
                          have c41b0 : (t133 == ji16) = true := beq_iff_eq.mpr c41
                          have c41b1 : (t133 != ji16) = false := bne_eq_false_iff_eq.mpr c41
                          clear c41
                          by_cases c42 : t134 = 0
                          · rw [if_pos c42] at H
                            have c42b0 : (t134 == 0) = true := beq_iff_eq.mpr c42
                            have c42b1 : (t134 != 0) = false := bne_eq_false_iff_eq.mpr c42
                            clear c42
                            obtain rfl := Option.some.inj H
                            go_wp2
                            repeat (go_quiet (fail); try go_wp2)
                            go_ret
                            exact ⟨by first | rfl | (simp [errW_none, errW_some] <;> rfl) | (simp only [← hji16]; first | rfl | (simp [errW_none, errW_some] <;> rfl)) | (simp [*, errW_none, errW_some] <;> rfl), by repeat (first | (with_reducible first | exact HB.out | apply below_alloc | apply pw_below_drewN | apply below_drew1) | exact HB.out)⟩
                          · rw [if_neg c42] at H
                            have c42b0 : (t134 == 0) = false := beq_eq_false_iff_ne.mpr c42
                            have c42b1 : (t134 != 0) = true := bne_iff_ne.mpr c42
                            obtain rfl := Option.some.inj H
                            go_wp2
                            repeat (go_quiet (fail); try go_wp2)
                            go_ret
                            exact ⟨by first | rfl | (simp [errW_none, errW_some] <;> rfl) | (simp only [← hji16]; first | rfl | (simp [errW_none, errW_some] <;> rfl)) | (simp [*, errW_none, errW_some] <;> rfl), by repeat (first | (with_reducible first | exact HB.out | apply below_alloc | apply pw_below_drewN | apply below_drew1) | exact HB.out)⟩
                        · rw [if_neg c41] at H
                          have c41b0 : (t133 == ji16) = false := beq_eq_false_iff_ne.mpr c41
                          have c41b1 : (t133 != ji16) = true := bne_iff_ne.mpr c41
                          obtain rfl := Option.some.inj H
                          go_wp2
                          repeat (go_quiet (fail); try go_wp2)
                          go_ret
                          exact ⟨by first | rfl | (simp [errW_none, errW_some] <;> rfl) | (simp only [← hji16]; first | rfl | (simp [errW_none, errW_some] <;> rfl)) | (simp [*, errW_none, errW_some] <;> rfl), by repeat (first | (with_reducible first | exact HB.out | apply below_alloc | apply pw_below_drewN | apply below_drew1) | exact HB.out)⟩

/-- THE ONE PURE STATEMENT of pacelinelaw19_GrantFree: yours. -/
def pacelinelaw19_GrantFree.Pure : Prop := ∀ (a0 : Int) (a1 : Int) (l2 : List Int), (Lit.int .u16 a0).wf = true → (Lit.int .u16 a1).wf = true → l2.length ≤ maxLen → l2.length * 8 ≤ 140737488351232 → (∀ x ∈ l2, (Lit.int .i64 x).wf = true) → ∃ k, pacelinelaw19_GrantFree.f k a0 a1 l2 = some true
theorem pacelinelaw19_GrantFree.walk (P : pacelinelaw19_GrantFree.Pure) (a0 : Int) (a1 : Int) (a2 : Option Addr) (len2 cap2 : Nat) (z2 : List Int) (w : World) (w0 : (Lit.int .u16 a0).wf = true) (w1 : (Lit.int .u16 a1).wf = true) (w2 : (a2 = none ∧ len2 = 0 ∧ cap2 = 0 ∧ z2 = []) ∨ ∃ x, a2 = some x ∧ len2 ≤ cap2 ∧ cap2 ≤ maxLen ∧ z2.length = cap2 ∧ (∀ i, i < z2.length → w.cell? (x.add i) = some (.int .i64 (z2.getD i 0))) ∧ ∀ n ∈ z2, (Lit.int .i64 n).wf = true) (y2 : len2 * 8 ≤ 140737488351232) :
    Calls Try.prog 7 #[.int .u16 a0, .int .u16 a1, .slice a2 len2 cap2] w fun e w' => e = .returned (.bool true) ∧ Below w.heap.size w w' := by
  obtain ⟨l2, rfl, hr2, hm2, hw2, hc2⟩ := ReadsInt.ofRowC w2
  obtain ⟨k, h⟩ := P a0 a1 l2 w0 w1 hm2 y2 hw2
  refine (pacelinelaw19_GrantFree.calls k a0 a1 _ _ l2 true w (Kd.C_of_reads (d := (0 : Int)) (h1 := fun _ => rfl) hr2) hc2 h).mono ?_
  rintro e w' ⟨rfl, hd⟩
  exact ⟨rfl, hd⟩

end Go.Proofs.Ytmjjejjlfkigjaa.XGrantFree
