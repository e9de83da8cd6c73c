/- Functions of the given program as plain Lean functions, each with a proof that its call comes to what the function says; printed by a program of this session out of the kit's print and contracts proved by hand. -/
import Derived.Test.YtmjjejjlfkigjaaXGrantSafex0
import Derived.Test.YtmjjejjlfkigjaaXGrantSafex1
namespace Go.Proofs.Ytmjjejjlfkigjaa.XGrantSafe
open Go.Proofs.Ytmjjejjlfkigjaa.Ext Go.Proofs.Ytmjjejjlfkigjaa.Plain
open Go.RowKit Go.Proofs.YtmjjejjlfkigjaaW.PrintWords Go.Proofs.YtmjjejjlfkigjaaW.PrintLast Go.Proofs.YtmjjejjlfkigjaaW.PrintMore
attribute [local go_sem] max2_int min2_int max_two min_two max_three min_three max_four min_four   -- for this text's walks alone
set_option linter.unusedVariables false
set_option linter.unusedSimpArgs false

/-! ### pacelinelaw19_GrantSafe: function 4 -/
mutual
def pacelinelaw19_GrantSafe.l0 : Nat → Int → Int → Int → Int → List Int → List Int → Int → Option (Bool)
  | 0, _, _, _, _, _, _, _ => none
  | k + 1, x0, x1, x2, x3, x11, x12, x13 => if x13 < (x11.length : Int) then (if 0 ≤ x13 then (if (rd x11 x13) ≥ (wrap64 (x2)) then (if x12.length < 17592186044416 then (pacelinelaw19_GrantSafe.l0 k x0 x1 x2 x3 x11 (x12 ++ [rd x11 x13]) (wrap64 (x13 + 1))) else (none)) else (pacelinelaw19_GrantSafe.l0 k x0 x1 x2 x3 x11 x12 (wrap64 (x13 + 1)))) else (none)) else ((grant_Decide.f (wrap64 (1 + (Int.tmod (wrap64 (x0)) 2))) (mx (wrap64 (x1)) (wrap64 (x2))) (wrap64 (x2)) (wrap64 (x3)) x12).bind fun bt129 => ((grant_Decide.f 3 0 0 0 ([] : List Int)).bind fun bt132 => (if bt132.1 = true then (if bt129.1 = true then (if bt129.2.1 < (wrap64 (x2)) then (pacelinelaw19_GrantSafe.j1 k x12 bt129.2.1 bt129.2.2 true) else (if bt129.2.1 > (mx (wrap64 (x1)) (wrap64 (x2))) then (pacelinelaw19_GrantSafe.j1 k x12 bt129.2.1 bt129.2.2 true) else (if (wrap64 (x3)) ≤ bt129.2.1 then (pacelinelaw19_GrantSafe.j1 k x12 bt129.2.1 bt129.2.2 true) else (if bt129.2.2 < 0 then (pacelinelaw19_GrantSafe.j1 k x12 bt129.2.1 bt129.2.2 true) else (pacelinelaw19_GrantSafe.j1 k x12 bt129.2.1 bt129.2.2 (decide (bt129.2.2 > (x12.length : Int)))))))) else (if bt129.2.1 = 0 then (if bt129.2.2 = 0 then (some (decide ((wrap64 (x3)) ≤ (mx (wrap64 (x1)) (wrap64 (x2)))))) else (some false)) else (some false))) else (some false))))
def pacelinelaw19_GrantSafe.j1 : Nat → List Int → Int → Int → Bool → Option (Bool)
  | 0, _, _, _, _ => none
  | k + 1, x12, x17, x18, x115 => if x115 = true then (some false) else (pacelinelaw19_GrantSafe.l1 k x12 x17 x18 0)
def pacelinelaw19_GrantSafe.l1 : Nat → List Int → Int → Int → Int → Option (Bool)
  | 0, _, _, _, _ => none
  | k + 1, x12, x17, x18, x22 => if x22 < (x12.length : Int) then (if 0 ≤ x22 then (if ((decide ((rd x12 x22) ≤ x17)) != (decide (x22 < x18))) = true then (some false) else (pacelinelaw19_GrantSafe.l1 k x12 x17 x18 (wrap64 (x22 + 1)))) else (none)) else (some true)
end
def pacelinelaw19_GrantSafe.f (k : Nat) (a0 : Int) (a1 : Int) (a2 : Int) (a3 : Int) (l4 : List Int) : Option (Bool) := if (l4.length : Int) > 4096 then (some true) else ((pacelinelaw19_rising.f k l4).bind fun t118 => (pacelinelaw19_GrantSafe.l0 k a0 a1 a2 a3 t118 (([] : List Int)) 0))
theorem pacelinelaw19_GrantSafe.mono_l : ∀ k, (∀ y0 y1 y2 y3 y4 y5 y6, LeO (pacelinelaw19_GrantSafe.l0 k y0 y1 y2 y3 y4 y5 y6) (pacelinelaw19_GrantSafe.l0 (k + 1) y0 y1 y2 y3 y4 y5 y6)) ∧ (∀ y0 y1 y2 y3, LeO (pacelinelaw19_GrantSafe.j1 k y0 y1 y2 y3) (pacelinelaw19_GrantSafe.j1 (k + 1) y0 y1 y2 y3)) ∧ (∀ y0 y1 y2 y3, LeO (pacelinelaw19_GrantSafe.l1 k y0 y1 y2 y3) (pacelinelaw19_GrantSafe.l1 (k + 1) y0 y1 y2 y3))
  | 0 => ⟨fun _ _ _ _ _ _ _ r h => by simp [pacelinelaw19_GrantSafe.l0] at h, fun _ _ _ _ r h => by simp [pacelinelaw19_GrantSafe.j1] at h, fun _ _ _ _ r h => by simp [pacelinelaw19_GrantSafe.l1] at h⟩
  | k + 1 => by
    obtain ⟨ih0, ih1, ih2⟩ := pacelinelaw19_GrantSafe.mono_l k
    refine ⟨?_, ?_, ?_⟩
    · intro y0 y1 y2 y3 y4 y5 y6
      unfold pacelinelaw19_GrantSafe.l0
      repeat' first
      | (with_reducible exact ih0 _ _ _ _ _ _ _)
      | (with_reducible exact ih1 _ _ _ _)
      | (with_reducible exact ih2 _ _ _ _)
      | (with_reducible exact pacelinelaw19_rising.mono _ _)
      | (with_reducible exact LeO.refl _)
      | (with_reducible exact LeO.none _)
      | (with_reducible refine LeO.ite ?_ ?_)
      | (with_reducible refine LeO.bind ?_ (fun _ => ?_))
      | exact ih0 _ _ _ _ _ _ _
      | exact ih1 _ _ _ _
      | exact ih2 _ _ _ _
      | exact pacelinelaw19_rising.mono _ _
      | exact LeO.none _
      | refine LeO.ite ?_ ?_
      | refine LeO.bind ?_ (fun _ => ?_)
    · intro y0 y1 y2 y3
      unfold pacelinelaw19_GrantSafe.j1
      repeat' first
      | (with_reducible exact ih0 _ _ _ _ _ _ _)
      | (with_reducible exact ih1 _ _ _ _)
      | (with_reducible exact ih2 _ _ _ _)
      | (with_reducible exact pacelinelaw19_rising.mono _ _)
      | (with_reducible exact LeO.refl _)
      | (with_reducible exact LeO.none _)
      | (with_reducible refine LeO.ite ?_ ?_)
      | (with_reducible refine LeO.bind ?_ (fun _ => ?_))
      | exact ih0 _ _ _ _ _ _ _
      | exact ih1 _ _ _ _
      | exact ih2 _ _ _ _
      | exact pacelinelaw19_rising.mono _ _
      | exact LeO.none _
      | refine LeO.ite ?_ ?_
      | refine LeO.bind ?_ (fun _ => ?_)
    · intro y0 y1 y2 y3
      unfold pacelinelaw19_GrantSafe.l1
      repeat' first
      | (with_reducible exact ih0 _ _ _ _ _ _ _)
      | (with_reducible exact ih1 _ _ _ _)
      | (with_reducible exact ih2 _ _ _ _)
      | (with_reducible exact pacelinelaw19_rising.mono _ _)
      | (with_reducible exact LeO.refl _)
      | (with_reducible exact LeO.none _)
      | (with_reducible refine LeO.ite ?_ ?_)
      | (with_reducible refine LeO.bind ?_ (fun _ => ?_))
      | exact ih0 _ _ _ _ _ _ _
      | exact ih1 _ _ _ _
      | exact ih2 _ _ _ _
      | exact pacelinelaw19_rising.mono _ _
      | exact LeO.none _
      | refine LeO.ite ?_ ?_
      | refine LeO.bind ?_ (fun _ => ?_)
theorem pacelinelaw19_GrantSafe.mono : ∀ a0 a1 a2 a3 a4 k, LeO (pacelinelaw19_GrantSafe.f k a0 a1 a2 a3 a4) (pacelinelaw19_GrantSafe.f (k + 1) a0 a1 a2 a3 a4) := by
  intro a0 a1 a2 a3 a4 k
  obtain ⟨ih0, ih1, ih2⟩ := pacelinelaw19_GrantSafe.mono_l k
  unfold pacelinelaw19_GrantSafe.f
  repeat' first
      | (with_reducible exact ih0 _ _ _ _ _ _ _)
      | (with_reducible exact ih1 _ _ _ _)
      | (with_reducible exact ih2 _ _ _ _)
      | (with_reducible exact pacelinelaw19_rising.mono _ _)
      | (with_reducible exact LeO.refl _)
      | (with_reducible exact LeO.none _)
      | (with_reducible refine LeO.ite ?_ ?_)
      | (with_reducible refine LeO.bind ?_ (fun _ => ?_))
      | exact ih0 _ _ _ _ _ _ _
      | exact ih1 _ _ _ _
      | exact ih2 _ _ _ _
      | exact pacelinelaw19_rising.mono _ _
      | exact LeO.none _
      | refine LeO.ite ?_ ?_
      | refine LeO.bind ?_ (fun _ => ?_)
set_option maxHeartbeats 8000000 in
set_option maxRecDepth 100000 in
theorem pacelinelaw19_GrantSafe.calls (k : Nat) (a0 : Int) (a1 : Int) (a2 : Int) (a3 : Int) (A4 : Option Addr) (c4 : Nat) (l4 : List Int) (r : Bool) (w : World) (hr4 : Kd.C (Kd.int .i64) w A4 l4.length l4) (hc4 : l4.length ≤ c4) (h : pacelinelaw19_GrantSafe.f k a0 a1 a2 a3 l4 = some r) :
    Calls Try.prog 4 #[.int .u8 a0, .int .u16 a1, .int .u16 a2, .int .u16 a3, .slice A4 l4.length c4] w fun e w' => e = .returned (.bool r) ∧ Below w.heap.size w w' := by
  have HR4 := Aside0.mk hr4
  have HC4 := Aside0.mk hc4
  clear hr4 hc4
  have HB := Aside0.mk (Below.refl w.heap.size w)
  have H : (if (l4.length : Int) > 4096 then (some true) else ((pacelinelaw19_rising.f k l4).bind fun t118 => (pacelinelaw19_GrantSafe.l0 k a0 a1 a2 a3 t118 (([] : List Int)) 0))) = some r := h
  clear h
  by_cases c6 : (l4.length : Int) > 4096
  · rw [if_pos c6] at H
    have c6b0 : decide (4096 < (l4.length : Int)) = true := decide_eq_true c6
    have c6b1 : decide (4096 < l4.length) = true := decide_eq_true (by omega)
    clear c6
    obtain rfl := Option.some.inj H
    go_enter Try.func4, Try.ntmps4
    go_wp2
    go_ret
    exact ⟨by first | rfl | (simp [errW_none, errW_some] <;> rfl) | (simp [*, errW_none, errW_some] <;> rfl), by repeat (first | (with_reducible first | exact HB.out | apply below_alloc | apply pw_below_drewN | apply below_drew1) | exact HB.out)⟩
  · rw [if_neg c6] at H
    have c6b0 : decide (4096 < (l4.length : Int)) = false := decide_eq_false c6
    have c6b1 : decide (4096 < l4.length) = false := decide_eq_false (by omega)
    clear c6
    replace H := Option.bind_eq_some_iff.mp H
    obtain ⟨t118, A70, H⟩ := H
    replace H : (pacelinelaw19_GrantSafe.l0 k a0 a1 a2 a3 t118 (([] : List Int)) 0) = some r := H
    have A7 := Aside0.mk A70
    clear A70
    obtain ⟨y121, hy121⟩ : ∃ y_ : List Int, y_ = (([] : List Int)) := ⟨_, rfl⟩
    replace H : (pacelinelaw19_GrantSafe.l0 k a0 a1 a2 a3 t118 y121 0) = some r := by first | (rw [hy121]; with_reducible exact H) | (have H2_ := (Option.bind_some _ _).symm.trans H; rw [hy121]; with_reducible exact H2_) | (have H2_ := (Option.bind_some _ _).symm.trans H; with_reducible exact H2_) | with_reducible exact H | (rw [hy121]; exact H) | exact H
    have Ny121 := Aside0.mk hy121
    clear hy121
    have H' := Aside0.mk H
    clear H
    go_enter Try.func4, Try.ntmps4
    go_wp2_with (first | ((with_reducible refine gate_callee (f := 9) rfl ?_); refine goesL_ (some 27) rfl rfl Try.func9 (by kernel_rfl) rfl #[.slice A4 l4.length c4] rfl (by (try simp only [List.map_toArray, List.map_cons, List.map_nil]); first | done | rfl | (simp only [List.length_drop, List.length_take]; rfl)) ?_; (with_reducible refine (pacelinelaw19_rising.calls k _ _ l4 t118 _ ?side1 ?side2 A7.out).mono ?_); (case side1 => repeat (first | exact HR4.out | (with_reducible refine Kd.C_alloc ?_ _) | (with_reducible refine Kd.C_drewN ?_ _) | (with_reducible refine Kd.C_drew ?_))); (case side2 => exact HC4.out); rintro e w8 ⟨v119, rfl, ho0, hb⟩; refine ⟨_, rfl, ?_⟩; have n0_ := Aside0.mk (Kd.R_lower ho0 (below_size (by repeat (first | (with_reducible first | exact HB.out | apply below_alloc | apply pw_below_drewN | apply below_drew1) | exact HB.out)))); have n1_ := Aside0.mk (below_step (by repeat (first | (with_reducible first | exact HB.out | apply below_alloc | apply pw_below_drewN | apply below_drew1) | exact HB.out)) hb); clear HB; have HO120 := n0_; have HB := n1_; clear n0_ n1_; (try clear hb); (try clear hb2); (try clear hk); (try clear hi); (try clear ho0)) | ((with_reducible refine gate_dst (N := 28) rfl ?_); (try (refine gate_guard (by rfl) ?_; dsimp only)); refine Kd.R_lit (Kd.int .i64) _ 3 ?hg (N := 28) ?hd (xs := ([] : List Int)) (inner := []) (ok := fun _ => True) (okp := fun _ => True) ?hr ?hp (fun _ hk => hk) trivial (Below.refl _ _) (Nat.le_refl _) (by simp) ?_; (case hd => rfl); (case hg => rfl); (case hr => first | (go_simp; done) | (go_simp; rfl)); (case hp => exact (Reps.none _ _)); intro v122 w9 ho10 hb hg_ hnew_; clear hg_ hnew_; (first | rw [← Ny121.out] at ho10 | (simp only [Int.reduceToNat] at ho10; rw [← Ny121.out] at ho10)); have n0_ := Aside0.mk (Kd.R_elder' (by (with_reducible repeat (first | apply Kd.R_alloc | apply Kd.R_drewN | apply Kd.R_drew)); exact HO120.out) (Kd.R_base ho10) hb); have n1_ := Aside0.mk (Kd.R_lower (Kd.R_new' ho10 (Kd.R_lt (by (with_reducible repeat (first | apply Kd.R_alloc | apply Kd.R_drewN | apply Kd.R_drew)); exact HO120.out))) (below_size (by repeat (first | (with_reducible first | exact HB.out | apply below_alloc | apply pw_below_drewN | apply below_drew1) | exact HB.out)))); have n2_ := Aside0.mk (below_step (by repeat (first | (with_reducible first | exact HB.out | apply below_alloc | apply pw_below_drewN | apply below_drew1) | exact HB.out)) hb); clear HO120; clear HB; have HO120 := n0_; have HO123 := n1_; have HB := n2_; clear n0_ n1_ n2_; clear hb ho10))
    go_loopg [12, 13] k (fun kq v12 v13 w' => ∃ (x12_1 : List Int) (x13_1 : Int), v13 = .int .i64 x13_1 ∧ Aside0 (pacelinelaw19_GrantSafe.l0 kq a0 a1 a2 a3 t118 x12_1 x13_1 = some r) ∧ Aside0 (kq ≤ k) ∧ Aside0 (Kd.R (Kd.int .i64) 3 w' w.heap.size (fun k_ => some k_ ≠ (v12 : Value).ownBlock) v119 t118) ∧ Aside0 (Kd.R (Kd.int .i64) 3 w' w.heap.size (fun k_ => some k_ ≠ (v119 : Value).ownBlock) v12 x12_1) ∧ Aside0 (Below w.heap.size w w'))
    case atStart => exact ⟨(y121), (0), (by first | rfl | (simp; done) | (simp [*]; done)), H', ⟨Nat.le_refl _⟩, ⟨by (with_reducible repeat (first | apply Kd.R_alloc | apply Kd.R_drewN | apply Kd.R_drew)); exact Kd.R_mono HO120.out (fun _ hk => hk.2)⟩, ⟨by (with_reducible repeat (first | apply Kd.R_alloc | apply Kd.R_drewN | apply Kd.R_drew)); exact Kd.R_mono HO123.out (fun _ hk => hk.2)⟩, ⟨by repeat (first | (with_reducible first | exact HB.out | apply below_alloc | apply pw_below_drewN | apply below_drew1) | exact HB.out)⟩⟩
    case round =>
      clear H'
      try clear p2
      try clear c4
      try clear c6
      try clear c6b0
      try clear c6b1
      try clear c9
      obtain ⟨x12_1, x13_1, rfl, HA, HK1, HO_11, HO_12, HB⟩ := hrel
      cases gk with
      | zero => exact absurd HA.out (by simp [pacelinelaw19_GrantSafe.l0])
      | succ k1 =>
        have H := HA.out
        clear HA
        simp only [pacelinelaw19_GrantSafe.l0] at H
        by_cases c11 : x13_1 < (t118.length : Int)
        · rw [if_pos c11] at H
          have c11b0 : decide (x13_1 < (t118.length : Int)) = true := decide_eq_true c11
          clear c11
          by_cases c12 : 0 ≤ x13_1
          · rw [if_pos c12] at H
            have c12b0 : decide (0 ≤ x13_1) = true := decide_eq_true c12
            clear c12
            by_cases c13 : (rd t118 x13_1) ≥ (wrap64 (a2))
            · rw [if_pos c13] at H
              have c13b0 : decide ((wrap64 (a2)) ≤ (rd t118 x13_1)) = true := decide_eq_true c13
              clear c13
              by_cases c14 : x12_1.length < 17592186044416
              · rw [if_pos c14] at H
                have LMc14 := Aside0.mk c14
                clear c14
                obtain ⟨y126, hy126⟩ : ∃ y_ : List Int, y_ = (x12_1 ++ [rd t118 x13_1]) := ⟨_, rfl⟩
                replace H : (pacelinelaw19_GrantSafe.l0 k1 a0 a1 a2 a3 t118 y126 (wrap64 (x13_1 + 1))) = some r := by first | (rw [hy126]; with_reducible exact H) | (have H2_ := (Option.bind_some _ _).symm.trans H; rw [hy126]; with_reducible exact H2_) | (have H2_ := (Option.bind_some _ _).symm.trans H; with_reducible exact H2_) | with_reducible exact H | (rw [hy126]; exact H) | exact H
                have Ny126 := Aside0.mk hy126
                clear hy126
                have H' := Aside0.mk H
                clear H
                obtain ⟨Ao15, co15, eo15⟩ := Kd.R_slice HO_11.out
                subst eo15
                have p124 : 0 ≤ (x13_1 : Int) := of_decide_eq_true (by first | (with_reducible assumption) | assumption)
                have q124 : x13_1 < (t118.length : Int) := of_decide_eq_true (by first | (with_reducible assumption) | assumption)
                obtain ⟨ad124, e124, hx124_0⟩ := Kd.at_int (Kd.R_reads' HO_11.out).2.2 x13_1 p124 q124
                cases e124
                replace p124 := eq_true p124
                replace q124 := eq_true q124
                have p125 : 0 ≤ (x13_1 : Int) := of_decide_eq_true (by first | (with_reducible assumption) | assumption)
                have q125 : x13_1 < (t118.length : Int) := of_decide_eq_true (by first | (with_reducible assumption) | assumption)
                obtain ⟨ad125, e125, hx125_0⟩ := Kd.at_int (Kd.R_reads' HO_11.out).2.2 x13_1 p125 q125
                obtain rfl : ad124 = ad125 := (by injection e125)
                replace p125 := eq_true p125
                replace q125 := eq_true q125
                go_wp2_with (first | ((with_reducible refine gate_builtin (b := .append) (xs := #[.tmp 42, .tmp 47]) rfl ?_); (try (refine gate_guard (by rfl) ?_; dsimp only)); at_builtin; refine Kd.R_append (Kd.int .i64) (w0 := w) w.heap.size rfl (.tmp 42) (.tmp 47) 22 3 (.int .i64 0) 8 rfl Try.underlying22 info3 rfl (by decide) (by omega) u12 x12_1 (rd t118 x13_1) [.int .i64 (rd t118 x13_1)] (fun k_ => some k_ ≠ (.slice (some ad124) t118.length co15 : Value).ownBlock) (fun _ => False) rfl rfl ?aP (fun _ hk => hk.elim) ?aF ?aO ?aB ?aS ?aL ?_; (case aP => exact rfl); (case aB => exact (by repeat (first | (with_reducible first | exact HB.out | apply below_alloc | apply pw_below_drewN | apply below_drew1) | exact HB.out))); (case aF => exact (fun k_ hk => Kd.fresh' (Kd.R_lt (by (with_reducible repeat (first | apply Kd.R_alloc | apply Kd.R_drewN | apply Kd.R_drew)); exact HO_11.out)) k_ hk)); (case aO => exact (by (with_reducible repeat (first | apply Kd.R_alloc | apply Kd.R_drewN | apply Kd.R_drew)); exact HO_12.out)); (case aS => exact (below_size (by repeat (first | (with_reducible first | exact HB.out | apply below_alloc | apply pw_below_drewN | apply below_drew1) | exact HB.out)))); (case aL => have := LMc14.out; omega); intro v127 w16 ho hb hg hat; rw [← Ny126.out] at ho; have n0_ := Aside0.mk (Kd.R_after (ok := (fun _ => True)) (by (with_reducible repeat (first | apply Kd.R_alloc | apply Kd.R_drewN | apply Kd.R_drew)); exact Kd.R_mono HO_11.out (fun _ hk => ⟨trivial, hk⟩)) hg hat); have n1_ := Aside0.mk (hb); have n2_ := Aside0.mk (ho); clear HO_11; clear HB; clear HO_12; have HO_11 := n0_; have HB := n1_; have HO128 := n2_; clear n0_ n1_ n2_; clear ho hb hg hat))
                go_roundg k1
                case measure => have := HK1.out; omega
                case rel => exact ⟨(y126), (wrap64 (x13_1 + 1)), (by first | rfl | (simp; done) | (simp [*]; done)), H', ⟨by have := HK1.out; omega⟩, ⟨by (with_reducible repeat (first | apply Kd.R_alloc | apply Kd.R_drewN | apply Kd.R_drew)); exact Kd.R_mono HO_11.out (fun _ hk => hk.2)⟩, ⟨by (with_reducible repeat (first | apply Kd.R_alloc | apply Kd.R_drewN | apply Kd.R_drew)); exact HO128.out⟩, ⟨by repeat (first | (with_reducible first | exact HB.out | apply below_alloc | apply pw_below_drewN | apply below_drew1) | exact HB.out)⟩⟩
              · rw [if_neg c14] at H
                exact absurd H (by simp)
            · rw [if_neg c13] at H
              have c13b0 : decide ((wrap64 (a2)) ≤ (rd t118 x13_1)) = false := decide_eq_false c13
              clear c13
              have H' := Aside0.mk H
              clear H
              obtain ⟨Ao17, co17, eo17⟩ := Kd.R_slice HO_11.out
              subst eo17
              have p124 : 0 ≤ (x13_1 : Int) := of_decide_eq_true (by first | (with_reducible assumption) | assumption)
              have q124 : x13_1 < (t118.length : Int) := of_decide_eq_true (by first | (with_reducible assumption) | assumption)
              obtain ⟨ad124, e124, hx124_0⟩ := Kd.at_int (Kd.R_reads' HO_11.out).2.2 x13_1 p124 q124
              cases e124
              replace p124 := eq_true p124
              replace q124 := eq_true q124
              go_wp2
              go_roundg k1
              case measure => have := HK1.out; omega
              case rel => exact ⟨(x12_1), (wrap64 (x13_1 + 1)), (by first | rfl | (simp; done) | (simp [*]; done)), H', ⟨by have := HK1.out; omega⟩, ⟨by (with_reducible repeat (first | apply Kd.R_alloc | apply Kd.R_drewN | apply Kd.R_drew)); exact HO_11.out⟩, ⟨by (with_reducible repeat (first | apply Kd.R_alloc | apply Kd.R_drewN | apply Kd.R_drew)); exact HO_12.out⟩, ⟨by repeat (first | (with_reducible first | exact HB.out | apply below_alloc | apply pw_below_drewN | apply below_drew1) | exact HB.out)⟩⟩
          · rw [if_neg c12] at H
            exact absurd H (by simp)
        · rw [if_neg c11] at H
          have c11b0 : decide (x13_1 < (t118.length : Int)) = false := decide_eq_false c11
          clear c11
          obtain ⟨ji18, hji18⟩ : ∃ j_ : Int, (mx (wrap64 (a1)) (wrap64 (a2))) = j_ := ⟨_, rfl⟩
          replace H : ((grant_Decide.f (wrap64 (1 + (Int.tmod (wrap64 (a0)) 2))) (ji18) (wrap64 (a2)) (wrap64 (a3)) x12_1).bind fun bt129 => ((grant_Decide.f 3 0 0 0 ([] : List Int)).bind fun bt132 => (if bt132.1 = true then (if bt129.1 = true then (if bt129.2.1 < (wrap64 (a2)) then (pacelinelaw19_GrantSafe.j1 k1 x12_1 bt129.2.1 bt129.2.2 true) else (if bt129.2.1 > (ji18) then (pacelinelaw19_GrantSafe.j1 k1 x12_1 bt129.2.1 bt129.2.2 true) else (if (wrap64 (a3)) ≤ bt129.2.1 then (pacelinelaw19_GrantSafe.j1 k1 x12_1 bt129.2.1 bt129.2.2 true) else (if bt129.2.2 < 0 then (pacelinelaw19_GrantSafe.j1 k1 x12_1 bt129.2.1 bt129.2.2 true) else (pacelinelaw19_GrantSafe.j1 k1 x12_1 bt129.2.1 bt129.2.2 (decide (bt129.2.2 > (x12_1.length : Int)))))))) else (if bt129.2.1 = 0 then (if bt129.2.2 = 0 then (some (decide ((wrap64 (a3)) ≤ (ji18)))) else (some false)) else (some false))) else (some false)))) = some r := by first | (rw [hji18] at H; exact H) | (simp only [hji18] at H ⊢; exact H)
          have hji18_ : (if (wrap64 (a1)) < (wrap64 (a2)) then (wrap64 (a2)) else (wrap64 (a1))) = ji18 := hji18
          replace H := Option.bind_eq_some_iff.mp H
          obtain ⟨⟨t129, t130, t131⟩, A190, H⟩ := H
          replace H : ((grant_Decide.f 3 0 0 0 ([] : List Int)).bind fun bt132 => (if bt132.1 = true then (if t129 = true then (if t130 < (wrap64 (a2)) then (pacelinelaw19_GrantSafe.j1 k1 x12_1 t130 t131 true) else (if t130 > (ji18) then (pacelinelaw19_GrantSafe.j1 k1 x12_1 t130 t131 true) else (if (wrap64 (a3)) ≤ t130 then (pacelinelaw19_GrantSafe.j1 k1 x12_1 t130 t131 true) else (if t131 < 0 then (pacelinelaw19_GrantSafe.j1 k1 x12_1 t130 t131 true) else (pacelinelaw19_GrantSafe.j1 k1 x12_1 t130 t131 (decide (t131 > (x12_1.length : Int)))))))) else (if t130 = 0 then (if t131 = 0 then (some (decide ((wrap64 (a3)) ≤ (ji18)))) else (some false)) else (some false))) else (some false))) = some r := H
          have A19 := Aside0.mk A190
          clear A190
          replace H := Option.bind_eq_some_iff.mp H
          obtain ⟨⟨t132, t133, t134⟩, A200, H⟩ := H
          replace H : (if t132 = true then (if t129 = true then (if t130 < (wrap64 (a2)) then (pacelinelaw19_GrantSafe.j1 k1 x12_1 t130 t131 true) else (if t130 > (ji18) then (pacelinelaw19_GrantSafe.j1 k1 x12_1 t130 t131 true) else (if (wrap64 (a3)) ≤ t130 then (pacelinelaw19_GrantSafe.j1 k1 x12_1 t130 t131 true) else (if t131 < 0 then (pacelinelaw19_GrantSafe.j1 k1 x12_1 t130 t131 true) else (pacelinelaw19_GrantSafe.j1 k1 x12_1 t130 t131 (decide (t131 > (x12_1.length : Int)))))))) else (if t130 = 0 then (if t131 = 0 then (some (decide ((wrap64 (a3)) ≤ (ji18)))) else (some false)) else (some false))) else (some false)) = some r := H
          have A20 := Aside0.mk A200
          clear A200
          by_cases c21 : t132 = true
          · subst c21
            have H1 : (if t129 = true then (if t130 < (wrap64 (a2)) then (pacelinelaw19_GrantSafe.j1 k1 x12_1 t130 t131 true) else (if t130 > (ji18) then (pacelinelaw19_GrantSafe.j1 k1 x12_1 t130 t131 true) else (if (wrap64 (a3)) ≤ t130 then (pacelinelaw19_GrantSafe.j1 k1 x12_1 t130 t131 true) else (if t131 < 0 then (pacelinelaw19_GrantSafe.j1 k1 x12_1 t130 t131 true) else (pacelinelaw19_GrantSafe.j1 k1 x12_1 t130 t131 (decide (t131 > (x12_1.length : Int)))))))) else (if t130 = 0 then (if t131 = 0 then (some (decide ((wrap64 (a3)) ≤ (ji18)))) else (some false)) else (some false))) = some r := by rw [if_pos rfl] at H; exact H
            clear H
            have H := H1
            clear H1
            by_cases c22 : t129 = true
            · subst c22
              have H1 : (if t130 < (wrap64 (a2)) then (pacelinelaw19_GrantSafe.j1 k1 x12_1 t130 t131 true) else (if t130 > (ji18) then (pacelinelaw19_GrantSafe.j1 k1 x12_1 t130 t131 true) else (if (wrap64 (a3)) ≤ t130 then (pacelinelaw19_GrantSafe.j1 k1 x12_1 t130 t131 true) else (if t131 < 0 then (pacelinelaw19_GrantSafe.j1 k1 x12_1 t130 t131 true) else (pacelinelaw19_GrantSafe.j1 k1 x12_1 t130 t131 (decide (t131 > (x12_1.length : Int)))))))) = some r := by rw [if_pos rfl] at H; exact H
              clear H
              have H := H1
              clear H1
              have HC23 := Aside0.mk H
              clear H
              obtain ⟨Ao24, co24, eo24⟩ := Kd.R_slice HO_11.out
              subst eo24
              obtain ⟨Ao25, co25, eo25⟩ := Kd.R_slice HO_12.out
              subst eo25
              go_upto_region 18 with (first | ((with_reducible refine gate_callee (f := 10) rfl ?_); refine goesL_ (some 66) rfl rfl Try.func10 (by kernel_rfl) rfl #[.int .i64 (wrap64 (1 + (Int.tmod (wrap64 (a0)) 2))), .int .i64 ji18, .int .i64 (wrap64 (a2)), .int .i64 (wrap64 (a3)), .slice Ao25 x12_1.length co25] rfl (by (try simp only [List.map_toArray, List.map_cons, List.map_nil]); first | done | (simp only [hji18]; rfl) | rfl | (simp only [List.length_drop, List.length_take]; rfl)) ?_; (with_reducible refine (grant_Decide.calls (wrap64 (1 + (Int.tmod (wrap64 (a0)) 2))) ji18 (wrap64 (a2)) (wrap64 (a3)) _ _ x12_1 true t130 t131 _ ?side1 ?side2 A19.out).mono ?_); (case side1 => repeat (first | exact (Kd.R_reads' HO_12.out).2.2 | (with_reducible refine Kd.C_alloc ?_ _) | (with_reducible refine Kd.C_drewN ?_ _) | (with_reducible refine Kd.C_drew ?_))); (case side2 => exact (Kd.R_reads' HO_12.out).2.1); rintro e w26 ⟨rfl, hb⟩; refine ⟨_, rfl, ?_⟩; have n0_ := Aside0.mk (Kd.R_below (by (with_reducible repeat (first | apply Kd.R_alloc | apply Kd.R_drewN | apply Kd.R_drew)); exact HO_11.out) hb); have n1_ := Aside0.mk (Kd.R_below (by (with_reducible repeat (first | apply Kd.R_alloc | apply Kd.R_drewN | apply Kd.R_drew)); exact HO_12.out) hb); have n2_ := Aside0.mk (below_step (by repeat (first | (with_reducible first | exact HB.out | apply below_alloc | apply pw_below_drewN | apply below_drew1) | exact HB.out)) hb); clear HO_11; clear HO_12; clear HB; have HO_11 := n0_; have HO_12 := n1_; have HB := n2_; clear n0_ n1_ n2_; (try clear hb); (try clear hb2); (try clear hk); (try clear hi)) | ((with_reducible refine gate_callee (f := 10) rfl ?_); refine goesL_ (some 71) rfl rfl Try.func10 (by kernel_rfl) rfl #[.int .i64 3, .int .i64 0, .int .i64 0, .int .i64 0, .slice none 0 0] rfl (by (try simp only [List.map_toArray, List.map_cons, List.map_nil]); first | done | rfl | (simp only [List.length_drop, List.length_take]; rfl)) ?_; (refine (grant_Decide.calls 3 0 0 0 _ _ ([] : List Int) true t133 t134 _ ?side1 ?side2 A20.out).mono ?_); (case side1 => exact Kd.C_nil _ _); (case side2 => exact Nat.le_refl _); rintro e w27 ⟨rfl, hb⟩; refine ⟨_, rfl, ?_⟩; have n0_ := Aside0.mk (Kd.R_below (by (with_reducible repeat (first | apply Kd.R_alloc | apply Kd.R_drewN | apply Kd.R_drew)); exact HO_11.out) hb); have n1_ := Aside0.mk (Kd.R_below (by (with_reducible repeat (first | apply Kd.R_alloc | apply Kd.R_drewN | apply Kd.R_drew)); exact HO_12.out) hb); have n2_ := Aside0.mk (below_step (by repeat (first | (with_reducible first | exact HB.out | apply below_alloc | apply pw_below_drewN | apply below_drew1) | exact HB.out)) hb); clear HO_11; clear HO_12; clear HB; have HO_11 := n0_; have HO_12 := n1_; have HB := n2_; clear n0_ n1_ n2_; (try clear hb); (try clear hb2); (try clear hk); (try clear hi)))
              (try simp only [Act.put, List.setIfInBounds_toArray, List.set_cons_zero, List.set_cons_succ])
              go_cut [115] (fun v115 wc => ∃ (kq : Nat) (x115_22 : Bool), v115 = .bool x115_22 ∧ Aside0 (pacelinelaw19_GrantSafe.j1 kq x12_1 t130 t131 x115_22 = some r) ∧ Aside0 (kq ≤ k1) ∧ Aside0 (Kd.R (Kd.int .i64) 3 wc w.heap.size (fun _ => True) (.slice Ao25 x12_1.length co25) x12_1) ∧ Aside0 (Below w.heap.size w wc))
              case first =>
                have H := HC23.out
                clear HC23
                by_cases c28 : t130 < (wrap64 (a2))
                · rw [if_pos c28] at H
                  have c28b0 : decide (t130 < (wrap64 (a2))) = true := decide_eq_true c28
                  clear c28
                  (first | rw [c28b0] | (simp only [i64_w, i32_w]; rw [c28b0]) | skip)
                  have H' := Aside0.mk H
                  clear H
                  go_wp2
                  go_meet
                  case rel => exact ⟨_, (true), (by first | rfl | (simp; done) | (simp [*]; done)), H', ⟨by have := HK1.out; first | omega | exact Nat.le_refl _⟩, ⟨by (with_reducible repeat (first | apply Kd.R_alloc | apply Kd.R_drewN | apply Kd.R_drew)); exact Kd.R_mono HO_12.out (fun _ hk => trivial)⟩, ⟨by repeat (first | (with_reducible first | exact HB.out | apply below_alloc | apply pw_below_drewN | apply below_drew1) | exact HB.out)⟩⟩
                · rw [if_neg c28] at H
                  have c28b0 : decide (t130 < (wrap64 (a2))) = false := decide_eq_false c28
                  clear c28
                  (first | rw [c28b0] | (simp only [i64_w, i32_w]; rw [c28b0]) | skip)
                  by_cases c29 : t130 > (ji18)
                  · rw [if_pos c29] at H
                    have c29b0 : decide ((ji18) < t130) = true := decide_eq_true c29
                    clear c29
                    have H' := Aside0.mk H
                    clear H
                    go_wp2
                    go_meet
                    case rel => exact ⟨_, (true), (by first | rfl | (simp; done) | (simp [*]; done)), H', ⟨by have := HK1.out; first | omega | exact Nat.le_refl _⟩, ⟨by (with_reducible repeat (first | apply Kd.R_alloc | apply Kd.R_drewN | apply Kd.R_drew)); exact Kd.R_mono HO_12.out (fun _ hk => trivial)⟩, ⟨by repeat (first | (with_reducible first | exact HB.out | apply below_alloc | apply pw_below_drewN | apply below_drew1) | exact HB.out)⟩⟩
                  · rw [if_neg c29] at H
                    have c29b0 : decide ((ji18) < t130) = false := decide_eq_false c29
                    clear c29
                    by_cases c30 : (wrap64 (a3)) ≤ t130
                    · rw [if_pos c30] at H
                      have c30b0 : decide ((wrap64 (a3)) ≤ t130) = true := decide_eq_true c30
                      clear c30
                      have H' := Aside0.mk H
                      clear H
                      go_wp2
                      go_meet
                      case rel => exact ⟨_, (true), (by first | rfl | (simp; done) | (simp [*]; done)), H', ⟨by have := HK1.out; first | omega | exact Nat.le_refl _⟩, ⟨by (with_reducible repeat (first | apply Kd.R_alloc | apply Kd.R_drewN | apply Kd.R_drew)); exact Kd.R_mono HO_12.out (fun _ hk => trivial)⟩, ⟨by repeat (first | (with_reducible first | exact HB.out | apply below_alloc | apply pw_below_drewN | apply below_drew1) | exact HB.out)⟩⟩
                    · rw [if_neg c30] at H
                      have c30b0 : decide ((wrap64 (a3)) ≤ t130) = false := decide_eq_false c30
                      clear c30
                      by_cases c31 : t131 < 0
                      · rw [if_pos c31] at H
                        have c31b0 : decide (t131 < 0) = true := decide_eq_true c31
                        clear c31
                        have H' := Aside0.mk H
                        clear H
                        go_wp2
                        go_meet
                        case rel => exact ⟨_, (true), (by first | rfl | (simp; done) | (simp [*]; done)), H', ⟨by have := HK1.out; first | omega | exact Nat.le_refl _⟩, ⟨by (with_reducible repeat (first | apply Kd.R_alloc | apply Kd.R_drewN | apply Kd.R_drew)); exact Kd.R_mono HO_12.out (fun _ hk => trivial)⟩, ⟨by repeat (first | (with_reducible first | exact HB.out | apply below_alloc | apply pw_below_drewN | apply below_drew1) | exact HB.out)⟩⟩
                      · rw [if_neg c31] at H
                        have c31b0 : decide (t131 < 0) = false := decide_eq_false c31
                        clear c31
                        have H' := Aside0.mk H
                        clear H
                        go_wp2
                        go_meet
                        case rel => exact ⟨_, (decide (t131 > (x12_1.length : Int))), (by first | rfl | (simp; done) | (simp [*]; done)), H', ⟨by have := HK1.out; first | omega | exact Nat.le_refl _⟩, ⟨by (with_reducible repeat (first | apply Kd.R_alloc | apply Kd.R_drewN | apply Kd.R_drew)); exact Kd.R_mono HO_12.out (fun _ hk => trivial)⟩, ⟨by repeat (first | (with_reducible first | exact HB.out | apply below_alloc | apply pw_below_drewN | apply below_drew1) | exact HB.out)⟩⟩
              case rest =>
                clear HC23
                try clear c1
                try clear p1
                try clear q1
                try clear hx1
                try clear c2
                try clear p2
                try clear c3
                try clear c4
                try clear c6
                try clear c6b0
                try clear c6b1
                try clear p6
                try clear c9
                try clear c10
                try clear c11
                try clear c11b0
                try clear c12
                try clear c12b0
                try clear p12
                try clear q12
                try clear hx12
                try clear c13
                try clear c13b0
                try clear c14
                try clear c21
                try clear c22
                try clear c28
                try clear c28b0
                try clear c29
                try clear c29b0
                try clear c30
                try clear c30b0
                try clear c31
                try clear c31b0
                try clear hx124_0
                try clear hx125_0
                try clear p124
                try clear p125
                try clear p2
                try clear q124
                try clear q125
                obtain ⟨kq, x115_22, rfl, HA, HJ22, HO_12, HB⟩ := hcut
                cases kq with
                | zero => exact absurd HA.out (by simp [pacelinelaw19_GrantSafe.j1])
                | succ kj22 =>
                  have H := HA.out
                  clear HA
                  simp only [pacelinelaw19_GrantSafe.j1] at H
                  by_cases c32 : x115_22 = true
                  · subst c32
                    have H1 : (some false) = some r := by rw [if_pos rfl] at H; exact H
                    clear H
                    have H := H1
                    clear H1
                    obtain rfl := Option.some.inj H
                    go_wp2
                    go_ret
                    exact ⟨by first | rfl | (simp [errW_none, errW_some] <;> rfl) | (simp only [← hji18]; first | rfl | (simp [errW_none, errW_some] <;> rfl)) | (simp [*, errW_none, errW_some] <;> rfl), by repeat (first | (with_reducible first | exact HB.out | apply below_alloc | apply pw_below_drewN | apply below_drew1) | exact HB.out)⟩
                  · replace c32 := Bool.eq_false_iff.mpr c32
                    subst c32
                    have H1 : (pacelinelaw19_GrantSafe.l1 kj22 x12_1 t130 t131 0) = some r := by rw [if_neg (show ¬ (false = true) by decide)] at H; exact H
                    clear H
                    have H := H1
                    clear H1
                    have H' := Aside0.mk H
                    clear H
                    go_wp2
                    go_loopg [22] kj22 (fun kq v22 w' => ∃ (x22_3 : Int), v22 = .int .i64 x22_3 ∧ Aside0 (pacelinelaw19_GrantSafe.l1 kq x12_1 t130 t131 x22_3 = some r) ∧ Aside0 (kq ≤ kj22) ∧ Aside0 (Kd.R (Kd.int .i64) 3 w' w.heap.size (fun _ => True) (.slice Ao25 x12_1.length co25) x12_1) ∧ Aside0 (Below w.heap.size w w'))
                    case atStart => exact ⟨(0), (by first | rfl | (simp; done) | (simp [*]; done)), H', ⟨Nat.le_refl _⟩, ⟨by (with_reducible repeat (first | apply Kd.R_alloc | apply Kd.R_drewN | apply Kd.R_drew)); exact HO_12.out⟩, ⟨by repeat (first | (with_reducible first | exact HB.out | apply below_alloc | apply pw_below_drewN | apply below_drew1) | exact HB.out)⟩⟩
                    case round =>
                      clear H'
                      try clear c1
                      try clear p1
                      try clear q1
                      try clear hx1
                      try clear c2
                      try clear p2
                      try clear c3
                      try clear c4
                      try clear c6
                      try clear c6b0
                      try clear c6b1
                      try clear p6
                      try clear c9
                      try clear c10
                      try clear c11
                      try clear c11b0
                      try clear c12
                      try clear c12b0
                      try clear p12
                      try clear q12
                      try clear hx12
                      try clear c13
                      try clear c13b0
                      try clear c14
                      try clear c21
                      try clear c22
                      try clear c28
                      try clear c28b0
                      try clear c29
                      try clear c29b0
                      try clear c30
                      try clear c30b0
                      try clear c31
                      try clear c31b0
                      try clear c32
                      try clear hx124_0
                      try clear hx125_0
                      try clear p1
                      try clear p12
                      try clear p124
                      try clear p125
                      try clear p2
                      try clear p6
                      try clear q1
                      try clear q12
                      try clear q124
                      try clear q125
                      obtain ⟨x22_3, rfl, HA, HK3, HO_12, HB⟩ := hrel
                      cases gk with
                      | zero => exact absurd HA.out (by simp [pacelinelaw19_GrantSafe.l1])
                      | succ k3 =>
                        have H := HA.out
                        clear HA
                        simp only [pacelinelaw19_GrantSafe.l1] at H
                        by_cases c33 : x22_3 < (x12_1.length : Int)
                        · rw [if_pos c33] at H
                          have c33b0 : decide (x22_3 < (x12_1.length : Int)) = true := decide_eq_true c33
                          clear c33
                          by_cases c34 : 0 ≤ x22_3
                          · rw [if_pos c34] at H
                            have c34b0 : decide (0 ≤ x22_3) = true := decide_eq_true c34
                            clear c34
                            by_cases c35 : ((decide ((rd x12_1 x22_3) ≤ t130)) != (decide (x22_3 < t131))) = true
                            · rw [if_pos c35] at H
                              have c35b0 : ((decide ((rd x12_1 x22_3) ≤ t130)) != (decide (x22_3 < t131))) = true := c35
                              (try (have c35b1 : decide ((decide ((rd x12_1 x22_3) ≤ t130)) = (decide (x22_3 < t131))) = false := by simpa using c35))
                              (try (have c35b2 : ((decide ((rd x12_1 x22_3) ≤ t130)) == (decide (x22_3 < t131))) = false := by simpa using c35))
                              (try (have c35b3 : ¬ ((decide ((rd x12_1 x22_3) ≤ t130)) = (decide (x22_3 < t131))) := by simpa using c35))
                              clear c35
                              obtain rfl := Option.some.inj H
                              have p135 : 0 ≤ (x22_3 : Int) := of_decide_eq_true (by first | (with_reducible assumption) | assumption)
                              have q135 : x22_3 < (x12_1.length : Int) := of_decide_eq_true (by first | (with_reducible assumption) | assumption)
                              obtain ⟨ad135, e135, hx135_0⟩ := Kd.at_int (Kd.R_reads' HO_12.out).2.2 x22_3 p135 q135
                              cases e135
                              replace p135 := eq_true p135
                              replace q135 := eq_true q135
                              go_wp2
                              go_ret
                              exact ⟨by first | rfl | (simp [errW_none, errW_some] <;> rfl) | (simp only [← hji18]; first | rfl | (simp [errW_none, errW_some] <;> rfl)) | (simp [*, errW_none, errW_some] <;> rfl), by repeat (first | (with_reducible first | exact HB.out | apply below_alloc | apply pw_below_drewN | apply below_drew1) | exact HB.out)⟩
                            · rw [if_neg c35] at H
                              have c35b0 : ((decide ((rd x12_1 x22_3) ≤ t130)) != (decide (x22_3 < t131))) = false := by simpa using c35
                              (try (have c35b1 : decide ((decide ((rd x12_1 x22_3) ≤ t130)) = (decide (x22_3 < t131))) = true := by simpa using c35))
                              (try (have c35b2 : ((decide ((rd x12_1 x22_3) ≤ t130)) == (decide (x22_3 < t131))) = true := by simpa using c35))
                              clear c35
                              have H' := Aside0.mk H
                              clear H
                              have p135 : 0 ≤ (x22_3 : Int) := of_decide_eq_true (by first | (with_reducible assumption) | assumption)
                              have q135 : x22_3 < (x12_1.length : Int) := of_decide_eq_true (by first | (with_reducible assumption) | assumption)
                              obtain ⟨ad135, e135, hx135_0⟩ := Kd.at_int (Kd.R_reads' HO_12.out).2.2 x22_3 p135 q135
                              cases e135
                              replace p135 := eq_true p135
                              replace q135 := eq_true q135
                              go_wp2
                              go_roundg k3
                              case measure => have := HK1.out; have := HJ22.out; have := HK3.out; omega
                              case rel => exact ⟨(wrap64 (x22_3 + 1)), (by first | rfl | (simp; done) | (simp [*]; done)), H', ⟨by have := HK1.out; have := HJ22.out; have := HK3.out; omega⟩, ⟨by (with_reducible repeat (first | apply Kd.R_alloc | apply Kd.R_drewN | apply Kd.R_drew)); exact HO_12.out⟩, ⟨by repeat (first | (with_reducible first | exact HB.out | apply below_alloc | apply pw_below_drewN | apply below_drew1) | exact HB.out)⟩⟩
                          · rw [if_neg c34] at H
                            exact absurd H (by simp)
                        · rw [if_neg c33] at H
                          have c33b0 : decide (x22_3 < (x12_1.length : Int)) = false := decide_eq_false c33
                          clear c33
                          obtain rfl := Option.some.inj H
                          go_wp2
                          go_ret
                          exact ⟨by first | rfl | (simp [errW_none, errW_some] <;> rfl) | (simp only [← hji18]; first | rfl | (simp [errW_none, errW_some] <;> rfl)) | (simp [*, errW_none, errW_some] <;> rfl), by repeat (first | (with_reducible first | exact HB.out | apply below_alloc | apply pw_below_drewN | apply below_drew1) | exact HB.out)⟩
            · replace c22 := Bool.eq_false_iff.mpr c22
              subst c22
              have H1 : (if t130 = 0 then (if t131 = 0 then (some (decide ((wrap64 (a3)) ≤ (ji18)))) else (some false)) else (some false)) = some r := by rw [if_neg (show ¬ (false = true) by decide)] at H; exact H
              clear H
              have H := H1
              clear H1
              by_cases c36 : t130 = 0
              · rw [if_pos c36] at H
                have c36b0 : (t130 == 0) = true := beq_iff_eq.mpr c36
                have c36b1 : (t130 != 0) = false := bne_eq_false_iff_eq.mpr c36
                clear c36
                by_cases c37 : t131 = 0
                · rw [if_pos c37] at H
                  have c37b0 : (t131 == 0) = true := beq_iff_eq.mpr c37
                  have c37b1 : (t131 != 0) = false := bne_eq_false_iff_eq.mpr c37
                  clear c37
                  obtain rfl := Option.some.inj H
                  obtain ⟨Ao38, co38, eo38⟩ := Kd.R_slice HO_11.out
                  subst eo38
                  obtain ⟨Ao39, co39, eo39⟩ := Kd.R_slice HO_12.out
                  subst eo39
                  go_wp2_with (first | ((with_reducible refine gate_callee (f := 10) rfl ?_); refine goesL_ (some 66) rfl rfl Try.func10 (by kernel_rfl) rfl #[.int .i64 (wrap64 (1 + (Int.tmod (wrap64 (a0)) 2))), .int .i64 ji18, .int .i64 (wrap64 (a2)), .int .i64 (wrap64 (a3)), .slice Ao39 x12_1.length co39] rfl (by (try simp only [List.map_toArray, List.map_cons, List.map_nil]); first | done | (simp only [hji18]; rfl) | rfl | (simp only [List.length_drop, List.length_take]; rfl)) ?_; (with_reducible refine (grant_Decide.calls (wrap64 (1 + (Int.tmod (wrap64 (a0)) 2))) ji18 (wrap64 (a2)) (wrap64 (a3)) _ _ x12_1 false t130 t131 _ ?side1 ?side2 A19.out).mono ?_); (case side1 => repeat (first | exact (Kd.R_reads' HO_12.out).2.2 | (with_reducible refine Kd.C_alloc ?_ _) | (with_reducible refine Kd.C_drewN ?_ _) | (with_reducible refine Kd.C_drew ?_))); (case side2 => exact (Kd.R_reads' HO_12.out).2.1); rintro e w40 ⟨rfl, hb⟩; refine ⟨_, rfl, ?_⟩; have n0_ := Aside0.mk (Kd.R_below (by (with_reducible repeat (first | apply Kd.R_alloc | apply Kd.R_drewN | apply Kd.R_drew)); exact HO_11.out) hb); have n1_ := Aside0.mk (Kd.R_below (by (with_reducible repeat (first | apply Kd.R_alloc | apply Kd.R_drewN | apply Kd.R_drew)); exact HO_12.out) hb); have n2_ := Aside0.mk (below_step (by repeat (first | (with_reducible first | exact HB.out | apply below_alloc | apply pw_below_drewN | apply below_drew1) | exact HB.out)) hb); clear HO_11; clear HO_12; clear HB; have HO_11 := n0_; have HO_12 := n1_; have HB := n2_; clear n0_ n1_ n2_; (try clear hb); (try clear hb2); (try clear hk); (try clear hi)) | ((with_reducible refine gate_callee (f := 10) rfl ?_); refine goesL_ (some 71) rfl rfl Try.func10 (by kernel_rfl) rfl #[.int .i64 3, .int .i64 0, .int .i64 0, .int .i64 0, .slice none 0 0] rfl (by (try simp only [List.map_toArray, List.map_cons, List.map_nil]); first | done | rfl | (simp only [List.length_drop, List.length_take]; rfl)) ?_; (refine (grant_Decide.calls 3 0 0 0 _ _ ([] : List Int) true t133 t134 _ ?side1 ?side2 A20.out).mono ?_); (case side1 => exact Kd.C_nil _ _); (case side2 => exact Nat.le_refl _); rintro e w41 ⟨rfl, hb⟩; refine ⟨_, rfl, ?_⟩; have n0_ := Aside0.mk (Kd.R_below (by (with_reducible repeat (first | apply Kd.R_alloc | apply Kd.R_drewN | apply Kd.R_drew)); exact HO_11.out) hb); have n1_ := Aside0.mk (Kd.R_below (by (with_reducible repeat (first | apply Kd.R_alloc | apply Kd.R_drewN | apply Kd.R_drew)); exact HO_12.out) hb); have n2_ := Aside0.mk (below_step (by repeat (first | (with_reducible first | exact HB.out | apply below_alloc | apply pw_below_drewN | apply below_drew1) | exact HB.out)) hb); clear HO_11; clear HO_12; clear HB; have HO_11 := n0_; have HO_12 := n1_; have HB := n2_; clear n0_ n1_ n2_; (try clear hb); (try clear hb2); (try clear hk); (try clear hi)))
                  go_ret
                  exact ⟨by first | rfl | (simp [errW_none, errW_some] <;> rfl) | (simp only [← hji18]; first | rfl | (simp [errW_none, errW_some] <;> rfl)) | (simp [*, errW_none, errW_some] <;> rfl), by repeat (first | (with_reducible first | exact HB.out | apply below_alloc | apply pw_below_drewN | apply below_drew1) | exact HB.out)⟩
                · rw [if_neg c37] at H
                  have c37b0 : (t131 == 0) = false := beq_eq_false_iff_ne.mpr c37
                  have c37b1 : (t131 != 0) = true := bne_iff_ne.mpr c37
                  obtain rfl := Option.some.inj H
                  obtain ⟨Ao42, co42, eo42⟩ := Kd.R_slice HO_11.out
                  subst eo42
                  obtain ⟨Ao43, co43, eo43⟩ := Kd.R_slice HO_12.out
                  subst eo43
                  go_wp2_with (first | ((with_reducible refine gate_callee (f := 10) rfl ?_); refine goesL_ (some 66) rfl rfl Try.func10 (by kernel_rfl) rfl #[.int .i64 (wrap64 (1 + (Int.tmod (wrap64 (a0)) 2))), .int .i64 ji18, .int .i64 (wrap64 (a2)), .int .i64 (wrap64 (a3)), .slice Ao43 x12_1.length co43] rfl (by (try simp only [List.map_toArray, List.map_cons, List.map_nil]); first | done | (simp only [hji18]; rfl) | rfl | (simp only [List.length_drop, List.length_take]; rfl)) ?_; (with_reducible refine (grant_Decide.calls (wrap64 (1 + (Int.tmod (wrap64 (a0)) 2))) ji18 (wrap64 (a2)) (wrap64 (a3)) _ _ x12_1 false t130 t131 _ ?side1 ?side2 A19.out).mono ?_); (case side1 => repeat (first | exact (Kd.R_reads' HO_12.out).2.2 | (with_reducible refine Kd.C_alloc ?_ _) | (with_reducible refine Kd.C_drewN ?_ _) | (with_reducible refine Kd.C_drew ?_))); (case side2 => exact (Kd.R_reads' HO_12.out).2.1); rintro e w44 ⟨rfl, hb⟩; refine ⟨_, rfl, ?_⟩; have n0_ := Aside0.mk (Kd.R_below (by (with_reducible repeat (first | apply Kd.R_alloc | apply Kd.R_drewN | apply Kd.R_drew)); exact HO_11.out) hb); have n1_ := Aside0.mk (Kd.R_below (by (with_reducible repeat (first | apply Kd.R_alloc | apply Kd.R_drewN | apply Kd.R_drew)); exact HO_12.out) hb); have n2_ := Aside0.mk (below_step (by repeat (first | (with_reducible first | exact HB.out | apply below_alloc | apply pw_below_drewN | apply below_drew1) | exact HB.out)) hb); clear HO_11; clear HO_12; clear HB; have HO_11 := n0_; have HO_12 := n1_; have HB := n2_; clear n0_ n1_ n2_; (try clear hb); (try clear hb2); (try clear hk); (try clear hi)) | ((with_reducible refine gate_callee (f := 10) rfl ?_); refine goesL_ (some 71) rfl rfl Try.func10 (by kernel_rfl) rfl #[.int .i64 3, .int .i64 0, .int .i64 0, .int .i64 0, .slice none 0 0] rfl (by (try simp only [List.map_toArray, List.map_cons, List.map_nil]); first | done | rfl | (simp only [List.length_drop, List.length_take]; rfl)) ?_; (refine (grant_Decide.calls 3 0 0 0 _ _ ([] : List Int) true t133 t134 _ ?side1 ?side2 A20.out).mono ?_); (case side1 => exact Kd.C_nil _ _); (case side2 => exact Nat.le_refl _); rintro e w45 ⟨rfl, hb⟩; refine ⟨_, rfl, ?_⟩; have n0_ := Aside0.mk (Kd.R_below (by (with_reducible repeat (first | apply Kd.R_alloc | apply Kd.R_drewN | apply Kd.R_drew)); exact HO_11.out) hb); have n1_ := Aside0.mk (Kd.R_below (by (with_reducible repeat (first | apply Kd.R_alloc | apply Kd.R_drewN | apply Kd.R_drew)); exact HO_12.out) hb); have n2_ := Aside0.mk (below_step (by repeat (first | (with_reducible first | exact HB.out | apply below_alloc | apply pw_below_drewN | apply below_drew1) | exact HB.out)) hb); clear HO_11; clear HO_12; clear HB; have HO_11 := n0_; have HO_12 := n1_; have HB := n2_; clear n0_ n1_ n2_; (try clear hb); (try clear hb2); (try clear hk); (try clear hi)))
                  go_ret
                  exact ⟨by first | rfl | (simp [errW_none, errW_some] <;> rfl) | (simp only [← hji18]; first | rfl | (simp [errW_none, errW_some] <;> rfl)) | (simp [*, errW_none, errW_some] <;> rfl), by repeat (first | (with_reducible first | exact HB.out | apply below_alloc | apply pw_below_drewN | apply below_drew1) | exact HB.out)⟩
              · rw [if_neg c36] at H
                have c36b0 : (t130 == 0) = false := beq_eq_false_iff_ne.mpr c36
                have c36b1 : (t130 != 0) = true := bne_iff_ne.mpr c36
                obtain rfl := Option.some.inj H
                obtain ⟨Ao46, co46, eo46⟩ := Kd.R_slice HO_11.out
                subst eo46
                obtain ⟨Ao47, co47, eo47⟩ := Kd.R_slice HO_12.out
                subst eo47
                go_wp2_with (first | ((with_reducible refine gate_callee (f := 10) rfl ?_); refine goesL_ (some 66) rfl rfl Try.func10 (by kernel_rfl) rfl #[.int .i64 (wrap64 (1 + (Int.tmod (wrap64 (a0)) 2))), .int .i64 ji18, .int .i64 (wrap64 (a2)), .int .i64 (wrap64 (a3)), .slice Ao47 x12_1.length co47] rfl (by (try simp only [List.map_toArray, List.map_cons, List.map_nil]); first | done | (simp only [hji18]; rfl) | rfl | (simp only [List.length_drop, List.length_take]; rfl)) ?_; (with_reducible refine (grant_Decide.calls (wrap64 (1 + (Int.tmod (wrap64 (a0)) 2))) ji18 (wrap64 (a2)) (wrap64 (a3)) _ _ x12_1 false t130 t131 _ ?side1 ?side2 A19.out).mono ?_); (case side1 => repeat (first | exact (Kd.R_reads' HO_12.out).2.2 | (with_reducible refine Kd.C_alloc ?_ _) | (with_reducible refine Kd.C_drewN ?_ _) | (with_reducible refine Kd.C_drew ?_))); (case side2 => exact (Kd.R_reads' HO_12.out).2.1); rintro e w48 ⟨rfl, hb⟩; refine ⟨_, rfl, ?_⟩; have n0_ := Aside0.mk (Kd.R_below (by (with_reducible repeat (first | apply Kd.R_alloc | apply Kd.R_drewN | apply Kd.R_drew)); exact HO_11.out) hb); have n1_ := Aside0.mk (Kd.R_below (by (with_reducible repeat (first | apply Kd.R_alloc | apply Kd.R_drewN | apply Kd.R_drew)); exact HO_12.out) hb); have n2_ := Aside0.mk (below_step (by repeat (first | (with_reducible first | exact HB.out | apply below_alloc | apply pw_below_drewN | apply below_drew1) | exact HB.out)) hb); clear HO_11; clear HO_12; clear HB; have HO_11 := n0_; have HO_12 := n1_; have HB := n2_; clear n0_ n1_ n2_; (try clear hb); (try clear hb2); (try clear hk); (try clear hi)) | ((with_reducible refine gate_callee (f := 10) rfl ?_); refine goesL_ (some 71) rfl rfl Try.func10 (by kernel_rfl) rfl #[.int .i64 3, .int .i64 0, .int .i64 0, .int .i64 0, .slice none 0 0] rfl (by (try simp only [List.map_toArray, List.map_cons, List.map_nil]); first | done | rfl | (simp only [List.length_drop, List.length_take]; rfl)) ?_; (refine (grant_Decide.calls 3 0 0 0 _ _ ([] : List Int) true t133 t134 _ ?side1 ?side2 A20.out).mono ?_); (case side1 => exact Kd.C_nil _ _); (case side2 => exact Nat.le_refl _); rintro e w49 ⟨rfl, hb⟩; refine ⟨_, rfl, ?_⟩; have n0_ := Aside0.mk (Kd.R_below (by (with_reducible repeat (first | apply Kd.R_alloc | apply Kd.R_drewN | apply Kd.R_drew)); exact HO_11.out) hb); have n1_ := Aside0.mk (Kd.R_below (by (with_reducible repeat (first | apply Kd.R_alloc | apply Kd.R_drewN | apply Kd.R_drew)); exact HO_12.out) hb); have n2_ := Aside0.mk (below_step (by repeat (first | (with_reducible first | exact HB.out | apply below_alloc | apply pw_below_drewN | apply below_drew1) | exact HB.out)) hb); clear HO_11; clear HO_12; clear HB; have HO_11 := n0_; have HO_12 := n1_; have HB := n2_; clear n0_ n1_ n2_; (try clear hb); (try clear hb2); (try clear hk); (try clear hi)))
                go_ret
                exact ⟨by first | rfl | (simp [errW_none, errW_some] <;> rfl) | (simp only [← hji18]; first | rfl | (simp [errW_none, errW_some] <;> rfl)) | (simp [*, errW_none, errW_some] <;> rfl), by repeat (first | (with_reducible first | exact HB.out | apply below_alloc | apply pw_below_drewN | apply below_drew1) | exact HB.out)⟩
          · replace c21 := Bool.eq_false_iff.mpr c21
            subst c21
            have H1 : (some false) = some r := by rw [if_neg (show ¬ (false = true) by decide)] at H; exact H
            clear H
            have H := H1
            clear H1
            obtain rfl := Option.some.inj H
            obtain ⟨Ao50, co50, eo50⟩ := Kd.R_slice HO_11.out
            subst eo50
            obtain ⟨Ao51, co51, eo51⟩ := Kd.R_slice HO_12.out
            subst eo51
            go_wp2_with (first | ((with_reducible refine gate_callee (f := 10) rfl ?_); refine goesL_ (some 66) rfl rfl Try.func10 (by kernel_rfl) rfl #[.int .i64 (wrap64 (1 + (Int.tmod (wrap64 (a0)) 2))), .int .i64 ji18, .int .i64 (wrap64 (a2)), .int .i64 (wrap64 (a3)), .slice Ao51 x12_1.length co51] rfl (by (try simp only [List.map_toArray, List.map_cons, List.map_nil]); first | done | (simp only [hji18]; rfl) | rfl | (simp only [List.length_drop, List.length_take]; rfl)) ?_; (with_reducible refine (grant_Decide.calls (wrap64 (1 + (Int.tmod (wrap64 (a0)) 2))) ji18 (wrap64 (a2)) (wrap64 (a3)) _ _ x12_1 t129 t130 t131 _ ?side1 ?side2 A19.out).mono ?_); (case side1 => repeat (first | exact (Kd.R_reads' HO_12.out).2.2 | (with_reducible refine Kd.C_alloc ?_ _) | (with_reducible refine Kd.C_drewN ?_ _) | (with_reducible refine Kd.C_drew ?_))); (case side2 => exact (Kd.R_reads' HO_12.out).2.1); rintro e w52 ⟨rfl, hb⟩; refine ⟨_, rfl, ?_⟩; have n0_ := Aside0.mk (Kd.R_below (by (with_reducible repeat (first | apply Kd.R_alloc | apply Kd.R_drewN | apply Kd.R_drew)); exact HO_11.out) hb); have n1_ := Aside0.mk (Kd.R_below (by (with_reducible repeat (first | apply Kd.R_alloc | apply Kd.R_drewN | apply Kd.R_drew)); exact HO_12.out) hb); have n2_ := Aside0.mk (below_step (by repeat (first | (with_reducible first | exact HB.out | apply below_alloc | apply pw_below_drewN | apply below_drew1) | exact HB.out)) hb); clear HO_11; clear HO_12; clear HB; have HO_11 := n0_; have HO_12 := n1_; have HB := n2_; clear n0_ n1_ n2_; (try clear hb); (try clear hb2); (try clear hk); (try clear hi)) | ((with_reducible refine gate_callee (f := 10) rfl ?_); refine goesL_ (some 71) rfl rfl Try.func10 (by kernel_rfl) rfl #[.int .i64 3, .int .i64 0, .int .i64 0, .int .i64 0, .slice none 0 0] rfl (by (try simp only [List.map_toArray, List.map_cons, List.map_nil]); first | done | rfl | (simp only [List.length_drop, List.length_take]; rfl)) ?_; (refine (grant_Decide.calls 3 0 0 0 _ _ ([] : List Int) false t133 t134 _ ?side1 ?side2 A20.out).mono ?_); (case side1 => exact Kd.C_nil _ _); (case side2 => exact Nat.le_refl _); rintro e w53 ⟨rfl, hb⟩; refine ⟨_, rfl, ?_⟩; have n0_ := Aside0.mk (Kd.R_below (by (with_reducible repeat (first | apply Kd.R_alloc | apply Kd.R_drewN | apply Kd.R_drew)); exact HO_11.out) hb); have n1_ := Aside0.mk (Kd.R_below (by (with_reducible repeat (first | apply Kd.R_alloc | apply Kd.R_drewN | apply Kd.R_drew)); exact HO_12.out) hb); have n2_ := Aside0.mk (below_step (by repeat (first | (with_reducible first | exact HB.out | apply below_alloc | apply pw_below_drewN | apply below_drew1) | exact HB.out)) hb); clear HO_11; clear HO_12; clear HB; have HO_11 := n0_; have HO_12 := n1_; have HB := n2_; clear n0_ n1_ n2_; (try clear hb); (try clear hb2); (try clear hk); (try clear hi)))
            go_ret
            exact ⟨by first | rfl | (simp [errW_none, errW_some] <;> rfl) | (simp only [← hji18]; first | rfl | (simp [errW_none, errW_some] <;> rfl)) | (simp [*, errW_none, errW_some] <;> rfl), by repeat (first | (with_reducible first | exact HB.out | apply below_alloc | apply pw_below_drewN | apply below_drew1) | exact HB.out)⟩

/-- THE ONE PURE STATEMENT of pacelinelaw19_GrantSafe: yours. -/
def pacelinelaw19_GrantSafe.Pure : Prop := ∀ (a0 : Int) (a1 : Int) (a2 : Int) (a3 : Int) (l4 : List Int), (Lit.int .u8 a0).wf = true → (Lit.int .u16 a1).wf = true → (Lit.int .u16 a2).wf = true → (Lit.int .u16 a3).wf = true → l4.length ≤ maxLen → l4.length * 8 ≤ 140737488351232 → (∀ x ∈ l4, (Lit.int .i64 x).wf = true) → ∃ k, pacelinelaw19_GrantSafe.f k a0 a1 a2 a3 l4 = some true
theorem pacelinelaw19_GrantSafe.walk (P : pacelinelaw19_GrantSafe.Pure) (a0 : Int) (a1 : Int) (a2 : Int) (a3 : Int) (a4 : Option Addr) (len4 cap4 : Nat) (z4 : List Int) (w : World) (w0 : (Lit.int .u8 a0).wf = true) (w1 : (Lit.int .u16 a1).wf = true) (w2 : (Lit.int .u16 a2).wf = true) (w3 : (Lit.int .u16 a3).wf = true) (w4 : (a4 = none ∧ len4 = 0 ∧ cap4 = 0 ∧ z4 = []) ∨ ∃ x, a4 = some x ∧ len4 ≤ cap4 ∧ cap4 ≤ maxLen ∧ z4.length = cap4 ∧ (∀ i, i < z4.length → w.cell? (x.add i) = some (.int .i64 (z4.getD i 0))) ∧ ∀ n ∈ z4, (Lit.int .i64 n).wf = true) (y4 : len4 * 8 ≤ 140737488351232) :
    Calls Try.prog 4 #[.int .u8 a0, .int .u16 a1, .int .u16 a2, .int .u16 a3, .slice a4 len4 cap4] w fun e w' => e = .returned (.bool true) ∧ Below w.heap.size w w' := by
  obtain ⟨l4, rfl, hr4, hm4, hw4, hc4⟩ := ReadsInt.ofRowC w4
  obtain ⟨k, h⟩ := P a0 a1 a2 a3 l4 w0 w1 w2 w3 hm4 y4 hw4
  refine (pacelinelaw19_GrantSafe.calls k a0 a1 a2 a3 _ _ l4 true w (Kd.C_of_reads (d := (0 : Int)) (h1 := fun _ => rfl) hr4) hc4 h).mono ?_
  rintro e w' ⟨rfl, hd⟩
  exact ⟨rfl, hd⟩

end Go.Proofs.Ytmjjejjlfkigjaa.XGrantSafe
