/- Functions of the given program as plain Lean functions, each with a proof that its call comes to what the function says; printed by a program of this session out of the kit's print and contracts proved by hand. -/
import Derived.Test.YtemedggbodkhcaaXPastOrderx0
namespace Go.Proofs.Ytemedggbodkhcaa.XPastOrder
open Go.Proofs.Ytemedggbodkhcaa
open Go.RowKit Go.Proofs.YtemedggbodkhcaaW.PrintWords Go.Proofs.YtemedggbodkhcaaW.PrintLast Go.Proofs.YtemedggbodkhcaaW.PrintMore
attribute [local go_sem] max2_int min2_int max_two min_two max_three min_three max_four min_four   -- for this text's walks alone
set_option linter.unusedVariables false
set_option linter.unusedSimpArgs false

/-! ### pacelinelaw13_heavy: function 15 -/
def pacelinelaw13_heavy.l0 : Nat → List (S47) → Int → Option (Bool)
  | 0, _, _ => none
  | k + 1, x0, x3 => if x3 < (x0.length : Int) then (if 0 ≤ x3 then (if (((rd_T47 x0 x3).f1.f4).length : Int) > 20 then (some true) else (pacelinelaw13_heavy.l0 k x0 (wrap64 (x3 + 1)))) else (none)) else (some false)
def pacelinelaw13_heavy.f (k : Nat) (l0 : List (S47)) : Option (Bool) := if (l0.length : Int) > 200 then (some true) else (pacelinelaw13_heavy.l0 k l0 0)
theorem pacelinelaw13_heavy.mono_l : ∀ k, (∀ y0 y1, LeO (pacelinelaw13_heavy.l0 k y0 y1) (pacelinelaw13_heavy.l0 (k + 1) y0 y1))
  | 0 => fun _ _ r h => by simp [pacelinelaw13_heavy.l0] at h
  | k + 1 => by
    have ih0 := pacelinelaw13_heavy.mono_l k
    · intro y0 y1
      unfold pacelinelaw13_heavy.l0
      repeat' first
      | (with_reducible exact ih0 _ _)
      | (with_reducible exact LeO.refl _)
      | (with_reducible exact LeO.none _)
      | (with_reducible refine LeO.ite ?_ ?_)
      | (with_reducible refine LeO.bind ?_ (fun _ => ?_))
      | exact ih0 _ _
      | exact LeO.none _
      | refine LeO.ite ?_ ?_
      | refine LeO.bind ?_ (fun _ => ?_)
theorem pacelinelaw13_heavy.mono : ∀ a0 k, LeO (pacelinelaw13_heavy.f k a0) (pacelinelaw13_heavy.f (k + 1) a0) := by
  intro a0 k
  have ih0 := pacelinelaw13_heavy.mono_l k
  unfold pacelinelaw13_heavy.f
  repeat' first
      | (with_reducible exact ih0 _ _)
      | (with_reducible exact LeO.refl _)
      | (with_reducible exact LeO.none _)
      | (with_reducible refine LeO.ite ?_ ?_)
      | (with_reducible refine LeO.bind ?_ (fun _ => ?_))
      | exact ih0 _ _
      | exact LeO.none _
      | refine LeO.ite ?_ ?_
      | refine LeO.bind ?_ (fun _ => ?_)
set_option maxHeartbeats 8000000 in
set_option maxRecDepth 100000 in
theorem pacelinelaw13_heavy.calls (k : Nat) (A0 : Option Addr) (c0 : Nat) (l0 : List (S47)) (r : Bool) (w : World) (hr0 : Kd.C k47 w A0 l0.length l0) (hc0 : l0.length ≤ c0) (h : pacelinelaw13_heavy.f k l0 = some r) :
    Calls Try.prog 15 #[.slice A0 l0.length c0] w fun e w' => e = .returned (.bool r) ∧ Drawn0 w w' := by
  have HR0 := Aside0.mk hr0
  have HC0 := Aside0.mk hc0
  clear hr0 hc0
  have H : (if (l0.length : Int) > 200 then (some true) else (pacelinelaw13_heavy.l0 k l0 0)) = some r := h
  clear h
  by_cases c2 : (l0.length : Int) > 200
  · rw [if_pos c2] at H
    have c2b0 : decide (200 < (l0.length : Int)) = true := decide_eq_true c2
    have c2b1 : decide (200 < l0.length) = true := decide_eq_true (by omega)
    clear c2
    obtain rfl := Option.some.inj H
    go_enter Try.func15, Try.ntmps15
    go_wp2
    go_ret
    exact ⟨by first | rfl | (simp; done) | (simp [*]; done), by repeat (first | exact Drawn0.refl _ | apply Drawn0.step)⟩
  · rw [if_neg c2] at H
    have c2b0 : decide (200 < (l0.length : Int)) = false := decide_eq_false c2
    have c2b1 : decide (200 < l0.length) = false := decide_eq_false (by omega)
    clear c2
    have H' := Aside0.mk H
    clear H
    go_enter Try.func15, Try.ntmps15
    go_wp2
    go_loopg [3] k (fun kq v3 w' => ∃ (x3_1 : Int), v3 = .int .i64 x3_1 ∧ Aside0 (pacelinelaw13_heavy.l0 kq l0 x3_1 = some r) ∧ Aside0 (kq ≤ k) ∧ Drawn0 w w')
    case atStart => exact ⟨(0), (by first | rfl | (simp; done) | (simp [*]; done)), H', ⟨Nat.le_refl _⟩, by repeat (first | exact Drawn0.refl _ | apply Drawn0.step)⟩
    case round =>
      clear H'
      try clear c1
      try clear c2
      try clear c2b0
      try clear c2b1
      try clear p2
      obtain ⟨x3_1, rfl, HA, HK1, ⟨m1, rfl⟩⟩ := hrel
      cases gk with
      | zero => exact absurd HA.out (by simp [pacelinelaw13_heavy.l0])
      | succ k1 =>
        have H := HA.out
        clear HA
        simp only [pacelinelaw13_heavy.l0] at H
        by_cases c3 : x3_1 < (l0.length : Int)
        · rw [if_pos c3] at H
          have c3b0 : decide (x3_1 < (l0.length : Int)) = true := decide_eq_true c3
          clear c3
          by_cases c4 : 0 ≤ x3_1
          · rw [if_pos c4] at H
            have c4b0 : decide (0 ≤ x3_1) = true := decide_eq_true c4
            clear c4
            by_cases c5 : (((rd_T47 l0 x3_1).f1.f4).length : Int) > 20
            · rw [if_pos c5] at H
              have c5b0 : decide (20 < (((rd_T47 l0 x3_1).f1.f4).length : Int)) = true := decide_eq_true c5
              have c5b1 : decide (20 < ((rd_T47 l0 x3_1).f1.f4).length) = true := decide_eq_true (by omega)
              clear c5
              obtain rfl := Option.some.inj H
              have p101 : 0 ≤ (x3_1 : Int) := of_decide_eq_true (by first | (with_reducible assumption) | assumption)
              have q101 : x3_1 < (l0.length : Int) := of_decide_eq_true (by first | (with_reducible assumption) | assumption)
              obtain ⟨ad101, A101_10, c101_10, e101, hx101_0, hx101_1, hx101_2, hx101_3, hx101_4, hx101_5, hx101_6, hx101_7, hx101_8, hx101_9, hx101_10, hl101_10, hi101_10⟩ := at_T47 HR0.out x3_1 p101 q101
              cases e101
              have HR101_10 := Aside0.mk hi101_10
              have HC101_10 := Aside0.mk hl101_10
              clear hi101_10 hl101_10
              replace p101 := eq_true p101
              replace q101 := eq_true q101
              go_wp2
              go_ret
              exact ⟨by first | rfl | (simp; done) | (simp [*]; done), by repeat (first | exact Drawn0.refl _ | apply Drawn0.step)⟩
            · rw [if_neg c5] at H
              have c5b0 : decide (20 < (((rd_T47 l0 x3_1).f1.f4).length : Int)) = false := decide_eq_false c5
              have c5b1 : decide (20 < ((rd_T47 l0 x3_1).f1.f4).length) = false := decide_eq_false (by omega)
              clear c5
              have H' := Aside0.mk H
              clear H
              have p101 : 0 ≤ (x3_1 : Int) := of_decide_eq_true (by first | (with_reducible assumption) | assumption)
              have q101 : x3_1 < (l0.length : Int) := of_decide_eq_true (by first | (with_reducible assumption) | assumption)
              obtain ⟨ad101, A101_10, c101_10, e101, hx101_0, hx101_1, hx101_2, hx101_3, hx101_4, hx101_5, hx101_6, hx101_7, hx101_8, hx101_9, hx101_10, hl101_10, hi101_10⟩ := at_T47 HR0.out x3_1 p101 q101
              cases e101
              have HR101_10 := Aside0.mk hi101_10
              have HC101_10 := Aside0.mk hl101_10
              clear hi101_10 hl101_10
              replace p101 := eq_true p101
              replace q101 := eq_true q101
              go_wp2
              go_roundg k1
              case measure => have := HK1.out; omega
              case rel => exact ⟨(wrap64 (x3_1 + 1)), (by first | rfl | (simp; done) | (simp [*]; done)), H', ⟨by have := HK1.out; omega⟩, by repeat (first | exact Drawn0.refl _ | apply Drawn0.step)⟩
          · rw [if_neg c4] at H
            exact absurd H (by simp)
        · rw [if_neg c3] at H
          have c3b0 : decide (x3_1 < (l0.length : Int)) = false := decide_eq_false c3
          clear c3
          obtain rfl := Option.some.inj H
          go_wp2
          go_ret
          exact ⟨by first | rfl | (simp; done) | (simp [*]; done), by repeat (first | exact Drawn0.refl _ | apply Drawn0.step)⟩

/-! ### pacelinelaw13_PastOrder: function 6 -/
theorem heavy_l0 (l : List S47) (hl : l.length ≤ 200) (d : Nat) : ∀ (k : Nat) (i : Int), 0 ≤ i → i ≤ l.length → (l.length : Int) - i = d → d < k → ∃ r, pacelinelaw13_heavy.l0 k l i = some r ∧ (r = false → ∀ j : Nat, i ≤ j → j < l.length → (rd_T47 l j).f1.f4.length ≤ 20) := by
  induction d with
  | zero =>
    intro k i h0 h1 hd hk
    obtain ⟨k, rfl⟩ : ∃ m, k = m + 1 := ⟨k - 1, by omega⟩
    exact ⟨false, by simp only [pacelinelaw13_heavy.l0]; rw [if_neg (by omega)], fun _ j hj hj2 => by omega⟩
  | succ d ih =>
    intro k i h0 h1 hd hk
    obtain ⟨k, rfl⟩ : ∃ m, k = m + 1 := ⟨k - 1, by omega⟩
    have hlt : i < (l.length : Int) := by omega
    by_cases hx : (((rd_T47 l i).f1.f4).length : Int) > 20
    · exact ⟨true, by simp only [pacelinelaw13_heavy.l0]; rw [if_pos hlt, if_pos h0, if_pos hx], fun h => by cases h⟩
    · obtain ⟨r, hr, h⟩ := ih k (i + 1) (by omega) (by omega) (by omega) (by omega)
      refine ⟨r, ?_, fun hf j hj hj2 => ?_⟩
      · simp only [pacelinelaw13_heavy.l0]
        rw [if_pos hlt, if_pos h0, if_neg hx, show wrap64 (i + 1) = i + 1 by unfold wrap64; omega]
        exact hr
      · by_cases e : (j : Int) = i
        · subst e
          omega
        · exact h hf j (by omega) hj2
theorem heavy_some (l : List S47) : ∃ k r, pacelinelaw13_heavy.f k l = some r ∧ (r = false → l.length ≤ 200 ∧ ∀ j : Nat, j < l.length → (rd_T47 l j).f1.f4.length ≤ 20) := by
  by_cases hl : (l.length : Int) > 200
  · exact ⟨0, true, by unfold pacelinelaw13_heavy.f; rw [if_pos hl], fun h => by cases h⟩
  · obtain ⟨r, hr, h⟩ := heavy_l0 l (by omega) l.length (l.length + 1) 0 (by omega) (by omega) (by omega) (by omega)
    exact ⟨l.length + 1, r, by unfold pacelinelaw13_heavy.f; rw [if_neg hl]; exact hr, fun hf => ⟨by omega, fun j hj => h hf j (by omega) hj⟩⟩
/-- a message's six cells -/
def mcs (p : S29) : List Value := [.int .i64 p.f0.f0, .int .i64 p.f0.f1, .int .i64 p.f0.f2, .int .i64 p.f1, .int .i64 p.f2, .int .i64 p.f3]
instance : Inhabited S29 := ⟨z29⟩
theorem rd_of_C {w : World} {A : Option Addr} {c : Nat} {xs : List S29} (h : k29.C w A xs.length xs) (h20 : xs.length ≤ 20) : Past.Rd w (.slice A xs.length c) (xs.flatMap mcs) := by
  cases A with
  | none =>
    have : xs.length = 0 := by
      rcases Nat.eq_zero_or_pos xs.length with h0 | h0
      · exact h0
      · obtain ⟨ad, e, _⟩ := h.2.2 h0
        cases e
    have hx : xs = [] := List.eq_nil_of_length_eq_zero this
    subst hx
    exact .inl ⟨⟨c, rfl⟩, rfl⟩
  | some ad =>
    have hlen : (xs.flatMap mcs).length = xs.length * 6 := by
      rw [← Past.flatK_list mcs 6 (fun _ => rfl) xs]
      simp [Go.Sort.flatK]
    refine .inr ⟨ad, xs.length, c, rfl, hlen, by omega, fun u hu => ?_, fun j u hj => ?_⟩
    · obtain ⟨p, _, hp⟩ := List.mem_flatMap.1 hu
      simp only [mcs, List.mem_cons, List.not_mem_nil, or_false] at hp
      rcases hp with rfl | rfl | rfl | rfl | rfl | rfl <;> rfl
    · have hjl : j < xs.length * 6 := by rw [← hlen]; exact (List.getElem?_eq_some_iff.1 hj).1
      rw [Past.flatMap_get mcs 6 (fun _ => rfl) xs j hjl] at hj
      obtain ⟨ad', e, hc⟩ := h.2.2 (by omega)
      cases e
      have hq : j / 6 < xs.length := by omega
      obtain ⟨cs, hcl, hK, hcell⟩ := hc (j / 6) (xs[j / 6]!) (by rw [getElem!_pos xs (j / 6) hq, List.getElem?_eq_getElem hq])
      have hcs : cs = mcs (xs[j / 6]!) := k29_open hK
      rw [← hcs] at hj
      have := hcell (j % 6) u hj
      have e6 : j / 6 * k29.sz + j % 6 = j := by
        have : k29.sz = 6 := rfl
        rw [this]
        omega
      rwa [e6] at this
theorem steps_of {w : World} {A0 : Option Addr} {l0 : List S47} (h : Kd.C k47 w A0 l0.length l0) (h20 : ∀ j : Nat, j < l0.length → (rd_T47 l0 j).f1.f4.length ≤ 20) : Past.Steps w A0 l0.length := by
  intro i hi
  obtain ⟨ad, c, e, _, hK, hc⟩ := Kd.C_get h z47 (i : Int) (by omega) (by omega)
  obtain ⟨A10, c10, hcs, hl, hC⟩ := k47_open hK
  have e1 : ((i : Int)).toNat = i := by omega
  rw [e1] at hc hcs hl hC
  have hx := h20 i hi
  have ex : rd_T47 l0 (i : Int) = l0.getD i z47 := rfl
  rw [ex] at hx
  generalize l0.getD i z47 = x at *
  refine ⟨ad, x.f0, ⟨x.f1.f0.f0.f0, x.f1.f0.f0.f1, x.f1.f0.f0.f2, x.f1.f0.f1, x.f1.f0.f2, x.f1.f0.f3, x.f1.f1, x.f1.f2, x.f1.f3, A10, x.f1.f4.length, c10⟩, x.f1.f4.flatMap mcs, e, fun j u hj => ?_, rd_of_C hC hx⟩
  exact hc j u (by rw [hcs]; exact hj)
def pacelinelaw13_PastOrder.f (l0 : List (S47)) : Option (Bool) := some true
theorem pacelinelaw13_PastOrder.calls (A0 : Option Addr) (c0 : Nat) (l0 : List (S47)) (r : Bool) (w : World) (hr0 : Kd.C k47 w A0 l0.length l0) (hc0 : l0.length ≤ c0) (h : pacelinelaw13_PastOrder.f l0 = some r) :
    Calls Try.prog 6 #[.slice A0 l0.length c0] w fun e w' => e = .returned (.bool r) ∧ Below w.heap.size w w' := by
  obtain rfl := Option.some.inj h
  obtain ⟨k, hv, hf, hb⟩ := heavy_some l0
  refine Past.order_walk w A0 c0 l0.length hv hc0 ((pacelinelaw13_heavy.calls k A0 c0 l0 hv w hr0 hc0 hf).mono ?_) (fun h => ⟨(hb h).1, steps_of hr0 (hb h).2⟩)
  rintro e w' ⟨rfl, n, rfl⟩
  exact ⟨rfl, pw_below_drewN (Below.refl _ _) n⟩


end Go.Proofs.Ytemedggbodkhcaa.XPastOrder
