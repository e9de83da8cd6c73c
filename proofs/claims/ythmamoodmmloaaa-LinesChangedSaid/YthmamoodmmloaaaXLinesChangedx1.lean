/- Functions of the given program as plain Lean functions, each with a proof that its call comes to what the function says; printed by a program of this session out of the kit's print and contracts proved by hand. -/
import Derived.Test.YthmamoodmmloaaaXLinesChangedx0
namespace Go.Proofs.Ythmamoodmmloaaa.XLinesChanged
open Go.Proofs.Ythmamoodmmloaaa.Ext
open Go.RowKit Go.Proofs.YthmamoodmmloaaaW.PrintWords Go.Proofs.YthmamoodmmloaaaW.PrintLast Go.Proofs.YthmamoodmmloaaaW.PrintMore
attribute [local go_sem] max2_int min2_int max_two min_two max_three min_three max_four min_four   -- for this text's walks alone
set_option linter.unusedVariables false
set_option linter.unusedSimpArgs false

-- lines_Seal: function 8: by hand

/-! ### lines_Unseal: function 9 -/
def lines_Unseal.f (a0 : ByteArray) : Option (ByteArray × Int) := if (wrap64 ((a0.size : Int) - 10)) < 0 then (some ((⟨#[]⟩ : ByteArray), 21)) else (if 0 ≤ (wrap64 ((a0.size : Int) - 10)) then (if (wrap64 ((a0.size : Int) - 10)) ≤ (a0.size : Int) then ((lines_Seal.f (a0.extract 0 ((wrap64 ((a0.size : Int) - 10)) : Int).toNat)).bind fun t101 => (if t101.toList = a0.toList then (some (a0.extract 0 ((wrap64 ((a0.size : Int) - 10)) : Int).toNat, 0)) else (some ((⟨#[]⟩ : ByteArray), 21)))) else (none)) else (none))
set_option maxHeartbeats 8000000 in
set_option maxRecDepth 100000 in
theorem lines_Unseal.calls (a0 : ByteArray) (r1 : ByteArray) (r2 : Int) (w : World) (h : lines_Unseal.f a0 = some (r1, r2)) :
    Calls Try.prog 9 #[.string a0] w fun e w' => e = .returned (.tuple #[.string r1, .int .i64 r2]) ∧ Below w.heap.size w w' := by
  have HB := Aside0.mk (Below.refl w.heap.size w)
  have H : (if (wrap64 ((a0.size : Int) - 10)) < 0 then (some ((⟨#[]⟩ : ByteArray), 21)) else (if 0 ≤ (wrap64 ((a0.size : Int) - 10)) then (if (wrap64 ((a0.size : Int) - 10)) ≤ (a0.size : Int) then ((lines_Seal.f (a0.extract 0 ((wrap64 ((a0.size : Int) - 10)) : Int).toNat)).bind fun t101 => (if t101.toList = a0.toList then (some (a0.extract 0 ((wrap64 ((a0.size : Int) - 10)) : Int).toNat, 0)) else (some ((⟨#[]⟩ : ByteArray), 21)))) else (none)) else (none))) = some (r1, r2) := h
  clear h
  by_cases c2 : (wrap64 ((a0.size : Int) - 10)) < 0
  · rw [if_pos c2] at H
    have c2b0 : decide ((wrap64 ((a0.size : Int) - 10)) < 0) = true := decide_eq_true c2
    clear c2
    simp only [Option.some.injEq, Prod.mk.injEq] at H
    obtain ⟨rfl, rfl⟩ := H
    go_enter Try.func9, Try.ntmps9
    go_wp2
    go_ret2
    exact ⟨by first | rfl | (simp [errW_none, errW_some] <;> rfl) | (simp [*, errW_none, errW_some] <;> rfl), by repeat (first | (with_reducible first | exact HB.out | apply below_alloc | apply pw_below_drewN | apply below_drew1) | exact HB.out)⟩
  · rw [if_neg c2] at H
    have c2b0 : decide ((wrap64 ((a0.size : Int) - 10)) < 0) = false := decide_eq_false c2
    clear c2
    obtain ⟨ji3, hji3⟩ : ∃ j_ : Int, (wrap64 ((a0.size : Int) - 10)) = j_ := ⟨_, rfl⟩
    replace H : (if 0 ≤ (ji3) then (if (ji3) ≤ (a0.size : Int) then ((lines_Seal.f (a0.extract 0 ((ji3) : Int).toNat)).bind fun t101 => (if t101.toList = a0.toList then (some (a0.extract 0 ((ji3) : Int).toNat, 0)) else (some ((⟨#[]⟩ : ByteArray), 21)))) else (none)) else (none)) = some (r1, r2) := by first | (rw [hji3] at H; exact H) | (simp only [hji3] at H ⊢; exact H)
    (try rw [hji3] at c2b0)
    have hji3w : (IntKind.i64.wrap ((a0.size : Int) - 10)) = ji3 := (i64_w _).trans hji3
    by_cases c4 : 0 ≤ (ji3)
    · rw [if_pos c4] at H
      have c4b0 := eq_true c4
      have c4b1 : decide (0 ≤ (ji3)) = true := decide_eq_true c4
      clear c4
      by_cases c5 : (ji3) ≤ (a0.size : Int)
      · rw [if_pos c5] at H
        have c5b0 := eq_true c5
        have c5b1 : decide ((ji3) ≤ (a0.size : Int)) = true := decide_eq_true c5
        clear c5
        replace H := Option.bind_eq_some_iff.mp H
        obtain ⟨t101, A60, H⟩ := H
        replace H : (if t101.toList = a0.toList then (some (a0.extract 0 ((ji3) : Int).toNat, 0)) else (some ((⟨#[]⟩ : ByteArray), 21))) = some (r1, r2) := H
        have A6 := Aside0.mk A60
        clear A60
        by_cases c7 : t101.toList = a0.toList
        · rw [if_pos c7] at H
          have c7b0 : (t101.toList == a0.toList) = true := beq_iff_eq.mpr c7
          have c7b1 : (t101.toList != a0.toList) = false := bne_eq_false_iff_eq.mpr c7
          clear c7
          have c8b0 := eq_true (of_decide_eq_true (by first | (with_reducible assumption) | assumption) : 0 ≤ (ji3))
          have c9b0 := eq_true (of_decide_eq_true (by first | (with_reducible assumption) | assumption) : (ji3) ≤ (a0.size : Int))
          simp only [Option.some.injEq, Prod.mk.injEq] at H
          obtain ⟨rfl, rfl⟩ := H
          go_enter Try.func9, Try.ntmps9
          go_wp2_with (first | (go_at_call 8; (with_reducible refine (lines_Seal.calls (a0.extract 0 ((ji3) : Int).toNat) t101 _ A6.out).mono ?_); rintro e w10 ⟨rfl, hb⟩; have n0_ := Aside0.mk (below_step (by repeat (first | (with_reducible first | exact HB.out | apply below_alloc | apply pw_below_drewN | apply below_drew1) | exact HB.out)) hb); clear HB; have HB := n0_; clear n0_; (try clear hb); (try clear hb2); (try clear hk); (try clear hi)))
          go_ret2
          exact ⟨by first | rfl | (simp [errW_none, errW_some] <;> rfl) | (simp only [← hji3]; first | rfl | (simp [errW_none, errW_some] <;> rfl)) | (simp [*, errW_none, errW_some] <;> rfl), by repeat (first | (with_reducible first | exact HB.out | apply below_alloc | apply pw_below_drewN | apply below_drew1) | exact HB.out)⟩
        · rw [if_neg c7] at H
          have c7b0 : (t101.toList == a0.toList) = false := beq_eq_false_iff_ne.mpr c7
          have c7b1 : (t101.toList != a0.toList) = true := bne_iff_ne.mpr c7
          simp only [Option.some.injEq, Prod.mk.injEq] at H
          obtain ⟨rfl, rfl⟩ := H
          go_enter Try.func9, Try.ntmps9
          go_wp2_with (first | (go_at_call 8; (with_reducible refine (lines_Seal.calls (a0.extract 0 ((ji3) : Int).toNat) t101 _ A6.out).mono ?_); rintro e w11 ⟨rfl, hb⟩; have n0_ := Aside0.mk (below_step (by repeat (first | (with_reducible first | exact HB.out | apply below_alloc | apply pw_below_drewN | apply below_drew1) | exact HB.out)) hb); clear HB; have HB := n0_; clear n0_; (try clear hb); (try clear hb2); (try clear hk); (try clear hi)))
          go_ret2
          exact ⟨by first | rfl | (simp [errW_none, errW_some] <;> rfl) | (simp only [← hji3]; first | rfl | (simp [errW_none, errW_some] <;> rfl)) | (simp [*, errW_none, errW_some] <;> rfl), by repeat (first | (with_reducible first | exact HB.out | apply below_alloc | apply pw_below_drewN | apply below_drew1) | exact HB.out)⟩
      · rw [if_neg c5] at H
        exact absurd H (by simp)
    · rw [if_neg c4] at H
      exact absurd H (by simp)

/-! ### pacelineref02_Sum: function 7 -/
def pacelineref02_Sum.l0 : Nat → ByteArray → Int → Int → Option (Int)
  | 0, _, _, _ => none
  | k + 1, x0, x3, x4 => if x4 < (x0.size : Int) then (if 0 ≤ x4 then (pacelineref02_Sum.l0 k x0 (((Go.bits .xor .u32 x3 ((bt x0 x4) % 4294967296)) * 16777619) % 4294967296) (wrap64 (x4 + 1))) else (none)) else (some x3)
def pacelineref02_Sum.f (k : Nat) (a0 : ByteArray) : Option (Int) := pacelineref02_Sum.l0 k a0 2166136261 0
theorem pacelineref02_Sum.mono_l : ∀ k, (∀ y0 y1 y2, LeO (pacelineref02_Sum.l0 k y0 y1 y2) (pacelineref02_Sum.l0 (k + 1) y0 y1 y2))
  | 0 => fun _ _ _ r h => by simp [pacelineref02_Sum.l0] at h
  | k + 1 => by
    have ih0 := pacelineref02_Sum.mono_l k
    · intro y0 y1 y2
      unfold pacelineref02_Sum.l0
      repeat' first
      | (with_reducible exact ih0 _ _ _)
      | (with_reducible exact LeO.refl _)
      | (with_reducible exact LeO.none _)
      | (with_reducible refine LeO.ite ?_ ?_)
      | (with_reducible refine LeO.bind ?_ (fun _ => ?_))
      | exact ih0 _ _ _
      | exact LeO.none _
      | refine LeO.ite ?_ ?_
      | refine LeO.bind ?_ (fun _ => ?_)
theorem pacelineref02_Sum.mono : ∀ a0 k, LeO (pacelineref02_Sum.f k a0) (pacelineref02_Sum.f (k + 1) a0) := by
  intro a0 k
  have ih0 := pacelineref02_Sum.mono_l k
  unfold pacelineref02_Sum.f
  repeat' first
      | (with_reducible exact ih0 _ _ _)
      | (with_reducible exact LeO.refl _)
      | (with_reducible exact LeO.none _)
      | (with_reducible refine LeO.ite ?_ ?_)
      | (with_reducible refine LeO.bind ?_ (fun _ => ?_))
      | exact ih0 _ _ _
      | exact LeO.none _
      | refine LeO.ite ?_ ?_
      | refine LeO.bind ?_ (fun _ => ?_)
set_option maxHeartbeats 8000000 in
set_option maxRecDepth 100000 in
theorem pacelineref02_Sum.calls (k : Nat) (a0 : ByteArray) (r : Int) (w : World) (h : pacelineref02_Sum.f k a0 = some r) :
    Calls Try.prog 7 #[.string a0] w fun e w' => e = .returned (.int .u32 r) ∧ Drawn0 w w' := by
  have H : (pacelineref02_Sum.l0 k a0 2166136261 0) = some r := h
  clear h
  have H' := Aside0.mk H
  clear H
  go_enter Try.func7, Try.ntmps7
  go_wp2
  go_loopg [3, 4] k (fun kq v3 v4 w' => ∃ (x3_1 : Int) (x4_1 : Int), v3 = .int .u32 x3_1 ∧ v4 = .int .i64 x4_1 ∧ Aside0 (pacelineref02_Sum.l0 kq a0 x3_1 x4_1 = some r) ∧ Aside0 (kq ≤ k) ∧ Drawn0 w w')
  case atStart => exact ⟨(2166136261), (0), (by first | rfl | (simp; done) | (simp [*]; done)), (by first | rfl | (simp; done) | (simp [*]; done)), H', ⟨Nat.le_refl _⟩, by repeat (first | exact Drawn0.refl _ | apply Drawn0.step)⟩
  case round =>
    clear H'
    obtain ⟨x3_1, x4_1, rfl, rfl, HA, HK1, ⟨m1, rfl⟩⟩ := hrel
    cases gk with
    | zero => exact absurd HA.out (by simp [pacelineref02_Sum.l0])
    | succ k1 =>
      have H := HA.out
      clear HA
      simp only [pacelineref02_Sum.l0] at H
      by_cases c2 : x4_1 < (a0.size : Int)
      · rw [if_pos c2] at H
        have c2b0 : decide (x4_1 < (a0.size : Int)) = true := decide_eq_true c2
        clear c2
        by_cases c3 : 0 ≤ x4_1
        · rw [if_pos c3] at H
          have c3b0 : decide (0 ≤ x4_1) = true := decide_eq_true c3
          clear c3
          have H' := Aside0.mk H
          clear H
          have p4 : 0 ≤ (x4_1 : Int) := of_decide_eq_true (by first | (with_reducible assumption) | assumption)
          have q4 : x4_1 < (a0.size : Int) := of_decide_eq_true (by first | (with_reducible assumption) | assumption)
          have hx4 := bt_at a0 x4_1
          replace p4 := eq_true p4
          replace q4 := eq_true q4
          go_wp2
          go_roundg k1
          case measure => have := HK1.out; omega
          case rel => exact ⟨(((Go.bits .xor .u32 x3_1 ((bt a0 x4_1) % 4294967296)) * 16777619) % 4294967296), (wrap64 (x4_1 + 1)), (by first | rfl | (simp; done) | (simp [*]; done)), (by first | rfl | (simp; done) | (simp [*]; done)), H', ⟨by have := HK1.out; omega⟩, by repeat (first | exact Drawn0.refl _ | apply Drawn0.step)⟩
        · rw [if_neg c3] at H
          exact absurd H (by simp)
      · rw [if_neg c2] at H
        have c2b0 : decide (x4_1 < (a0.size : Int)) = false := decide_eq_false c2
        clear c2
        obtain rfl := Option.some.inj H
        go_wp2
        go_ret
        exact ⟨by first | rfl | (simp; done) | (simp [*]; done), by repeat (first | exact Drawn0.refl _ | apply Drawn0.step)⟩

/-! ### pacelineref02_Seal: function 11 -/
def pacelineref02_Seal.l0 : Nat → ByteArray → Int → ByteArray → Int → Option (ByteArray)
  | 0, _, _, _, _ => none
  | k + 1, x0, x3, x4, x5 => if x5 < 8 then (if 0 ≤ (wrap64 (Int.tmod x3 16)) then (if (wrap64 (Int.tmod x3 16)) ≤ (wrap64 ((wrap64 (Int.tmod x3 16)) + 1)) then (if (wrap64 ((wrap64 (Int.tmod x3 16)) + 1)) ≤ 16 then (if ((⟨#[48, 49, 50, 51, 52, 53, 54, 55, 56, 57, 97, 98, 99, 100, 101, 102]⟩ : ByteArray).extract ((wrap64 (Int.tmod x3 16)) : Int).toNat ((wrap64 ((wrap64 (Int.tmod x3 16)) + 1)) : Int).toNat).size + x4.size ≤ 9223372036854775807 then (pacelineref02_Seal.l0 k x0 ((Int.tdiv x3 16) % 4294967296) (((⟨#[48, 49, 50, 51, 52, 53, 54, 55, 56, 57, 97, 98, 99, 100, 101, 102]⟩ : ByteArray).extract ((wrap64 (Int.tmod x3 16)) : Int).toNat ((wrap64 ((wrap64 (Int.tmod x3 16)) + 1)) : Int).toNat) ++ x4) (wrap64 (x5 + 1))) else (none)) else (none)) else (none)) else (none)) else (if x0.size + 1 ≤ 9223372036854775807 then (if (x0 ++ (⟨#[61]⟩ : ByteArray)).size + x4.size ≤ 9223372036854775807 then (if ((x0 ++ (⟨#[61]⟩ : ByteArray)) ++ x4).size + 1 ≤ 9223372036854775807 then (some (((x0 ++ (⟨#[61]⟩ : ByteArray)) ++ x4) ++ (⟨#[10]⟩ : ByteArray))) else (none)) else (none)) else (none))
def pacelineref02_Seal.f (k : Nat) (a0 : ByteArray) : Option (ByteArray) := (pacelineref02_Sum.f k a0).bind fun t102 => (pacelineref02_Seal.l0 k a0 t102 (⟨#[]⟩ : ByteArray) 0)
theorem pacelineref02_Seal.mono_l : ∀ k, (∀ y0 y1 y2 y3, LeO (pacelineref02_Seal.l0 k y0 y1 y2 y3) (pacelineref02_Seal.l0 (k + 1) y0 y1 y2 y3))
  | 0 => fun _ _ _ _ r h => by simp [pacelineref02_Seal.l0] at h
  | k + 1 => by
    have ih0 := pacelineref02_Seal.mono_l k
    · intro y0 y1 y2 y3
      unfold pacelineref02_Seal.l0
      repeat' first
      | (with_reducible exact ih0 _ _ _ _)
      | (with_reducible exact pacelineref02_Sum.mono _ _)
      | (with_reducible exact LeO.refl _)
      | (with_reducible exact LeO.none _)
      | (with_reducible refine LeO.ite ?_ ?_)
      | (with_reducible refine LeO.bind ?_ (fun _ => ?_))
      | exact ih0 _ _ _ _
      | exact pacelineref02_Sum.mono _ _
      | exact LeO.none _
      | refine LeO.ite ?_ ?_
      | refine LeO.bind ?_ (fun _ => ?_)
theorem pacelineref02_Seal.mono : ∀ a0 k, LeO (pacelineref02_Seal.f k a0) (pacelineref02_Seal.f (k + 1) a0) := by
  intro a0 k
  have ih0 := pacelineref02_Seal.mono_l k
  unfold pacelineref02_Seal.f
  repeat' first
      | (with_reducible exact ih0 _ _ _ _)
      | (with_reducible exact pacelineref02_Sum.mono _ _)
      | (with_reducible exact LeO.refl _)
      | (with_reducible exact LeO.none _)
      | (with_reducible refine LeO.ite ?_ ?_)
      | (with_reducible refine LeO.bind ?_ (fun _ => ?_))
      | exact ih0 _ _ _ _
      | exact pacelineref02_Sum.mono _ _
      | exact LeO.none _
      | refine LeO.ite ?_ ?_
      | refine LeO.bind ?_ (fun _ => ?_)
set_option maxHeartbeats 8000000 in
set_option maxRecDepth 100000 in
theorem pacelineref02_Seal.calls (k : Nat) (a0 : ByteArray) (r : ByteArray) (w : World) (h : pacelineref02_Seal.f k a0 = some r) :
    Calls Try.prog 11 #[.string a0] w fun e w' => e = .returned (.string r) ∧ Drawn0 w w' := by
  have H : ((pacelineref02_Sum.f k a0).bind fun t102 => (pacelineref02_Seal.l0 k a0 t102 (⟨#[]⟩ : ByteArray) 0)) = some r := h
  clear h
  replace H := Option.bind_eq_some_iff.mp H
  obtain ⟨t102, A20, H⟩ := H
  replace H : (pacelineref02_Seal.l0 k a0 t102 (⟨#[]⟩ : ByteArray) 0) = some r := H
  have A2 := Aside0.mk A20
  clear A20
  have H' := Aside0.mk H
  clear H
  go_enter Try.func11, Try.ntmps11
  go_wp2_with (first | ((with_reducible refine gate_callee (f := 7) rfl ?_); refine goesL_ (some 8) rfl rfl Try.func7 (by kernel_rfl) rfl #[.string a0] rfl (by (try simp only [List.map_toArray, List.map_cons, List.map_nil]); first | done | rfl | (simp only [List.length_drop, List.length_take]; rfl)) ?_; (with_reducible refine (pacelineref02_Sum.calls k a0 t102 _ A2.out).mono ?_); rintro e w' ⟨rfl, ⟨nd, rfl⟩⟩; refine ⟨_, rfl, ?_⟩))
  go_loopg [3, 4, 5] k (fun kq v3 v4 v5 w' => ∃ (x3_1 : Int) (x4_1 : ByteArray) (x5_1 : Int), v3 = .int .u32 x3_1 ∧ v4 = .string x4_1 ∧ v5 = .int .i64 x5_1 ∧ Aside0 (pacelineref02_Seal.l0 kq a0 x3_1 x4_1 x5_1 = some r) ∧ Aside0 (kq ≤ k) ∧ Drawn0 w w')
  case atStart => exact ⟨(t102), ((⟨#[]⟩ : ByteArray)), (0), (by first | rfl | (simp; done) | (simp [*]; done)), (by first | rfl | (simp; done) | (simp [*]; done)), (by first | rfl | (simp; done) | (simp [*]; done)), H', ⟨Nat.le_refl _⟩, by repeat (first | exact Drawn0.refl _ | apply Drawn0.step)⟩
  case round =>
    clear H'
    try clear c1
    try clear p2
    obtain ⟨x3_1, x4_1, x5_1, rfl, rfl, rfl, HA, HK1, ⟨m1, rfl⟩⟩ := hrel
    cases gk with
    | zero => exact absurd HA.out (by simp [pacelineref02_Seal.l0])
    | succ k1 =>
      have H := HA.out
      clear HA
      simp only [pacelineref02_Seal.l0] at H
      by_cases c3 : x5_1 < 8
      · rw [if_pos c3] at H
        have c3b0 : decide (x5_1 < 8) = true := decide_eq_true c3
        clear c3
        obtain ⟨ji4, hji4⟩ : ∃ j_ : Int, (wrap64 (Int.tmod x3_1 16)) = j_ := ⟨_, rfl⟩
        replace H : (if 0 ≤ (ji4) then (if (ji4) ≤ (wrap64 ((ji4) + 1)) then (if (wrap64 ((ji4) + 1)) ≤ 16 then (if ((⟨#[48, 49, 50, 51, 52, 53, 54, 55, 56, 57, 97, 98, 99, 100, 101, 102]⟩ : ByteArray).extract ((ji4) : Int).toNat ((wrap64 ((ji4) + 1)) : Int).toNat).size + x4_1.size ≤ 9223372036854775807 then (pacelineref02_Seal.l0 k1 a0 ((Int.tdiv x3_1 16) % 4294967296) (((⟨#[48, 49, 50, 51, 52, 53, 54, 55, 56, 57, 97, 98, 99, 100, 101, 102]⟩ : ByteArray).extract ((ji4) : Int).toNat ((wrap64 ((ji4) + 1)) : Int).toNat) ++ x4_1) (wrap64 (x5_1 + 1))) else (none)) else (none)) else (none)) else (none)) = some r := by first | (rw [hji4] at H; exact H) | (simp only [hji4] at H ⊢; exact H)
        have hji4w : (IntKind.i64.wrap (Int.tmod x3_1 16)) = ji4 := (i64_w _).trans hji4
        by_cases c5 : 0 ≤ (ji4)
        · rw [if_pos c5] at H
          have c5b0 := eq_true c5
          have c5b1 : decide (0 ≤ (ji4)) = true := decide_eq_true c5
          clear c5
          by_cases c6 : (ji4) ≤ (wrap64 ((ji4) + 1))
          · rw [if_pos c6] at H
            have c6b0 := eq_true c6
            have c6b1 : decide ((ji4) ≤ (wrap64 ((ji4) + 1))) = true := decide_eq_true c6
            by_cases c7 : (wrap64 ((ji4) + 1)) ≤ 16
            · rw [if_pos c7] at H
              have c7b0 := eq_true c7
              have c7b1 : decide ((wrap64 ((ji4) + 1)) ≤ 16) = true := decide_eq_true c7
              by_cases c8 : ((⟨#[48, 49, 50, 51, 52, 53, 54, 55, 56, 57, 97, 98, 99, 100, 101, 102]⟩ : ByteArray).extract ((ji4) : Int).toNat ((wrap64 ((ji4) + 1)) : Int).toNat).size + x4_1.size ≤ 9223372036854775807
              · rw [if_pos c8] at H
                have c8b0 := eq_true c8
                have c8b1 : decide (((⟨#[48, 49, 50, 51, 52, 53, 54, 55, 56, 57, 97, 98, 99, 100, 101, 102]⟩ : ByteArray).extract ((ji4) : Int).toNat ((wrap64 ((ji4) + 1)) : Int).toNat).size + x4_1.size ≤ 9223372036854775807) = true := decide_eq_true c8
                try have c8b2 : (9223372036854775807 < ((⟨#[48, 49, 50, 51, 52, 53, 54, 55, 56, 57, 97, 98, 99, 100, 101, 102]⟩ : ByteArray).extract ((ji4) : Int).toNat ((wrap64 ((ji4) + 1)) : Int).toNat).size + x4_1.size) = False := eq_false (Nat.not_lt.2 c8)
                have H' := Aside0.mk H
                clear H
                go_wp2
                go_roundg k1
                case measure => have := HK1.out; omega
                case rel => exact ⟨((Int.tdiv x3_1 16) % 4294967296), (((⟨#[48, 49, 50, 51, 52, 53, 54, 55, 56, 57, 97, 98, 99, 100, 101, 102]⟩ : ByteArray).extract ((ji4) : Int).toNat ((wrap64 ((ji4) + 1)) : Int).toNat) ++ x4_1), (wrap64 (x5_1 + 1)), (by first | rfl | (simp; done) | (simp [*]; done)), (by first | rfl | (simp; done) | (simp only [← hji4] <;> (first | rfl | simp)) | (simp [*]; done)), (by first | rfl | (simp; done) | (simp [*]; done)), H', ⟨by have := HK1.out; omega⟩, by repeat (first | exact Drawn0.refl _ | apply Drawn0.step)⟩
              · rw [if_neg c8] at H
                exact absurd H (by simp)
            · rw [if_neg c7] at H
              exact absurd H (by simp)
          · rw [if_neg c6] at H
            exact absurd H (by simp)
        · rw [if_neg c5] at H
          exact absurd H (by simp)
      · rw [if_neg c3] at H
        have c3b0 : decide (x5_1 < 8) = false := decide_eq_false c3
        clear c3
        by_cases c9 : a0.size + 1 ≤ 9223372036854775807
        · rw [if_pos c9] at H
          have c9b0 := eq_true c9
          have c9b1 : decide (a0.size + 1 ≤ 9223372036854775807) = true := decide_eq_true c9
          try have c9b2 : (9223372036854775807 < a0.size + 1) = False := eq_false (Nat.not_lt.2 c9)
          by_cases c10 : (a0 ++ (⟨#[61]⟩ : ByteArray)).size + x4_1.size ≤ 9223372036854775807
          · rw [if_pos c10] at H
            have zc10 : ¬ (9223372036854775807 < a0.size + 1 + x4_1.size) := by have := c10; simp only [ByteArray.size_append] at this; exact Nat.not_lt.2 this
            have c10b0 := eq_true c10
            have c10b1 : decide ((a0 ++ (⟨#[61]⟩ : ByteArray)).size + x4_1.size ≤ 9223372036854775807) = true := decide_eq_true c10
            try have c10b2 : (9223372036854775807 < (a0 ++ (⟨#[61]⟩ : ByteArray)).size + x4_1.size) = False := eq_false (Nat.not_lt.2 c10)
            by_cases c11 : ((a0 ++ (⟨#[61]⟩ : ByteArray)) ++ x4_1).size + 1 ≤ 9223372036854775807
            · rw [if_pos c11] at H
              have zc11 : ¬ (9223372036854775807 < a0.size + 1 + x4_1.size + 1) := by have := c11; simp only [ByteArray.size_append] at this; exact Nat.not_lt.2 this
              have c11b0 := eq_true c11
              have c11b1 : decide (((a0 ++ (⟨#[61]⟩ : ByteArray)) ++ x4_1).size + 1 ≤ 9223372036854775807) = true := decide_eq_true c11
              try have c11b2 : (9223372036854775807 < ((a0 ++ (⟨#[61]⟩ : ByteArray)) ++ x4_1).size + 1) = False := eq_false (Nat.not_lt.2 c11)
              obtain rfl := Option.some.inj H
              go_wp2
              go_ret
              exact ⟨by first | rfl | (simp; done) | (simp [*]; done), by repeat (first | exact Drawn0.refl _ | apply Drawn0.step)⟩
            · rw [if_neg c11] at H
              exact absurd H (by simp)
          · rw [if_neg c10] at H
            exact absurd H (by simp)
        · rw [if_neg c9] at H
          exact absurd H (by simp)

end Go.Proofs.Ythmamoodmmloaaa.XLinesChanged
