/- Functions of the given program as plain Lean functions, with proofs that the calls come to what they say (a program's print, made over by a program of this session). -/
import Derived.Test.YthmamoodmmloaaaPLinesSumsx0
namespace Go.Proofs.Ythmamoodmmloaaa.PLinesSums
open Go.RowKit Go.Proofs.YthmamoodmmloaaaW.PrintWords Go.Proofs.YthmamoodmmloaaaW.PrintLast Go.Proofs.YthmamoodmmloaaaW.PrintMore
attribute [local go_sem] max2_int min2_int max_two min_two max_three min_three max_four min_four   -- for this text's walks alone
set_option linter.unusedVariables false
set_option linter.unusedSimpArgs false

/-! ### lines_Sum: function 6 -/
def lines_Sum.l0 : Nat → ByteArray → Int → Int → Int → Option (Int)
  | 0, _, _, _, _ => none
  | k + 1, x0, x3, x6, x7 => if x7 < x6 then (if 0 ≤ x7 then (if x7 < (x0.size : Int) then (lines_Sum.l0 k x0 (((Go.bits .xor .u32 x3 ((bt x0 x7) % 4294967296)) * 16777619) % 4294967296) x6 (wrap64 (x7 + 1))) else (none)) else (none)) else (some x3)
def lines_Sum.f (k : Nat) (a0 : ByteArray) : Option (Int) := lines_Sum.l0 k a0 2166136261 (a0.size : Int) 0
theorem lines_Sum.mono_l : ∀ k, (∀ y0 y1 y2 y3, LeO (lines_Sum.l0 k y0 y1 y2 y3) (lines_Sum.l0 (k + 1) y0 y1 y2 y3))
  | 0 => fun _ _ _ _ r h => by simp [lines_Sum.l0] at h
  | k + 1 => by
    have ih0 := lines_Sum.mono_l k
    · intro y0 y1 y2 y3
      unfold lines_Sum.l0
      repeat' first
      | (with_reducible exact ih0 _ _ _ _)
      | (with_reducible exact LeO.refl _)
      | (with_reducible exact LeO.none _)
      | (with_reducible refine LeO.ite ?_ ?_)
      | (with_reducible refine LeO.bind ?_ (fun _ => ?_))
      | exact ih0 _ _ _ _
      | exact LeO.none _
      | refine LeO.ite ?_ ?_
      | refine LeO.bind ?_ (fun _ => ?_)
theorem lines_Sum.mono : ∀ a0 k, LeO (lines_Sum.f k a0) (lines_Sum.f (k + 1) a0) := by
  intro a0 k
  have ih0 := lines_Sum.mono_l k
  unfold lines_Sum.f
  repeat' first
      | (with_reducible exact ih0 _ _ _ _)
      | (with_reducible exact LeO.refl _)
      | (with_reducible exact LeO.none _)
      | (with_reducible refine LeO.ite ?_ ?_)
      | (with_reducible refine LeO.bind ?_ (fun _ => ?_))
      | exact ih0 _ _ _ _
      | exact LeO.none _
      | refine LeO.ite ?_ ?_
      | refine LeO.bind ?_ (fun _ => ?_)
set_option maxHeartbeats 8000000 in
set_option maxRecDepth 100000 in
theorem lines_Sum.calls (k : Nat) (a0 : ByteArray) (r : Int) (w : World) (h : lines_Sum.f k a0 = some r) :
    Calls Try.prog 6 #[.string a0] w fun e w' => e = .returned (.int .u32 r) ∧ Drawn0 w w' := by
  have H : (lines_Sum.l0 k a0 2166136261 (a0.size : Int) 0) = some r := h
  clear h
  have H' := Aside0.mk H
  clear H
  go_enter Try.func6, Try.ntmps6
  go_wp2
  go_loopg [3, 7] k (fun kq v3 v7 w' => ∃ (x3_1 : Int) (x7_1 : Int), v3 = .int .u32 x3_1 ∧ v7 = .int .i64 x7_1 ∧ Aside0 (lines_Sum.l0 kq a0 x3_1 (a0.size : Int) x7_1 = some r) ∧ Aside0 (kq ≤ k) ∧ Drawn0 w w')
  case atStart => exact ⟨(2166136261), (0), (by first | rfl | (simp; done) | (simp [*]; done)), (by first | rfl | (simp; done) | (simp [*]; done)), H', ⟨Nat.le_refl _⟩, by repeat (first | exact Drawn0.refl _ | apply Drawn0.step)⟩
  case round =>
    clear H'
    obtain ⟨x3_1, x7_1, rfl, rfl, HA, HK1, ⟨m1, rfl⟩⟩ := hrel
    cases gk with
    | zero => exact absurd HA.out (by simp [lines_Sum.l0])
    | succ k1 =>
      have H := HA.out
      clear HA
      simp only [lines_Sum.l0] at H
      by_cases c2 : x7_1 < (a0.size : Int)
      · rw [if_pos c2] at H
        have c2b0 : decide (x7_1 < (a0.size : Int)) = true := decide_eq_true c2
        clear c2
        by_cases c3 : 0 ≤ x7_1
        · rw [if_pos c3] at H
          have c3b0 : decide (0 ≤ x7_1) = true := decide_eq_true c3
          clear c3
          by_cases c4 : x7_1 < (a0.size : Int)
          · rw [if_pos c4] at H
            have c4b0 : decide (x7_1 < (a0.size : Int)) = true := decide_eq_true c4
            clear c4
            have H' := Aside0.mk H
            clear H
            have p5 : 0 ≤ (x7_1 : Int) := of_decide_eq_true (by first | (with_reducible assumption) | assumption)
            have q5 : x7_1 < (a0.size : Int) := of_decide_eq_true (by first | (with_reducible assumption) | assumption)
            have hx5 := bt_at a0 x7_1
            replace p5 := eq_true p5
            replace q5 := eq_true q5
            go_wp2
            go_roundg k1
            case measure => have := HK1.out; omega
            case rel => exact ⟨(((Go.bits .xor .u32 x3_1 ((bt a0 x7_1) % 4294967296)) * 16777619) % 4294967296), (wrap64 (x7_1 + 1)), (by first | rfl | (simp; done) | (simp [*]; done)), (by first | rfl | (simp; done) | (simp [*]; done)), H', ⟨by have := HK1.out; omega⟩, by repeat (first | exact Drawn0.refl _ | apply Drawn0.step)⟩
          · rw [if_neg c4] at H
            exact absurd H (by simp)
        · rw [if_neg c3] at H
          exact absurd H (by simp)
      · rw [if_neg c2] at H
        have c2b0 : decide (x7_1 < (a0.size : Int)) = false := decide_eq_false c2
        clear c2
        obtain rfl := Option.some.inj H
        go_wp2
        go_ret
        exact ⟨by first | rfl | (simp; done) | (simp [*]; done), by repeat (first | exact Drawn0.refl _ | apply Drawn0.step)⟩

/-! ### pacelineref02_Sum: function 7 -/
def pacelineref02_Sum.l0 : Nat → ByteArray → Int → Int → Option (Int)
  | 0, _, _, _ => none
  | k + 1, x0, x3, x4 => if x4 < (x0.size : Int) then (if 0 ≤ x4 then (pacelineref02_Sum.l0 k x0 (((Go.bits .xor .u32 x3 ((bt x0 x4) % 4294967296)) * 16777619) % 4294967296) (wrap64 (x4 + 1))) else (none)) else (some x3)
def pacelineref02_Sum.f (k : Nat) (a0 : ByteArray) : Option (Int) := pacelineref02_Sum.l0 k a0 2166136261 0
theorem pacelineref02_Sum.mono_l : ∀ k, (∀ y0 y1 y2, LeO (pacelineref02_Sum.l0 k y0 y1 y2) (pacelineref02_Sum.l0 (k + 1) y0 y1 y2))
  | 0 => fun _ _ _ r h => by simp [pacelineref02_Sum.l0] at h
  | k + 1 => by
    have ih0 := pacelineref02_Sum.mono_l k
    · intro y0 y1 y2
      unfold pacelineref02_Sum.l0
      repeat' first
      | (with_reducible exact ih0 _ _ _)
      | (with_reducible exact LeO.refl _)
      | (with_reducible exact LeO.none _)
      | (with_reducible refine LeO.ite ?_ ?_)
      | (with_reducible refine LeO.bind ?_ (fun _ => ?_))
      | exact ih0 _ _ _
      | exact LeO.none _
      | refine LeO.ite ?_ ?_
      | refine LeO.bind ?_ (fun _ => ?_)
theorem pacelineref02_Sum.mono : ∀ a0 k, LeO (pacelineref02_Sum.f k a0) (pacelineref02_Sum.f (k + 1) a0) := by
  intro a0 k
  have ih0 := pacelineref02_Sum.mono_l k
  unfold pacelineref02_Sum.f
  repeat' first
      | (with_reducible exact ih0 _ _ _)
      | (with_reducible exact LeO.refl _)
      | (with_reducible exact LeO.none _)
      | (with_reducible refine LeO.ite ?_ ?_)
      | (with_reducible refine LeO.bind ?_ (fun _ => ?_))
      | exact ih0 _ _ _
      | exact LeO.none _
      | refine LeO.ite ?_ ?_
      | refine LeO.bind ?_ (fun _ => ?_)
set_option maxHeartbeats 8000000 in
set_option maxRecDepth 100000 in
theorem pacelineref02_Sum.calls (k : Nat) (a0 : ByteArray) (r : Int) (w : World) (h : pacelineref02_Sum.f k a0 = some r) :
    Calls Try.prog 7 #[.string a0] w fun e w' => e = .returned (.int .u32 r) ∧ Drawn0 w w' := by
  have H : (pacelineref02_Sum.l0 k a0 2166136261 0) = some r := h
  clear h
  have H' := Aside0.mk H
  clear H
  go_enter Try.func7, Try.ntmps7
  go_wp2
  go_loopg [3, 4] k (fun kq v3 v4 w' => ∃ (x3_1 : Int) (x4_1 : Int), v3 = .int .u32 x3_1 ∧ v4 = .int .i64 x4_1 ∧ Aside0 (pacelineref02_Sum.l0 kq a0 x3_1 x4_1 = some r) ∧ Aside0 (kq ≤ k) ∧ Drawn0 w w')
  case atStart => exact ⟨(2166136261), (0), (by first | rfl | (simp; done) | (simp [*]; done)), (by first | rfl | (simp; done) | (simp [*]; done)), H', ⟨Nat.le_refl _⟩, by repeat (first | exact Drawn0.refl _ | apply Drawn0.step)⟩
  case round =>
    clear H'
    obtain ⟨x3_1, x4_1, rfl, rfl, HA, HK1, ⟨m1, rfl⟩⟩ := hrel
    cases gk with
    | zero => exact absurd HA.out (by simp [pacelineref02_Sum.l0])
    | succ k1 =>
      have H := HA.out
      clear HA
      simp only [pacelineref02_Sum.l0] at H
      by_cases c2 : x4_1 < (a0.size : Int)
      · rw [if_pos c2] at H
        have c2b0 : decide (x4_1 < (a0.size : Int)) = true := decide_eq_true c2
        clear c2
        by_cases c3 : 0 ≤ x4_1
        · rw [if_pos c3] at H
          have c3b0 : decide (0 ≤ x4_1) = true := decide_eq_true c3
          clear c3
          have H' := Aside0.mk H
          clear H
          have p4 : 0 ≤ (x4_1 : Int) := of_decide_eq_true (by first | (with_reducible assumption) | assumption)
          have q4 : x4_1 < (a0.size : Int) := of_decide_eq_true (by first | (with_reducible assumption) | assumption)
          have hx4 := bt_at a0 x4_1
          replace p4 := eq_true p4
          replace q4 := eq_true q4
          go_wp2
          go_roundg k1
          case measure => have := HK1.out; omega
          case rel => exact ⟨(((Go.bits .xor .u32 x3_1 ((bt a0 x4_1) % 4294967296)) * 16777619) % 4294967296), (wrap64 (x4_1 + 1)), (by first | rfl | (simp; done) | (simp [*]; done)), (by first | rfl | (simp; done) | (simp [*]; done)), H', ⟨by have := HK1.out; omega⟩, by repeat (first | exact Drawn0.refl _ | apply Drawn0.step)⟩
        · rw [if_neg c3] at H
          exact absurd H (by simp)
      · rw [if_neg c2] at H
        have c2b0 : decide (x4_1 < (a0.size : Int)) = false := decide_eq_false c2
        clear c2
        obtain rfl := Option.some.inj H
        go_wp2
        go_ret
        exact ⟨by first | rfl | (simp; done) | (simp [*]; done), by repeat (first | exact Drawn0.refl _ | apply Drawn0.step)⟩

/-! ### pacelinelaw02_LinesSums: function 3 -/
def pacelinelaw02_LinesSums.j0 : Nat → ByteArray → Int → Int → ByteArray → Bool → Option (Bool)
  | 0, _, _, _, _, _ => none
  | k + 1, x0, x1, x2, x3, x18 => if x18 = true then (some true) else ((some (([x1] : List Int) : List Int)).bind fun y101 => (if x0.size + (strOfNums y101).size ≤ 9223372036854775807 then ((some (([x2] : List Int) : List Int)).bind fun y104 => (if x0.size + (strOfNums y104).size ≤ 9223372036854775807 then ((lines_Sum.f k (x0 ++ (strOfNums y101))).bind fun t107 => ((lines_Sum.f k x0).bind fun t108 => (if t107 = (((Go.bits .xor .u32 t108 ((x1) % 4294967296)) * 16777619) % 4294967296) then (if (x0 ++ (strOfNums y101)).size + x3.size ≤ 9223372036854775807 then ((lines_Sum.f k ((x0 ++ (strOfNums y101)) ++ x3)).bind fun t109 => (if (x0 ++ (strOfNums y104)).size + x3.size ≤ 9223372036854775807 then ((lines_Sum.f k ((x0 ++ (strOfNums y104)) ++ x3)).bind fun t110 => (if ((t109 == t110) == (x1 == x2)) = true then ((lines_Sum.f k ((x0 ++ (strOfNums y101)) ++ x3)).bind fun t111 => ((pacelineref02_Sum.f k ((x0 ++ (strOfNums y101)) ++ x3)).bind fun t112 => (some (t111 == t112)))) else (some false))) else (none))) else (none)) else (some false)))) else (none))) else (none)))
def pacelinelaw02_LinesSums.f (k : Nat) (a0 : ByteArray) (a1 : Int) (a2 : Int) (a3 : ByteArray) : Option (Bool) := if (a0.size : Int) > 1024 then (pacelinelaw02_LinesSums.j0 k a0 a1 a2 a3 true) else (pacelinelaw02_LinesSums.j0 k a0 a1 a2 a3 (decide ((a3.size : Int) > 1024)))
theorem pacelinelaw02_LinesSums.mono_l : ∀ k, (∀ y0 y1 y2 y3 y4, LeO (pacelinelaw02_LinesSums.j0 k y0 y1 y2 y3 y4) (pacelinelaw02_LinesSums.j0 (k + 1) y0 y1 y2 y3 y4))
  | 0 => fun _ _ _ _ _ r h => by simp [pacelinelaw02_LinesSums.j0] at h
  | k + 1 => by
    have ih0 := pacelinelaw02_LinesSums.mono_l k
    · intro y0 y1 y2 y3 y4
      unfold pacelinelaw02_LinesSums.j0
      repeat' first
      | (with_reducible exact ih0 _ _ _ _ _)
      | (with_reducible exact lines_Sum.mono _ _)
      | (with_reducible exact pacelineref02_Sum.mono _ _)
      | (with_reducible exact LeO.refl _)
      | (with_reducible exact LeO.none _)
      | (with_reducible refine LeO.ite ?_ ?_)
      | (with_reducible refine LeO.bind ?_ (fun _ => ?_))
      | exact ih0 _ _ _ _ _
      | exact lines_Sum.mono _ _
      | exact pacelineref02_Sum.mono _ _
      | exact LeO.none _
      | refine LeO.ite ?_ ?_
      | refine LeO.bind ?_ (fun _ => ?_)
theorem pacelinelaw02_LinesSums.mono : ∀ a0 a1 a2 a3 k, LeO (pacelinelaw02_LinesSums.f k a0 a1 a2 a3) (pacelinelaw02_LinesSums.f (k + 1) a0 a1 a2 a3) := by
  intro a0 a1 a2 a3 k
  have ih0 := pacelinelaw02_LinesSums.mono_l k
  unfold pacelinelaw02_LinesSums.f
  repeat' first
      | (with_reducible exact ih0 _ _ _ _ _)
      | (with_reducible exact lines_Sum.mono _ _)
      | (with_reducible exact pacelineref02_Sum.mono _ _)
      | (with_reducible exact LeO.refl _)
      | (with_reducible exact LeO.none _)
      | (with_reducible refine LeO.ite ?_ ?_)
      | (with_reducible refine LeO.bind ?_ (fun _ => ?_))
      | exact ih0 _ _ _ _ _
      | exact lines_Sum.mono _ _
      | exact pacelineref02_Sum.mono _ _
      | exact LeO.none _
      | refine LeO.ite ?_ ?_
      | refine LeO.bind ?_ (fun _ => ?_)
set_option maxHeartbeats 8000000 in
set_option maxRecDepth 100000 in
theorem pacelinelaw02_LinesSums.calls (k : Nat) (a0 : ByteArray) (a1 : Int) (a2 : Int) (a3 : ByteArray) (r : Bool) (w : World) (h : pacelinelaw02_LinesSums.f k a0 a1 a2 a3 = some r) :
    Calls Try.prog 3 #[.string a0, .int .u8 a1, .int .u8 a2, .string a3] w fun e w' => e = .returned (.bool r) ∧ Below w.heap.size w w' := by
  have HB := Aside0.mk (Below.refl w.heap.size w)
  have H : (if (a0.size : Int) > 1024 then (pacelinelaw02_LinesSums.j0 k a0 a1 a2 a3 true) else (pacelinelaw02_LinesSums.j0 k a0 a1 a2 a3 (decide ((a3.size : Int) > 1024)))) = some r := h
  clear h
  have HC5 := Aside0.mk H
  clear H
  go_enter Try.func3, Try.ntmps3
  go_upto_region 1 with (fail)
  go_cut [18] (fun v18 wc => ∃ (kq : Nat) (x18_4 : Bool), v18 = .bool x18_4 ∧ Aside0 (pacelinelaw02_LinesSums.j0 kq a0 a1 a2 a3 x18_4 = some r) ∧ Aside0 (kq ≤ k) ∧ Aside0 (Below w.heap.size w wc))
  case first =>
    have H := HC5.out
    clear HC5
    by_cases c6 : (a0.size : Int) > 1024
    · rw [if_pos c6] at H
      have c6b0 : decide (1024 < (a0.size : Int)) = true := decide_eq_true c6
      have c6b1 : decide (1024 < a0.size) = true := decide_eq_true (by omega)
      clear c6
      (first | rw [c6b0] | (simp only [i64_w, i32_w]; rw [c6b0]) | skip)
      have H' := Aside0.mk H
      clear H
      go_wp2
      go_meet
      case rel => exact ⟨_, (true), (by first | rfl | (simp; done) | (simp [*]; done)), H', ⟨by first | omega | exact Nat.le_refl _⟩, ⟨by repeat (first | (with_reducible first | exact HB.out | apply below_alloc | apply pw_below_drewN | apply below_drew1) | exact HB.out)⟩⟩
    · rw [if_neg c6] at H
      have c6b0 : decide (1024 < (a0.size : Int)) = false := decide_eq_false c6
      have c6b1 : decide (1024 < a0.size) = false := decide_eq_false (by omega)
      clear c6
      (first | rw [c6b0] | (simp only [i64_w, i32_w]; rw [c6b0]) | skip)
      have H' := Aside0.mk H
      clear H
      go_wp2
      go_meet
      case rel => exact ⟨_, (decide ((a3.size : Int) > 1024)), (by first | rfl | (simp; done) | (simp [*]; done)), H', ⟨by first | omega | exact Nat.le_refl _⟩, ⟨by repeat (first | (with_reducible first | exact HB.out | apply below_alloc | apply pw_below_drewN | apply below_drew1) | exact HB.out)⟩⟩
  case rest =>
    clear HC5
    try clear p2
    try clear c3
    try clear c6
    try clear c6b0
    try clear c6b1
    obtain ⟨kq, x18_4, rfl, HA, HJ4, HB⟩ := hcut
    cases kq with
    | zero => exact absurd HA.out (by simp [pacelinelaw02_LinesSums.j0])
    | succ kj4 =>
      have H := HA.out
      clear HA
      simp only [pacelinelaw02_LinesSums.j0] at H
      by_cases c7 : x18_4 = true
      · subst c7
        have H1 : (some true) = some r := by rw [if_pos rfl] at H; exact H
        clear H
        have H := H1
        clear H1
        obtain rfl := Option.some.inj H
        go_wp2
        go_ret
        exact ⟨by first | rfl | (simp [errW_none, errW_some] <;> rfl) | (simp [*, errW_none, errW_some] <;> rfl), by repeat (first | (with_reducible first | exact HB.out | apply below_alloc | apply pw_below_drewN | apply below_drew1) | exact HB.out)⟩
      · replace c7 := Bool.eq_false_iff.mpr c7
        subst c7
        have H1 : ((some (([a1] : List Int) : List Int)).bind fun y101 => (if a0.size + (strOfNums y101).size ≤ 9223372036854775807 then ((some (([a2] : List Int) : List Int)).bind fun y104 => (if a0.size + (strOfNums y104).size ≤ 9223372036854775807 then ((lines_Sum.f kj4 (a0 ++ (strOfNums y101))).bind fun t107 => ((lines_Sum.f kj4 a0).bind fun t108 => (if t107 = (((Go.bits .xor .u32 t108 ((a1) % 4294967296)) * 16777619) % 4294967296) then (if (a0 ++ (strOfNums y101)).size + a3.size ≤ 9223372036854775807 then ((lines_Sum.f kj4 ((a0 ++ (strOfNums y101)) ++ a3)).bind fun t109 => (if (a0 ++ (strOfNums y104)).size + a3.size ≤ 9223372036854775807 then ((lines_Sum.f kj4 ((a0 ++ (strOfNums y104)) ++ a3)).bind fun t110 => (if ((t109 == t110) == (a1 == a2)) = true then ((lines_Sum.f kj4 ((a0 ++ (strOfNums y101)) ++ a3)).bind fun t111 => ((pacelineref02_Sum.f kj4 ((a0 ++ (strOfNums y101)) ++ a3)).bind fun t112 => (some (t111 == t112)))) else (some false))) else (none))) else (none)) else (some false)))) else (none))) else (none))) = some r := by rw [if_neg (show ¬ (false = true) by decide)] at H; exact H
        clear H
        have H := H1
        clear H1
        obtain ⟨y101, hy101⟩ : ∃ y_ : List Int, y_ = (([a1] : List Int)) := ⟨_, rfl⟩
        replace H : (if a0.size + (strOfNums y101).size ≤ 9223372036854775807 then ((some (([a2] : List Int) : List Int)).bind fun y104 => (if a0.size + (strOfNums y104).size ≤ 9223372036854775807 then ((lines_Sum.f kj4 (a0 ++ (strOfNums y101))).bind fun t107 => ((lines_Sum.f kj4 a0).bind fun t108 => (if t107 = (((Go.bits .xor .u32 t108 ((a1) % 4294967296)) * 16777619) % 4294967296) then (if (a0 ++ (strOfNums y101)).size + a3.size ≤ 9223372036854775807 then ((lines_Sum.f kj4 ((a0 ++ (strOfNums y101)) ++ a3)).bind fun t109 => (if (a0 ++ (strOfNums y104)).size + a3.size ≤ 9223372036854775807 then ((lines_Sum.f kj4 ((a0 ++ (strOfNums y104)) ++ a3)).bind fun t110 => (if ((t109 == t110) == (a1 == a2)) = true then ((lines_Sum.f kj4 ((a0 ++ (strOfNums y101)) ++ a3)).bind fun t111 => ((pacelineref02_Sum.f kj4 ((a0 ++ (strOfNums y101)) ++ a3)).bind fun t112 => (some (t111 == t112)))) else (some false))) else (none))) else (none)) else (some false)))) else (none))) else (none)) = some r := by first | (rw [hy101]; with_reducible exact H) | (have H2_ := (Option.bind_some _ _).symm.trans H; rw [hy101]; with_reducible exact H2_) | (have H2_ := (Option.bind_some _ _).symm.trans H; with_reducible exact H2_) | with_reducible exact H | (rw [hy101]; exact H) | exact H
        have Ny101 := Aside0.mk hy101
        clear hy101
        by_cases c8 : a0.size + (strOfNums y101).size ≤ 9223372036854775807
        · rw [if_pos c8] at H
          have c8b0 := eq_true c8
          have c8b1 : decide (a0.size + (strOfNums y101).size ≤ 9223372036854775807) = true := decide_eq_true c8
          try have c8b2 : (9223372036854775807 < a0.size + (strOfNums y101).size) = False := eq_false (Nat.not_lt.2 c8)
          obtain ⟨y104, hy104⟩ : ∃ y_ : List Int, y_ = (([a2] : List Int)) := ⟨_, rfl⟩
          replace H : (if a0.size + (strOfNums y104).size ≤ 9223372036854775807 then ((lines_Sum.f kj4 (a0 ++ (strOfNums y101))).bind fun t107 => ((lines_Sum.f kj4 a0).bind fun t108 => (if t107 = (((Go.bits .xor .u32 t108 ((a1) % 4294967296)) * 16777619) % 4294967296) then (if (a0 ++ (strOfNums y101)).size + a3.size ≤ 9223372036854775807 then ((lines_Sum.f kj4 ((a0 ++ (strOfNums y101)) ++ a3)).bind fun t109 => (if (a0 ++ (strOfNums y104)).size + a3.size ≤ 9223372036854775807 then ((lines_Sum.f kj4 ((a0 ++ (strOfNums y104)) ++ a3)).bind fun t110 => (if ((t109 == t110) == (a1 == a2)) = true then ((lines_Sum.f kj4 ((a0 ++ (strOfNums y101)) ++ a3)).bind fun t111 => ((pacelineref02_Sum.f kj4 ((a0 ++ (strOfNums y101)) ++ a3)).bind fun t112 => (some (t111 == t112)))) else (some false))) else (none))) else (none)) else (some false)))) else (none)) = some r := by first | (rw [hy104]; with_reducible exact H) | (have H2_ := (Option.bind_some _ _).symm.trans H; rw [hy104]; with_reducible exact H2_) | (have H2_ := (Option.bind_some _ _).symm.trans H; with_reducible exact H2_) | with_reducible exact H | (rw [hy104]; exact H) | exact H
          have Ny104 := Aside0.mk hy104
          clear hy104
          by_cases c9 : a0.size + (strOfNums y104).size ≤ 9223372036854775807
          · rw [if_pos c9] at H
            have c9b0 := eq_true c9
            have c9b1 : decide (a0.size + (strOfNums y104).size ≤ 9223372036854775807) = true := decide_eq_true c9
            try have c9b2 : (9223372036854775807 < a0.size + (strOfNums y104).size) = False := eq_false (Nat.not_lt.2 c9)
            replace H := Option.bind_eq_some_iff.mp H
            obtain ⟨t107, A100, H⟩ := H
            replace H : ((lines_Sum.f kj4 a0).bind fun t108 => (if t107 = (((Go.bits .xor .u32 t108 ((a1) % 4294967296)) * 16777619) % 4294967296) then (if (a0 ++ (strOfNums y101)).size + a3.size ≤ 9223372036854775807 then ((lines_Sum.f kj4 ((a0 ++ (strOfNums y101)) ++ a3)).bind fun t109 => (if (a0 ++ (strOfNums y104)).size + a3.size ≤ 9223372036854775807 then ((lines_Sum.f kj4 ((a0 ++ (strOfNums y104)) ++ a3)).bind fun t110 => (if ((t109 == t110) == (a1 == a2)) = true then ((lines_Sum.f kj4 ((a0 ++ (strOfNums y101)) ++ a3)).bind fun t111 => ((pacelineref02_Sum.f kj4 ((a0 ++ (strOfNums y101)) ++ a3)).bind fun t112 => (some (t111 == t112)))) else (some false))) else (none))) else (none)) else (some false))) = some r := H
            have A10 := Aside0.mk A100
            clear A100
            replace H := Option.bind_eq_some_iff.mp H
            obtain ⟨t108, A110, H⟩ := H
            replace H : (if t107 = (((Go.bits .xor .u32 t108 ((a1) % 4294967296)) * 16777619) % 4294967296) then (if (a0 ++ (strOfNums y101)).size + a3.size ≤ 9223372036854775807 then ((lines_Sum.f kj4 ((a0 ++ (strOfNums y101)) ++ a3)).bind fun t109 => (if (a0 ++ (strOfNums y104)).size + a3.size ≤ 9223372036854775807 then ((lines_Sum.f kj4 ((a0 ++ (strOfNums y104)) ++ a3)).bind fun t110 => (if ((t109 == t110) == (a1 == a2)) = true then ((lines_Sum.f kj4 ((a0 ++ (strOfNums y101)) ++ a3)).bind fun t111 => ((pacelineref02_Sum.f kj4 ((a0 ++ (strOfNums y101)) ++ a3)).bind fun t112 => (some (t111 == t112)))) else (some false))) else (none))) else (none)) else (some false)) = some r := H
            have A11 := Aside0.mk A110
            clear A110
            by_cases c12 : t107 = (((Go.bits .xor .u32 t108 ((a1) % 4294967296)) * 16777619) % 4294967296)
            · rw [if_pos c12] at H
              have c12b0 : (t107 == (((Go.bits .xor .u32 t108 ((a1) % 4294967296)) * 16777619) % 4294967296)) = true := beq_iff_eq.mpr c12
              have c12b1 : (t107 != (((Go.bits .xor .u32 t108 ((a1) % 4294967296)) * 16777619) % 4294967296)) = false := bne_eq_false_iff_eq.mpr c12
              clear c12
              by_cases c13 : (a0 ++ (strOfNums y101)).size + a3.size ≤ 9223372036854775807
              · rw [if_pos c13] at H
                have c13b0 := eq_true c13
                have c13b1 : decide ((a0 ++ (strOfNums y101)).size + a3.size ≤ 9223372036854775807) = true := decide_eq_true c13
                try have c13b2 : (9223372036854775807 < (a0 ++ (strOfNums y101)).size + a3.size) = False := eq_false (Nat.not_lt.2 c13)
                replace H := Option.bind_eq_some_iff.mp H
                obtain ⟨t109, A140, H⟩ := H
                replace H : (if (a0 ++ (strOfNums y104)).size + a3.size ≤ 9223372036854775807 then ((lines_Sum.f kj4 ((a0 ++ (strOfNums y104)) ++ a3)).bind fun t110 => (if ((t109 == t110) == (a1 == a2)) = true then ((lines_Sum.f kj4 ((a0 ++ (strOfNums y101)) ++ a3)).bind fun t111 => ((pacelineref02_Sum.f kj4 ((a0 ++ (strOfNums y101)) ++ a3)).bind fun t112 => (some (t111 == t112)))) else (some false))) else (none)) = some r := H
                have A14 := Aside0.mk A140
                clear A140
                by_cases c15 : (a0 ++ (strOfNums y104)).size + a3.size ≤ 9223372036854775807
                · rw [if_pos c15] at H
                  have c15b0 := eq_true c15
                  have c15b1 : decide ((a0 ++ (strOfNums y104)).size + a3.size ≤ 9223372036854775807) = true := decide_eq_true c15
                  try have c15b2 : (9223372036854775807 < (a0 ++ (strOfNums y104)).size + a3.size) = False := eq_false (Nat.not_lt.2 c15)
                  replace H := Option.bind_eq_some_iff.mp H
                  obtain ⟨t110, A160, H⟩ := H
                  replace H : (if ((t109 == t110) == (a1 == a2)) = true then ((lines_Sum.f kj4 ((a0 ++ (strOfNums y101)) ++ a3)).bind fun t111 => ((pacelineref02_Sum.f kj4 ((a0 ++ (strOfNums y101)) ++ a3)).bind fun t112 => (some (t111 == t112)))) else (some false)) = some r := H
                  have A16 := Aside0.mk A160
                  clear A160
                  by_cases c17 : ((t109 == t110) == (a1 == a2)) = true
                  · rw [if_pos c17] at H
                    have c17b0 : ((t109 == t110) == (a1 == a2)) = true := c17
                    (try (have c17b1 : decide ((t109 == t110) = (a1 == a2)) = true := by simpa using c17))
                    (try (have c17b2 : ((t109 == t110) == (a1 == a2)) = true := by simpa using c17))
                    clear c17
                    replace H := Option.bind_eq_some_iff.mp H
                    obtain ⟨t111, A180, H⟩ := H
                    replace H : ((pacelineref02_Sum.f kj4 ((a0 ++ (strOfNums y101)) ++ a3)).bind fun t112 => (some (t111 == t112))) = some r := H
                    have A18 := Aside0.mk A180
                    clear A180
                    obtain rfl : t109 = t111 := Option.some.inj (A14.out.symm.trans A18.out)
                    replace H := Option.bind_eq_some_iff.mp H
                    obtain ⟨t112, A190, H⟩ := H
                    replace H : (some (t109 == t112)) = some r := H
                    have A19 := Aside0.mk A190
                    clear A190
                    obtain rfl := Option.some.inj H
                    go_wp2_with (first | ((with_reducible refine gate_dst (N := 21) rfl ?_); (try (refine gate_guard (by rfl) ?_; dsimp only)); refine Kd.R_lit (Kd.int .u8) _ 5 ?hg (N := 21) ?hd (xs := ([a1] : List Int)) (inner := [.int .u8 a1]) (ok := fun _ => True) (okp := fun _ => True) ?hr ?hp (fun _ hk => hk) trivial (Below.refl _ _) (Nat.le_refl _) (by simp) ?_; (case hd => rfl); (case hg => rfl); (case hr => first | (go_simp; done) | (go_simp; rfl)); (case hp => exact (Reps.one (show Kd.M (Kd.int .u8) _ _ _ a1 [.int .u8 a1] from rfl) (Reps.none _ _))); intro v102 w20 ho21 hb hg_ hnew_; clear hg_ hnew_; (first | rw [← Ny101.out] at ho21 | (simp only [Int.reduceToNat] at ho21; rw [← Ny101.out] at ho21)); have n0_ := Aside0.mk (Kd.R_lower ho21 (below_size (by repeat (first | (with_reducible first | exact HB.out | apply below_alloc | apply pw_below_drewN | apply below_drew1) | exact HB.out)))); have n1_ := Aside0.mk (below_step (by repeat (first | (with_reducible first | exact HB.out | apply below_alloc | apply pw_below_drewN | apply below_drew1) | exact HB.out)) hb); clear HB; have HO103 := n0_; have HB := n1_; clear n0_ n1_; clear hb ho21; have hcv22 := own_string (P := Try.prog) Try.underlying22 Try.underlying5 Try.underlying9 (Kd.own_of_R HO103.out)) | ((with_reducible refine gate_dst (N := 26) rfl ?_); (try (refine gate_guard (by rfl) ?_; dsimp only)); refine Kd.R_lit (Kd.int .u8) _ 5 ?hg (N := 26) ?hd (xs := ([a2] : List Int)) (inner := [.int .u8 a2]) (ok := fun _ => True) (okp := fun _ => True) ?hr ?hp (fun _ hk => hk) trivial (Below.refl _ _) (Nat.le_refl _) (by simp) ?_; (case hd => rfl); (case hg => rfl); (case hr => first | (go_simp; done) | (go_simp; rfl)); (case hp => exact (Reps.one (show Kd.M (Kd.int .u8) _ _ _ a2 [.int .u8 a2] from rfl) (Reps.none _ _))); intro v105 w23 ho24 hb hg_ hnew_; clear hg_ hnew_; (first | rw [← Ny104.out] at ho24 | (simp only [Int.reduceToNat] at ho24; rw [← Ny104.out] at ho24)); have n0_ := Aside0.mk (Kd.R_elder' (by (with_reducible repeat (first | apply Kd.R_alloc | apply Kd.R_drewN | apply Kd.R_drew)); exact HO103.out) (Kd.R_base ho24) hb); have n1_ := Aside0.mk (Kd.R_lower (Kd.R_new' ho24 (Kd.R_lt (by (with_reducible repeat (first | apply Kd.R_alloc | apply Kd.R_drewN | apply Kd.R_drew)); exact HO103.out))) (below_size (by repeat (first | (with_reducible first | exact HB.out | apply below_alloc | apply pw_below_drewN | apply below_drew1) | exact HB.out)))); have n2_ := Aside0.mk (below_step (by repeat (first | (with_reducible first | exact HB.out | apply below_alloc | apply pw_below_drewN | apply below_drew1) | exact HB.out)) hb); clear HO103; clear HB; have HO103 := n0_; have HO106 := n1_; have HB := n2_; clear n0_ n1_ n2_; clear hb ho24; have hcv25 := own_string (P := Try.prog) Try.underlying22 Try.underlying5 Try.underlying9 (Kd.own_of_R HO106.out)) | ((with_reducible refine gate_callee (f := 6) rfl ?_); refine goesL_ (some 30) rfl rfl Try.func6 (by kernel_rfl) rfl #[.string (a0 ++ (strOfNums y101))] rfl (by (try simp only [List.map_toArray, List.map_cons, List.map_nil]); first | done | rfl | (simp only [List.length_drop, List.length_take]; rfl)) ?_; (with_reducible refine (lines_Sum.calls kj4 (a0 ++ (strOfNums y101)) t107 _ A10.out).mono ?_); rintro e w' ⟨rfl, ⟨nd, rfl⟩⟩; refine ⟨_, rfl, ?_⟩) | ((with_reducible refine gate_callee (f := 6) rfl ?_); refine goesL_ (some 32) rfl rfl Try.func6 (by kernel_rfl) rfl #[.string a0] rfl (by (try simp only [List.map_toArray, List.map_cons, List.map_nil]); first | done | rfl | (simp only [List.length_drop, List.length_take]; rfl)) ?_; (with_reducible refine (lines_Sum.calls kj4 a0 t108 _ A11.out).mono ?_); rintro e w' ⟨rfl, ⟨nd, rfl⟩⟩; refine ⟨_, rfl, ?_⟩) | (go_at_call 6; (with_reducible refine (lines_Sum.calls kj4 ((a0 ++ (strOfNums y101)) ++ a3) t109 _ A14.out).mono ?_); rintro e w' ⟨rfl, ⟨nd, rfl⟩⟩) | (go_at_call 6; (with_reducible refine (lines_Sum.calls kj4 ((a0 ++ (strOfNums y104)) ++ a3) t110 _ A16.out).mono ?_); rintro e w' ⟨rfl, ⟨nd, rfl⟩⟩) | (go_at_call 6; (with_reducible refine (lines_Sum.calls kj4 ((a0 ++ (strOfNums y101)) ++ a3) t109 _ A18.out).mono ?_); rintro e w' ⟨rfl, ⟨nd, rfl⟩⟩) | (go_at_call 7; (with_reducible refine (pacelineref02_Sum.calls kj4 ((a0 ++ (strOfNums y101)) ++ a3) t112 _ A19.out).mono ?_); rintro e w' ⟨rfl, ⟨nd, rfl⟩⟩))
                    go_ret
                    exact ⟨by first | rfl | (simp [errW_none, errW_some] <;> rfl) | (simp [*, errW_none, errW_some] <;> rfl), by repeat (first | (with_reducible first | exact HB.out | apply below_alloc | apply pw_below_drewN | apply below_drew1) | exact HB.out)⟩
                  · rw [if_neg c17] at H
                    have c17b0 : ((t109 == t110) == (a1 == a2)) = false := by simpa using c17
                    (try (have c17b1 : decide ((t109 == t110) = (a1 == a2)) = false := by simpa using c17))
                    (try (have c17b2 : ((t109 == t110) == (a1 == a2)) = false := by simpa using c17))
                    (try (have c17b3 : ¬ ((t109 == t110) = (a1 == a2)) := by simpa using c17))
                    clear c17
                    obtain rfl := Option.some.inj H
                    go_wp2_with (first | ((with_reducible refine gate_dst (N := 21) rfl ?_); (try (refine gate_guard (by rfl) ?_; dsimp only)); refine Kd.R_lit (Kd.int .u8) _ 5 ?hg (N := 21) ?hd (xs := ([a1] : List Int)) (inner := [.int .u8 a1]) (ok := fun _ => True) (okp := fun _ => True) ?hr ?hp (fun _ hk => hk) trivial (Below.refl _ _) (Nat.le_refl _) (by simp) ?_; (case hd => rfl); (case hg => rfl); (case hr => first | (go_simp; done) | (go_simp; rfl)); (case hp => exact (Reps.one (show Kd.M (Kd.int .u8) _ _ _ a1 [.int .u8 a1] from rfl) (Reps.none _ _))); intro v102 w26 ho27 hb hg_ hnew_; clear hg_ hnew_; (first | rw [← Ny101.out] at ho27 | (simp only [Int.reduceToNat] at ho27; rw [← Ny101.out] at ho27)); have n0_ := Aside0.mk (Kd.R_lower ho27 (below_size (by repeat (first | (with_reducible first | exact HB.out | apply below_alloc | apply pw_below_drewN | apply below_drew1) | exact HB.out)))); have n1_ := Aside0.mk (below_step (by repeat (first | (with_reducible first | exact HB.out | apply below_alloc | apply pw_below_drewN | apply below_drew1) | exact HB.out)) hb); clear HB; have HO103 := n0_; have HB := n1_; clear n0_ n1_; clear hb ho27; have hcv28 := own_string (P := Try.prog) Try.underlying22 Try.underlying5 Try.underlying9 (Kd.own_of_R HO103.out)) | ((with_reducible refine gate_dst (N := 26) rfl ?_); (try (refine gate_guard (by rfl) ?_; dsimp only)); refine Kd.R_lit (Kd.int .u8) _ 5 ?hg (N := 26) ?hd (xs := ([a2] : List Int)) (inner := [.int .u8 a2]) (ok := fun _ => True) (okp := fun _ => True) ?hr ?hp (fun _ hk => hk) trivial (Below.refl _ _) (Nat.le_refl _) (by simp) ?_; (case hd => rfl); (case hg => rfl); (case hr => first | (go_simp; done) | (go_simp; rfl)); (case hp => exact (Reps.one (show Kd.M (Kd.int .u8) _ _ _ a2 [.int .u8 a2] from rfl) (Reps.none _ _))); intro v105 w29 ho30 hb hg_ hnew_; clear hg_ hnew_; (first | rw [← Ny104.out] at ho30 | (simp only [Int.reduceToNat] at ho30; rw [← Ny104.out] at ho30)); have n0_ := Aside0.mk (Kd.R_elder' (by (with_reducible repeat (first | apply Kd.R_alloc | apply Kd.R_drewN | apply Kd.R_drew)); exact HO103.out) (Kd.R_base ho30) hb); have n1_ := Aside0.mk (Kd.R_lower (Kd.R_new' ho30 (Kd.R_lt (by (with_reducible repeat (first | apply Kd.R_alloc | apply Kd.R_drewN | apply Kd.R_drew)); exact HO103.out))) (below_size (by repeat (first | (with_reducible first | exact HB.out | apply below_alloc | apply pw_below_drewN | apply below_drew1) | exact HB.out)))); have n2_ := Aside0.mk (below_step (by repeat (first | (with_reducible first | exact HB.out | apply below_alloc | apply pw_below_drewN | apply below_drew1) | exact HB.out)) hb); clear HO103; clear HB; have HO103 := n0_; have HO106 := n1_; have HB := n2_; clear n0_ n1_ n2_; clear hb ho30; have hcv31 := own_string (P := Try.prog) Try.underlying22 Try.underlying5 Try.underlying9 (Kd.own_of_R HO106.out)) | ((with_reducible refine gate_callee (f := 6) rfl ?_); refine goesL_ (some 30) rfl rfl Try.func6 (by kernel_rfl) rfl #[.string (a0 ++ (strOfNums y101))] rfl (by (try simp only [List.map_toArray, List.map_cons, List.map_nil]); first | done | rfl | (simp only [List.length_drop, List.length_take]; rfl)) ?_; (with_reducible refine (lines_Sum.calls kj4 (a0 ++ (strOfNums y101)) t107 _ A10.out).mono ?_); rintro e w' ⟨rfl, ⟨nd, rfl⟩⟩; refine ⟨_, rfl, ?_⟩) | ((with_reducible refine gate_callee (f := 6) rfl ?_); refine goesL_ (some 32) rfl rfl Try.func6 (by kernel_rfl) rfl #[.string a0] rfl (by (try simp only [List.map_toArray, List.map_cons, List.map_nil]); first | done | rfl | (simp only [List.length_drop, List.length_take]; rfl)) ?_; (with_reducible refine (lines_Sum.calls kj4 a0 t108 _ A11.out).mono ?_); rintro e w' ⟨rfl, ⟨nd, rfl⟩⟩; refine ⟨_, rfl, ?_⟩) | (go_at_call 6; (with_reducible refine (lines_Sum.calls kj4 ((a0 ++ (strOfNums y101)) ++ a3) t109 _ A14.out).mono ?_); rintro e w' ⟨rfl, ⟨nd, rfl⟩⟩) | (go_at_call 6; (with_reducible refine (lines_Sum.calls kj4 ((a0 ++ (strOfNums y104)) ++ a3) t110 _ A16.out).mono ?_); rintro e w' ⟨rfl, ⟨nd, rfl⟩⟩))
                    go_ret
                    exact ⟨by first | rfl | (simp [errW_none, errW_some] <;> rfl) | (simp [*, errW_none, errW_some] <;> rfl), by repeat (first | (with_reducible first | exact HB.out | apply below_alloc | apply pw_below_drewN | apply below_drew1) | exact HB.out)⟩
                · rw [if_neg c15] at H
                  exact absurd H (by simp)
              · rw [if_neg c13] at H
                exact absurd H (by simp)
            · rw [if_neg c12] at H
              have c12b0 : (t107 == (((Go.bits .xor .u32 t108 ((a1) % 4294967296)) * 16777619) % 4294967296)) = false := beq_eq_false_iff_ne.mpr c12
              have c12b1 : (t107 != (((Go.bits .xor .u32 t108 ((a1) % 4294967296)) * 16777619) % 4294967296)) = true := bne_iff_ne.mpr c12
              obtain rfl := Option.some.inj H
              go_wp2_with (first | ((with_reducible refine gate_dst (N := 21) rfl ?_); (try (refine gate_guard (by rfl) ?_; dsimp only)); refine Kd.R_lit (Kd.int .u8) _ 5 ?hg (N := 21) ?hd (xs := ([a1] : List Int)) (inner := [.int .u8 a1]) (ok := fun _ => True) (okp := fun _ => True) ?hr ?hp (fun _ hk => hk) trivial (Below.refl _ _) (Nat.le_refl _) (by simp) ?_; (case hd => rfl); (case hg => rfl); (case hr => first | (go_simp; done) | (go_simp; rfl)); (case hp => exact (Reps.one (show Kd.M (Kd.int .u8) _ _ _ a1 [.int .u8 a1] from rfl) (Reps.none _ _))); intro v102 w32 ho33 hb hg_ hnew_; clear hg_ hnew_; (first | rw [← Ny101.out] at ho33 | (simp only [Int.reduceToNat] at ho33; rw [← Ny101.out] at ho33)); have n0_ := Aside0.mk (Kd.R_lower ho33 (below_size (by repeat (first | (with_reducible first | exact HB.out | apply below_alloc | apply pw_below_drewN | apply below_drew1) | exact HB.out)))); have n1_ := Aside0.mk (below_step (by repeat (first | (with_reducible first | exact HB.out | apply below_alloc | apply pw_below_drewN | apply below_drew1) | exact HB.out)) hb); clear HB; have HO103 := n0_; have HB := n1_; clear n0_ n1_; clear hb ho33; have hcv34 := own_string (P := Try.prog) Try.underlying22 Try.underlying5 Try.underlying9 (Kd.own_of_R HO103.out)) | ((with_reducible refine gate_dst (N := 26) rfl ?_); (try (refine gate_guard (by rfl) ?_; dsimp only)); refine Kd.R_lit (Kd.int .u8) _ 5 ?hg (N := 26) ?hd (xs := ([a2] : List Int)) (inner := [.int .u8 a2]) (ok := fun _ => True) (okp := fun _ => True) ?hr ?hp (fun _ hk => hk) trivial (Below.refl _ _) (Nat.le_refl _) (by simp) ?_; (case hd => rfl); (case hg => rfl); (case hr => first | (go_simp; done) | (go_simp; rfl)); (case hp => exact (Reps.one (show Kd.M (Kd.int .u8) _ _ _ a2 [.int .u8 a2] from rfl) (Reps.none _ _))); intro v105 w35 ho36 hb hg_ hnew_; clear hg_ hnew_; (first | rw [← Ny104.out] at ho36 | (simp only [Int.reduceToNat] at ho36; rw [← Ny104.out] at ho36)); have n0_ := Aside0.mk (Kd.R_elder' (by (with_reducible repeat (first | apply Kd.R_alloc | apply Kd.R_drewN | apply Kd.R_drew)); exact HO103.out) (Kd.R_base ho36) hb); have n1_ := Aside0.mk (Kd.R_lower (Kd.R_new' ho36 (Kd.R_lt (by (with_reducible repeat (first | apply Kd.R_alloc | apply Kd.R_drewN | apply Kd.R_drew)); exact HO103.out))) (below_size (by repeat (first | (with_reducible first | exact HB.out | apply below_alloc | apply pw_below_drewN | apply below_drew1) | exact HB.out)))); have n2_ := Aside0.mk (below_step (by repeat (first | (with_reducible first | exact HB.out | apply below_alloc | apply pw_below_drewN | apply below_drew1) | exact HB.out)) hb); clear HO103; clear HB; have HO103 := n0_; have HO106 := n1_; have HB := n2_; clear n0_ n1_ n2_; clear hb ho36; have hcv37 := own_string (P := Try.prog) Try.underlying22 Try.underlying5 Try.underlying9 (Kd.own_of_R HO106.out)) | ((with_reducible refine gate_callee (f := 6) rfl ?_); refine goesL_ (some 30) rfl rfl Try.func6 (by kernel_rfl) rfl #[.string (a0 ++ (strOfNums y101))] rfl (by (try simp only [List.map_toArray, List.map_cons, List.map_nil]); first | done | rfl | (simp only [List.length_drop, List.length_take]; rfl)) ?_; (with_reducible refine (lines_Sum.calls kj4 (a0 ++ (strOfNums y101)) t107 _ A10.out).mono ?_); rintro e w' ⟨rfl, ⟨nd, rfl⟩⟩; refine ⟨_, rfl, ?_⟩) | ((with_reducible refine gate_callee (f := 6) rfl ?_); refine goesL_ (some 32) rfl rfl Try.func6 (by kernel_rfl) rfl #[.string a0] rfl (by (try simp only [List.map_toArray, List.map_cons, List.map_nil]); first | done | rfl | (simp only [List.length_drop, List.length_take]; rfl)) ?_; (with_reducible refine (lines_Sum.calls kj4 a0 t108 _ A11.out).mono ?_); rintro e w' ⟨rfl, ⟨nd, rfl⟩⟩; refine ⟨_, rfl, ?_⟩))
              go_ret
              exact ⟨by first | rfl | (simp [errW_none, errW_some] <;> rfl) | (simp [*, errW_none, errW_some] <;> rfl), by repeat (first | (with_reducible first | exact HB.out | apply below_alloc | apply pw_below_drewN | apply below_drew1) | exact HB.out)⟩
          · rw [if_neg c9] at H
            exact absurd H (by simp)
        · rw [if_neg c8] at H
          exact absurd H (by simp)

/-- THE ONE PURE STATEMENT of pacelinelaw02_LinesSums: yours. -/
def pacelinelaw02_LinesSums.Pure : Prop := ∀ (a0 : ByteArray) (a1 : Int) (a2 : Int) (a3 : ByteArray), a0.size ≤ 140737488351232 → (Lit.int .u8 a1).wf = true → (Lit.int .u8 a2).wf = true → a3.size ≤ 140737488351232 → ∃ k, pacelinelaw02_LinesSums.f k a0 a1 a2 a3 = some true
theorem pacelinelaw02_LinesSums.walk (P : pacelinelaw02_LinesSums.Pure) (a0 : ByteArray) (a1 : Int) (a2 : Int) (a3 : ByteArray) (w : World) (w0 : a0.size ≤ 140737488351232) (w1 : (Lit.int .u8 a1).wf = true) (w2 : (Lit.int .u8 a2).wf = true) (w3 : a3.size ≤ 140737488351232) :
    Calls Try.prog 3 #[.string a0, .int .u8 a1, .int .u8 a2, .string a3] w fun e w' => e = .returned (.bool true) ∧ Below w.heap.size w w' := by
  obtain ⟨k, h⟩ := P a0 a1 a2 a3 w0 w1 w2 w3
  refine (pacelinelaw02_LinesSums.calls k a0 a1 a2 a3 true w h).mono ?_
  rintro e w' ⟨rfl, hd⟩
  exact ⟨rfl, hd⟩

end Go.Proofs.Ythmamoodmmloaaa.PLinesSums
