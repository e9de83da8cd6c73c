/- Functions of the given program as plain Lean functions, each with a proof that its call comes to what the function says; printed by a program of this session out of the kit's print and contracts proved by hand. -/
import Derived.Test.YtkjghjffdjjedaaDoorXLinesEncodesx0
import Derived.Test.YtkjghjffdjjedaaDoorXLinesEncodesx1
namespace Go.Proofs.YtkjghjffdjjedaaDoor.XLinesEncodes
open Go.RowKit Go.Proofs.YtkjghjffdjjedaaDoorW.PrintWords Go.Proofs.YtkjghjffdjjedaaDoorW.PrintLast Go.Proofs.YtkjghjffdjjedaaDoorW.PrintMore
attribute [local go_sem] max2_int min2_int max_two min_two max_three min_three max_four min_four   -- for this text's walks alone
set_option linter.unusedVariables false
set_option linter.unusedSimpArgs false

/-! ### pacelineref02_Encode: function 15 -/
mutual
def pacelineref02_Encode.l0 : Nat → List (List ByteArray) → ByteArray → Int → Option (ByteArray × Int)
  | 0, _, _, _ => none
  | k + 1, x0, x4, x5 => if x5 < (x0.length : Int) then (if 0 ≤ x5 then (if ((rd_L1 x0 x5).length : Int) = 0 then (some ((⟨#[]⟩ : ByteArray), 1)) else (pacelineref02_Encode.l1 k x0 x4 x5 0)) else (none)) else (some (x4, 0))
def pacelineref02_Encode.l1 : Nat → List (List ByteArray) → ByteArray → Int → Int → Option (ByteArray × Int)
  | 0, _, _, _, _ => none
  | k + 1, x0, x4, x5, x6 => if 0 ≤ x5 then (if x5 < (x0.length : Int) then (if x6 < ((rd_L1 x0 x5).length : Int) then (if x6 > 0 then (if x4.size + 1 ≤ 9223372036854775807 then (pacelineref02_Encode.j2 k x0 (x4 ++ (⟨#[44]⟩ : ByteArray)) x5 x6) else (none)) else (pacelineref02_Encode.j2 k x0 x4 x5 x6)) else (if x4.size + 1 ≤ 9223372036854775807 then (pacelineref02_Encode.l0 k x0 (x4 ++ (⟨#[10]⟩ : ByteArray)) (wrap64 (x5 + 1))) else (none))) else (none)) else (none)
def pacelineref02_Encode.j2 : Nat → List (List ByteArray) → ByteArray → Int → Int → Option (ByteArray × Int)
  | 0, _, _, _, _ => none
  | k + 1, x0, x4, x5, x6 => pacelineref02_Encode.l2 k x0 x4 x5 x6 0
def pacelineref02_Encode.l2 : Nat → List (List ByteArray) → ByteArray → Int → Int → Int → Option (ByteArray × Int)
  | 0, _, _, _, _, _ => none
  | k + 1, x0, x4, x5, x6, x7 => if 0 ≤ x5 then (if x5 < (x0.length : Int) then (if 0 ≤ x6 then (if x6 < ((rd_L1 x0 x5).length : Int) then (if x7 < ((rdOf ByteArray.empty (rd_L1 x0 x5) x6).size : Int) then (if 0 ≤ x7 then ((pacelineref02_escaped.f (bt (rdOf ByteArray.empty (rd_L1 x0 x5) x6) x7)).bind fun t114 => (if x4.size + t114.size ≤ 9223372036854775807 then (pacelineref02_Encode.l2 k x0 (x4 ++ t114) x5 x6 (wrap64 (x7 + 1))) else (none))) else (none)) else (pacelineref02_Encode.l1 k x0 x4 x5 (wrap64 (x6 + 1)))) else (none)) else (none)) else (none)) else (none)
end
def pacelineref02_Encode.f (k : Nat) (l0 : List (List ByteArray)) : Option (ByteArray × Int) := pacelineref02_Encode.l0 k l0 (⟨#[]⟩ : ByteArray) 0
theorem pacelineref02_Encode.mono_l : ∀ k, (∀ y0 y1 y2, LeO (pacelineref02_Encode.l0 k y0 y1 y2) (pacelineref02_Encode.l0 (k + 1) y0 y1 y2)) ∧ (∀ y0 y1 y2 y3, LeO (pacelineref02_Encode.l1 k y0 y1 y2 y3) (pacelineref02_Encode.l1 (k + 1) y0 y1 y2 y3)) ∧ (∀ y0 y1 y2 y3, LeO (pacelineref02_Encode.j2 k y0 y1 y2 y3) (pacelineref02_Encode.j2 (k + 1) y0 y1 y2 y3)) ∧ (∀ y0 y1 y2 y3 y4, LeO (pacelineref02_Encode.l2 k y0 y1 y2 y3 y4) (pacelineref02_Encode.l2 (k + 1) y0 y1 y2 y3 y4))
  | 0 => ⟨fun _ _ _ r h => by simp [pacelineref02_Encode.l0] at h, fun _ _ _ _ r h => by simp [pacelineref02_Encode.l1] at h, fun _ _ _ _ r h => by simp [pacelineref02_Encode.j2] at h, fun _ _ _ _ _ r h => by simp [pacelineref02_Encode.l2] at h⟩
  | k + 1 => by
    obtain ⟨ih0, ih1, ih2, ih3⟩ := pacelineref02_Encode.mono_l k
    refine ⟨?_, ?_, ?_, ?_⟩
    · intro y0 y1 y2
      unfold pacelineref02_Encode.l0
      repeat' first
      | (with_reducible exact ih0 _ _ _)
      | (with_reducible exact ih1 _ _ _ _)
      | (with_reducible exact ih2 _ _ _ _)
      | (with_reducible exact ih3 _ _ _ _ _)
      | (with_reducible exact LeO.refl _)
      | (with_reducible exact LeO.none _)
      | (with_reducible refine LeO.ite ?_ ?_)
      | (with_reducible refine LeO.bind ?_ (fun _ => ?_))
      | exact ih0 _ _ _
      | exact ih1 _ _ _ _
      | exact ih2 _ _ _ _
      | exact ih3 _ _ _ _ _
      | exact LeO.none _
      | refine LeO.ite ?_ ?_
      | refine LeO.bind ?_ (fun _ => ?_)
    · intro y0 y1 y2 y3
      unfold pacelineref02_Encode.l1
      repeat' first
      | (with_reducible exact ih0 _ _ _)
      | (with_reducible exact ih1 _ _ _ _)
      | (with_reducible exact ih2 _ _ _ _)
      | (with_reducible exact ih3 _ _ _ _ _)
      | (with_reducible exact LeO.refl _)
      | (with_reducible exact LeO.none _)
      | (with_reducible refine LeO.ite ?_ ?_)
      | (with_reducible refine LeO.bind ?_ (fun _ => ?_))
      | exact ih0 _ _ _
      | exact ih1 _ _ _ _
      | exact ih2 _ _ _ _
      | exact ih3 _ _ _ _ _
      | exact LeO.none _
      | refine LeO.ite ?_ ?_
      | refine LeO.bind ?_ (fun _ => ?_)
    · intro y0 y1 y2 y3
      unfold pacelineref02_Encode.j2
      repeat' first
      | (with_reducible exact ih0 _ _ _)
      | (with_reducible exact ih1 _ _ _ _)
      | (with_reducible exact ih2 _ _ _ _)
      | (with_reducible exact ih3 _ _ _ _ _)
      | (with_reducible exact LeO.refl _)
      | (with_reducible exact LeO.none _)
      | (with_reducible refine LeO.ite ?_ ?_)
      | (with_reducible refine LeO.bind ?_ (fun _ => ?_))
      | exact ih0 _ _ _
      | exact ih1 _ _ _ _
      | exact ih2 _ _ _ _
      | exact ih3 _ _ _ _ _
      | exact LeO.none _
      | refine LeO.ite ?_ ?_
      | refine LeO.bind ?_ (fun _ => ?_)
    · intro y0 y1 y2 y3 y4
      unfold pacelineref02_Encode.l2
      repeat' first
      | (with_reducible exact ih0 _ _ _)
      | (with_reducible exact ih1 _ _ _ _)
      | (with_reducible exact ih2 _ _ _ _)
      | (with_reducible exact ih3 _ _ _ _ _)
      | (with_reducible exact LeO.refl _)
      | (with_reducible exact LeO.none _)
      | (with_reducible refine LeO.ite ?_ ?_)
      | (with_reducible refine LeO.bind ?_ (fun _ => ?_))
      | exact ih0 _ _ _
      | exact ih1 _ _ _ _
      | exact ih2 _ _ _ _
      | exact ih3 _ _ _ _ _
      | exact LeO.none _
      | refine LeO.ite ?_ ?_
      | refine LeO.bind ?_ (fun _ => ?_)
theorem pacelineref02_Encode.mono : ∀ a0 k, LeO (pacelineref02_Encode.f k a0) (pacelineref02_Encode.f (k + 1) a0) := by
  intro a0 k
  obtain ⟨ih0, ih1, ih2, ih3⟩ := pacelineref02_Encode.mono_l k
  unfold pacelineref02_Encode.f
  repeat' first
      | (with_reducible exact ih0 _ _ _)
      | (with_reducible exact ih1 _ _ _ _)
      | (with_reducible exact ih2 _ _ _ _)
      | (with_reducible exact ih3 _ _ _ _ _)
      | (with_reducible exact LeO.refl _)
      | (with_reducible exact LeO.none _)
      | (with_reducible refine LeO.ite ?_ ?_)
      | (with_reducible refine LeO.bind ?_ (fun _ => ?_))
      | exact ih0 _ _ _
      | exact ih1 _ _ _ _
      | exact ih2 _ _ _ _
      | exact ih3 _ _ _ _ _
      | exact LeO.none _
      | refine LeO.ite ?_ ?_
      | refine LeO.bind ?_ (fun _ => ?_)
set_option maxHeartbeats 8000000 in
set_option maxRecDepth 100000 in
theorem pacelineref02_Encode.calls (k : Nat) (A0 : Option Addr) (c0 : Nat) (l0 : List (List ByteArray)) (r1 : ByteArray) (r2 : Int) (w : World) (hr0 : Kd.C (Kd.slice 9 Kd.string) w A0 l0.length l0) (hc0 : l0.length ≤ c0) (h : pacelineref02_Encode.f k l0 = some (r1, r2)) :
    Calls Tryd.prog 15 #[.slice A0 l0.length c0] w fun e w' => e = .returned (.tuple #[.string r1, .int .i64 r2]) ∧ Below w.heap.size w w' := by
  have HR0 := Aside0.mk hr0
  have HC0 := Aside0.mk hc0
  clear hr0 hc0
  have HB := Aside0.mk (Below.refl w.heap.size w)
  have H : (pacelineref02_Encode.l0 k l0 (⟨#[]⟩ : ByteArray) 0) = some (r1, r2) := h
  clear h
  have H' := Aside0.mk H
  clear H
  go_enter Tryd.func15, Tryd.ntmps15
  go_wp2
  go_loopg [4, 5] k (fun kq v4 v5 w' => ∃ (x4_1 : ByteArray) (x5_1 : Int), v4 = .string x4_1 ∧ v5 = .int .i64 x5_1 ∧ Aside0 (pacelineref02_Encode.l0 kq l0 x4_1 x5_1 = some (r1, r2)) ∧ Aside0 (kq ≤ k) ∧ Aside0 (Below w.heap.size w w'))
  case atStart => exact ⟨((⟨#[]⟩ : ByteArray)), (0), (by first | rfl | (simp; done) | (simp [*]; done)), (by first | rfl | (simp; done) | (simp [*]; done)), H', ⟨Nat.le_refl _⟩, ⟨by repeat (first | (with_reducible first | exact HB.out | apply below_alloc | apply pw_below_drewN | apply below_drew1) | exact HB.out)⟩⟩
  case round =>
    clear H'
    try clear c1
    obtain ⟨x4_1, x5_1, rfl, rfl, HA, HK1, HB⟩ := hrel
    cases gk with
    | zero => exact absurd HA.out (by simp [pacelineref02_Encode.l0])
    | succ k1 =>
      have H := HA.out
      clear HA
      simp only [pacelineref02_Encode.l0] at H
      by_cases c2 : x5_1 < (l0.length : Int)
      · rw [if_pos c2] at H
        have c2b0 : decide (x5_1 < (l0.length : Int)) = true := decide_eq_true c2
        clear c2
        by_cases c3 : 0 ≤ x5_1
        · rw [if_pos c3] at H
          have c3b0 : decide (0 ≤ x5_1) = true := decide_eq_true c3
          clear c3
          by_cases c4 : ((rd_L1 l0 x5_1).length : Int) = 0
          · rw [if_pos c4] at H
            have c4b0 : (((rd_L1 l0 x5_1).length : Int) == 0) = true := beq_iff_eq.mpr c4
            have c4b1 : (((rd_L1 l0 x5_1).length : Int) != 0) = false := bne_eq_false_iff_eq.mpr c4
            clear c4
            simp only [Option.some.injEq, Prod.mk.injEq] at H
            obtain ⟨rfl, rfl⟩ := H
            have p108 : 0 ≤ (x5_1 : Int) := of_decide_eq_true (by first | (with_reducible assumption) | assumption)
            have q108 : x5_1 < (l0.length : Int) := of_decide_eq_true (by first | (with_reducible assumption) | assumption)
            obtain ⟨ad108, A108_0, c108_0, e108, hx108_0, hl108_0, hi108_0⟩ := at_L1 HR0.out x5_1 p108 q108
            cases e108
            replace hx108_0 := (HB.out.cell (World.block_lt_of_cell? w _ hx108_0)).trans hx108_0
            have HR108_0 := Aside0.mk hi108_0
            have HC108_0 := Aside0.mk hl108_0
            clear hi108_0 hl108_0
            replace p108 := eq_true p108
            replace q108 := eq_true q108
            go_wp2
            go_ret2
            exact ⟨by first | rfl | (simp [errW_none, errW_some] <;> rfl) | (simp [*, errW_none, errW_some] <;> rfl), by repeat (first | (with_reducible first | exact HB.out | apply below_alloc | apply pw_below_drewN | apply below_drew1) | exact HB.out)⟩
          · rw [if_neg c4] at H
            have c4b0 : (((rd_L1 l0 x5_1).length : Int) == 0) = false := beq_eq_false_iff_ne.mpr c4
            have c4b1 : (((rd_L1 l0 x5_1).length : Int) != 0) = true := bne_iff_ne.mpr c4
            have c4b2 : ¬ ((rd_L1 l0 x5_1) = []) := fun h_ => c4 (by rw [h_]; rfl)
            have H' := Aside0.mk H
            clear H
            have p108 : 0 ≤ (x5_1 : Int) := of_decide_eq_true (by first | (with_reducible assumption) | assumption)
            have q108 : x5_1 < (l0.length : Int) := of_decide_eq_true (by first | (with_reducible assumption) | assumption)
            obtain ⟨ad108, A108_0, c108_0, e108, hx108_0, hl108_0, hi108_0⟩ := at_L1 HR0.out x5_1 p108 q108
            cases e108
            replace hx108_0 := (HB.out.cell (World.block_lt_of_cell? w _ hx108_0)).trans hx108_0
            have HR108_0 := Aside0.mk hi108_0
            have HC108_0 := Aside0.mk hl108_0
            clear hi108_0 hl108_0
            replace p108 := eq_true p108
            replace q108 := eq_true q108
            go_wp2
            go_loopg [4, 6] k1 (fun kq v4 v6 w' => ∃ (x4_2 : ByteArray) (x6_2 : Int), v4 = .string x4_2 ∧ v6 = .int .i64 x6_2 ∧ Aside0 (pacelineref02_Encode.l1 kq l0 x4_2 x5_1 x6_2 = some (r1, r2)) ∧ Aside0 (kq ≤ k1) ∧ Aside0 (Below w.heap.size w w'))
            case atStart => exact ⟨(x4_1), (0), (by first | rfl | (simp; done) | (simp [*]; done)), (by first | rfl | (simp; done) | (simp [*]; done)), H', ⟨Nat.le_refl _⟩, ⟨by repeat (first | (with_reducible first | exact HB.out | apply below_alloc | apply pw_below_drewN | apply below_drew1) | exact HB.out)⟩⟩
            case round =>
              clear H'
              try clear c1
              try clear p1
              try clear q1
              try clear hx1
              try clear c2
              try clear c2b0
              try clear p2
              try clear c3
              try clear c3b0
              try clear c4
              try clear c4b0
              try clear c4b1
              try clear c4b2
              try clear hx108_0
              try clear p108
              try clear q108
              obtain ⟨x4_2, x6_2, rfl, rfl, HA, HK2, HB⟩ := hrel
              cases gk with
              | zero => exact absurd HA.out (by simp [pacelineref02_Encode.l1])
              | succ k2 =>
                have H := HA.out
                clear HA
                simp only [pacelineref02_Encode.l1] at H
                by_cases c5 : 0 ≤ x5_1
                · rw [if_pos c5] at H
                  have c5b0 : decide (0 ≤ x5_1) = true := decide_eq_true c5
                  clear c5
                  by_cases c6 : x5_1 < (l0.length : Int)
                  · rw [if_pos c6] at H
                    have c6b0 : decide (x5_1 < (l0.length : Int)) = true := decide_eq_true c6
                    clear c6
                    by_cases c7 : x6_2 < ((rd_L1 l0 x5_1).length : Int)
                    · rw [if_pos c7] at H
                      have c7b0 : decide (x6_2 < ((rd_L1 l0 x5_1).length : Int)) = true := decide_eq_true c7
                      clear c7
                      have HC8 := Aside0.mk H
                      clear H
                      have p109 : 0 ≤ (x5_1 : Int) := of_decide_eq_true (by first | (with_reducible assumption) | assumption)
                      have q109 : x5_1 < (l0.length : Int) := of_decide_eq_true (by first | (with_reducible assumption) | assumption)
                      obtain ⟨ad109, A109_0, c109_0, e109, hx109_0, hl109_0, hi109_0⟩ := at_L1 HR0.out x5_1 p109 q109
                      obtain rfl : ad108 = ad109 := (by injection e109)
                      replace hx109_0 := (HB.out.cell (World.block_lt_of_cell? w _ hx109_0)).trans hx109_0
                      have HR109_0 := Aside0.mk hi109_0
                      have HC109_0 := Aside0.mk hl109_0
                      clear hi109_0 hl109_0
                      replace p109 := eq_true p109
                      replace q109 := eq_true q109
                      go_upto_if 30 with (fail)
                      go_cut [4] (fun v4 wc => ∃ (kq : Nat) (x4_7 : ByteArray), v4 = .string x4_7 ∧ Aside0 (pacelineref02_Encode.j2 kq l0 x4_7 x5_1 x6_2 = some (r1, r2)) ∧ Aside0 (kq ≤ k2) ∧ Aside0 (Below w.heap.size w wc))
                      case first =>
                        have H := HC8.out
                        clear HC8
                        by_cases c9 : x6_2 > 0
                        · rw [if_pos c9] at H
                          have c9b0 : decide (0 < x6_2) = true := decide_eq_true c9
                          clear c9
                          (first | rw [c9b0] | (simp only [i64_w, i32_w]; rw [c9b0]) | skip)
                          by_cases c10 : x4_2.size + 1 ≤ 9223372036854775807
                          · rw [if_pos c10] at H
                            have c10b0 := eq_true c10
                            have c10b1 : decide (x4_2.size + 1 ≤ 9223372036854775807) = true := decide_eq_true c10
                            try have c10b2 : (9223372036854775807 < x4_2.size + 1) = False := eq_false (Nat.not_lt.2 c10)
                            have H' := Aside0.mk H
                            clear H
                            go_wp2
                            go_meet
                            case rel => exact ⟨_, (x4_2 ++ (⟨#[44]⟩ : ByteArray)), (by first | rfl | (simp; done) | (simp [*]; done)), H', ⟨by have := HK1.out; have := HK2.out; first | omega | exact Nat.le_refl _⟩, ⟨by repeat (first | (with_reducible first | exact HB.out | apply below_alloc | apply pw_below_drewN | apply below_drew1) | exact HB.out)⟩⟩
                          · rw [if_neg c10] at H
                            exact absurd H (by simp)
                        · rw [if_neg c9] at H
                          have c9b0 : decide (0 < x6_2) = false := decide_eq_false c9
                          clear c9
                          (first | rw [c9b0] | (simp only [i64_w, i32_w]; rw [c9b0]) | skip)
                          have H' := Aside0.mk H
                          clear H
                          go_wp2
                          go_meet
                          case rel => exact ⟨_, (x4_2), (by first | rfl | (simp; done) | (simp [*]; done)), H', ⟨by have := HK1.out; have := HK2.out; first | omega | exact Nat.le_refl _⟩, ⟨by repeat (first | (with_reducible first | exact HB.out | apply below_alloc | apply pw_below_drewN | apply below_drew1) | exact HB.out)⟩⟩
                      case rest =>
                        clear HC8
                        try clear c1
                        try clear p1
                        try clear q1
                        try clear hx1
                        try clear c2
                        try clear c2b0
                        try clear p2
                        try clear c3
                        try clear c3b0
                        try clear c4
                        try clear c4b0
                        try clear c4b1
                        try clear c4b2
                        try clear c5
                        try clear c5b0
                        try clear c6
                        try clear c6b0
                        try clear c7
                        try clear c7b0
                        try clear c9
                        try clear c9b0
                        try clear c10
                        try clear c10b0
                        try clear c10b1
                        try clear c10b2
                        try clear p10
                        try clear q10
                        try clear hx10
                        try clear hx108_0
                        try clear hx109_0
                        try clear p1
                        try clear p108
                        try clear p109
                        try clear p2
                        try clear q1
                        try clear q108
                        try clear q109
                        obtain ⟨kq, x4_7, rfl, HA, HJ7, HB⟩ := hcut
                        cases kq with
                        | zero => exact absurd HA.out (by simp [pacelineref02_Encode.j2])
                        | succ kj7 =>
                          have H := HA.out
                          clear HA
                          simp only [pacelineref02_Encode.j2] at H
                          have H' := Aside0.mk H
                          clear H
                          go_wp2
                          go_loopg [4, 7] kj7 (fun kq v4 v7 w' => ∃ (x4_4 : ByteArray) (x7_4 : Int), v4 = .string x4_4 ∧ v7 = .int .i64 x7_4 ∧ Aside0 (pacelineref02_Encode.l2 kq l0 x4_4 x5_1 x6_2 x7_4 = some (r1, r2)) ∧ Aside0 (kq ≤ kj7) ∧ Aside0 (Below w.heap.size w w'))
                          case atStart => exact ⟨(x4_7), (0), (by first | rfl | (simp; done) | (simp [*]; done)), (by first | rfl | (simp; done) | (simp [*]; done)), H', ⟨Nat.le_refl _⟩, ⟨by repeat (first | (with_reducible first | exact HB.out | apply below_alloc | apply pw_below_drewN | apply below_drew1) | exact HB.out)⟩⟩
                          case round =>
                            clear H'
                            try clear c1
                            try clear p1
                            try clear q1
                            try clear hx1
                            try clear c2
                            try clear c2b0
                            try clear p2
                            try clear c3
                            try clear c3b0
                            try clear c4
                            try clear c4b0
                            try clear c4b1
                            try clear c4b2
                            try clear c5
                            try clear c5b0
                            try clear c6
                            try clear c6b0
                            try clear c7
                            try clear c7b0
                            try clear c9
                            try clear c9b0
                            try clear c10
                            try clear c10b0
                            try clear c10b1
                            try clear c10b2
                            try clear p10
                            try clear q10
                            try clear hx10
                            try clear hx108_0
                            try clear hx109_0
                            try clear p1
                            try clear p10
                            try clear p108
                            try clear p109
                            try clear p2
                            try clear q1
                            try clear q10
                            try clear q108
                            try clear q109
                            obtain ⟨x4_4, x7_4, rfl, rfl, HA, HK4, HB⟩ := hrel
                            cases gk with
                            | zero => exact absurd HA.out (by simp [pacelineref02_Encode.l2])
                            | succ k4 =>
                              have H := HA.out
                              clear HA
                              simp only [pacelineref02_Encode.l2] at H
                              by_cases c11 : 0 ≤ x5_1
                              · rw [if_pos c11] at H
                                have c11b0 : decide (0 ≤ x5_1) = true := decide_eq_true c11
                                clear c11
                                by_cases c12 : x5_1 < (l0.length : Int)
                                · rw [if_pos c12] at H
                                  have c12b0 : decide (x5_1 < (l0.length : Int)) = true := decide_eq_true c12
                                  clear c12
                                  by_cases c13 : 0 ≤ x6_2
                                  · rw [if_pos c13] at H
                                    have c13b0 : decide (0 ≤ x6_2) = true := decide_eq_true c13
                                    clear c13
                                    by_cases c14 : x6_2 < ((rd_L1 l0 x5_1).length : Int)
                                    · rw [if_pos c14] at H
                                      have c14b0 : decide (x6_2 < ((rd_L1 l0 x5_1).length : Int)) = true := decide_eq_true c14
                                      clear c14
                                      by_cases c15 : x7_4 < ((rdOf ByteArray.empty (rd_L1 l0 x5_1) x6_2).size : Int)
                                      · rw [if_pos c15] at H
                                        have c15b0 : decide (x7_4 < ((rdOf ByteArray.empty (rd_L1 l0 x5_1) x6_2).size : Int)) = true := decide_eq_true c15
                                        clear c15
                                        by_cases c16 : 0 ≤ x7_4
                                        · rw [if_pos c16] at H
                                          have c16b0 : decide (0 ≤ x7_4) = true := decide_eq_true c16
                                          clear c16
                                          replace H := Option.bind_eq_some_iff.mp H
                                          obtain ⟨t114, A180, H⟩ := H
                                          replace H : (if x4_4.size + t114.size ≤ 9223372036854775807 then (pacelineref02_Encode.l2 k4 l0 (x4_4 ++ t114) x5_1 x6_2 (wrap64 (x7_4 + 1))) else (none)) = some (r1, r2) := H
                                          have A18 := Aside0.mk A180
                                          clear A180
                                          by_cases c19 : x4_4.size + t114.size ≤ 9223372036854775807
                                          · rw [if_pos c19] at H
                                            have c19b0 := eq_true c19
                                            have c19b1 : decide (x4_4.size + t114.size ≤ 9223372036854775807) = true := decide_eq_true c19
                                            try have c19b2 : (9223372036854775807 < x4_4.size + t114.size) = False := eq_false (Nat.not_lt.2 c19)
                                            have H' := Aside0.mk H
                                            clear H
                                            have p110 : 0 ≤ (x5_1 : Int) := of_decide_eq_true (by first | (with_reducible assumption) | assumption)
                                            have q110 : x5_1 < (l0.length : Int) := of_decide_eq_true (by first | (with_reducible assumption) | assumption)
                                            obtain ⟨ad110, A110_0, c110_0, e110, hx110_0, hl110_0, hi110_0⟩ := at_L1 HR0.out x5_1 p110 q110
                                            obtain rfl : ad108 = ad110 := (by injection e110)
                                            replace hx110_0 := (HB.out.cell (World.block_lt_of_cell? w _ hx110_0)).trans hx110_0
                                            have HR110_0 := Aside0.mk hi110_0
                                            have HC110_0 := Aside0.mk hl110_0
                                            clear hi110_0 hl110_0
                                            replace p110 := eq_true p110
                                            replace q110 := eq_true q110
                                            have p111 : 0 ≤ (x6_2 : Int) := of_decide_eq_true (by first | (with_reducible assumption) | assumption)
                                            have q111 : x6_2 < ((rd_L1 l0 x5_1).length : Int) := of_decide_eq_true (by first | (with_reducible assumption) | assumption)
                                            obtain ⟨ad111, e111, hx111_0⟩ := Kd.at_string HR110_0.out x6_2 p111 q111
                                            cases e111
                                            replace hx111_0 := (HB.out.cell (World.block_lt_of_cell? w _ hx111_0)).trans hx111_0
                                            replace p111 := eq_true p111
                                            replace q111 := eq_true q111
                                            have p112 : 0 ≤ (x5_1 : Int) := of_decide_eq_true (by first | (with_reducible assumption) | assumption)
                                            have q112 : x5_1 < (l0.length : Int) := of_decide_eq_true (by first | (with_reducible assumption) | assumption)
                                            obtain ⟨ad112, A112_0, c112_0, e112, hx112_0, hl112_0, hi112_0⟩ := at_L1 HR0.out x5_1 p112 q112
                                            obtain rfl : ad108 = ad112 := (by injection e112)
                                            replace hx112_0 := (HB.out.cell (World.block_lt_of_cell? w _ hx112_0)).trans hx112_0
                                            have HR112_0 := Aside0.mk hi112_0
                                            have HC112_0 := Aside0.mk hl112_0
                                            clear hi112_0 hl112_0
                                            replace p112 := eq_true p112
                                            replace q112 := eq_true q112
                                            have ea_ := Option.some.inj (hx110_0.symm.trans hx112_0)
                                            injection ea_ with ea_ en_ ec_
                                            subst ea_
                                            subst ec_
                                            clear en_
                                            have p113 : 0 ≤ (x6_2 : Int) := of_decide_eq_true (by first | (with_reducible assumption) | assumption)
                                            have q113 : x6_2 < ((rd_L1 l0 x5_1).length : Int) := of_decide_eq_true (by first | (with_reducible assumption) | assumption)
                                            obtain ⟨ad113, e113, hx113_0⟩ := Kd.at_string HR112_0.out x6_2 p113 q113
                                            cases e113
                                            replace hx113_0 := (HB.out.cell (World.block_lt_of_cell? w _ hx113_0)).trans hx113_0
                                            replace p113 := eq_true p113
                                            replace q113 := eq_true q113
                                            have p17 : 0 ≤ (x7_4 : Int) := of_decide_eq_true (by first | (with_reducible assumption) | assumption)
                                            have q17 : x7_4 < ((rdOf ByteArray.empty (rd_L1 l0 x5_1) x6_2).size : Int) := of_decide_eq_true (by first | (with_reducible assumption) | assumption)
                                            have hx17 := bt_at (rdOf ByteArray.empty (rd_L1 l0 x5_1) x6_2) x7_4
                                            replace p17 := eq_true p17
                                            replace q17 := eq_true q17
                                            go_wp2_with (first | ((with_reducible refine gate_callee (f := 24) rfl ?_); refine goesL_ (some 55) rfl rfl Tryd.func24 (by kernel_rfl) rfl #[.int .u8 (bt (rdOf ByteArray.empty (rd_L1 l0 x5_1) x6_2) x7_4)] rfl (by (try simp only [List.map_toArray, List.map_cons, List.map_nil]); first | done | rfl | (simp only [List.length_drop, List.length_take]; rfl)) ?_; (with_reducible refine (pacelineref02_escaped.calls (bt (rdOf ByteArray.empty (rd_L1 l0 x5_1) x6_2) x7_4) t114 _ A18.out).mono ?_); rintro e w20 ⟨rfl, hb⟩; refine ⟨_, rfl, ?_⟩; have n0_ := Aside0.mk (below_step (by repeat (first | (with_reducible first | exact HB.out | apply below_alloc | apply pw_below_drewN | apply below_drew1) | exact HB.out)) hb); clear HB; have HB := n0_; clear n0_; (try clear hb); (try clear hb2); (try clear hk); (try clear hi)))
                                            go_roundg k4
                                            case measure => have := HK1.out; have := HK2.out; have := HJ7.out; have := HK4.out; omega
                                            case rel => exact ⟨(x4_4 ++ t114), (wrap64 (x7_4 + 1)), (by first | rfl | (simp; done) | (simp [*]; done)), (by first | rfl | (simp; done) | (simp [*]; done)), H', ⟨by have := HK1.out; have := HK2.out; have := HJ7.out; have := HK4.out; omega⟩, ⟨by repeat (first | (with_reducible first | exact HB.out | apply below_alloc | apply pw_below_drewN | apply below_drew1) | exact HB.out)⟩⟩
                                          · rw [if_neg c19] at H
                                            exact absurd H (by simp)
                                        · rw [if_neg c16] at H
                                          exact absurd H (by simp)
                                      · rw [if_neg c15] at H
                                        have c15b0 : decide (x7_4 < ((rdOf ByteArray.empty (rd_L1 l0 x5_1) x6_2).size : Int)) = false := decide_eq_false c15
                                        clear c15
                                        have H' := Aside0.mk H
                                        clear H
                                        have p110 : 0 ≤ (x5_1 : Int) := of_decide_eq_true (by first | (with_reducible assumption) | assumption)
                                        have q110 : x5_1 < (l0.length : Int) := of_decide_eq_true (by first | (with_reducible assumption) | assumption)
                                        obtain ⟨ad110, A110_0, c110_0, e110, hx110_0, hl110_0, hi110_0⟩ := at_L1 HR0.out x5_1 p110 q110
                                        obtain rfl : ad108 = ad110 := (by injection e110)
                                        replace hx110_0 := (HB.out.cell (World.block_lt_of_cell? w _ hx110_0)).trans hx110_0
                                        have HR110_0 := Aside0.mk hi110_0
                                        have HC110_0 := Aside0.mk hl110_0
                                        clear hi110_0 hl110_0
                                        replace p110 := eq_true p110
                                        replace q110 := eq_true q110
                                        have p111 : 0 ≤ (x6_2 : Int) := of_decide_eq_true (by first | (with_reducible assumption) | assumption)
                                        have q111 : x6_2 < ((rd_L1 l0 x5_1).length : Int) := of_decide_eq_true (by first | (with_reducible assumption) | assumption)
                                        obtain ⟨ad111, e111, hx111_0⟩ := Kd.at_string HR110_0.out x6_2 p111 q111
                                        cases e111
                                        replace hx111_0 := (HB.out.cell (World.block_lt_of_cell? w _ hx111_0)).trans hx111_0
                                        replace p111 := eq_true p111
                                        replace q111 := eq_true q111
                                        go_wp2
                                        go_roundg k4
                                        case measure => have := HK1.out; have := HK2.out; have := HJ7.out; have := HK4.out; omega
                                        case rel => exact ⟨(x4_4), (wrap64 (x6_2 + 1)), (by first | rfl | (simp; done) | (simp [*]; done)), (by first | rfl | (simp; done) | (simp [*]; done)), H', ⟨by have := HK1.out; have := HK2.out; have := HJ7.out; have := HK4.out; omega⟩, ⟨by repeat (first | (with_reducible first | exact HB.out | apply below_alloc | apply pw_below_drewN | apply below_drew1) | exact HB.out)⟩⟩
                                    · rw [if_neg c14] at H
                                      exact absurd H (by simp)
                                  · rw [if_neg c13] at H
                                    exact absurd H (by simp)
                                · rw [if_neg c12] at H
                                  exact absurd H (by simp)
                              · rw [if_neg c11] at H
                                exact absurd H (by simp)
                    · rw [if_neg c7] at H
                      have c7b0 : decide (x6_2 < ((rd_L1 l0 x5_1).length : Int)) = false := decide_eq_false c7
                      clear c7
                      by_cases c21 : x4_2.size + 1 ≤ 9223372036854775807
                      · rw [if_pos c21] at H
                        have c21b0 := eq_true c21
                        have c21b1 : decide (x4_2.size + 1 ≤ 9223372036854775807) = true := decide_eq_true c21
                        try have c21b2 : (9223372036854775807 < x4_2.size + 1) = False := eq_false (Nat.not_lt.2 c21)
                        have H' := Aside0.mk H
                        clear H
                        have p109 : 0 ≤ (x5_1 : Int) := of_decide_eq_true (by first | (with_reducible assumption) | assumption)
                        have q109 : x5_1 < (l0.length : Int) := of_decide_eq_true (by first | (with_reducible assumption) | assumption)
                        obtain ⟨ad109, A109_0, c109_0, e109, hx109_0, hl109_0, hi109_0⟩ := at_L1 HR0.out x5_1 p109 q109
                        obtain rfl : ad108 = ad109 := (by injection e109)
                        replace hx109_0 := (HB.out.cell (World.block_lt_of_cell? w _ hx109_0)).trans hx109_0
                        have HR109_0 := Aside0.mk hi109_0
                        have HC109_0 := Aside0.mk hl109_0
                        clear hi109_0 hl109_0
                        replace p109 := eq_true p109
                        replace q109 := eq_true q109
                        go_wp2
                        go_roundg k2
                        case measure => have := HK1.out; have := HK2.out; omega
                        case rel => exact ⟨(x4_2 ++ (⟨#[10]⟩ : ByteArray)), (wrap64 (x5_1 + 1)), (by first | rfl | (simp; done) | (simp [*]; done)), (by first | rfl | (simp; done) | (simp [*]; done)), H', ⟨by have := HK1.out; have := HK2.out; omega⟩, ⟨by repeat (first | (with_reducible first | exact HB.out | apply below_alloc | apply pw_below_drewN | apply below_drew1) | exact HB.out)⟩⟩
                      · rw [if_neg c21] at H
                        exact absurd H (by simp)
                  · rw [if_neg c6] at H
                    exact absurd H (by simp)
                · rw [if_neg c5] at H
                  exact absurd H (by simp)
        · rw [if_neg c3] at H
          exact absurd H (by simp)
      · rw [if_neg c2] at H
        have c2b0 : decide (x5_1 < (l0.length : Int)) = false := decide_eq_false c2
        clear c2
        simp only [Option.some.injEq, Prod.mk.injEq] at H
        obtain ⟨rfl, rfl⟩ := H
        go_wp2
        go_ret2
        exact ⟨by first | rfl | (simp [errW_none, errW_some] <;> rfl) | (simp [*, errW_none, errW_some] <;> rfl), by repeat (first | (with_reducible first | exact HB.out | apply below_alloc | apply pw_below_drewN | apply below_drew1) | exact HB.out)⟩

end Go.Proofs.YtkjghjffdjjedaaDoor.XLinesEncodes
