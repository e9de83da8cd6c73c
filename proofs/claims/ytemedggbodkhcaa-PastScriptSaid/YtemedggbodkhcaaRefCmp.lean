/- the document's Cmp of two keys; equality of keys and of messages. -/
import Derived.Test.YtemedggbodkhcaaPast6
import Derived.Test.YtemedggbodkhcaaWEqStruct
set_option linter.unusedVariables false
set_option linter.unusedSimpArgs false
namespace Go.Proofs.Ytemedggbodkhcaa.RefCmp
open Go.RowKit Go.Proofs.YtemedggbodkhcaaW.PrintWords Go.Proofs.YtemedggbodkhcaaW.PrintLast Go.Proofs.YtemedggbodkhcaaW.PrintMore Go.Proofs.Ytemedggbodkhcaa.Past
theorem eqA27 (d : Nat) (w : World) (x0 y0 : Int) (x1 y1 : Int) (x2 y2 : Int) :
    (Op.equalIn (d + 2) 27 (.agg #[.int .i64 x0, .int .i64 x1, .int .i64 x2]) (.agg #[.int .i64 y0, .int .i64 y1, .int .i64 y2])).run Try.prog w = .ok (x0 == y0 && (x1 == y1 && (x2 == y2))) w := by
  refine eqA_of Try.underlying27 (by kernel_rfl) ?_
  refine eqf_cons (by rfl) (by go_simp; rfl) (by go_simp; rfl) (by go_simp) ?_
  refine eqf_cons (by rfl) (by go_simp; rfl) (by go_simp; rfl) (by go_simp) ?_
  exact eqf_last (by rfl) (by go_simp; rfl) (by go_simp; rfl) (by go_simp)
theorem eqA29 (d : Nat) (w : World) (x0 y0 : Int) (x1 y1 : Int) (x2 y2 : Int) (x3 y3 : Int) (x4 y4 : Int) (x5 y5 : Int) :
    (Op.equalIn (d + 3) 29 (.agg #[.int .i64 x0, .int .i64 x1, .int .i64 x2, .int .i64 x3, .int .i64 x4, .int .i64 x5]) (.agg #[.int .i64 y0, .int .i64 y1, .int .i64 y2, .int .i64 y3, .int .i64 y4, .int .i64 y5])).run Try.prog w = .ok ((x0 == y0 && (x1 == y1 && (x2 == y2))) && (x3 == y3 && (x4 == y4 && (x5 == y5)))) w := by
  refine eqA_of Try.underlying29 (by kernel_rfl) ?_
  refine eqf_cons (by rfl) (by go_simp) (by go_simp) (eqA27 (d + 0) w _ _ _ _ _ _) ?_
  refine eqf_cons (by rfl) (by go_simp; rfl) (by go_simp; rfl) (by go_simp) ?_
  refine eqf_cons (by rfl) (by go_simp; rfl) (by go_simp; rfl) (by go_simp) ?_
  exact eqf_last (by rfl) (by go_simp; rfl) (by go_simp; rfl) (by go_simp)
attribute [local go_sem high] eqA27
set_option maxHeartbeats 4000000 in
set_option maxRecDepth 100000 in
theorem refcmp_any (a0 a1 a2 b0 b1 b2 r : Int) (w : World) (h : kc a0 a1 a2 b0 b1 b2 = r) :
    Calls Try.prog 14 #[.agg #[.int .i64 a0, .int .i64 a1, .int .i64 a2], .agg #[.int .i64 b0, .int .i64 b1, .int .i64 b2]] w fun e w' => e = .returned (.int .i64 r) ∧ Below w.heap.size w w' := by
  unfold kc at h
  have hB : ∀ o1 o2 : Obj, Below w.heap.size w ((w.alloc o1).alloc o2) := fun o1 o2 => ((Below.refl _ _).alloc (Nat.le_refl _) _).alloc (by simp) _
  have HB := Aside0.mk hB
  clear hB
  by_cases c0 : a0 < b0
  · rw [if_pos c0] at h
    subst h
    have e0 : decide (a0 < b0) = true := decide_eq_true c0
    have e1 : (a0 == b0) = false := by rw [beq_eq_false_iff_ne]; omega
    clear c0
    go_enter Try.func14, Try.ntmps14
    go_wp2
    go_ret
    exact ⟨rfl, HB.out _ _⟩
  · rw [if_neg c0] at h
    by_cases d0 : b0 < a0
    · rw [if_pos d0] at h
      subst h
      have e0 : decide (a0 < b0) = false := decide_eq_false c0
      have e1 : (a0 == b0) = false := by rw [beq_eq_false_iff_ne]; omega
      clear c0 d0
      go_enter Try.func14, Try.ntmps14
      go_wp2
      go_ret
      exact ⟨rfl, HB.out _ _⟩
    · rw [if_neg d0] at h
      obtain rfl : a0 = b0 := by omega
      clear c0 d0
      by_cases c1 : a1 < b1
      · rw [if_pos c1] at h
        subst h
        have e2 : decide (a1 < b1) = true := decide_eq_true c1
        have e3 : (a1 == b1) = false := by rw [beq_eq_false_iff_ne]; omega
        clear c1
        go_enter Try.func14, Try.ntmps14
        go_wp2
        go_ret
        exact ⟨rfl, HB.out _ _⟩
      · rw [if_neg c1] at h
        by_cases d1 : b1 < a1
        · rw [if_pos d1] at h
          subst h
          have e2 : decide (a1 < b1) = false := decide_eq_false c1
          have e3 : (a1 == b1) = false := by rw [beq_eq_false_iff_ne]; omega
          clear c1 d1
          go_enter Try.func14, Try.ntmps14
          go_wp2
          go_ret
          exact ⟨rfl, HB.out _ _⟩
        · rw [if_neg d1] at h
          obtain rfl : a1 = b1 := by omega
          clear c1 d1
          by_cases c2 : a2 < b2
          · rw [if_pos c2] at h
            subst h
            have e2 : decide (a2 < b2) = true := decide_eq_true c2
            have e3 : (a2 == b2) = false := by rw [beq_eq_false_iff_ne]; omega
            clear c2
            go_enter Try.func14, Try.ntmps14
            go_wp2
            go_ret
            exact ⟨rfl, HB.out _ _⟩
          · rw [if_neg c2] at h
            by_cases d2 : b2 < a2
            · rw [if_pos d2] at h
              subst h
              have e2 : decide (a2 < b2) = false := decide_eq_false c2
              have e3 : (a2 == b2) = false := by rw [beq_eq_false_iff_ne]; omega
              clear c2 d2
              go_enter Try.func14, Try.ntmps14
              go_wp2
              go_ret
              exact ⟨rfl, HB.out _ _⟩
            · rw [if_neg d2] at h
              obtain rfl : a2 = b2 := by omega
              subst h
              clear c2 d2
              go_enter Try.func14, Try.ntmps14
              go_wp2
              go_ret
              exact ⟨rfl, HB.out _ _⟩
theorem ref_cmp (a0 a1 a2 b0 b1 b2 : Int) (w : World) : Calls Try.prog 14 #[.agg #[.int .i64 a0, .int .i64 a1, .int .i64 a2], .agg #[.int .i64 b0, .int .i64 b1, .int .i64 b2]] w fun x w' => x = .returned (.int .i64 (kc a0 a1 a2 b0 b1 b2)) ∧ Below w.heap.size w w' :=
  refcmp_any a0 a1 a2 b0 b1 b2 _ w rfl
end Go.Proofs.Ytemedggbodkhcaa.RefCmp
