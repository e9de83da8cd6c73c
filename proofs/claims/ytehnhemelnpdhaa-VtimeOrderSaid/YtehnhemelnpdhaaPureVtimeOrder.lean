/- The law VtimeOrder of the given program, as a plain statement on integers and texts: keys are in a total order; for every input. -/
import Derived.Test.YtehnhemelnpdhaaXVtimeOrderx3
import Derived.Test.YtehnhemelnpdhaaBytes
import Derived.OpenShut
set_option linter.unusedVariables false
set_option linter.unusedSimpArgs false
namespace Go.Proofs.Ytehnhemelnpdhaa.Pure
open Go.RowKit Go.Proofs.Ytehnhemelnpdhaa.XVtimeOrder Go.Proofs.YtehnhemelnpdhaaW.PrintWords Go.Proofs.YtehnhemelnpdhaaW.PrintLast Go.Proofs.YtehnhemelnpdhaaW.PrintMore Go.Proofs.Ytehnhemelnpdhaa.Ext Go.Proofs.Ytehnhemelnpdhaa.Bytes
open Go.Proofs.Ytehnhemelnpdhaa.B (vd u64_wrap)

theorem compare_eq (a b : Int) : cmp_Compare_int.f a b = some (if a < b then -1 else if a > b then 1 else 0) := by
  unfold cmp_Compare_int.f cmp_isNaN_int.f
  simp only [bne_self_eq_false, Option.bind_some, Bool.false_eq_true, if_false]
  split
  · rfl
  · split <;> rfl
theorem or_eq (x y z : Int) (k : Nat) : cmp_Or_int.f (k + 4) [x, y, z] = some (if x = 0 then (if y = 0 then z else y) else x) := by
  unfold cmp_Or_int.f
  have e1 : wrap64 ((0 : Int) + 1) = 1 := by unfold wrap64; omega
  have e2 : wrap64 ((1 : Int) + 1) = 2 := by unfold wrap64; omega
  have e3 : wrap64 ((2 : Int) + 1) = 3 := by unfold wrap64; omega
  have r0 : rd [x, y, z] 0 = x := rfl
  have r1 : rd [x, y, z] 1 = y := rfl
  have r2 : rd [x, y, z] 2 = z := rfl
  have hlen : (([x, y, z].length : Nat) : Int) = 3 := rfl
  generalize [x, y, z] = l at *
  rw [hlen]
  have st : ∀ (k : Nat) (i : Int), 0 ≤ i → i < 3 → cmp_Or_int.l0 (k + 1) 0 l 3 i = if rd l i = 0 then cmp_Or_int.l0 k 0 l 3 (wrap64 (i + 1)) else some (rd l i) := by
    intro k i h0 h1
    simp only [cmp_Or_int.l0]
    rw [if_pos h1, if_pos h0, hlen, if_pos h1]
  have s3 : ∀ k : Nat, cmp_Or_int.l0 (k + 1) 0 l 3 3 = some 0 := by
    intro k
    simp only [cmp_Or_int.l0]
    rw [if_neg (by omega)]
  rw [st (k + 3) 0 (by omega) (by omega), e1, st (k + 2) 1 (by omega) (by omega), e2, st (k + 1) 2 (by omega) (by omega), e3, s3 k, r0, r1, r2]
  by_cases hx : x = 0
  · rw [if_pos hx, if_pos hx]
    by_cases hy : y = 0
    · rw [if_pos hy, if_pos hy]
      by_cases hz : z = 0
      · rw [if_pos hz, hz]
      · rw [if_neg hz]
    · rw [if_neg hy, if_neg hy]
  · rw [if_neg hx, if_neg hx]
theorem cmp_eq (a0 a1 a2 b0 b1 b2 : Int) (k : Nat) : vtime_Cmp.f (k + 4) a0 a1 a2 b0 b1 b2 = some (kc a0 a1 a2 b0 b1 b2) := by
  unfold vtime_Cmp.f
  simp only [compare_eq, Option.bind_some, or_eq]
  congr 1
  unfold kc
  omega

theorem VtimeOrder (a0 a1 a2 b0 b1 b2 c0 c1 c2 : Int) : ∃ k, pacelinelaw01_VtimeOrder.f k a0 a1 a2 b0 b1 b2 c0 c1 c2 = some true := by
  refine ⟨0 + 4, ?_⟩
  unfold pacelinelaw01_VtimeOrder.f pacelineref01_Cmp.f
  simp only [cmp_eq, Option.bind_some, if_true]
  have r := kc_range a0 a1 a2 b0 b1 b2
  have n := kc_neg a0 a1 a2 b0 b1 b2
  have w : wrap64 (-kc a0 a1 a2 b0 b1 b2) = -kc a0 a1 a2 b0 b1 b2 := by unfold wrap64; omega
  have z := kc_zero a0 a1 a2 b0 b1 b2
  rw [n, w, if_pos rfl]
  have e : ((kc a0 a1 a2 b0 b1 b2 == 0) != (a0 == b0 && (a1 == b1 && (a2 == b2)))) = false := by
    rw [bne_eq_false_iff_eq, Bool.eq_iff_iff]
    simp only [beq_iff_eq, Bool.and_eq_true]
    exact z
  rw [e, if_neg (by simp)]
  have la := kc_lt a0 a1 a2 b0 b1 b2
  have lb := kc_lt b0 b1 b2 c0 c1 c2
  have lc := kc_lt a0 a1 a2 c0 c1 c2
  have ea := kc_le a0 a1 a2 b0 b1 b2
  have eb := kc_le b0 b1 b2 c0 c1 c2
  have ec := kc_le a0 a1 a2 c0 c1 c2
  generalize kc a0 a1 a2 b0 b1 b2 = x at *
  generalize kc b0 b1 b2 c0 c1 c2 = y at *
  generalize kc a0 a1 a2 c0 c1 c2 = v at *
  have h1 : x ≤ 0 → y ≤ 0 → v ≤ 0 := by intro p q; rw [ec]; rw [ea] at p; rw [eb] at q; omega
  have h2 : x < 0 → y < 0 → v < 0 := by intro p q; rw [lc]; rw [la] at p; rw [lb] at q; omega
  clear la lb lc ea eb ec z e n w
  have tail : (if x ≥ 0 then (some true) else (if y ≥ 0 then (some true) else (some (decide (v < 0))))) = some true := by
    split
    · rfl
    · split
      · rfl
      · congr 1; exact decide_eq_true (h2 (by omega) (by omega))
  simp only [tail]
  split
  · rfl
  · split
    · rfl
    · rw [if_pos (h1 (by omega) (by omega))]

theorem VtimeOrder_walk (a0 a1 a2 b0 b1 b2 c0 c1 c2 : Int) (w : World) (f0 : (Lit.int .i64 a0).wf = true) (f1 : (Lit.int .i64 a1).wf = true) (f2 : (Lit.int .i64 a2).wf = true) (f3 : (Lit.int .i64 b0).wf = true) (f4 : (Lit.int .i64 b1).wf = true) (f5 : (Lit.int .i64 b2).wf = true) (f6 : (Lit.int .i64 c0).wf = true) (f7 : (Lit.int .i64 c1).wf = true) (f8 : (Lit.int .i64 c2).wf = true) : Calls Try.prog 9 #[.agg #[.int .i64 a0, .int .i64 a1, .int .i64 a2], .agg #[.int .i64 b0, .int .i64 b1, .int .i64 b2], .agg #[.int .i64 c0, .int .i64 c1, .int .i64 c2]] w fun e w' => e = .returned (.bool true) ∧ Below w.heap.size w w' := by
  obtain ⟨k, h⟩ := VtimeOrder a0 a1 a2 b0 b1 b2 c0 c1 c2 
  exact pacelinelaw01_VtimeOrder.calls k a0 a1 a2 b0 b1 b2 c0 c1 c2 true w h
end Go.Proofs.Ytehnhemelnpdhaa.Pure
