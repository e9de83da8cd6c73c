/- The law VtimeSums of the given program, as a plain statement on integers: sums of three times are the same in whatever order, never below a part, and the document's; for every input. -/
import Derived.Test.YtehnhemelnpdhaaPVtimeSumsx1
namespace Go.Proofs.Ytehnhemelnpdhaa.Pure
open Go.RowKit Go.Proofs.Ytehnhemelnpdhaa.PVtimeSums Go.Proofs.YtehnhemelnpdhaaW.PrintWords Go.Proofs.YtehnhemelnpdhaaW.PrintLast

/-- what a number counts as -/
def cl (t : Int) : Int := if t < 0 then 0 else if t > 1099511627776 then 1125899906842624 else t
theorem cl_eq (t : Int) : vtime_clamp.f t = some (cl t) := by unfold vtime_clamp.f cl; split <;> (try split) <;> rfl
theorem time_eq (t : Int) : pacelineref01_time.f t = some (cl t) := by unfold pacelineref01_time.f cl; split <;> (try split) <;> rfl
theorem cl_range (t : Int) : 0 ≤ cl t ∧ (cl t ≤ 1099511627776 ∨ cl t = 1125899906842624) := by unfold cl; omega
/-- the sum of two times -/
def ad (t d : Int) : Int := cl (cl t + cl d)
theorem ad_eq (t d : Int) : vtime_Add.f t d = some (ad t d) := by
  unfold vtime_Add.f ad
  simp only [cl_eq, Option.bind_some]
  have h1 := cl_range t
  have h2 := cl_range d
  rw [show wrap64 (cl t + cl d) = cl t + cl d from by unfold wrap64; omega]
theorem radd_eq (t d : Int) : pacelineref01_Add.f t d = some (ad t d) := by
  unfold pacelineref01_Add.f ad
  simp only [time_eq, Option.bind_some]
  have h1 := cl_range t
  have h2 := cl_range d
  rw [show wrap64 (cl t + cl d) = cl t + cl d from by unfold wrap64; omega]
  split
  · rename_i h; rw [h]; congr 1; unfold cl at *; omega
  · split
    · rename_i h; rw [h]; congr 1; unfold cl at *; omega
    · rfl

theorem VtimeSums : pacelinelaw01_VtimeSums.Pure := by
  intro a b c _ _ _
  unfold pacelinelaw01_VtimeSums.f
  simp only [ad_eq, radd_eq, Option.bind_some]
  have e : ad (ad a b) c = ad a (ad b c) := by
    unfold ad cl; omega
  have g : ad (ad a b) c ≥ ad a b := by
    unfold ad cl; omega
  rw [if_pos e, if_pos g]; simp

end Go.Proofs.Ytehnhemelnpdhaa.Pure
