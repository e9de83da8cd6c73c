/- lines: a world that meets the rows' lists: the door's own, with the pinned table laid. -/
import Derived.Test.YtkjghjffdjjedaaDoorRows
import Derived.Lay
import Derived.LaidHandle
import Derived.LaidMore
import Derived.LaidOnce
import Derived.Stop.Joined
import Derived.WalkKit
set_option linter.unusedVariables false
set_option linter.unusedSimpArgs false
namespace Go.Proofs.YtkjghjffdjjedaaDoor.Enc
open Go Go.RowKit Go.Proofs
def lst : List (String × DataW Unit) := [("unicode/utf8.acceptRanges", Rows.laid_unicode_utf8_acceptRanges), ("errors.errorType", Rows.laid_errors_errorType), ("unicode/utf8.first", Rows.laid_unicode_utf8_first)]
def grt : List String := ["unicode/utf8.acceptRanges", "unicode/utf8.first"]
def plainL : List (String × DataW Unit) := lst.filter fun x => x.2.handleName?.isNone
def greatL : List (String × DataW Unit) := plainL.filter fun x => grt.contains x.1
noncomputable def wit (os : Os) : World := (World.doorLaid Tryd.prog 79 os).layVars Tryd.prog greatL
theorem wit_os (os : Os) : (wit os).os = os := World.layVars_os _ _ _
set_option maxRecDepth 100000 in
theorem wit_plain (os : Os) : laidMet Tryd.prog plainL (wit os) :=
  laidMet_layVars (w0 := World.doorLaid Tryd.prog 79 os) grt [] rfl (by kernel_rfl) (by kernel_rfl) (by
    have e : (plainL.filter fun x => !grt.contains x.1) = [] := by kernel_rfl
    rw [e]; exact LaidIn.none)
set_option maxRecDepth 100000 in
theorem wit_met (os : Os) (args : Array Value) : laidMetH Tryd.prog lst ((wit os).forCall (fun _ _ => 0) ⟨#[], args, []⟩).memory :=
  laidMetH_of_parts3 (fuel := 8) ((wit_plain os).of_heap (by simp [World.memory, World.forCall, Input.heap])) (by kernel_rfl) (by kernel_rfl)
end Go.Proofs.YtkjghjffdjjedaaDoor.Enc
