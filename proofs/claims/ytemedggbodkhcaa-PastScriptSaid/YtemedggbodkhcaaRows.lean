/-
  No cell of these rows narrows 'for every input' (looked for: loops, veiled, ifaces, maps, wideKeys, modest, calm, conditions, laid).
  DERIVED. THE GIVEN ROWS OF THIS SEAT. 5 by the template 'for every input the law returns true; each argument reads behind the call as it read before'; 0 by the template 'total and deterministic' (their statements: YtemedggbodkhcaaTotals.lean).
  GIVEN WITH THE SEED: the statements are not yours to turn. If you find one false, say at which input.
  Laid BY PROGRAM, IN A SANDBOX (cutbox-rows.mjs): the forced cells as the released guide's own fill.sh prints them over the translation d5090426a48084a8… (all of the seat's roots in one cut). By AI agents, Wed Nov 11 2026. No macro, syntax, notation, axiom, sorry.
-/
import Derived.Test.YtemedggbodkhcaaChecked
import GoSem.Claim
import GoSem.ClaimJoined
import GoSem.ClaimMapViews
import Derived.JoinedTies
import Derived.KernelRfl
namespace Go.Proofs.Ytemedggbodkhcaa
/- THE CELL 'sum', in the pinned program and in every row, IS THE sha256 OF THE DUMP (.gsa) THAT YtemedggbodkhcaaProg.lean LOADS. Nothing in Lean hashes anything: it is a label: what it is worth is what the hold of that sum in a sandbox is worth. -/
noncomputable def Try.pinned : Pinned := { name := "ytemedggbodkhcaa", sum := "d5090426a48084a84e2e9e454dddf0e7f94e8ee9d71186bc3950858dbf216151", checked := Try.checked }
namespace Rows
def none {H : Type} : Left H := { results := [], args := [] }

/-- 'pacelinelaw13.PastParts': WHATEVER THE INPUT: true; the input reads as it did. -/
def pastPartsSpec : ChangeSpec := { name := "pastParts", fn := fun _ => fun
  | [d1, d2, d3] => { results := [.lit (.bool true)], args := [d1, d2, d3] }
  | _ => none }
def pastPartsRow : OpenClaim := { program := "ytemedggbodkhcaa", sum := "d5090426a48084a84e2e9e454dddf0e7f94e8ee9d71186bc3950858dbf216151", func := "paceline/pacelinelaw13.PastParts", spec := "pastParts", unfollowed := true, recurses := true, apart := false }
def PastPartsSaid : Prop := pastPartsRow.holds Try.pinned (OpenSpec.ofChange pastPartsSpec)

/-- ITS FALSE NEIGHBOUR: 'it returns false'. Refute it at one input. -/
def pastPartsWrong : ChangeSpec := { name := "pastParts", fn := fun _ => fun
  | [d1, d2, d3] => { results := [.lit (.bool false)], args := [d1, d2, d3] }
  | _ => none }
def PastPartsWrongFalsely : Prop := pastPartsRow.holds Try.pinned (OpenSpec.ofChange pastPartsWrong)

/-- 'pacelinelaw13.PastBack': WHATEVER THE INPUT: true; the input reads as it did. -/
def pastBackSpec : ChangeSpec := { name := "pastBack", fn := fun _ => fun
  | [d1, d2] => { results := [.lit (.bool true)], args := [d1, d2] }
  | _ => none }
def pastBackRow : OpenClaim := { program := "ytemedggbodkhcaa", sum := "d5090426a48084a84e2e9e454dddf0e7f94e8ee9d71186bc3950858dbf216151", func := "paceline/pacelinelaw13.PastBack", spec := "pastBack", unfollowed := true, recurses := true, apart := false }
def PastBackSaid : Prop := pastBackRow.holds Try.pinned (OpenSpec.ofChange pastBackSpec)

/-- ITS FALSE NEIGHBOUR: 'it returns false'. Refute it at one input. -/
def pastBackWrong : ChangeSpec := { name := "pastBack", fn := fun _ => fun
  | [d1, d2] => { results := [.lit (.bool false)], args := [d1, d2] }
  | _ => none }
def PastBackWrongFalsely : Prop := pastBackRow.holds Try.pinned (OpenSpec.ofChange pastBackWrong)

/-- 'pacelinelaw13.PastFull': WHATEVER THE INPUT: true; the input reads as it did. -/
def pastFullSpec : ChangeSpec := { name := "pastFull", fn := fun _ => fun
  | [d1, d2] => { results := [.lit (.bool true)], args := [d1, d2] }
  | _ => none }
def pastFullRow : OpenClaim := { program := "ytemedggbodkhcaa", sum := "d5090426a48084a84e2e9e454dddf0e7f94e8ee9d71186bc3950858dbf216151", func := "paceline/pacelinelaw13.PastFull", spec := "pastFull", unfollowed := true, recurses := true, apart := false }
def PastFullSaid : Prop := pastFullRow.holds Try.pinned (OpenSpec.ofChange pastFullSpec)

/-- ITS FALSE NEIGHBOUR: 'it returns false'. Refute it at one input. -/
def pastFullWrong : ChangeSpec := { name := "pastFull", fn := fun _ => fun
  | [d1, d2] => { results := [.lit (.bool false)], args := [d1, d2] }
  | _ => none }
def PastFullWrongFalsely : Prop := pastFullRow.holds Try.pinned (OpenSpec.ofChange pastFullWrong)

/-- 'pacelinelaw13.PastOrder': WHATEVER THE INPUT: true; the input reads as it did. -/
def pastOrderSpec : ChangeSpec := { name := "pastOrder", fn := fun _ => fun
  | [d] => { results := [.lit (.bool true)], args := [d] }
  | _ => none }
def pastOrderRow : OpenClaim := { program := "ytemedggbodkhcaa", sum := "d5090426a48084a84e2e9e454dddf0e7f94e8ee9d71186bc3950858dbf216151", func := "paceline/pacelinelaw13.PastOrder", spec := "pastOrder", unfollowed := true, recurses := true, apart := false }
def PastOrderSaid : Prop := pastOrderRow.holds Try.pinned (OpenSpec.ofChange pastOrderSpec)

/-- ITS FALSE NEIGHBOUR: 'it returns false'. Refute it at one input. -/
def pastOrderWrong : ChangeSpec := { name := "pastOrder", fn := fun _ => fun
  | [d] => { results := [.lit (.bool false)], args := [d] }
  | _ => none }
def PastOrderWrongFalsely : Prop := pastOrderRow.holds Try.pinned (OpenSpec.ofChange pastOrderWrong)

/-- 'pacelinelaw13.PastScript': WHATEVER THE INPUT: true; the input reads as it did. -/
def pastScriptSpec : ChangeSpec := { name := "pastScript", fn := fun _ => fun
  | [d] => { results := [.lit (.bool true)], args := [d] }
  | _ => none }
def pastScriptRow : OpenClaim := { program := "ytemedggbodkhcaa", sum := "d5090426a48084a84e2e9e454dddf0e7f94e8ee9d71186bc3950858dbf216151", func := "paceline/pacelinelaw13.PastScript", spec := "pastScript", unfollowed := true, recurses := true, apart := false }
def PastScriptSaid : Prop := pastScriptRow.holds Try.pinned (OpenSpec.ofChange pastScriptSpec)

/-- ITS FALSE NEIGHBOUR: 'it returns false'. Refute it at one input. -/
def pastScriptWrong : ChangeSpec := { name := "pastScript", fn := fun _ => fun
  | [d] => { results := [.lit (.bool false)], args := [d] }
  | _ => none }
def PastScriptWrongFalsely : Prop := pastScriptRow.holds Try.pinned (OpenSpec.ofChange pastScriptWrong)

/- THE SECOND FORM. 'bulk': how many values and letters a reading holds, each counted each time it is reached (what is shared counts as often as it is met; a slice's spare places count too). A statement '..UptoSaid' is the law's where the arguments, and the package variables that the reading takes, are together of bulk at most 1048576: NARROWER than '..Said'. Prove '..Said' where nothing that the law and all that it calls make is longer than what came in: it says more and counts as full. Else prove '..UptoSaid'. A law counts once. -/
mutual
def uptoBulk {H : Type} : DataW H → Nat
  | .lit (.string bytes) => bytes.length + 1
  | .lit _ => 1
  | .nil => 1
  | .ptr d => uptoBulk d + 1
  | .slice elems spare => uptoBulkAll elems + uptoBulkAll spare + 1
  | .agg parts => uptoBulkAll parts + 1
  | .iface _ d => uptoBulk d + 1
  | .map entries => uptoBulkEntries entries + 1
  | .held _ => 1
def uptoBulkAll {H : Type} : List (DataW H) → Nat
  | [] => 0
  | d :: r => uptoBulk d + uptoBulkAll r
def uptoBulkEntries {H : Type} : List (Lit × DataW H) → Nat
  | [] => 0
  | x :: r => uptoBulkEntry x + uptoBulkEntries r
def uptoBulkEntry {H : Type} : Lit × DataW H → Nat
  | (.string bytes, d) => bytes.length + uptoBulk d + 1
  | (_, d) => uptoBulk d + 1
 end
def uptoSmall : (H : Type) → List (DataW H) → Bool := fun _ ds => decide (uptoBulkAll ds ≤ 1048576)
def OpenSpec.upto (s : _root_.Go.ChangeSpec) : _root_.Go.OpenSpec := { _root_.Go.OpenSpec.ofChange s with cond := some uptoSmall }

/-- 'pacelinelaw13.PastParts', WHERE WHAT IT READS IS OF BULK AT MOST 1048576: true; the input reads as it did. -/
def pastPartsUptoRow : OpenClaim := { program := "ytemedggbodkhcaa", sum := "d5090426a48084a84e2e9e454dddf0e7f94e8ee9d71186bc3950858dbf216151", func := "paceline/pacelinelaw13.PastParts", spec := "pastParts", unfollowed := true, recurses := true, apart := false, narrowed := true }
def PastPartsUptoSaid : Prop := pastPartsUptoRow.holds Try.pinned (OpenSpec.upto pastPartsSpec)

/-- 'pacelinelaw13.PastBack', WHERE WHAT IT READS IS OF BULK AT MOST 1048576: true; the input reads as it did. -/
def pastBackUptoRow : OpenClaim := { program := "ytemedggbodkhcaa", sum := "d5090426a48084a84e2e9e454dddf0e7f94e8ee9d71186bc3950858dbf216151", func := "paceline/pacelinelaw13.PastBack", spec := "pastBack", unfollowed := true, recurses := true, apart := false, narrowed := true }
def PastBackUptoSaid : Prop := pastBackUptoRow.holds Try.pinned (OpenSpec.upto pastBackSpec)

/-- 'pacelinelaw13.PastFull', WHERE WHAT IT READS IS OF BULK AT MOST 1048576: true; the input reads as it did. -/
def pastFullUptoRow : OpenClaim := { program := "ytemedggbodkhcaa", sum := "d5090426a48084a84e2e9e454dddf0e7f94e8ee9d71186bc3950858dbf216151", func := "paceline/pacelinelaw13.PastFull", spec := "pastFull", unfollowed := true, recurses := true, apart := false, narrowed := true }
def PastFullUptoSaid : Prop := pastFullUptoRow.holds Try.pinned (OpenSpec.upto pastFullSpec)

/-- 'pacelinelaw13.PastOrder', WHERE WHAT IT READS IS OF BULK AT MOST 1048576: true; the input reads as it did. -/
def pastOrderUptoRow : OpenClaim := { program := "ytemedggbodkhcaa", sum := "d5090426a48084a84e2e9e454dddf0e7f94e8ee9d71186bc3950858dbf216151", func := "paceline/pacelinelaw13.PastOrder", spec := "pastOrder", unfollowed := true, recurses := true, apart := false, narrowed := true }
def PastOrderUptoSaid : Prop := pastOrderUptoRow.holds Try.pinned (OpenSpec.upto pastOrderSpec)

/-- 'pacelinelaw13.PastScript', WHERE WHAT IT READS IS OF BULK AT MOST 1048576: true; the input reads as it did. -/
def pastScriptUptoRow : OpenClaim := { program := "ytemedggbodkhcaa", sum := "d5090426a48084a84e2e9e454dddf0e7f94e8ee9d71186bc3950858dbf216151", func := "paceline/pacelinelaw13.PastScript", spec := "pastScript", unfollowed := true, recurses := true, apart := false, narrowed := true }
def PastScriptUptoSaid : Prop := pastScriptUptoRow.holds Try.pinned (OpenSpec.upto pastScriptSpec)

end Rows
end Go.Proofs.Ytemedggbodkhcaa
