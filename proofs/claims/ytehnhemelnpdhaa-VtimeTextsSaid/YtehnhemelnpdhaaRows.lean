/-
  No cell of these rows narrows 'for every input' (looked for: loops, veiled, ifaces, maps, wideKeys, modest, calm, conditions, laid).
  DERIVED. THE GIVEN ROWS OF THIS SEAT. 8 by the template 'for every input the law returns true; each argument reads behind the call as it read before'; 0 by the template 'total and deterministic' (their statements: YtehnhemelnpdhaaTotals.lean).
  GIVEN WITH THE SEED: the statements are not yours to turn. If you find one false, say at which input.
  Laid BY PROGRAM, IN A SANDBOX (cutbox-rows.mjs): the forced cells as the released guide's own fill.sh prints them over the translation 2cebd340e68d1d35… (all of the seat's roots in one cut). By AI agents, Wed Nov 11 2026. No macro, syntax, notation, axiom, sorry.
-/
import Derived.Test.YtehnhemelnpdhaaChecked
import GoSem.Claim
import GoSem.ClaimJoined
import GoSem.ClaimMapViews
import Derived.JoinedTies
import Derived.KernelRfl
namespace Go.Proofs.Ytehnhemelnpdhaa
/- THE CELL 'sum', in the pinned program and in every row, IS THE sha256 OF THE DUMP (.gsa) THAT YtehnhemelnpdhaaProg.lean LOADS. Nothing in Lean hashes anything: it is a label: what it is worth is what the hold of that sum in a sandbox is worth. -/
noncomputable def Try.pinned : Pinned := { name := "ytehnhemelnpdhaa", sum := "2cebd340e68d1d35c1f9a150808e055c936d4e38f49d1ca5db69cde8d5280c6f", checked := Try.checked }
namespace Rows
def none {H : Type} : Left H := { results := [], args := [] }

/-- 'pacelinelaw01.VtimeSums': WHATEVER THE INPUT: true; the input reads as it did. -/
def vtimeSumsSpec : ChangeSpec := { name := "vtimeSums", fn := fun _ => fun
  | [d1, d2, d3] => { results := [.lit (.bool true)], args := [d1, d2, d3] }
  | _ => none }
def vtimeSumsRow : OpenClaim := { program := "ytehnhemelnpdhaa", sum := "2cebd340e68d1d35c1f9a150808e055c936d4e38f49d1ca5db69cde8d5280c6f", func := "paceline/pacelinelaw01.VtimeSums", spec := "vtimeSums", apart := false }
def VtimeSumsSaid : Prop := vtimeSumsRow.holds Try.pinned (OpenSpec.ofChange vtimeSumsSpec)

/-- ITS FALSE NEIGHBOUR: 'it returns false'. Refute it at one input. -/
def vtimeSumsWrong : ChangeSpec := { name := "vtimeSums", fn := fun _ => fun
  | [d1, d2, d3] => { results := [.lit (.bool false)], args := [d1, d2, d3] }
  | _ => none }
def VtimeSumsWrongFalsely : Prop := vtimeSumsRow.holds Try.pinned (OpenSpec.ofChange vtimeSumsWrong)

/-- 'pacelinelaw01.VtimeAdds': WHATEVER THE INPUT: true; the input reads as it did. -/
def vtimeAddsSpec : ChangeSpec := { name := "vtimeAdds", fn := fun _ => fun
  | [d1, d2] => { results := [.lit (.bool true)], args := [d1, d2] }
  | _ => none }
def vtimeAddsRow : OpenClaim := { program := "ytehnhemelnpdhaa", sum := "2cebd340e68d1d35c1f9a150808e055c936d4e38f49d1ca5db69cde8d5280c6f", func := "paceline/pacelinelaw01.VtimeAdds", spec := "vtimeAdds", apart := false }
def VtimeAddsSaid : Prop := vtimeAddsRow.holds Try.pinned (OpenSpec.ofChange vtimeAddsSpec)

/-- ITS FALSE NEIGHBOUR: 'it returns false'. Refute it at one input. -/
def vtimeAddsWrong : ChangeSpec := { name := "vtimeAdds", fn := fun _ => fun
  | [d1, d2] => { results := [.lit (.bool false)], args := [d1, d2] }
  | _ => none }
def VtimeAddsWrongFalsely : Prop := vtimeAddsRow.holds Try.pinned (OpenSpec.ofChange vtimeAddsWrong)

/-- 'pacelinelaw01.VtimeLeast': WHATEVER THE INPUT: true; the input reads as it did. -/
def vtimeLeastSpec : ChangeSpec := { name := "vtimeLeast", fn := fun _ => fun
  | [d] => { results := [.lit (.bool true)], args := [d] }
  | _ => none }
def vtimeLeastRow : OpenClaim := { program := "ytehnhemelnpdhaa", sum := "2cebd340e68d1d35c1f9a150808e055c936d4e38f49d1ca5db69cde8d5280c6f", func := "paceline/pacelinelaw01.VtimeLeast", spec := "vtimeLeast", apart := false }
def VtimeLeastSaid : Prop := vtimeLeastRow.holds Try.pinned (OpenSpec.ofChange vtimeLeastSpec)

/-- ITS FALSE NEIGHBOUR: 'it returns false'. Refute it at one input. -/
def vtimeLeastWrong : ChangeSpec := { name := "vtimeLeast", fn := fun _ => fun
  | [d] => { results := [.lit (.bool false)], args := [d] }
  | _ => none }
def VtimeLeastWrongFalsely : Prop := vtimeLeastRow.holds Try.pinned (OpenSpec.ofChange vtimeLeastWrong)

/-- 'pacelinelaw01.VtimeBounds': WHATEVER THE INPUT: true; the input reads as it did. -/
def vtimeBoundsSpec : ChangeSpec := { name := "vtimeBounds", fn := fun _ => fun
  | [d1, d2] => { results := [.lit (.bool true)], args := [d1, d2] }
  | _ => none }
def vtimeBoundsRow : OpenClaim := { program := "ytehnhemelnpdhaa", sum := "2cebd340e68d1d35c1f9a150808e055c936d4e38f49d1ca5db69cde8d5280c6f", func := "paceline/pacelinelaw01.VtimeBounds", spec := "vtimeBounds", apart := false }
def VtimeBoundsSaid : Prop := vtimeBoundsRow.holds Try.pinned (OpenSpec.ofChange vtimeBoundsSpec)

/-- ITS FALSE NEIGHBOUR: 'it returns false'. Refute it at one input. -/
def vtimeBoundsWrong : ChangeSpec := { name := "vtimeBounds", fn := fun _ => fun
  | [d1, d2] => { results := [.lit (.bool false)], args := [d1, d2] }
  | _ => none }
def VtimeBoundsWrongFalsely : Prop := vtimeBoundsRow.holds Try.pinned (OpenSpec.ofChange vtimeBoundsWrong)

/-- 'pacelinelaw01.VtimeCodes': WHATEVER THE INPUT: true; the input reads as it did. -/
def vtimeCodesSpec : ChangeSpec := { name := "vtimeCodes", fn := fun _ => fun
  | [d1, d2] => { results := [.lit (.bool true)], args := [d1, d2] }
  | _ => none }
def vtimeCodesRow : OpenClaim := { program := "ytehnhemelnpdhaa", sum := "2cebd340e68d1d35c1f9a150808e055c936d4e38f49d1ca5db69cde8d5280c6f", func := "paceline/pacelinelaw01.VtimeCodes", spec := "vtimeCodes", unfollowed := true, recurses := true, apart := false }
def VtimeCodesSaid : Prop := vtimeCodesRow.holds Try.pinned (OpenSpec.ofChange vtimeCodesSpec)

/-- ITS FALSE NEIGHBOUR: 'it returns false'. Refute it at one input. -/
def vtimeCodesWrong : ChangeSpec := { name := "vtimeCodes", fn := fun _ => fun
  | [d1, d2] => { results := [.lit (.bool false)], args := [d1, d2] }
  | _ => none }
def VtimeCodesWrongFalsely : Prop := vtimeCodesRow.holds Try.pinned (OpenSpec.ofChange vtimeCodesWrong)

/-- 'pacelinelaw01.VtimeTexts': WHATEVER THE INPUT: true; the input reads as it did. -/
def vtimeTextsSpec : ChangeSpec := { name := "vtimeTexts", fn := fun _ => fun
  | [d] => { results := [.lit (.bool true)], args := [d] }
  | _ => none }
def vtimeTextsRow : OpenClaim := { program := "ytehnhemelnpdhaa", sum := "2cebd340e68d1d35c1f9a150808e055c936d4e38f49d1ca5db69cde8d5280c6f", func := "paceline/pacelinelaw01.VtimeTexts", spec := "vtimeTexts", unfollowed := true, recurses := true, apart := false }
def VtimeTextsSaid : Prop := vtimeTextsRow.holds Try.pinned (OpenSpec.ofChange vtimeTextsSpec)

/-- ITS FALSE NEIGHBOUR: 'it returns false'. Refute it at one input. -/
def vtimeTextsWrong : ChangeSpec := { name := "vtimeTexts", fn := fun _ => fun
  | [d] => { results := [.lit (.bool false)], args := [d] }
  | _ => none }
def VtimeTextsWrongFalsely : Prop := vtimeTextsRow.holds Try.pinned (OpenSpec.ofChange vtimeTextsWrong)

/-- 'pacelinelaw01.VtimeOrder': WHATEVER THE INPUT: true; the input reads as it did. -/
def vtimeOrderSpec : ChangeSpec := { name := "vtimeOrder", fn := fun _ => fun
  | [d1, d2, d3] => { results := [.lit (.bool true)], args := [d1, d2, d3] }
  | _ => none }
def vtimeOrderRow : OpenClaim := { program := "ytehnhemelnpdhaa", sum := "2cebd340e68d1d35c1f9a150808e055c936d4e38f49d1ca5db69cde8d5280c6f", func := "paceline/pacelinelaw01.VtimeOrder", spec := "vtimeOrder", apart := false }
def VtimeOrderSaid : Prop := vtimeOrderRow.holds Try.pinned (OpenSpec.ofChange vtimeOrderSpec)

/-- ITS FALSE NEIGHBOUR: 'it returns false'. Refute it at one input. -/
def vtimeOrderWrong : ChangeSpec := { name := "vtimeOrder", fn := fun _ => fun
  | [d1, d2, d3] => { results := [.lit (.bool false)], args := [d1, d2, d3] }
  | _ => none }
def VtimeOrderWrongFalsely : Prop := vtimeOrderRow.holds Try.pinned (OpenSpec.ofChange vtimeOrderWrong)

/-- 'pacelinelaw01.VtimeRises': WHATEVER THE INPUT: true; the input reads as it did. -/
def vtimeRisesSpec : ChangeSpec := { name := "vtimeRises", fn := fun _ => fun
  | [d1, d2] => { results := [.lit (.bool true)], args := [d1, d2] }
  | _ => none }
def vtimeRisesRow : OpenClaim := { program := "ytehnhemelnpdhaa", sum := "2cebd340e68d1d35c1f9a150808e055c936d4e38f49d1ca5db69cde8d5280c6f", func := "paceline/pacelinelaw01.VtimeRises", spec := "vtimeRises", apart := false }
def VtimeRisesSaid : Prop := vtimeRisesRow.holds Try.pinned (OpenSpec.ofChange vtimeRisesSpec)

/-- ITS FALSE NEIGHBOUR: 'it returns false'. Refute it at one input. -/
def vtimeRisesWrong : ChangeSpec := { name := "vtimeRises", fn := fun _ => fun
  | [d1, d2] => { results := [.lit (.bool false)], args := [d1, d2] }
  | _ => none }
def VtimeRisesWrongFalsely : Prop := vtimeRisesRow.holds Try.pinned (OpenSpec.ofChange vtimeRisesWrong)

/- THE SECOND FORM. 'bulk': how many values and letters a reading holds, each counted each time it is reached (what is shared counts as often as it is met; a slice's spare places count too). A statement '..UptoSaid' is the law's where the arguments, and the package variables that the reading takes, are together of bulk at most 1048576: NARROWER than '..Said'. Prove '..Said' where nothing that the law and all that it calls make is longer than what came in: it says more and counts as full. Else prove '..UptoSaid'. A law counts once. -/
mutual
def uptoBulk {H : Type} : DataW H → Nat
  | .lit (.string bytes) => bytes.length + 1
  | .lit _ => 1
  | .nil => 1
  | .ptr d => uptoBulk d + 1
  | .slice elems spare => uptoBulkAll elems + uptoBulkAll spare + 1
  | .agg parts => uptoBulkAll parts + 1
  | .iface _ d => uptoBulk d + 1
  | .map entries => uptoBulkEntries entries + 1
  | .held _ => 1
def uptoBulkAll {H : Type} : List (DataW H) → Nat
  | [] => 0
  | d :: r => uptoBulk d + uptoBulkAll r
def uptoBulkEntries {H : Type} : List (Lit × DataW H) → Nat
  | [] => 0
  | x :: r => uptoBulkEntry x + uptoBulkEntries r
def uptoBulkEntry {H : Type} : Lit × DataW H → Nat
  | (.string bytes, d) => bytes.length + uptoBulk d + 1
  | (_, d) => uptoBulk d + 1
 end
def uptoSmall : (H : Type) → List (DataW H) → Bool := fun _ ds => decide (uptoBulkAll ds ≤ 1048576)
def OpenSpec.upto (s : _root_.Go.ChangeSpec) : _root_.Go.OpenSpec := { _root_.Go.OpenSpec.ofChange s with cond := some uptoSmall }

/-- 'pacelinelaw01.VtimeSums', WHERE WHAT IT READS IS OF BULK AT MOST 1048576: true; the input reads as it did. -/
def vtimeSumsUptoRow : OpenClaim := { program := "ytehnhemelnpdhaa", sum := "2cebd340e68d1d35c1f9a150808e055c936d4e38f49d1ca5db69cde8d5280c6f", func := "paceline/pacelinelaw01.VtimeSums", spec := "vtimeSums", apart := false, narrowed := true }
def VtimeSumsUptoSaid : Prop := vtimeSumsUptoRow.holds Try.pinned (OpenSpec.upto vtimeSumsSpec)

/-- 'pacelinelaw01.VtimeAdds', WHERE WHAT IT READS IS OF BULK AT MOST 1048576: true; the input reads as it did. -/
def vtimeAddsUptoRow : OpenClaim := { program := "ytehnhemelnpdhaa", sum := "2cebd340e68d1d35c1f9a150808e055c936d4e38f49d1ca5db69cde8d5280c6f", func := "paceline/pacelinelaw01.VtimeAdds", spec := "vtimeAdds", apart := false, narrowed := true }
def VtimeAddsUptoSaid : Prop := vtimeAddsUptoRow.holds Try.pinned (OpenSpec.upto vtimeAddsSpec)

/-- 'pacelinelaw01.VtimeLeast', WHERE WHAT IT READS IS OF BULK AT MOST 1048576: true; the input reads as it did. -/
def vtimeLeastUptoRow : OpenClaim := { program := "ytehnhemelnpdhaa", sum := "2cebd340e68d1d35c1f9a150808e055c936d4e38f49d1ca5db69cde8d5280c6f", func := "paceline/pacelinelaw01.VtimeLeast", spec := "vtimeLeast", apart := false, narrowed := true }
def VtimeLeastUptoSaid : Prop := vtimeLeastUptoRow.holds Try.pinned (OpenSpec.upto vtimeLeastSpec)

/-- 'pacelinelaw01.VtimeBounds', WHERE WHAT IT READS IS OF BULK AT MOST 1048576: true; the input reads as it did. -/
def vtimeBoundsUptoRow : OpenClaim := { program := "ytehnhemelnpdhaa", sum := "2cebd340e68d1d35c1f9a150808e055c936d4e38f49d1ca5db69cde8d5280c6f", func := "paceline/pacelinelaw01.VtimeBounds", spec := "vtimeBounds", apart := false, narrowed := true }
def VtimeBoundsUptoSaid : Prop := vtimeBoundsUptoRow.holds Try.pinned (OpenSpec.upto vtimeBoundsSpec)

/-- 'pacelinelaw01.VtimeCodes', WHERE WHAT IT READS IS OF BULK AT MOST 1048576: true; the input reads as it did. -/
def vtimeCodesUptoRow : OpenClaim := { program := "ytehnhemelnpdhaa", sum := "2cebd340e68d1d35c1f9a150808e055c936d4e38f49d1ca5db69cde8d5280c6f", func := "paceline/pacelinelaw01.VtimeCodes", spec := "vtimeCodes", unfollowed := true, recurses := true, apart := false, narrowed := true }
def VtimeCodesUptoSaid : Prop := vtimeCodesUptoRow.holds Try.pinned (OpenSpec.upto vtimeCodesSpec)

/-- 'pacelinelaw01.VtimeTexts', WHERE WHAT IT READS IS OF BULK AT MOST 1048576: true; the input reads as it did. -/
def vtimeTextsUptoRow : OpenClaim := { program := "ytehnhemelnpdhaa", sum := "2cebd340e68d1d35c1f9a150808e055c936d4e38f49d1ca5db69cde8d5280c6f", func := "paceline/pacelinelaw01.VtimeTexts", spec := "vtimeTexts", unfollowed := true, recurses := true, apart := false, narrowed := true }
def VtimeTextsUptoSaid : Prop := vtimeTextsUptoRow.holds Try.pinned (OpenSpec.upto vtimeTextsSpec)

/-- 'pacelinelaw01.VtimeOrder', WHERE WHAT IT READS IS OF BULK AT MOST 1048576: true; the input reads as it did. -/
def vtimeOrderUptoRow : OpenClaim := { program := "ytehnhemelnpdhaa", sum := "2cebd340e68d1d35c1f9a150808e055c936d4e38f49d1ca5db69cde8d5280c6f", func := "paceline/pacelinelaw01.VtimeOrder", spec := "vtimeOrder", apart := false, narrowed := true }
def VtimeOrderUptoSaid : Prop := vtimeOrderUptoRow.holds Try.pinned (OpenSpec.upto vtimeOrderSpec)

/-- 'pacelinelaw01.VtimeRises', WHERE WHAT IT READS IS OF BULK AT MOST 1048576: true; the input reads as it did. -/
def vtimeRisesUptoRow : OpenClaim := { program := "ytehnhemelnpdhaa", sum := "2cebd340e68d1d35c1f9a150808e055c936d4e38f49d1ca5db69cde8d5280c6f", func := "paceline/pacelinelaw01.VtimeRises", spec := "vtimeRises", apart := false, narrowed := true }
def VtimeRisesUptoSaid : Prop := vtimeRisesUptoRow.holds Try.pinned (OpenSpec.upto vtimeRisesSpec)

end Rows
end Go.Proofs.Ytehnhemelnpdhaa
