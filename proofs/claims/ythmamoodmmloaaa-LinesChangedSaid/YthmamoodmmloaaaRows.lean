/-
  No cell of these rows narrows 'for every input' (looked for: loops, veiled, ifaces, maps, wideKeys, modest, calm, conditions, laid).
  DERIVED. THE GIVEN ROWS OF THIS SEAT. 3 by the template 'for every input the law returns true; each argument reads behind the call as it read before'; 0 by the template 'total and deterministic' (their statements: YthmamoodmmloaaaTotals.lean).
  GIVEN WITH THE SEED: the statements are not yours to turn. If you find one false, say at which input.
  Laid BY PROGRAM, IN A SANDBOX (cutbox-rows.mjs): the forced cells as the released guide's own fill.sh prints them over the translation 6ab318283e1e3e43… (all of the seat's roots in one cut). By AI agents, Wed Nov 11 2026. No macro, syntax, notation, axiom, sorry.
-/
import Derived.Test.YthmamoodmmloaaaChecked
import GoSem.Claim
import GoSem.ClaimJoined
import GoSem.ClaimMapViews
import Derived.JoinedTies
import Derived.KernelRfl
namespace Go.Proofs.Ythmamoodmmloaaa
/- THE CELL 'sum', in the pinned program and in every row, IS THE sha256 OF THE DUMP (.gsa) THAT YthmamoodmmloaaaProg.lean LOADS. Nothing in Lean hashes anything: it is a label: what it is worth is what the hold of that sum in a sandbox is worth. -/
noncomputable def Try.pinned : Pinned := { name := "ythmamoodmmloaaa", sum := "6ab318283e1e3e437c461ed698c811d38d96ca1fbd935bfc63695496c00cca28", checked := Try.checked }
namespace Rows
def none {H : Type} : Left H := { results := [], args := [] }

/-- 'pacelinelaw02.LinesSums': WHATEVER THE INPUT: true; the input reads as it did. -/
def linesSumsSpec : ChangeSpec := { name := "linesSums", fn := fun _ => fun
  | [d1, d2, d3, d4] => { results := [.lit (.bool true)], args := [d1, d2, d3, d4] }
  | _ => none }
def linesSumsRow : OpenClaim := { program := "ythmamoodmmloaaa", sum := "6ab318283e1e3e437c461ed698c811d38d96ca1fbd935bfc63695496c00cca28", func := "paceline/pacelinelaw02.LinesSums", spec := "linesSums", apart := false }
def LinesSumsSaid : Prop := linesSumsRow.holds Try.pinned (OpenSpec.ofChange linesSumsSpec)

/-- ITS FALSE NEIGHBOUR: 'it returns false'. Refute it at one input. -/
def linesSumsWrong : ChangeSpec := { name := "linesSums", fn := fun _ => fun
  | [d1, d2, d3, d4] => { results := [.lit (.bool false)], args := [d1, d2, d3, d4] }
  | _ => none }
def LinesSumsWrongFalsely : Prop := linesSumsRow.holds Try.pinned (OpenSpec.ofChange linesSumsWrong)

/-- 'pacelinelaw02.LinesSeals': WHATEVER THE INPUT: true; the input reads as it did. -/
def linesSealsSpec : ChangeSpec := { name := "linesSeals", fn := fun _ => fun
  | [d1, d2] => { results := [.lit (.bool true)], args := [d1, d2] }
  | _ => none }
def linesSealsRow : OpenClaim := { program := "ythmamoodmmloaaa", sum := "6ab318283e1e3e437c461ed698c811d38d96ca1fbd935bfc63695496c00cca28", func := "paceline/pacelinelaw02.LinesSeals", spec := "linesSeals", apart := false }
def LinesSealsSaid : Prop := linesSealsRow.holds Try.pinned (OpenSpec.ofChange linesSealsSpec)

/-- ITS FALSE NEIGHBOUR: 'it returns false'. Refute it at one input. -/
def linesSealsWrong : ChangeSpec := { name := "linesSeals", fn := fun _ => fun
  | [d1, d2] => { results := [.lit (.bool false)], args := [d1, d2] }
  | _ => none }
def LinesSealsWrongFalsely : Prop := linesSealsRow.holds Try.pinned (OpenSpec.ofChange linesSealsWrong)

/-- 'pacelinelaw02.LinesChanged': WHATEVER THE INPUT: true; the input reads as it did. -/
def linesChangedSpec : ChangeSpec := { name := "linesChanged", fn := fun _ => fun
  | [d1, d2, d3] => { results := [.lit (.bool true)], args := [d1, d2, d3] }
  | _ => none }
def linesChangedRow : OpenClaim := { program := "ythmamoodmmloaaa", sum := "6ab318283e1e3e437c461ed698c811d38d96ca1fbd935bfc63695496c00cca28", func := "paceline/pacelinelaw02.LinesChanged", spec := "linesChanged", apart := false }
def LinesChangedSaid : Prop := linesChangedRow.holds Try.pinned (OpenSpec.ofChange linesChangedSpec)

/-- ITS FALSE NEIGHBOUR: 'it returns false'. Refute it at one input. -/
def linesChangedWrong : ChangeSpec := { name := "linesChanged", fn := fun _ => fun
  | [d1, d2, d3] => { results := [.lit (.bool false)], args := [d1, d2, d3] }
  | _ => none }
def LinesChangedWrongFalsely : Prop := linesChangedRow.holds Try.pinned (OpenSpec.ofChange linesChangedWrong)

/- THE SECOND FORM. 'bulk': how many values and letters a reading holds, each counted each time it is reached (what is shared counts as often as it is met; a slice's spare places count too). A statement '..UptoSaid' is the law's where the arguments, and the package variables that the reading takes, are together of bulk at most 1048576: NARROWER than '..Said'. Prove '..Said' where nothing that the law and all that it calls make is longer than what came in: it says more and counts as full. Else prove '..UptoSaid'. A law counts once. -/
mutual
def uptoBulk {H : Type} : DataW H → Nat
  | .lit (.string bytes) => bytes.length + 1
  | .lit _ => 1
  | .nil => 1
  | .ptr d => uptoBulk d + 1
  | .slice elems spare => uptoBulkAll elems + uptoBulkAll spare + 1
  | .agg parts => uptoBulkAll parts + 1
  | .iface _ d => uptoBulk d + 1
  | .map entries => uptoBulkEntries entries + 1
  | .held _ => 1
def uptoBulkAll {H : Type} : List (DataW H) → Nat
  | [] => 0
  | d :: r => uptoBulk d + uptoBulkAll r
def uptoBulkEntries {H : Type} : List (Lit × DataW H) → Nat
  | [] => 0
  | x :: r => uptoBulkEntry x + uptoBulkEntries r
def uptoBulkEntry {H : Type} : Lit × DataW H → Nat
  | (.string bytes, d) => bytes.length + uptoBulk d + 1
  | (_, d) => uptoBulk d + 1
 end
def uptoSmall : (H : Type) → List (DataW H) → Bool := fun _ ds => decide (uptoBulkAll ds ≤ 1048576)
def OpenSpec.upto (s : _root_.Go.ChangeSpec) : _root_.Go.OpenSpec := { _root_.Go.OpenSpec.ofChange s with cond := some uptoSmall }

/-- 'pacelinelaw02.LinesSums', WHERE WHAT IT READS IS OF BULK AT MOST 1048576: true; the input reads as it did. -/
def linesSumsUptoRow : OpenClaim := { program := "ythmamoodmmloaaa", sum := "6ab318283e1e3e437c461ed698c811d38d96ca1fbd935bfc63695496c00cca28", func := "paceline/pacelinelaw02.LinesSums", spec := "linesSums", apart := false, narrowed := true }
def LinesSumsUptoSaid : Prop := linesSumsUptoRow.holds Try.pinned (OpenSpec.upto linesSumsSpec)

/-- 'pacelinelaw02.LinesSeals', WHERE WHAT IT READS IS OF BULK AT MOST 1048576: true; the input reads as it did. -/
def linesSealsUptoRow : OpenClaim := { program := "ythmamoodmmloaaa", sum := "6ab318283e1e3e437c461ed698c811d38d96ca1fbd935bfc63695496c00cca28", func := "paceline/pacelinelaw02.LinesSeals", spec := "linesSeals", apart := false, narrowed := true }
def LinesSealsUptoSaid : Prop := linesSealsUptoRow.holds Try.pinned (OpenSpec.upto linesSealsSpec)

/-- 'pacelinelaw02.LinesChanged', WHERE WHAT IT READS IS OF BULK AT MOST 1048576: true; the input reads as it did. -/
def linesChangedUptoRow : OpenClaim := { program := "ythmamoodmmloaaa", sum := "6ab318283e1e3e437c461ed698c811d38d96ca1fbd935bfc63695496c00cca28", func := "paceline/pacelinelaw02.LinesChanged", spec := "linesChanged", apart := false, narrowed := true }
def LinesChangedUptoSaid : Prop := linesChangedUptoRow.holds Try.pinned (OpenSpec.upto linesChangedSpec)

end Rows
end Go.Proofs.Ythmamoodmmloaaa
