/-
  No cell of these rows narrows 'for every input' (looked for: loops, veiled, ifaces, maps, wideKeys, modest, calm, conditions, laid).
  DERIVED. THE GIVEN ROWS OF THIS SEAT. 6 by the template 'for every input the law returns true; each argument reads behind the call as it read before'; 0 by the template 'total and deterministic' (their statements: YtmjjejjlfkigjaaTotals.lean).
  GIVEN WITH THE SEED: the statements are not yours to turn. If you find one false, say at which input.
  Laid BY PROGRAM, IN A SANDBOX (cutbox-rows.mjs): the forced cells as the released guide's own fill.sh prints them over the translation 17e2988df9cc2360… (all of the seat's roots in one cut). By AI agents, Wed Nov 11 2026. No macro, syntax, notation, axiom, sorry.
-/
import Derived.Test.YtmjjejjlfkigjaaChecked
import GoSem.Claim
import GoSem.ClaimJoined
import GoSem.ClaimMapViews
import Derived.JoinedTies
import Derived.KernelRfl
namespace Go.Proofs.Ytmjjejjlfkigjaa
/- THE CELL 'sum', in the pinned program and in every row, IS THE sha256 OF THE DUMP (.gsa) THAT YtmjjejjlfkigjaaProg.lean LOADS. Nothing in Lean hashes anything: it is a label: what it is worth is what the hold of that sum in a sandbox is worth. -/
noncomputable def Try.pinned : Pinned := { name := "ytmjjejjlfkigjaa", sum := "17e2988df9cc23600934b41e6f86d76006e4689523df3d7d6b13d2c28296c586", checked := Try.checked }
namespace Rows
def none {H : Type} : Left H := { results := [], args := [] }

/-- 'pacelinelaw19.GrantDecides': WHATEVER THE INPUT: true; the input reads as it did. -/
def grantDecidesSpec : ChangeSpec := { name := "grantDecides", fn := fun _ => fun
  | [d1, d2, d3, d4, d5] => { results := [.lit (.bool true)], args := [d1, d2, d3, d4, d5] }
  | _ => none }
def grantDecidesRow : OpenClaim := { program := "ytmjjejjlfkigjaa", sum := "17e2988df9cc23600934b41e6f86d76006e4689523df3d7d6b13d2c28296c586", func := "paceline/pacelinelaw19.GrantDecides", spec := "grantDecides", unfollowed := true, recurses := true, apart := false }
def GrantDecidesSaid : Prop := grantDecidesRow.holds Try.pinned (OpenSpec.ofChange grantDecidesSpec)

/-- ITS FALSE NEIGHBOUR: 'it returns false'. Refute it at one input. -/
def grantDecidesWrong : ChangeSpec := { name := "grantDecides", fn := fun _ => fun
  | [d1, d2, d3, d4, d5] => { results := [.lit (.bool false)], args := [d1, d2, d3, d4, d5] }
  | _ => none }
def GrantDecidesWrongFalsely : Prop := grantDecidesRow.holds Try.pinned (OpenSpec.ofChange grantDecidesWrong)

/-- 'pacelinelaw19.GrantSafe': WHATEVER THE INPUT: true; the input reads as it did. -/
def grantSafeSpec : ChangeSpec := { name := "grantSafe", fn := fun _ => fun
  | [d1, d2, d3, d4, d5] => { results := [.lit (.bool true)], args := [d1, d2, d3, d4, d5] }
  | _ => none }
def grantSafeRow : OpenClaim := { program := "ytmjjejjlfkigjaa", sum := "17e2988df9cc23600934b41e6f86d76006e4689523df3d7d6b13d2c28296c586", func := "paceline/pacelinelaw19.GrantSafe", spec := "grantSafe", unfollowed := true, recurses := true, apart := false }
def GrantSafeSaid : Prop := grantSafeRow.holds Try.pinned (OpenSpec.ofChange grantSafeSpec)

/-- ITS FALSE NEIGHBOUR: 'it returns false'. Refute it at one input. -/
def grantSafeWrong : ChangeSpec := { name := "grantSafe", fn := fun _ => fun
  | [d1, d2, d3, d4, d5] => { results := [.lit (.bool false)], args := [d1, d2, d3, d4, d5] }
  | _ => none }
def GrantSafeWrongFalsely : Prop := grantSafeRow.holds Try.pinned (OpenSpec.ofChange grantSafeWrong)

/-- 'pacelinelaw19.GrantAll': WHATEVER THE INPUT: true; the input reads as it did. -/
def grantAllSpec : ChangeSpec := { name := "grantAll", fn := fun _ => fun
  | [d1, d2, d3, d4] => { results := [.lit (.bool true)], args := [d1, d2, d3, d4] }
  | _ => none }
def grantAllRow : OpenClaim := { program := "ytmjjejjlfkigjaa", sum := "17e2988df9cc23600934b41e6f86d76006e4689523df3d7d6b13d2c28296c586", func := "paceline/pacelinelaw19.GrantAll", spec := "grantAll", unfollowed := true, recurses := true, apart := false }
def GrantAllSaid : Prop := grantAllRow.holds Try.pinned (OpenSpec.ofChange grantAllSpec)

/-- ITS FALSE NEIGHBOUR: 'it returns false'. Refute it at one input. -/
def grantAllWrong : ChangeSpec := { name := "grantAll", fn := fun _ => fun
  | [d1, d2, d3, d4] => { results := [.lit (.bool false)], args := [d1, d2, d3, d4] }
  | _ => none }
def GrantAllWrongFalsely : Prop := grantAllRow.holds Try.pinned (OpenSpec.ofChange grantAllWrong)

/-- 'pacelinelaw19.GrantMore': WHATEVER THE INPUT: true; the input reads as it did. -/
def grantMoreSpec : ChangeSpec := { name := "grantMore", fn := fun _ => fun
  | [d1, d2, d3, d4, d5, d6] => { results := [.lit (.bool true)], args := [d1, d2, d3, d4, d5, d6] }
  | _ => none }
def grantMoreRow : OpenClaim := { program := "ytmjjejjlfkigjaa", sum := "17e2988df9cc23600934b41e6f86d76006e4689523df3d7d6b13d2c28296c586", func := "paceline/pacelinelaw19.GrantMore", spec := "grantMore", unfollowed := true, recurses := true, apart := false }
def GrantMoreSaid : Prop := grantMoreRow.holds Try.pinned (OpenSpec.ofChange grantMoreSpec)

/-- ITS FALSE NEIGHBOUR: 'it returns false'. Refute it at one input. -/
def grantMoreWrong : ChangeSpec := { name := "grantMore", fn := fun _ => fun
  | [d1, d2, d3, d4, d5, d6] => { results := [.lit (.bool false)], args := [d1, d2, d3, d4, d5, d6] }
  | _ => none }
def GrantMoreWrongFalsely : Prop := grantMoreRow.holds Try.pinned (OpenSpec.ofChange grantMoreWrong)

/-- 'pacelinelaw19.GrantFree': WHATEVER THE INPUT: true; the input reads as it did. -/
def grantFreeSpec : ChangeSpec := { name := "grantFree", fn := fun _ => fun
  | [d1, d2, d3] => { results := [.lit (.bool true)], args := [d1, d2, d3] }
  | _ => none }
def grantFreeRow : OpenClaim := { program := "ytmjjejjlfkigjaa", sum := "17e2988df9cc23600934b41e6f86d76006e4689523df3d7d6b13d2c28296c586", func := "paceline/pacelinelaw19.GrantFree", spec := "grantFree", unfollowed := true, recurses := true, apart := false }
def GrantFreeSaid : Prop := grantFreeRow.holds Try.pinned (OpenSpec.ofChange grantFreeSpec)

/-- ITS FALSE NEIGHBOUR: 'it returns false'. Refute it at one input. -/
def grantFreeWrong : ChangeSpec := { name := "grantFree", fn := fun _ => fun
  | [d1, d2, d3] => { results := [.lit (.bool false)], args := [d1, d2, d3] }
  | _ => none }
def GrantFreeWrongFalsely : Prop := grantFreeRow.holds Try.pinned (OpenSpec.ofChange grantFreeWrong)

/-- 'pacelinelaw19.GrantKinds': WHATEVER THE INPUT: true; the input reads as it did. -/
def grantKindsSpec : ChangeSpec := { name := "grantKinds", fn := fun _ => fun
  | [d1, d2, d3, d4, d5] => { results := [.lit (.bool true)], args := [d1, d2, d3, d4, d5] }
  | _ => none }
def grantKindsRow : OpenClaim := { program := "ytmjjejjlfkigjaa", sum := "17e2988df9cc23600934b41e6f86d76006e4689523df3d7d6b13d2c28296c586", func := "paceline/pacelinelaw19.GrantKinds", spec := "grantKinds", unfollowed := true, recurses := true, apart := false }
def GrantKindsSaid : Prop := grantKindsRow.holds Try.pinned (OpenSpec.ofChange grantKindsSpec)

/-- ITS FALSE NEIGHBOUR: 'it returns false'. Refute it at one input. -/
def grantKindsWrong : ChangeSpec := { name := "grantKinds", fn := fun _ => fun
  | [d1, d2, d3, d4, d5] => { results := [.lit (.bool false)], args := [d1, d2, d3, d4, d5] }
  | _ => none }
def GrantKindsWrongFalsely : Prop := grantKindsRow.holds Try.pinned (OpenSpec.ofChange grantKindsWrong)

/- THE SECOND FORM. 'bulk': how many values and letters a reading holds, each counted each time it is reached (what is shared counts as often as it is met; a slice's spare places count too). A statement '..UptoSaid' is the law's where the arguments, and the package variables that the reading takes, are together of bulk at most 1048576: NARROWER than '..Said'. Prove '..Said' where nothing that the law and all that it calls make is longer than what came in: it says more and counts as full. Else prove '..UptoSaid'. A law counts once. -/
mutual
def uptoBulk {H : Type} : DataW H → Nat
  | .lit (.string bytes) => bytes.length + 1
  | .lit _ => 1
  | .nil => 1
  | .ptr d => uptoBulk d + 1
  | .slice elems spare => uptoBulkAll elems + uptoBulkAll spare + 1
  | .agg parts => uptoBulkAll parts + 1
  | .iface _ d => uptoBulk d + 1
  | .map entries => uptoBulkEntries entries + 1
  | .held _ => 1
def uptoBulkAll {H : Type} : List (DataW H) → Nat
  | [] => 0
  | d :: r => uptoBulk d + uptoBulkAll r
def uptoBulkEntries {H : Type} : List (Lit × DataW H) → Nat
  | [] => 0
  | x :: r => uptoBulkEntry x + uptoBulkEntries r
def uptoBulkEntry {H : Type} : Lit × DataW H → Nat
  | (.string bytes, d) => bytes.length + uptoBulk d + 1
  | (_, d) => uptoBulk d + 1
 end
def uptoSmall : (H : Type) → List (DataW H) → Bool := fun _ ds => decide (uptoBulkAll ds ≤ 1048576)
def OpenSpec.upto (s : _root_.Go.ChangeSpec) : _root_.Go.OpenSpec := { _root_.Go.OpenSpec.ofChange s with cond := some uptoSmall }

/-- 'pacelinelaw19.GrantDecides', WHERE WHAT IT READS IS OF BULK AT MOST 1048576: true; the input reads as it did. -/
def grantDecidesUptoRow : OpenClaim := { program := "ytmjjejjlfkigjaa", sum := "17e2988df9cc23600934b41e6f86d76006e4689523df3d7d6b13d2c28296c586", func := "paceline/pacelinelaw19.GrantDecides", spec := "grantDecides", unfollowed := true, recurses := true, apart := false, narrowed := true }
def GrantDecidesUptoSaid : Prop := grantDecidesUptoRow.holds Try.pinned (OpenSpec.upto grantDecidesSpec)

/-- 'pacelinelaw19.GrantSafe', WHERE WHAT IT READS IS OF BULK AT MOST 1048576: true; the input reads as it did. -/
def grantSafeUptoRow : OpenClaim := { program := "ytmjjejjlfkigjaa", sum := "17e2988df9cc23600934b41e6f86d76006e4689523df3d7d6b13d2c28296c586", func := "paceline/pacelinelaw19.GrantSafe", spec := "grantSafe", unfollowed := true, recurses := true, apart := false, narrowed := true }
def GrantSafeUptoSaid : Prop := grantSafeUptoRow.holds Try.pinned (OpenSpec.upto grantSafeSpec)

/-- 'pacelinelaw19.GrantAll', WHERE WHAT IT READS IS OF BULK AT MOST 1048576: true; the input reads as it did. -/
def grantAllUptoRow : OpenClaim := { program := "ytmjjejjlfkigjaa", sum := "17e2988df9cc23600934b41e6f86d76006e4689523df3d7d6b13d2c28296c586", func := "paceline/pacelinelaw19.GrantAll", spec := "grantAll", unfollowed := true, recurses := true, apart := false, narrowed := true }
def GrantAllUptoSaid : Prop := grantAllUptoRow.holds Try.pinned (OpenSpec.upto grantAllSpec)

/-- 'pacelinelaw19.GrantMore', WHERE WHAT IT READS IS OF BULK AT MOST 1048576: true; the input reads as it did. -/
def grantMoreUptoRow : OpenClaim := { program := "ytmjjejjlfkigjaa", sum := "17e2988df9cc23600934b41e6f86d76006e4689523df3d7d6b13d2c28296c586", func := "paceline/pacelinelaw19.GrantMore", spec := "grantMore", unfollowed := true, recurses := true, apart := false, narrowed := true }
def GrantMoreUptoSaid : Prop := grantMoreUptoRow.holds Try.pinned (OpenSpec.upto grantMoreSpec)

/-- 'pacelinelaw19.GrantFree', WHERE WHAT IT READS IS OF BULK AT MOST 1048576: true; the input reads as it did. -/
def grantFreeUptoRow : OpenClaim := { program := "ytmjjejjlfkigjaa", sum := "17e2988df9cc23600934b41e6f86d76006e4689523df3d7d6b13d2c28296c586", func := "paceline/pacelinelaw19.GrantFree", spec := "grantFree", unfollowed := true, recurses := true, apart := false, narrowed := true }
def GrantFreeUptoSaid : Prop := grantFreeUptoRow.holds Try.pinned (OpenSpec.upto grantFreeSpec)

/-- 'pacelinelaw19.GrantKinds', WHERE WHAT IT READS IS OF BULK AT MOST 1048576: true; the input reads as it did. -/
def grantKindsUptoRow : OpenClaim := { program := "ytmjjejjlfkigjaa", sum := "17e2988df9cc23600934b41e6f86d76006e4689523df3d7d6b13d2c28296c586", func := "paceline/pacelinelaw19.GrantKinds", spec := "grantKinds", unfollowed := true, recurses := true, apart := false, narrowed := true }
def GrantKindsUptoSaid : Prop := grantKindsUptoRow.holds Try.pinned (OpenSpec.upto grantKindsSpec)

end Rows
end Go.Proofs.Ytmjjejjlfkigjaa
