/-
  DERIVED: THE SHELF's CONTRACTS AT THIS DUMP, IN PLAIN WORDS (tools/lay-plain.mjs out of 'YtmjjejjlfkigjaaShelf.lean', which tools/lay-shelf.mjs wrote): THE SAME DECLARATIONS UNDER THE SAME NAMES: 'import', 'namespace', 'open', 'def', 'theorem' AND NOTHING ELSE: no command of the shelf's: FOR A HAND-IN. Each laying: the table of numbers ('.._ren') and one theorem, a field a fact of the dump's own or the kernel's comparison; each contract: ONE APPLICATION.
-/
import Derived.Test.YtmjjejjlfkigjaaProg
import Derived.Shelf.SlSorted.Search
namespace Go.Proofs
open Go.Shelf
def Try.search_ren : Go.Shelf.Ren := ⟨fun | 16 => 15 | n => n, fun | 3 => 3 | 35 => 35 | 4 => 4 | 38 => 36 | n => n, fun | n => n⟩
theorem Try.search : Go.Proofs.SlLaysO.n16 Try.prog Try.search_ren := {
  mixed := by kernel_rfl
  f16 := Try.func15.trans (congrArg some (by kernel_rfl))
  t3 := Try.underlying3
  a3 := Try.isAgg3
  z3 := Try.sizeOf3
  v3 := Try.zeroValue3
  t4 := Try.underlying4
  a4 := Try.isAgg4
  z4 := Try.sizeOf4
  v4 := Try.zeroValue4
  t35 := Try.underlying35
  a35 := Try.isAgg35
  z35 := Try.sizeOf35
  v35 := Try.zeroValue35
  t38 := Try.underlying36
  a38 := Try.isAgg36
  z38 := Try.sizeOf36
  v38 := Try.zeroValue36 }
end Go.Proofs
