/- strings.CutSuffix, laid at this seat. -/
import Derived.Shelf.Small.Wraps
import Derived.Shelf.Lay
import Derived.Test.YtkjghjffdjjedaaDoorProg
set_option linter.unusedVariables false
set_option maxRecDepth 100000
namespace Go.Proofs
open Go.Shelf Go.RowKit
def Tryd.cut_ren : Go.Shelf.Ren := ⟨fun | 104 => 33 | 211 => 51 | 207 => 64 | n => n, fun | 24 => 61 | n => n, fun n => n⟩
theorem Tryd.cut : Go.Proofs.Lays.n104 Tryd.prog Tryd.cut_ren := {
  mixed := by kernel_rfl
  f104 := Tryd.func33.trans (congrArg some (by kernel_rfl))
  f207 := Tryd.func64.trans (congrArg some (by kernel_rfl))
  f211 := Tryd.func51.trans (congrArg some (by kernel_rfl))
  t3 := Tryd.underlying3
  a3 := Tryd.isAgg3
  z3 := Tryd.sizeOf3
  v3 := Tryd.zeroValue3
  t4 := Tryd.underlying4
  a4 := Tryd.isAgg4
  z4 := Tryd.sizeOf4
  v4 := Tryd.zeroValue4
  t9 := Tryd.underlying9
  a9 := Tryd.isAgg9
  z9 := Tryd.sizeOf9
  v9 := Tryd.zeroValue9
  t24 := Tryd.underlying61
  a24 := Tryd.isAgg61
  z24 := Tryd.sizeOf61
  v24 := Tryd.zeroValue61 }
/-- without its line feed at the end, and whether it had one -/
def cutLf (s : ByteArray) : ByteArray := ⟨(Lib.trimSuffix s.data.toList [10]).toArray⟩
theorem cut_lf (s : ByteArray) (w : World) (hs : s.size ≤ 9223372036854775807) : Calls Tryd.prog 33 #[.string s, .string ⟨#[10]⟩] w fun e w' => e = .returned (.tuple #[.string (cutLf s), .bool (Lib.hasSuffix s.data.toList [10])]) ∧ w' = w := Any.strings_CutSuffix Tryd.cut s ⟨#[10]⟩ w hs
end Go.Proofs
