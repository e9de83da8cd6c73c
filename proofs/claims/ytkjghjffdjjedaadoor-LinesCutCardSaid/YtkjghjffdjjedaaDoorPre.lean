/- strings.HasPrefix, laid at this seat. -/
import Derived.Shelf.Strings.Prefix
import Derived.Shelf.Lay
import Derived.Test.YtkjghjffdjjedaaDoorProg
set_option linter.unusedVariables false
set_option maxRecDepth 100000
namespace Go.Proofs
open Go.Shelf Go.RowKit
def Tryd.pre_ren : Go.Shelf.Ren := ⟨fun | 99 => 53 | 206 => 68 | n => n, fun  | n => n, fun n => n⟩
theorem Tryd.pre : Go.Proofs.Lays.n99 Tryd.prog Tryd.pre_ren := {
  mixed := by kernel_rfl
  f99 := Tryd.func53.trans (congrArg some (by kernel_rfl))
  f206 := Tryd.func68.trans (congrArg some (by kernel_rfl))
  t3 := Tryd.underlying3
  a3 := Tryd.isAgg3
  z3 := Tryd.sizeOf3
  v3 := Tryd.zeroValue3
  t4 := Tryd.underlying4
  a4 := Tryd.isAgg4
  z4 := Tryd.sizeOf4
  v4 := Tryd.zeroValue4
  t9 := Tryd.underlying9
  a9 := Tryd.isAgg9
  z9 := Tryd.sizeOf9
  v9 := Tryd.zeroValue9 }
theorem has_prefix (s p : ByteArray) (w : World) : Calls Tryd.prog 53 #[.string s, .string p] w fun e w' => e = .returned (.bool (Lib.hasPrefix s.data.toList p.data.toList)) ∧ w' = w := Any.strings_HasPrefix Tryd.pre s p w
end Go.Proofs
