/- errors.Is at an error of lines. -/
import Derived.Test.YtkjghjffdjjedaaDoorAs
set_option linter.unusedVariables false
set_option linter.unusedSimpArgs false
namespace Go.Proofs.YtkjghjffdjjedaaDoor.As
open Go Go.RowKit Go.Extern Go.Extern.Stop Go.Stop Go.Extern.Rtype Go.Lib
set_option maxRecDepth 100000
theorem mComp (v : Value) (w : World) : (Go.method 273 93 v "Comparable").run Tryd.prog w = .ok (117, v) w := by kernel_rfl
theorem comp22 (w : World) : (ReflectliteType.method (fun t => do noPackHeld "Comparable" t; (fun a => Value.bool a.comparable) <$> typeInfo t) #[.agg #[hd 22]]).run Tryd.prog w = .ok (.bool true) w := by kernel_rfl
theorem noIs (v : Value) (xT : TypeId) (w : World) : (Instr.typeAssert (.iface 50 v) xT 105 true).run Tryd.prog w = .ok (.tuple #[.nilIface, .bool false]) w := run_typeAssert_lacksB Tryd.underlying105 (by kernel_rfl) (by kernel_rfl) v xT w
theorem hasUnwrap (v : Value) (xT : TypeId) (w : World) : (Instr.typeAssert (.iface 50 v) xT 100 true).run Tryd.prog w = .ok (.tuple #[.iface 50 v, .bool true]) w := run_typeAssert_hasB Tryd.underlying100 (by kernel_rfl) v xT w
theorem mUnwrap (v : Value) (w : World) : (Go.method 273 50 v "Unwrap").run Tryd.prog w = .ok (108, v) w := by kernel_rfl
theorem eql22 (w : World) : (binOp .eql 38 (.iface 22 (.int .i64 20)) (.iface 22 (.int .i64 20))).run Tryd.prog w = .ok (.bool true) w := by kernel_rfl
set_option maxHeartbeats 2000000 in
theorem unwrap_trouble (tb : Nat) (v : Value) (w : World) (h1 : w.cell? ⟨tb, 1, none⟩ = some v) :
    Calls Tryd.prog 108 #[.pointer (some ⟨tb, 0, none⟩)] w fun x w' => x = .returned v ∧ w' = w := by
  go_enter Tryd.func108, Tryd.ntmps108
  go_wp2
  go_ret
  exact ⟨rfl, rfl⟩
set_option maxHeartbeats 2000000 in
theorem is_trouble (tb : Nat) (w : World) (h1 : w.cell? ⟨tb, 1, none⟩ = some (.iface 22 (.int .i64 20))) :
    Calls Tryd.prog 27 #[.iface 50 (.pointer (some ⟨tb, 0, none⟩)), .iface 22 (.int .i64 20)] w fun x w' => x = .returned (.bool true) ∧ w' = w := by
  have hu55 := Tryd.underlying55
  have h40 := @run_callFunc_extern Tryd.prog 40 _ ReflectliteType.typeOf Tryd.func40 (by kernel_rfl) (by kernel_rfl) (by kernel_rfl) (by kernel_rfl)
  have h117 := @run_callFunc_extern Tryd.prog 117 _ (ReflectliteType.method fun t => do noPackHeld "Comparable" t; pure (.bool (← typeInfo t).comparable)) Tryd.func117 (by kernel_rfl) (by kernel_rfl) (by kernel_rfl) (by kernel_rfl)
  have e1 := typeOf22
  have e2 := mComp
  have e3 := comp22
  have e4 := noIs
  have e5 := hasUnwrap
  have e6 := mUnwrap
  have e8 := eql22
  have e7 := run_eql_iface_types (P := Tryd.prog) 50 22 (.pointer (some ⟨tb, 0, none⟩)) (.int .i64 20) Tryd.underlying38 (by decide) w
  go_enter Tryd.func27, Tryd.ntmps27
  go_wp2
  refine wp_loop_rounds 2 ?_
  rw [rounds_succ]
  go_wp2
  rw [rounds_succ]
  go_wp2
  go_ret
  exact ⟨rfl, rfl⟩
end Go.Proofs.YtkjghjffdjjedaaDoor.As
