/- errors.As at an error of lines: the entries of reflectlite that it reaches, as run equations. -/
import Derived.Test.YtkjghjffdjjedaaDoorChecked
import Derived.WalkKit
import Derived.LaidEql
import Derived.Stop.Asserts
import Derived.RowKitTokens
import Derived.Lib.Hide
import Derived.Outline
import Derived.Lib.ReflectliteSlice
set_option linter.unusedVariables false
set_option linter.unusedSimpArgs false
namespace Go.Proofs.YtkjghjffdjjedaaDoor.As
open Go Go.RowKit Go.Extern Go.Extern.Stop Go.Stop Go.Extern.Rtype Go.Lib
set_option maxRecDepth 100000
abbrev hd (t : TypeId) : Value := .pointer (some ⟨9, t, none⟩)
theorem typeOf50 (v : Value) (w : World) : (ReflectliteType.typeOf #[.iface 50 v]).run Tryd.prog w = .ok (.iface 93 (.agg #[hd 50])) w := by kernel_rfl
theorem typeOf22 (v : Value) (w : World) : (ReflectliteType.typeOf #[.iface 22 v]).run Tryd.prog w = .ok (.iface 93 (.agg #[hd 22])) w := by kernel_rfl
theorem valueOf52 (q : Addr) (w : World) : (ReflectliteValue.unpack (.iface 52 (.pointer (some q)))).run Tryd.prog w = .ok (.agg #[hd 52, .pointer (some ⟨w.heap.size, 0, none⟩), .int .u64 150]) (w.alloc (.cells #[.pointer (some q)] 52)) := by kernel_rfl
theorem valueOf50 (q : Addr) (w : World) : (ReflectliteValue.unpack (.iface 50 (.pointer (some q)))).run Tryd.prog w = .ok (.agg #[hd 50, .pointer (some ⟨w.heap.size, 0, none⟩), .int .u64 150]) (w.alloc (.cells #[.pointer (some q)] 50)) := by kernel_rfl
theorem typeV52 (a : Addr) (w : World) : (ReflectliteValue.methodAny (ReflectliteValue.valueError "reflectlite.Value.Type" 0) (fun t _ _ _ => ReflectliteType.toType t) #[.agg #[hd 52, .pointer (some a), .int .u64 150]]).run Tryd.prog w = .ok (.iface 93 (.agg #[hd 52])) w := by kernel_rfl
theorem mKind (t : TypeId) (w : World) : (Go.method 273 93 (.agg #[hd t]) "Kind").run Tryd.prog w = .ok (102, hd t) w := by kernel_rfl
theorem mElem (v : Value) (w : World) : (Go.method 273 93 v "Elem").run Tryd.prog w = .ok (118, v) w := by kernel_rfl
theorem mAssign (v : Value) (w : World) : (Go.method 273 93 v "AssignableTo").run Tryd.prog w = .ok (116, v) w := by kernel_rfl
theorem mImpl (v : Value) (w : World) : (Go.method 273 93 v "Implements").run Tryd.prog w = .ok (119, v) w := by kernel_rfl
theorem kind52 (w : World) : (ReflectliteType.abiMethod (fun t => (fun a : Nat => Value.int .u8 (a : Int)) <$> kind t) #[hd 52]).run Tryd.prog w = .ok (.int .u8 22) w := by kernel_rfl
theorem kind50 (w : World) : (ReflectliteType.abiMethod (fun t => (fun a : Nat => Value.int .u8 (a : Int)) <$> kind t) #[hd 50]).run Tryd.prog w = .ok (.int .u8 22) w := by kernel_rfl
theorem elem52 (w : World) : (ReflectliteType.method ReflectliteType.elem #[.agg #[hd 52]]).run Tryd.prog w = .ok (.iface 93 (.agg #[hd 50])) w := by kernel_rfl
theorem assign50 (w : World) : (ReflectliteType.relation "AssignableTo" ReflectliteType.assignableTo #[.agg #[hd 50], .iface 93 (.agg #[hd 50])]).run Tryd.prog w = .ok (.bool true) w := by kernel_rfl
theorem impl50 (w : World) : (ReflectliteType.relation "Implements" ReflectliteType.implements_ #[.agg #[hd 50], .iface 93 (.agg #[hd 38])]).run Tryd.prog w = .ok (.bool true) w := by kernel_rfl
theorem parts52 (a : Addr) (w : World) : (ReflectliteValue.parts (.agg #[hd 52, .pointer (some a), .int .u64 150])).run Tryd.prog w = .ok (some (52, a, 150)) w := by kernel_rfl
theorem parts50 (a : Addr) (w : World) : (ReflectliteValue.parts (.agg #[hd 50, .pointer (some a), .int .u64 150])).run Tryd.prog w = .ok (some (50, a, 150)) w := by kernel_rfl
theorem parts50a (a : Addr) (w : World) : (ReflectliteValue.parts (.agg #[hd 50, .pointer (some a), .int .u64 406])).run Tryd.prog w = .ok (some (50, a, 406)) w := by kernel_rfl
theorem isNil52 (a q : Addr) (w : World) (h : w.cell? a = some (.pointer (some q))) : (ReflectliteValue.method (ReflectliteValue.valueError "reflectlite.Value.IsNil" 0) ReflectliteValue.isNil #[.agg #[hd 52, .pointer (some a), .int .u64 150]]).run Tryd.prog w = .ok (.bool false) w := by
  have hu := Tryd.underlying52
  rw [rl_method]
  simp only [Sem.run_bind, parts52 a w, Result.andThen]
  simp [ReflectliteValue.isNil, loadVar, isAgg, underlying, hu, h, Result.andThen]
theorem mk50 (q : Addr) (w : World) : (ReflectliteValue.mk 50 q ReflectliteValue.flagAddr).run Tryd.prog w = .ok (.agg #[hd 50, .pointer (some q), .int .u64 406]) w := by kernel_rfl
theorem elemT52 (w : World) : (elem? 52).run Tryd.prog w = .ok (some 50) w := by kernel_rfl
theorem elemV52 (a q : Addr) (w : World) (h : w.cell? a = some (.pointer (some q))) : (ReflectliteValue.method (ReflectliteValue.valueError "reflectlite.Value.Elem" 0) ReflectliteValue.elem #[.agg #[hd 52, .pointer (some a), .int .u64 150]]).run Tryd.prog w = .ok (.agg #[hd 50, .pointer (some q), .int .u64 406]) w := by
  have hu := Tryd.underlying52
  have hl : (loadVar 52 a).run Tryd.prog w = .ok (.pointer (some q)) w := by simp [loadVar, isAgg, underlying, hu, h, Result.andThen]
  rw [rl_method]
  simp only [Sem.run_bind, parts52 a w, Result.andThen]
  unfold ReflectliteValue.elem
  simp only [Sem.run_bind, hl, elemT52, Result.andThen, mk50]
  simp [hl, elemT52, mk50, Result.andThen]
theorem dir50 (w : World) : (directlyAssignable 50 50).run Tryd.prog w = .ok true w := by kernel_rfl
theorem rl_set (v x : Value) : ReflectliteValue.set #[v, x] = (do
    let (some (dst, a, fl), some (src, b, _)) := (← ReflectliteValue.parts v, ← ReflectliteValue.parts x)
      | unsupported (.noEntry "extern/(internal/reflectlite.Value).Set.zeroValue")
    if fl / ReflectliteValue.flagAddr % 2 == 0 then unsupported (.noEntry "extern/(internal/reflectlite.Value).Set.unaddressable")
    let val ← loadVar src b
    if ← directlyAssignable dst src then storeVar dst a val
    else if ← implements dst src then
      if (← kind src) == 20 then
        match val with
        | .nilIface => unsupported (.noEntry "extern/reflectlite: a nil value of one interface type handed on as a value of another")
        | _ => storeVar dst a val
      else storeVar dst a (.iface src val)
    else panicString ("reflectlite.Set: value of type " ++ (← spelt src) ++ " is not assignable to type " ++ (← spelt dst))
    pure (.tuple #[])) := rfl
theorem set50 (qb : Nat) (b : Addr) (v : Option Addr) (u : Value) (w : World) (h : w.cell? b = some (.pointer v)) (hq : w.cell? ⟨qb, 0, none⟩ = some u) (hf : w.frozen? ⟨qb, 0, none⟩ = false) : (ReflectliteValue.set #[.agg #[hd 50, .pointer (some ⟨qb, 0, none⟩), .int .u64 406], .agg #[hd 50, .pointer (some b), .int .u64 150]]).run Tryd.prog w = .ok (.tuple #[]) (w.setCell ⟨qb, 0, none⟩ (.pointer v)) := by
  have hu := Tryd.underlying50
  have hl : (loadVar 50 b).run Tryd.prog w = .ok (.pointer v) w := by simp [loadVar, isAgg, underlying, hu, h, Result.andThen]
  have hs : (storeVar 50 ⟨qb, 0, none⟩ (.pointer v)).run Tryd.prog w = .ok () (w.setCell ⟨qb, 0, none⟩ (.pointer v)) := by
    have := Tryd.sizeOf50
    have h0 : ∀ j, j < [Value.pointer v].length → j = 0 := fun j hj => by simp only [List.length_singleton] at hj; omega
    have hc := run_storeCells_cells (P := Tryd.prog) qb 0 [.pointer v] 0 w (fun c hc => by rw [h0 c hc, hq]; rfl) (fun c hc => by rw [h0 c hc]; exact hf) (fun x hx => by rw [List.mem_singleton.1 hx]; rfl)
    simp [storeVar, this, Value.cells, Result.andThen]
    simpa [World.setCells] using hc
  rw [rl_set]
  simp [parts50, parts50a, hl, dir50, hs, Result.andThen, ReflectliteValue.flagAddr]
set_option maxHeartbeats 2000000 in
/-- errors.as, at a trouble: the pointer is laid where the target leads. -/
theorem as39 (tr : Addr) (qb a0 : Nat) (u tg : Value) (w : World) (ha : w.cell? ⟨a0, 0, none⟩ = some (.pointer (some ⟨qb, 0, none⟩))) (hq : w.cell? ⟨qb, 0, none⟩ = some u) (hf : w.frozen? ⟨qb, 0, none⟩ = false) :
    Calls Tryd.prog 39 #[.iface 50 (.pointer (some tr)), tg, .agg #[hd 52, .pointer (some ⟨a0, 0, none⟩), .int .u64 150], .iface 93 (.agg #[hd 50])] w fun x w' => x = .returned (.bool true) ∧ Below w.heap.size (w.setCell ⟨qb, 0, none⟩ (.pointer (some tr))) w' := by
  have hu69 := Tryd.underlying69
  have hla : a0 < w.heap.size := World.block_lt_of_cell? w _ ha
  have hlq : qb < w.heap.size := World.block_lt_of_cell? w _ hq
  have h40 := @run_callFunc_extern Tryd.prog 40 _ ReflectliteType.typeOf Tryd.func40 (by kernel_rfl) (by kernel_rfl) (by kernel_rfl) (by kernel_rfl)
  have h116 := @run_callFunc_extern Tryd.prog 116 _ (ReflectliteType.relation "AssignableTo" ReflectliteType.assignableTo) Tryd.func116 (by kernel_rfl) (by kernel_rfl) (by kernel_rfl) (by kernel_rfl)
  have h54 := @run_callFunc_extern Tryd.prog 54 _ (ReflectliteValue.method (ReflectliteValue.valueError "reflectlite.Value.Elem" 0) ReflectliteValue.elem) Tryd.func54 (by kernel_rfl) (by kernel_rfl) (by kernel_rfl) (by kernel_rfl)
  have h36 := @run_callFunc_extern Tryd.prog 36 _ (fun args => ReflectliteValue.unpack (args.getD 0 (.tuple #[]))) Tryd.func36 (by kernel_rfl) (by kernel_rfl) (by kernel_rfl) (by kernel_rfl)
  have h55 := @run_callFunc_extern Tryd.prog 55 _ ReflectliteValue.set Tryd.func55 (by kernel_rfl) (by kernel_rfl) (by kernel_rfl) (by kernel_rfl)
  have e1 := typeOf50
  have e2 := mAssign
  have e3 := assign50
  have e4 := elemV52 ⟨a0, 0, none⟩ ⟨qb, 0, none⟩ (w.alloc (.cells #[.pointer (some ⟨9, 52, none⟩), .pointer (some ⟨a0, 0, none⟩), .int .u64 150] 69)) (by rw [World.cell?_alloc_lt _ _ _ hla]; exact ha)
  have e5 := valueOf50 tr
  have e6 := set50 qb ⟨w.heap.size + 1, 0, none⟩ (some tr) u ((w.alloc (.cells #[.pointer (some ⟨9, 52, none⟩), .pointer (some ⟨a0, 0, none⟩), .int .u64 150] 69)).alloc (.cells #[.pointer (some tr)] 50)) (by simp) (by rw [World.cell?_alloc_lt _ _ _ (by simp; omega), World.cell?_alloc_lt _ _ _ hlq]; exact hq) (by rw [World.frozen?_alloc_past _ _ _ (by simp; omega), World.frozen?_alloc_past _ _ _ hlq]; exact hf)
  go_enter Tryd.func39, Tryd.ntmps39
  go_wp2_with fail
  refine wp_loop_rounds 1 ?_
  rw [rounds_succ]
  go_wp2
  go_ret
  exact ⟨rfl, ((Below.refl _ _).alloc (by simp [World.setCell]) _).alloc (by simp [World.setCell]) _⟩
/-- errors.As(a trouble, &a pointer to one): the pointer is laid there. -/
theorem as_trouble (tr : Addr) (qb : Nat) (u : Value) (w : World) (hg : w.cell? ⟨0, 0, none⟩ = some (.iface 93 (.agg #[hd 38]))) (hq : w.cell? ⟨qb, 0, none⟩ = some u) (hf : w.frozen? ⟨qb, 0, none⟩ = false) :
    Calls Tryd.prog 26 #[.iface 50 (.pointer (some tr)), .iface 52 (.pointer (some ⟨qb, 0, none⟩))] w fun x w' => x = .returned (.bool true) ∧ Below w.heap.size (w.setCell ⟨qb, 0, none⟩ (.pointer (some tr))) w' := by
  have h36 := @run_callFunc_extern Tryd.prog 36 _ (fun args => ReflectliteValue.unpack (args.getD 0 (.tuple #[]))) Tryd.func36 (by kernel_rfl) (by kernel_rfl) (by kernel_rfl) (by kernel_rfl)
  have h37 := @run_callFunc_extern Tryd.prog 37 _ (ReflectliteValue.methodAny (ReflectliteValue.valueError "reflectlite.Value.Type" 0) fun t _ _ _ => ReflectliteType.toType t) Tryd.func37 (by kernel_rfl) (by kernel_rfl) (by kernel_rfl) (by kernel_rfl)
  have h38 := @run_callFunc_extern Tryd.prog 38 _ (ReflectliteValue.method (ReflectliteValue.valueError "reflectlite.Value.IsNil" 0) ReflectliteValue.isNil) Tryd.func38 (by kernel_rfl) (by kernel_rfl) (by kernel_rfl) (by kernel_rfl)
  have h102 := @run_callFunc_extern Tryd.prog 102 _ (ReflectliteType.abiMethod fun t => do pure (.int .u8 (← kind t))) Tryd.func102 (by kernel_rfl) (by kernel_rfl) (by kernel_rfl) (by kernel_rfl)
  have h118 := @run_callFunc_extern Tryd.prog 118 _ (ReflectliteType.method ReflectliteType.elem) Tryd.func118 (by kernel_rfl) (by kernel_rfl) (by kernel_rfl) (by kernel_rfl)
  have h119 := @run_callFunc_extern Tryd.prog 119 _ (ReflectliteType.relation "Implements" ReflectliteType.implements_) Tryd.func119 (by kernel_rfl) (by kernel_rfl) (by kernel_rfl) (by kernel_rfl)
  have e1 := valueOf52
  have e2 := typeV52
  have e3 := mKind
  have e4 := kind52
  have e5 := kind50
  have e6 := mElem
  have e7 := elem52
  have e8 := mImpl
  have e9 := impl50
  have e10 := isNil52 ⟨w.heap.size, 0, none⟩ ⟨qb, 0, none⟩ ((w.alloc (.cells #[.pointer (some ⟨qb, 0, none⟩)] 52)).alloc (.cells #[.pointer (some ⟨9, 52, none⟩), .pointer (some ⟨w.heap.size, 0, none⟩), .int .u64 150] 69)) (by simp)
  have hlg := World.block_lt_of_cell? w _ hg
  have hg2 : ((w.alloc (.cells #[.pointer (some ⟨qb, 0, none⟩)] 52)).alloc (.cells #[.pointer (some ⟨9, 52, none⟩), .pointer (some ⟨w.heap.size, 0, none⟩), .int .u64 150] 69)).cell? ⟨0, 0, none⟩ = some (.iface 93 (.agg #[hd 38])) := by
    rw [World.cell?_alloc_lt _ _ _ (by simp), World.cell?_alloc_lt _ _ _ hlg]; exact hg
  go_enter Tryd.func26, Tryd.ntmps26
  have hlq : qb < w.heap.size := World.block_lt_of_cell? w _ hq
  have HA := Lib.hid (as39 tr qb w.heap.size u (.iface 52 (.pointer (some ⟨qb, 0, none⟩))) ((w.alloc (.cells #[.pointer (some ⟨qb, 0, none⟩)] 52)).alloc (.cells #[.pointer (some ⟨9, 52, none⟩), .pointer (some ⟨w.heap.size, 0, none⟩), .int .u64 150] 69)) (by simp) (by rw [World.cell?_alloc_lt _ _ _ (by simp; omega), World.cell?_alloc_lt _ _ _ hlq]; exact hq) (by rw [World.frozen?_alloc_past _ _ _ (by simp; omega), World.frozen?_alloc_past _ _ _ hlq]; exact hf))
  go_wp2_with fail
  refine HA.out.mono ?_
  rintro x w' ⟨rfl, hb⟩
  rw [World.setCell_alloc_past _ _ _ _ (by simp; omega), World.setCell_alloc_past _ _ _ _ hlq] at hb
  go_wp2_with fail
  go_ret
  exact ⟨rfl, (((Below.refl w.heap.size (w.setCell ⟨qb, 0, none⟩ (.pointer (some tr)))).alloc (by simp [World.setCell]) _).alloc (by simp [World.setCell]) _).trans (hb.mono (by simp; omega))⟩
end Go.Proofs.YtkjghjffdjjedaaDoor.As
