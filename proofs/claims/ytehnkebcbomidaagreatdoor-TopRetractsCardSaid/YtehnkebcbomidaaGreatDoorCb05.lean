/- Part of a proof over the given program: Ea, Ei, Pa. -/
import Derived.Test.YtehnkebcbomidaaGreatDoorProg
import Derived.WalkKit
import Derived.LaidEql
import Derived.Stop.Asserts
import Derived.RowKitTokens
import Derived.Lib.Hide
import Derived.Outline
import Derived.Lib.ReflectliteSlice
set_option linter.unusedVariables false
set_option linter.unusedSimpArgs false
section
namespace Go.Proofs.YtehnkebcbomidaaGreatDoor.As
open Go Go.RowKit Go.Extern Go.Extern.Stop Go.Stop Go.Extern.Rtype Go.Lib
set_option maxRecDepth 100000
abbrev hd (t : TypeId) : Value := .pointer (some ⟨9, t, none⟩)
theorem typeOf50 (v : Value) (w : World) : (ReflectliteType.typeOf #[.iface 180 v]).run Tryz.prog w = .ok (.iface 291 (.agg #[hd 180])) w := by kernel_rfl
theorem typeOf22 (v : Value) (w : World) : (ReflectliteType.typeOf #[.iface 25 v]).run Tryz.prog w = .ok (.iface 291 (.agg #[hd 25])) w := by kernel_rfl
theorem valueOf52 (q : Addr) (w : World) : (ReflectliteValue.unpack (.iface 184 (.pointer (some q)))).run Tryz.prog w = .ok (.agg #[hd 184, .pointer (some ⟨w.heap.size, 0, none⟩), .int .u64 150]) (w.alloc (.cells #[.pointer (some q)] 184)) := by kernel_rfl
theorem valueOf50 (q : Addr) (w : World) : (ReflectliteValue.unpack (.iface 180 (.pointer (some q)))).run Tryz.prog w = .ok (.agg #[hd 180, .pointer (some ⟨w.heap.size, 0, none⟩), .int .u64 150]) (w.alloc (.cells #[.pointer (some q)] 180)) := by kernel_rfl
theorem typeV52 (a : Addr) (w : World) : (ReflectliteValue.methodAny (ReflectliteValue.valueError "reflectlite.Value.Type" 0) (fun t _ _ _ => ReflectliteType.toType t) #[.agg #[hd 184, .pointer (some a), .int .u64 150]]).run Tryz.prog w = .ok (.iface 291 (.agg #[hd 184])) w := by kernel_rfl
theorem mKind (t : TypeId) (w : World) : (Go.method 491 291 (.agg #[hd t]) "Kind").run Tryz.prog w = .ok (318, hd t) w := by kernel_rfl
theorem mElem (v : Value) (w : World) : (Go.method 491 291 v "Elem").run Tryz.prog w = .ok (342, v) w := by kernel_rfl
theorem mAssign (v : Value) (w : World) : (Go.method 491 291 v "AssignableTo").run Tryz.prog w = .ok (340, v) w := by kernel_rfl
theorem mImpl (v : Value) (w : World) : (Go.method 491 291 v "Implements").run Tryz.prog w = .ok (343, v) w := by kernel_rfl
theorem kind52 (w : World) : (ReflectliteType.abiMethod (fun t => (fun a : Nat => Value.int .u8 (a : Int)) <$> kind t) #[hd 184]).run Tryz.prog w = .ok (.int .u8 22) w := by kernel_rfl
theorem kind50 (w : World) : (ReflectliteType.abiMethod (fun t => (fun a : Nat => Value.int .u8 (a : Int)) <$> kind t) #[hd 180]).run Tryz.prog w = .ok (.int .u8 22) w := by kernel_rfl
theorem elem52 (w : World) : (ReflectliteType.method ReflectliteType.elem #[.agg #[hd 184]]).run Tryz.prog w = .ok (.iface 291 (.agg #[hd 180])) w := by kernel_rfl
theorem assign50 (w : World) : (ReflectliteType.relation "AssignableTo" ReflectliteType.assignableTo #[.agg #[hd 180], .iface 291 (.agg #[hd 180])]).run Tryz.prog w = .ok (.bool true) w := by kernel_rfl
theorem impl50 (w : World) : (ReflectliteType.relation "Implements" ReflectliteType.implements_ #[.agg #[hd 180], .iface 291 (.agg #[hd 104])]).run Tryz.prog w = .ok (.bool true) w := by kernel_rfl
theorem parts52 (a : Addr) (w : World) : (ReflectliteValue.parts (.agg #[hd 184, .pointer (some a), .int .u64 150])).run Tryz.prog w = .ok (some (184, a, 150)) w := by kernel_rfl
theorem parts50 (a : Addr) (w : World) : (ReflectliteValue.parts (.agg #[hd 180, .pointer (some a), .int .u64 150])).run Tryz.prog w = .ok (some (180, a, 150)) w := by kernel_rfl
theorem parts50a (a : Addr) (w : World) : (ReflectliteValue.parts (.agg #[hd 180, .pointer (some a), .int .u64 406])).run Tryz.prog w = .ok (some (180, a, 406)) w := by kernel_rfl
theorem isNil52 (a q : Addr) (w : World) (h : w.cell? a = some (.pointer (some q))) : (ReflectliteValue.method (ReflectliteValue.valueError "reflectlite.Value.IsNil" 0) ReflectliteValue.isNil #[.agg #[hd 184, .pointer (some a), .int .u64 150]]).run Tryz.prog w = .ok (.bool false) w := by
  have hu := Tryz.underlying184
  rw [rl_method]
  simp only [Sem.run_bind, parts52 a w, Result.andThen]
  simp [ReflectliteValue.isNil, loadVar, isAgg, underlying, hu, h, Result.andThen]
theorem mk50 (q : Addr) (w : World) : (ReflectliteValue.mk 180 q ReflectliteValue.flagAddr).run Tryz.prog w = .ok (.agg #[hd 180, .pointer (some q), .int .u64 406]) w := by kernel_rfl
theorem elemT52 (w : World) : (elem? 184).run Tryz.prog w = .ok (some 180) w := by kernel_rfl
theorem elemV52 (a q : Addr) (w : World) (h : w.cell? a = some (.pointer (some q))) : (ReflectliteValue.method (ReflectliteValue.valueError "reflectlite.Value.Elem" 0) ReflectliteValue.elem #[.agg #[hd 184, .pointer (some a), .int .u64 150]]).run Tryz.prog w = .ok (.agg #[hd 180, .pointer (some q), .int .u64 406]) w := by
  have hu := Tryz.underlying184
  have hl : (loadVar 184 a).run Tryz.prog w = .ok (.pointer (some q)) w := by simp [loadVar, isAgg, underlying, hu, h, Result.andThen]
  rw [rl_method]
  simp only [Sem.run_bind, parts52 a w, Result.andThen]
  unfold ReflectliteValue.elem
  simp only [Sem.run_bind, hl, elemT52, Result.andThen, mk50]
  simp [hl, elemT52, mk50, Result.andThen]
theorem dir50 (w : World) : (directlyAssignable 180 180).run Tryz.prog w = .ok true w := by kernel_rfl
theorem rl_set (v x : Value) : ReflectliteValue.set #[v, x] = (do
    let (some (dst, a, fl), some (src, b, _)) := (← ReflectliteValue.parts v, ← ReflectliteValue.parts x)
      | unsupported (.noEntry "extern/(internal/reflectlite.Value).Set.zeroValue")
    if fl / ReflectliteValue.flagAddr % 2 == 0 then unsupported (.noEntry "extern/(internal/reflectlite.Value).Set.unaddressable")
    let val ← loadVar src b
    if ← directlyAssignable dst src then storeVar dst a val
    else if ← implements dst src then
      if (← kind src) == 20 then
        match val with
        | .nilIface => unsupported (.noEntry "extern/reflectlite: a nil value of one interface type handed on as a value of another")
        | _ => storeVar dst a val
      else storeVar dst a (.iface src val)
    else panicString ("reflectlite.Set: value of type " ++ (← spelt src) ++ " is not assignable to type " ++ (← spelt dst))
    pure (.tuple #[])) := rfl
theorem set50 (qb : Nat) (b : Addr) (v : Option Addr) (u : Value) (w : World) (h : w.cell? b = some (.pointer v)) (hq : w.cell? ⟨qb, 0, none⟩ = some u) (hf : w.frozen? ⟨qb, 0, none⟩ = false) : (ReflectliteValue.set #[.agg #[hd 180, .pointer (some ⟨qb, 0, none⟩), .int .u64 406], .agg #[hd 180, .pointer (some b), .int .u64 150]]).run Tryz.prog w = .ok (.tuple #[]) (w.setCell ⟨qb, 0, none⟩ (.pointer v)) := by
  have hu := Tryz.underlying180
  have hl : (loadVar 180 b).run Tryz.prog w = .ok (.pointer v) w := by simp [loadVar, isAgg, underlying, hu, h, Result.andThen]
  have hs : (storeVar 180 ⟨qb, 0, none⟩ (.pointer v)).run Tryz.prog w = .ok () (w.setCell ⟨qb, 0, none⟩ (.pointer v)) := by
    have := Tryz.sizeOf180
    have h0 : ∀ j, j < [Value.pointer v].length → j = 0 := fun j hj => by simp only [List.length_singleton] at hj; omega
    have hc := run_storeCells_cells (P := Tryz.prog) qb 0 [.pointer v] 0 w (fun c hc => by rw [h0 c hc, hq]; rfl) (fun c hc => by rw [h0 c hc]; exact hf) (fun x hx => by rw [List.mem_singleton.1 hx]; rfl)
    simp [storeVar, this, Value.cells, Result.andThen]
    simpa [World.setCells] using hc
  rw [rl_set]
  simp [parts50, parts50a, hl, dir50, hs, Result.andThen, ReflectliteValue.flagAddr]
set_option maxHeartbeats 2000000 in
theorem as39 (tr : Addr) (qb a0 : Nat) (u tg : Value) (w : World) (ha : w.cell? ⟨a0, 0, none⟩ = some (.pointer (some ⟨qb, 0, none⟩))) (hq : w.cell? ⟨qb, 0, none⟩ = some u) (hf : w.frozen? ⟨qb, 0, none⟩ = false) :
    Calls Tryz.prog 201 #[.iface 180 (.pointer (some tr)), tg, .agg #[hd 184, .pointer (some ⟨a0, 0, none⟩), .int .u64 150], .iface 291 (.agg #[hd 180])] w fun x w' => x = .returned (.bool true) ∧ Below w.heap.size (w.setCell ⟨qb, 0, none⟩ (.pointer (some tr))) w' := by
  have hu252 := Tryz.underlying252
  have hla : a0 < w.heap.size := World.block_lt_of_cell? w _ ha
  have hlq : qb < w.heap.size := World.block_lt_of_cell? w _ hq
  have h202 := @run_callFunc_extern Tryz.prog 202 _ ReflectliteType.typeOf Tryz.func202 (by kernel_rfl) (by kernel_rfl) (by kernel_rfl) (by kernel_rfl)
  have h340 := @run_callFunc_extern Tryz.prog 340 _ (ReflectliteType.relation "AssignableTo" ReflectliteType.assignableTo) Tryz.func340 (by kernel_rfl) (by kernel_rfl) (by kernel_rfl) (by kernel_rfl)
  have h238 := @run_callFunc_extern Tryz.prog 238 _ (ReflectliteValue.method (ReflectliteValue.valueError "reflectlite.Value.Elem" 0) ReflectliteValue.elem) Tryz.func238 (by kernel_rfl) (by kernel_rfl) (by kernel_rfl) (by kernel_rfl)
  have h198 := @run_callFunc_extern Tryz.prog 198 _ (fun args => ReflectliteValue.unpack (args.getD 0 (.tuple #[]))) Tryz.func198 (by kernel_rfl) (by kernel_rfl) (by kernel_rfl) (by kernel_rfl)
  have h239 := @run_callFunc_extern Tryz.prog 239 _ ReflectliteValue.set Tryz.func239 (by kernel_rfl) (by kernel_rfl) (by kernel_rfl) (by kernel_rfl)
  have e1 := typeOf50
  have e2 := mAssign
  have e3 := assign50
  have e4 := elemV52 ⟨a0, 0, none⟩ ⟨qb, 0, none⟩ (w.alloc (.cells #[.pointer (some ⟨9, 184, none⟩), .pointer (some ⟨a0, 0, none⟩), .int .u64 150] 252)) (by rw [World.cell?_alloc_lt _ _ _ hla]; exact ha)
  have e5 := valueOf50 tr
  have e6 := set50 qb ⟨w.heap.size + 1, 0, none⟩ (some tr) u ((w.alloc (.cells #[.pointer (some ⟨9, 184, none⟩), .pointer (some ⟨a0, 0, none⟩), .int .u64 150] 252)).alloc (.cells #[.pointer (some tr)] 180)) (by simp) (by rw [World.cell?_alloc_lt _ _ _ (by simp; omega), World.cell?_alloc_lt _ _ _ hlq]; exact hq) (by rw [World.frozen?_alloc_past _ _ _ (by simp; omega), World.frozen?_alloc_past _ _ _ hlq]; exact hf)
  go_enter Tryz.func201, Tryz.ntmps201
  go_wp2_with fail
  refine wp_loop_rounds 1 ?_
  rw [rounds_succ]
  go_wp2
  go_ret
  exact ⟨rfl, ((Below.refl _ _).alloc (by simp [World.setCell]) _).alloc (by simp [World.setCell]) _⟩
theorem as_trouble (tr : Addr) (qb : Nat) (u : Value) (w : World) (hg : w.cell? ⟨0, 0, none⟩ = some (.iface 291 (.agg #[hd 104]))) (hq : w.cell? ⟨qb, 0, none⟩ = some u) (hf : w.frozen? ⟨qb, 0, none⟩ = false) :
    Calls Tryz.prog 132 #[.iface 180 (.pointer (some tr)), .iface 184 (.pointer (some ⟨qb, 0, none⟩))] w fun x w' => x = .returned (.bool true) ∧ Below w.heap.size (w.setCell ⟨qb, 0, none⟩ (.pointer (some tr))) w' := by
  have h198 := @run_callFunc_extern Tryz.prog 198 _ (fun args => ReflectliteValue.unpack (args.getD 0 (.tuple #[]))) Tryz.func198 (by kernel_rfl) (by kernel_rfl) (by kernel_rfl) (by kernel_rfl)
  have h199 := @run_callFunc_extern Tryz.prog 199 _ (ReflectliteValue.methodAny (ReflectliteValue.valueError "reflectlite.Value.Type" 0) fun t _ _ _ => ReflectliteType.toType t) Tryz.func199 (by kernel_rfl) (by kernel_rfl) (by kernel_rfl) (by kernel_rfl)
  have h200 := @run_callFunc_extern Tryz.prog 200 _ (ReflectliteValue.method (ReflectliteValue.valueError "reflectlite.Value.IsNil" 0) ReflectliteValue.isNil) Tryz.func200 (by kernel_rfl) (by kernel_rfl) (by kernel_rfl) (by kernel_rfl)
  have h318 := @run_callFunc_extern Tryz.prog 318 _ (ReflectliteType.abiMethod fun t => do pure (.int .u8 (← kind t))) Tryz.func318 (by kernel_rfl) (by kernel_rfl) (by kernel_rfl) (by kernel_rfl)
  have h342 := @run_callFunc_extern Tryz.prog 342 _ (ReflectliteType.method ReflectliteType.elem) Tryz.func342 (by kernel_rfl) (by kernel_rfl) (by kernel_rfl) (by kernel_rfl)
  have h343 := @run_callFunc_extern Tryz.prog 343 _ (ReflectliteType.relation "Implements" ReflectliteType.implements_) Tryz.func343 (by kernel_rfl) (by kernel_rfl) (by kernel_rfl) (by kernel_rfl)
  have e1 := valueOf52
  have e2 := typeV52
  have e3 := mKind
  have e4 := kind52
  have e5 := kind50
  have e6 := mElem
  have e7 := elem52
  have e8 := mImpl
  have e9 := impl50
  have e10 := isNil52 ⟨w.heap.size, 0, none⟩ ⟨qb, 0, none⟩ ((w.alloc (.cells #[.pointer (some ⟨qb, 0, none⟩)] 184)).alloc (.cells #[.pointer (some ⟨9, 184, none⟩), .pointer (some ⟨w.heap.size, 0, none⟩), .int .u64 150] 252)) (by simp)
  have hlg := World.block_lt_of_cell? w _ hg
  have hg2 : ((w.alloc (.cells #[.pointer (some ⟨qb, 0, none⟩)] 184)).alloc (.cells #[.pointer (some ⟨9, 184, none⟩), .pointer (some ⟨w.heap.size, 0, none⟩), .int .u64 150] 252)).cell? ⟨0, 0, none⟩ = some (.iface 291 (.agg #[hd 104])) := by
    rw [World.cell?_alloc_lt _ _ _ (by simp), World.cell?_alloc_lt _ _ _ hlg]; exact hg
  go_enter Tryz.func132, Tryz.ntmps132
  have hlq : qb < w.heap.size := World.block_lt_of_cell? w _ hq
  have HA := Lib.hid (as39 tr qb w.heap.size u (.iface 184 (.pointer (some ⟨qb, 0, none⟩))) ((w.alloc (.cells #[.pointer (some ⟨qb, 0, none⟩)] 184)).alloc (.cells #[.pointer (some ⟨9, 184, none⟩), .pointer (some ⟨w.heap.size, 0, none⟩), .int .u64 150] 252)) (by simp) (by rw [World.cell?_alloc_lt _ _ _ (by simp; omega), World.cell?_alloc_lt _ _ _ hlq]; exact hq) (by rw [World.frozen?_alloc_past _ _ _ (by simp; omega), World.frozen?_alloc_past _ _ _ hlq]; exact hf))
  go_wp2_with fail
  refine HA.out.mono ?_
  rintro x w' ⟨rfl, hb⟩
  rw [World.setCell_alloc_past _ _ _ _ (by simp; omega), World.setCell_alloc_past _ _ _ _ hlq] at hb
  go_wp2_with fail
  go_ret
  exact ⟨rfl, (((Below.refl w.heap.size (w.setCell ⟨qb, 0, none⟩ (.pointer (some tr)))).alloc (by simp [World.setCell]) _).alloc (by simp [World.setCell]) _).trans (hb.mono (by simp; omega))⟩
end Go.Proofs.YtehnkebcbomidaaGreatDoor.As
end
section
namespace Go.Proofs.YtehnkebcbomidaaGreatDoor.As
open Go Go.RowKit Go.Extern Go.Extern.Stop Go.Stop Go.Extern.Rtype Go.Lib
set_option maxRecDepth 100000
theorem mComp (v : Value) (w : World) : (Go.method 491 291 v "Comparable").run Tryz.prog w = .ok (341, v) w := by kernel_rfl
theorem comp25 (w : World) : (ReflectliteType.method (fun t => do noPackHeld "Comparable" t; (fun a => Value.bool a.comparable) <$> typeInfo t) #[.agg #[hd 25]]).run Tryz.prog w = .ok (.bool true) w := by kernel_rfl
theorem noIs (v : Value) (xT : TypeId) (w : World) : (Instr.typeAssert (.iface 180 v) xT 303 true).run Tryz.prog w = .ok (.tuple #[.nilIface, .bool false]) w := run_typeAssert_lacksB Tryz.underlying303 (by kernel_rfl) (by kernel_rfl) v xT w
theorem hasUnwrap (v : Value) (xT : TypeId) (w : World) : (Instr.typeAssert (.iface 180 v) xT 298 true).run Tryz.prog w = .ok (.tuple #[.iface 180 v, .bool true]) w := run_typeAssert_hasB Tryz.underlying298 (by kernel_rfl) v xT w
theorem noIs25 (v : Value) (xT : TypeId) (w : World) : (Instr.typeAssert (.iface 25 v) xT 303 true).run Tryz.prog w = .ok (.tuple #[.nilIface, .bool false]) w := run_typeAssert_lacksB Tryz.underlying303 (by kernel_rfl) (by kernel_rfl) v xT w
theorem noUn25 (v : Value) (xT : TypeId) (w : World) : (Instr.typeAssert (.iface 25 v) xT 298 true).run Tryz.prog w = .ok (.tuple #[.nilIface, .bool false]) w := run_typeAssert_lacksB Tryz.underlying298 (by kernel_rfl) (by kernel_rfl) v xT w
theorem noUs25 (v : Value) (xT : TypeId) (w : World) : (Instr.typeAssert (.iface 25 v) xT 300 true).run Tryz.prog w = .ok (.tuple #[.nilIface, .bool false]) w := run_typeAssert_lacksB Tryz.underlying300 (by kernel_rfl) (by kernel_rfl) v xT w
theorem mUnwrap (v : Value) (w : World) : (Go.method 491 180 v "Unwrap").run Tryz.prog w = .ok (325, v) w := by kernel_rfl
theorem eql25 (c e : Int) (w : World) : (binOp .eql 104 (.iface 25 (.int .i64 c)) (.iface 25 (.int .i64 e))).run Tryz.prog w = .ok (.bool (c == e)) w := by
  have hi := Tryz.underlying104
  have hn := Tryz.underlying25
  obtain ⟨i, hinfo, hcomp⟩ : ∃ i, Tryz.prog.info? 25 = some i ∧ i.comparable = true := by
    have h : (Tryz.prog.info? 25).map (·.comparable) = some true := by kernel_rfl
    cases hx : Tryz.prog.info? 25 with
    | none => rw [hx] at h; cases h
    | some i => rw [hx] at h; exact ⟨i, rfl, by simpa using h⟩
  have main : ∀ d, (Op.equalIn (d + 2) 104 (.iface 25 (.int .i64 c)) (.iface 25 (.int .i64 e))).run Tryz.prog w = .ok (c == e) w := fun d => by
    simp [Op.equalIn, run_underlying hi, run_underlying hn, typeInfo, hinfo, hcomp]
  simp only [binOp]
  simp [Op.equal, Op.maxDepth, main 9998]
set_option maxHeartbeats 4000000 in
theorem is_ref (tb : Nat) (c e : Int) (w : World) (h1 : w.cell? ⟨tb, 1, none⟩ = some (.iface 25 (.int .i64 c))) (r : Bool) (hr : (c == e) = r) :
    Calls Tryz.prog 133 #[.iface 180 (.pointer (some ⟨tb, 0, none⟩)), .iface 25 (.int .i64 e)] w fun x w' => x = .returned (.bool r) ∧ w' = w := by
  have hu182 := Tryz.underlying182
  have h202 := @run_callFunc_extern Tryz.prog 202 _ ReflectliteType.typeOf Tryz.func202 (by kernel_rfl) (by kernel_rfl) (by kernel_rfl) (by kernel_rfl)
  have h341 := @run_callFunc_extern Tryz.prog 341 _ (ReflectliteType.method fun t => do noPackHeld "Comparable" t; pure (.bool (← typeInfo t).comparable)) Tryz.func341 (by kernel_rfl) (by kernel_rfl) (by kernel_rfl) (by kernel_rfl)
  have e1 := typeOf22
  have e2 := mComp
  have e3 := comp25
  have e4 := noIs
  have e5 := hasUnwrap
  have e6 := mUnwrap
  have e8 := eql25 c e
  rw [hr] at e8
  have e9 := noIs25
  have e10 := noUn25
  have e11 := noUs25
  have e7 := run_eql_iface_types (P := Tryz.prog) 180 25 (.pointer (some ⟨tb, 0, none⟩)) (.int .i64 e) Tryz.underlying104 (by decide) w
  have HR := Lib.hid hr
  clear hr
  cases r with
  | true =>
    go_enter Tryz.func133, Tryz.ntmps133
    go_wp2
    refine wp_loop_rounds 2 ?_
    rw [rounds_succ]
    go_wp2
    rw [rounds_succ]
    go_wp2
    go_ret
    exact ⟨rfl, rfl⟩
  | false =>
    go_enter Tryz.func133, Tryz.ntmps133
    go_wp2
    refine wp_loop_rounds 2 ?_
    rw [rounds_succ]
    go_wp2
    rw [rounds_succ]
    go_wp2
    go_ret
    exact ⟨rfl, rfl⟩
end Go.Proofs.YtehnkebcbomidaaGreatDoor.As
end
section
namespace Go.Proofs.YtehnkebcbomidaaGreatDoor.Rt
structure Ky where
  t : Int
  f : Int
  s : Int
deriving DecidableEq
structure Mg where
  k : Ky
  d : Int
  cl : Int
  bd : Int
deriving DecidableEq
def Ky.lt (a b : Ky) : Prop := a.t < b.t ∨ (a.t = b.t ∧ (a.f < b.f ∨ (a.f = b.f ∧ a.s < b.s)))
instance (a b : Ky) : Decidable (a.lt b) := by unfold Ky.lt; exact inferInstance
theorem Ky.lt_irrefl (a : Ky) : ¬ a.lt a := by unfold Ky.lt; omega
theorem Ky.lt_trans {a b c : Ky} (h : a.lt b) (g : b.lt c) : a.lt c := by unfold Ky.lt at *; omega
theorem Ky.lt_asymm {a b : Ky} (h : a.lt b) : ¬ b.lt a := by unfold Ky.lt at *; omega
theorem Ky.eq_of {a b : Ky} (h : ¬ a.lt b) (g : ¬ b.lt a) : a = b := by
  obtain ⟨a1, a2, a3⟩ := a
  obtain ⟨b1, b2, b3⟩ := b
  simp only [Ky.lt, Ky.mk.injEq] at *
  omega
theorem Ky.lt_of_not {a b : Ky} (h : ¬ a.lt b) (hn : a ≠ b) : b.lt a := by
  by_cases c : b.lt a
  · exact c
  · exact absurd (Ky.eq_of h c) hn
def Srt (Q : List Mg) : Prop := Q.Pairwise (fun a b => a.k.lt b.k)
def ins (m : Mg) : List Mg → List Mg
  | [] => [m]
  | x :: l => if m.k.lt x.k then m :: x :: l else x :: ins m l
structure Mem where
  is : Bool := false
  con : Bool := false
  time : Int := 0
  look : Int := 0
  kind : Int := 0
  ask : Int := 0
  sent : Int := 0
  Q : List Mg := []
  P : List Mg := []
  subs : Nat := 0
deriving DecidableEq
instance : Inhabited Mem := ⟨{}⟩
structure St where
  par : List Int
  above : List Nat
  pubs : List Nat
  l : List Mem
  saving : Bool
deriving DecidableEq
def St.get (S : St) (f : Nat) : Mem := S.l.getD f {}
def St.put (S : St) (f : Nat) (m : Mem) : St := { S with l := S.l.set f m }
def tclamp (t : Int) : Int := if t < 0 then 0 else if 1099511627776 < t then 1125899906842624 else t
def tadd (a b : Int) : Int := tclamp (tclamp a + tclamp b)
structure LM where
  reg : Bool
  con : Bool
  time : Int
  look : Int
  kind : Int
  ask : Int
  first : Int
deriving DecidableEq
instance : Inhabited LM := ⟨⟨false, false, 0, 0, 0, 0, 0⟩⟩
def LM.later (m : LM) (t : Int) : Int := tadd t (max 1 (min m.look 1048576))
def LM.base (m : LM) : Int :=
  if m.kind = 1 then tadd m.ask 0
  else if m.kind = 2 ∨ m.kind = 3 then (if m.con then max (tadd m.time 0) (min (tadd m.ask 0) (tadd m.first 0)) else tadd m.ask 0)
  else tadd m.time 0
def LM.hangs (m : LM) : Bool := decide (m.kind = 2 ∨ m.kind = 3) && m.con
def leastO (out : List Int) (op : List Bool) : Nat → Option Nat
  | 0 => none
  | n + 1 => match leastO out op n with
    | none => if op.getD n false then some n else none
    | some b => if op.getD n false && decide (out.getD n 0 < out.getD b 0) then some n else some b
def roundO (l : List LM) (i : Nat) (op hg : List Bool) (out : List Int) : List Int :=
  (List.range l.length).map fun j => if op.getD j false && hg.getD j false then min (out.getD j 0) ((l.getD j default).later (max (tadd (l.getD j default).time 0) (out.getD i 0))) else out.getD j 0
def outsGo (l : List LM) (hg : List Bool) : Nat → List Int → List Bool → List Int
  | 0, out, _ => out
  | n + 1, out, op => match leastO out op l.length with
    | none => out
    | some i => outsGo l hg n (roundO l i (op.set i false) hg out) (op.set i false)
def outs (l : List LM) : List Int :=
  outsGo l (l.map fun m => m.reg && m.hangs) (l.length + 1) (l.map fun m => if m.reg then m.later m.base else 1125899906842624) (l.map (·.reg))
def lbtsGo (l : List LM) (out : List Int) (i : Int) : Nat → Int
  | 0 => 1125899906842624
  | n + 1 => if ((n : Int) ≠ i) ∧ (l.getD n default).reg = true then min (lbtsGo l out i n) (out.getD n 0) else lbtsGo l out i n
def lbts (l : List LM) (i : Int) : Int := lbtsGo l (outs l) i l.length
def upN (l : List Int) (t : Int) : Nat := l.countP fun x => decide (x ≤ t)
def dec (kind ask time bound : Int) (q : List Int) : Bool × Int × Nat :=
  if kind = 1 then (if bound > ask then (true, ask, upN q ask) else (false, 0, 0))
  else if kind = 2 then
    (if q ≠ [] ∧ q.getD 0 0 ≤ ask then (if bound > q.getD 0 0 then (true, max time (q.getD 0 0), upN q (q.getD 0 0)) else (false, 0, 0))
     else if bound > ask then (true, ask, 0) else (false, 0, 0))
  else if kind = 3 then (true, max time (if q = [] then min ask bound else min (min ask bound) (q.getD 0 0)), q.length)
  else (false, 0, 0)
def Mem.lm (m : Mem) : LM := ⟨decide (m.look > 0), m.con, m.time, m.look, m.kind, m.ask, match m.Q with | [] => 1125899906842624 | q :: _ => q.k.t⟩
def St.members (S : St) : List LM := S.l.map Mem.lm
def St.bound (S : St) (f : Int) : Int := lbts S.members f
def St.byE (S : St) (f : Int) : Int :=
  if f < 0 ∨ 8 ≤ f then 1 else if (S.get f.toNat).is = false then 201 else if S.saving = true then 212 else 0
def St.join (S : St) (f : Int) : Int × St :=
  if f < 0 ∨ 8 ≤ f then (1, S) else if S.saving = true then (212, S) else if (S.get f.toNat).is = true then (200, S)
  else (0, S.put f.toNat { S.get f.toNat with is := true })
def bitSet (x c : Nat) (is : Bool) : Nat := if is then x ||| 2 ^ c else x &&& (4294967295 - 2 ^ c)
def St.noClass (S : St) (c : Int) : Prop := c < 0 ∨ (S.above.length : Int) ≤ c
instance (S : St) (c : Int) : Decidable (S.noClass c) := by unfold St.noClass; exact inferInstance
def St.publish (S : St) (f c : Int) (is : Bool) : Int × St :=
  if S.byE f ≠ 0 then (S.byE f, S) else if S.noClass c then (81, S)
  else (0, { S with pubs := S.pubs.set f.toNat (bitSet (S.pubs.getD f.toNat 0) c.toNat is) })
def St.subscribe (S : St) (f c : Int) (is : Bool) : Int × St :=
  if S.byE f ≠ 0 then (S.byE f, S) else if S.noClass c then (81, S)
  else (0, S.put f.toNat { S.get f.toNat with subs := bitSet (S.get f.toNat).subs c.toNat is })
def St.late (S : St) (f look : Int) : Bool := (List.range 8).any fun g => decide ((g : Int) ≠ f) && (S.get g).con && decide (tadd (S.get f.toNat).time look ≤ (S.get g).time)
def St.regulate (S : St) (f look : Int) : Int × St :=
  if S.byE f ≠ 0 then (S.byE f, S) else if (S.get f.toNat).look ≠ 0 then (202, S) else if (S.get f.toNat).kind ≠ 0 then (206, S)
  else if look < 1 ∨ 1048576 < look then (80, S) else if S.late f look = true then (207, S)
  else (0, S.put f.toNat { S.get f.toNat with look := look })
def St.unregulate (S : St) (f : Int) : Int × St :=
  if S.byE f ≠ 0 then (S.byE f, S) else if ¬ (S.get f.toNat).look > 0 then (203, S) else if (S.get f.toNat).kind ≠ 0 then (206, S)
  else (0, S.put f.toNat { S.get f.toNat with look := 0 })
def St.constrain (S : St) (f : Int) : Int × St :=
  if S.byE f ≠ 0 then (S.byE f, S) else if (S.get f.toNat).con = true then (204, S) else if (S.get f.toNat).kind ≠ 0 then (206, S)
  else if ¬ S.bound f > (S.get f.toNat).time then (207, S)
  else (0, S.put f.toNat { S.get f.toNat with con := true })
def hears (x y : Nat) : Bool := decide (x &&& y ≠ 0)
def St.route (S : St) (f c : Int) : List Nat := (List.range 8).filter fun g => decide ((g : Int) ≠ f) && hears (S.get g).subs (S.above.getD c.toNat 0)
def St.fullAt (S : St) (reg : Bool) (g : Nat) : Bool := if reg && (S.get g).con then decide (64 ≤ (S.get g).Q.length) else decide (64 ≤ (S.get g).P.length)
def Mem.take (m : Mem) (reg : Bool) (x : Mg) : Mem := if reg && m.con then { m with Q := ins x m.Q } else { m with P := m.P ++ [x] }
def St.give (S : St) (reg : Bool) (x : Mg) : List Nat → St
  | [] => S
  | g :: l => St.give (S.put g ((S.get g).take reg { x with d := (g : Int) })) reg x l
def St.reg (S : St) (f : Int) (timed : Bool) : Bool := timed && decide ((S.get f.toNat).look > 0)
def St.sendE (S : St) (f c body t : Int) (timed : Bool) : Int :=
  if S.byE f ≠ 0 then S.byE f else if S.noClass c then 81 else if (S.pubs.getD f.toNat 0).testBit c.toNat = false then 211
  else if body < 0 ∨ 1000 ≤ body then 1 else if timed = true ∧ (t < 0 ∨ 1099511627776 < t) then 208
  else if S.reg f timed = true ∧ t < (outs S.members).getD f.toNat 0 then 110
  else if (S.route f c).any (S.fullAt (S.reg f timed)) = true then 2 else 0
def St.msg (S : St) (f c body t : Int) (timed : Bool) : Mg := ⟨⟨if timed then t else 0, f, (S.get f.toNat).sent⟩, 0, c, body⟩
def St.send (S : St) (f c body t : Int) (timed : Bool) : Int × Int × St :=
  if S.sendE f c body t timed ≠ 0 then (0, S.sendE f c body t timed, S)
  else
    let S1 := S.give (S.reg f timed) (S.msg f c body t timed) (S.route f c)
    if timed then ((S.get f.toNat).sent, 0, S1.put f.toNat { S1.get f.toNat with sent := (S1.get f.toNat).sent + 1 }) else (0, 0, S1)
def St.ask (S : St) (f kind t : Int) : Int × St :=
  if S.byE f ≠ 0 then (S.byE f, S) else if kind < 1 ∨ 3 < kind then (1, S) else if (S.get f.toNat).kind ≠ 0 then (206, S)
  else if t < 0 ∨ 1099511627776 < t then (208, S) else if t < (S.get f.toNat).time then (207, S)
  else (0, S.put f.toNat { S.get f.toNat with kind := kind, ask := t })
structure Gv where
  plain : List Mg
  timed : List Mg
  granted : Bool
  time : Int
deriving DecidableEq
def St.grant (S : St) (f : Nat) : Bool × Int × Nat :=
  dec (S.get f).kind (S.get f).ask (S.get f).time (if (S.get f).con then S.bound f else 1125899906842624) ((S.get f).Q.map fun m => m.k.t)
def St.look (S : St) (f : Int) : Gv × Int × St :=
  if S.byE f ≠ 0 then (⟨[], [], false, 0⟩, S.byE f, S)
  else
    let m := S.get f.toNat
    if (S.grant f.toNat).1 = false then (⟨m.P, [], false, m.time⟩, 0, S.put f.toNat { m with P := [] })
    else (⟨m.P, m.Q.take (S.grant f.toNat).2.2, true, (S.grant f.toNat).2.1⟩, 0,
      S.put f.toNat { m with P := [], Q := m.Q.drop (S.grant f.toNat).2.2, time := (S.grant f.toNat).2.1, kind := 0, ask := 0 })
structure MgOk (n : Nat) (m : Mg) : Prop where
  t0 : 0 ≤ m.k.t
  t1 : m.k.t ≤ 1099511627776
  f0 : 0 ≤ m.k.f
  f1 : m.k.f < 8
  s0 : 0 ≤ m.k.s
  s1 : m.k.s < 9223372036854775808
  d0 : 0 ≤ m.d
  d1 : m.d < 8
  c0 : 0 ≤ m.cl
  c1 : m.cl < n
  b0 : 0 ≤ m.bd
  b1 : m.bd < 1000
structure MemOk (n : Nat) (N : Int) (g : Nat) (m : Mem) : Prop where
  t0 : 0 ≤ m.time
  t1 : m.time ≤ 1099511627776
  l0 : 0 ≤ m.look
  l1 : m.look ≤ 1048576
  k0 : 0 ≤ m.kind
  k1 : m.kind ≤ 3
  a0 : 0 ≤ m.ask
  a1 : m.ask ≤ 1099511627776
  s0 : 0 ≤ m.sent
  s1 : m.sent ≤ N
  srt : Srt m.Q
  q : ∀ x ∈ m.Q, MgOk n x ∧ x.d = g
  p : ∀ x ∈ m.P, MgOk n x ∧ x.d = g
  ql : m.Q.length ≤ 64
  pl : m.P.length ≤ 64
  su : m.subs < 4294967296
  kask : m.kind > 0 → m.time ≤ m.ask
  kno : m.kind = 0 → m.ask = 0
  qno : m.con = false → m.Q = []
  out : m.is = false → m = { sent := m.sent }
structure St.Ok (N : Int) (S : St) : Prop where
  n1 : N < 9223372036854775808
  l8 : S.l.length = 8
  p8 : S.pubs.length = 8
  al : S.above.length = S.par.length
  a0 : 0 < S.par.length
  a1 : S.par.length ≤ 16
  ab : ∀ x ∈ S.above, x < 4294967296
  pb : ∀ x ∈ S.pubs, x < 4294967296
  m : ∀ g, MemOk S.par.length N g (S.get g)
  q1 : ∀ g, ∀ x ∈ (S.get g).Q, x.k.s < (S.get x.k.f.toNat).sent
  p1 : ∀ g, ∀ x ∈ (S.get g).P, x.k.s ≤ (S.get x.k.f.toNat).sent
  pno : ∀ g, (S.get g).is = false → S.pubs.getD g 0 = 0
end Go.Proofs.YtehnkebcbomidaaGreatDoor.Rt
end
