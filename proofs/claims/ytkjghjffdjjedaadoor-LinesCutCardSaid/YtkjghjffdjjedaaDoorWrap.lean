/- lines: the wrap of a row with listed variables and the world's shape; what the laws want of the world. -/
import Derived.Test.YtkjghjffdjjedaaDoorLw
import Derived.Test.YtkjghjffdjjedaaDoorRows
import Derived.LaidHandle
import Derived.LaidLaws
import Derived.Handed
import Derived.HandedShaped
import Derived.Stop.Joined
import Derived.Shelf.Vars
set_option linter.unusedVariables false
set_option linter.unusedSimpArgs false
namespace Go
section
variable {H : Type} {enc : TypeId × Value → H}
theorem laidMetH_handle {P : Program} {l : List (String × DataW Unit)} {w : World} (h : laidMetH P l w) {x : String × DataW Unit} (hx : x ∈ l) (hs : x.2.handleName?.isSome = true) (hf : x.2.funcsIn? = none) :
    ∃ name u ty, x.2.handleName? = some name ∧ (P.cutTypes.find? (·.1 == "internal/reflectlite.rtype")).map (·.2) = some u ∧ ty < P.types.size ∧ P.rowNamed ty name = true ∧
      w.var? P x.1 = some #[.iface u (.agg #[typeHandle P ty])] := by
  have hx2 : x ∈ l.filter (fun x => x.2.handleName?.isSome) := List.mem_filter.2 ⟨hx, hs⟩
  unfold laidMetH at h
  revert h hx2
  generalize l.filter (fun x => x.2.handleName?.isSome) = fl
  intro h hx2
  cases fl with
  | nil => cases hx2
  | cons a t => have h3 := h.2 x hx2; rw [hf] at h3; exact h3
theorem returnsInHanded_of_change_both {a : Assume} {C : Checked} {os : Os} {f : FuncId} {fn : Func} {s : ChangeSpec} {conds : List PathCond} {apart fresh handsOn again : Bool} {X : World → Array Value → Prop}
    (hX : ∀ (w w' : World) (args : Array Value), w.heap = w'.heap → X w args → X w' args)
    (own : ownKnob C.prog.godebug = none) (started : os.Started) (noInit : C.prog.inits.idxOf? f = none) (hfn : C.prog.funcs[f]? = some fn)
    (witness : ∃ (w : World) (tape : Tape) (i : Input), w.os = os ∧ (w.forCall tape i).Shaped C.prog ∧ i.vars = [] ∧ Input.okWide C.prog (w.forCall tape i) .any w.heap.size f i ∧
      ((s.pre enc C.prog fn conds apart (w.forCall tape i).memory i.args ∧ X (w.forCall tape i).memory i.args) ∧ sizedMet enc C.prog fn (OpenSpec.ofChange s) apart (w.forCall tape i).memory i.args) ∧ a.holds C.prog (lone (Frame.enter C.prog f i.args .normal) [] (w.forCall tape i)))
    (contract : ∀ (W : World) (base : Nat) (args : Array Value) (ds gs : List (DataW H)) (before : List MemPlace),
      (∀ (j : Nat) t v, fn.params[j]? = some t → args[j]? = some v → Value.okWide C.prog W .any base t v) →
      DataW.Whole enc C.prog fn.params.toList s.vars apart W args.toList ds gs before →
      conds.all (PathCond.test C.prog ⟨fn.params.toList, ds, s.plain.varTypes C.prog, gs⟩) = true →
      (DataW.weightsEach C.prog (fn.params.toList ++ s.plain.varTypes C.prog) (ds ++ gs)).all (· ≤ reachBytes) = true → X W args → W.ShapedOpen C.prog →
      a.holds C.prog (lone (Frame.enter C.prog f args .normal) [] W) →
      Calls C.prog f args W fun e W' => ∃ v, e = .returned v ∧ s.post enc C.prog fn apart fresh handsOn again W args v W') :
    ReturnsInHanded a C os f .any (fun w args => (s.pre enc C.prog fn conds apart w args ∧ X w args) ∧ sizedMet enc C.prog fn (OpenSpec.ofChange s) apart w args) (s.post enc C.prog fn apart fresh handsOn again) := by
  refine returnsInHanded_of_calls own started noInit witness ?_
  intro w tape i _ hsh _ hok hpre hholds
  obtain ⟨_, _, _, fn', hfn', _, _, _, _, hval⟩ := hok
  have e : fn' = fn := Option.some.inj (hfn'.symm.trans hfn)
  subst e
  obtain ⟨⟨⟨ds, gs, before, hw, hc⟩, hx⟩, hz⟩ := hpre
  have hw' := DataW.Whole.of_heap (w' := w.forCall tape i) (by rfl) hw
  refine (contract (w.forCall tape i) w.heap.size i.args ds gs before hval hw' hc (hz.weights hw) (hX _ _ _ (by rfl) hx) hsh hholds).mono fun e W' ⟨v, he, hp⟩ => ?_
  subst he
  exact ChangeSpec.post_blind hp
end
end Go
namespace Go.Proofs.YtkjghjffdjjedaaDoor.Enc
open Go Go.RowKit Go.Lib Go.Proofs
theorem only38 : (List.range Tryd.prog.types.size).all (fun t => !Tryd.prog.rowNamed t [101, 114, 114, 111, 114] || t == 38) = true := by kernel_rfl
theorem rt93 : (Tryd.prog.cutTypes.find? (·.1 == "internal/reflectlite.rtype")).map (·.2) = some 93 := by kernel_rfl
theorem envD {l : List (String × DataW Unit)} {W : World} (h : laidMetH Tryd.prog l W) (hx : ("errors.errorType", Rows.laid_errors_errorType) ∈ l) (hsh : W.ShapedOpen Tryd.prog) : EnvD W := by
  obtain ⟨name, u, ty, h1, h2, h3, h4, h5⟩ := laidMetH_handle h hx rfl rfl
  have e1 : name = [101, 114, 114, 111, 114] := (Option.some.inj h1).symm
  subst e1
  have e2 : u = 93 := (Option.some.inj (rt93.symm.trans h2)).symm
  subst e2
  have e3 : ty = 38 := by
    have := List.all_eq_true.1 only38 ty (List.mem_range.2 h3)
    rw [h4] at this
    simpa using this
  subst e3
  refine ⟨cell_of_shapedOpen_int (g := 4) (t := 3) (zero := #[.int .i64 0]) hsh (of_decide_eq_true (by kernel_rfl)) (by kernel_rfl) rfl (by kernel_rfl) (by kernel_rfl) Tryd.underlying3, ?_⟩
  have e : typeHandle Tryd.prog 38 = As.hd 38 := by kernel_rfl
  rw [e] at h5
  have := World.var?_cell (g := 0) (by kernel_rfl) h5 0
  simpa using this
end Go.Proofs.YtkjghjffdjjedaaDoor.Enc
