/- Part of a proof over the given program: Lx, En. -/
import Derived.Test.YtehnkebcbomidaaGreatDoorCb36
import Derived.Test.YtehnkebcbomidaaGreatDoorCb37
import Derived.Test.YtehnkebcbomidaaGreatDoorRows
import Derived.LaidHandle
import Derived.LaidLaws
import Derived.Handed
set_option linter.unusedVariables false
set_option linter.unusedSimpArgs false
namespace Go.Proofs.YtehnkebcbomidaaGreatDoor.Rt
open Go Go.RowKit Go.Proofs
theorem look_call (w : World) (H : Sh) (S : St) {N : Int} (hR : RAt H w S) (ok : S.Ok N) (f : Int) :
    Calls Tryz.prog 26 #[.pointer (some ⟨H.r, 0, none⟩), .int .i64 f] w (LPost H w (S.look f).1 (S.look f).2.1 (S.look f).2.2) := by
  by_cases he : S.byE f = 0
  · obtain ⟨n, rfl, hn⟩ := yes_in he
    cases hc : (S.get n).con with
    | false => exact look_F w H S hR ok n hn he hc
    | true => exact look_T w H S hR ok n hn he hc
  · have e : S.look f = (⟨[], [], false, 0⟩, S.byE f, S) := by
      unfold St.look
      rw [if_pos he]
    rw [e]
    exact look_no w H S hR f he
theorem Rti.look {K : Nat → Prop} {r : Nat} {w : World} {S : St} {N : Int} (h : Rti K r w S) (ok : S.Ok N) (f : Int) : Calls Tryz.prog 26 #[.pointer (some ⟨r, 0, none⟩), .int .i64 f] w (GEnd K r w (S.look f).1 (S.look f).2.1 (S.look f).2.2) :=
  h.look_of (fun H hR hr => by subst hr; exact look_call w H S hR ok f)
end Go.Proofs.YtehnkebcbomidaaGreatDoor.Rt
namespace Go.Proofs.YtehnkebcbomidaaGreatDoor.Rt
open Go Go.RowKit Go.Proofs Go.Proofs.YtehnkebcbomidaaGreatDoorW.PrintWords Go.Proofs.YtehnkebcbomidaaGreatDoorW.PrintLast
theorem laid_handle {P : Program} {l : List (String × DataW Unit)} {w : World} (h : laidMetH P l w) {x : String × DataW Unit} (hx : x ∈ l) (hs : x.2.handleName?.isSome = true) (hf : x.2.funcsIn? = none) :
    ∃ name u ty, x.2.handleName? = some name ∧ (P.cutTypes.find? (·.1 == "internal/reflectlite.rtype")).map (·.2) = some u ∧ ty < P.types.size ∧ P.rowNamed ty name = true ∧
      w.var? P x.1 = some #[.iface u (.agg #[typeHandle P ty])] := by
  have hx2 : x ∈ l.filter (fun x => x.2.handleName?.isSome) := List.mem_filter.2 ⟨hx, hs⟩
  unfold laidMetH at h
  revert h hx2
  generalize l.filter (fun x => x.2.handleName?.isSome) = fl
  intro h hx2
  cases fl with
  | nil => cases hx2
  | cons a t => have h3 := h.2 x hx2; rw [hf] at h3; exact h3
theorem only104 : (List.range Tryz.prog.types.size).all (fun t => !Tryz.prog.rowNamed t [101, 114, 114, 111, 114] || t == 104) = true := by kernel_rfl
theorem rt291 : (Tryz.prog.cutTypes.find? (·.1 == "internal/reflectlite.rtype")).map (·.2) = some 291 := by kernel_rfl
theorem envZ {l : List (String × DataW Unit)} {W : World} (hx : ("errors.errorType", Rows.laid_errors_errorType) ∈ l) (h : laidMetH Tryz.prog l W) : Env W := by
  obtain ⟨name, u, ty, h1, h2, h3, h4, h5⟩ := laid_handle h hx rfl rfl
  have e1 : name = [101, 114, 114, 111, 114] := (Option.some.inj h1).symm
  subst e1
  have e2 : u = 291 := (Option.some.inj (rt291.symm.trans h2)).symm
  subst e2
  have e3 : ty = 104 := by
    have := List.all_eq_true.1 only104 ty (List.mem_range.2 h3)
    rw [h4] at this
    simpa using this
  subst e3
  have e : typeHandle Tryz.prog 104 = .pointer (some ⟨9, 104, none⟩) := by kernel_rfl
  rw [e] at h5
  have := World.var?_cell (g := 0) (by kernel_rfl) h5 0
  unfold Env
  simpa using this
theorem u8_wf {x : Int} (h : (Lit.int .u8 x).wf = true) : 0 ≤ x ∧ x < 256 := by
  have e1 : IntKind.u8.min = 0 := by decide
  have e2 : IntKind.u8.max = 255 := by decide
  unfold Lit.wf at h
  simp only [Bool.and_eq_true, decide_eq_true_eq, e1, e2] at h
  omega
end Go.Proofs.YtehnkebcbomidaaGreatDoor.Rt
