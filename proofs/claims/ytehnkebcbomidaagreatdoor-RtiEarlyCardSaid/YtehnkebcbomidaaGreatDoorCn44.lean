/- Part of a proof over the given program: Lx. -/
import Derived.Test.YtehnkebcbomidaaGreatDoorCn42
import Derived.Test.YtehnkebcbomidaaGreatDoorCn43
import Derived.Test.YtehnkebcbomidaaGreatDoorCn40
set_option linter.unusedVariables false
set_option linter.unusedSimpArgs false
namespace Go.Proofs.YtehnkebcbomidaaGreatDoor.Rt
open Go Go.RowKit Go.Proofs
theorem look_call (w : World) (H : Sh) (S : St) {N : Int} (hR : RAt H w S) (ok : S.Ok N) (f : Int) :
  Calls Tryz.prog 26 #[.pointer (some ⟨H.r, 0, none⟩), .int .i64 f] w (LPost H w (S.look f).1 (S.look f).2.1 (S.look f).2.2) := by
 by_cases he : S.byE f = 0
 ·obtain ⟨n, rfl, hn⟩ := yes_in he
  cases hc : (S.get n).con with
  | false => exact look_F w H S hR ok n hn he hc
  | true => exact look_T w H S hR ok n hn he hc
 ·have e : S.look f = (⟨[], [], false, 0⟩, S.byE f, S) := by
   unfold St.look
   rw [if_pos he]
  rw [e]
  exact look_no w H S hR f he
theorem Rti.look {K : Nat → Prop} {r : Nat} {w : World} {S : St} {N : Int} (h : Rti K r w S) (ok : S.Ok N) (f : Int) : Calls Tryz.prog 26 #[.pointer (some ⟨r, 0, none⟩), .int .i64 f] w (GEnd K r w (S.look f).1 (S.look f).2.1 (S.look f).2.2) :=
 h.look_of (fun H hR hr => by subst hr; exact look_call w H S hR ok f)
end Go.Proofs.YtehnkebcbomidaaGreatDoor.Rt
