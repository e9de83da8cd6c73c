/- The law VtimeAdds of the given program, walked: which numbers are times and what two come to is as the document says; for every input. -/
import Derived.Test.YtehnhemelnpdhaaB2
import Derived.Lib.Hide
namespace Go.Proofs.Ytehnhemelnpdhaa.B
open Go.RowKit Go.Proofs.YtehnhemelnpdhaaW.PrintWords Go.Proofs.YtehnhemelnpdhaaW.PrintLast
set_option maxHeartbeats 1000000 in
set_option maxRecDepth 100000 in
theorem vtimeAdds_walk (a b : Int) (w : World) (ha : (Lit.int .i64 a).wf = true) : 
    Calls Try.prog 4 #[.int .i64 a, .int .i64 b] w fun e w' => e = .returned (.bool true) ∧ Below w.heap.size w w' := by
  have e : ad b a = ad a b := by unfold ad; rw [Int.add_comm]
  have hr := ad_range a b
  have hv : vd (ad a b) = true := by unfold vd; rw [decide_eq_true_eq]; omega
  have c1 := fun w => valid_calls a w ha
  have c2 := fun w => rvalid_calls a w
  have c3 := fun w => add_calls a b w
  have c4 := fun w => radd_calls a b w
  have c5 : ∀ w, Calls Try.prog 11 #[.int .i64 b, .int .i64 a] w fun e w' => e = .returned (.int .i64 (ad a b)) ∧ Drawn0 w w' := fun w => e ▸ add_calls b a w
  have c6 : ∀ w, Calls Try.prog 13 #[.int .i64 (ad a b)] w fun e w' => e = .returned (.bool true) ∧ Drawn0 w w' := fun w => hv ▸ valid_calls (ad a b) w (time_wf hr)
  generalize vd a = va at *
  generalize ad a b = t at *
  have C1 := Lib.hid c1; have C2 := Lib.hid c2; have C3 := Lib.hid c3; have C4 := Lib.hid c4; have C5 := Lib.hid c5; have C6 := Lib.hid c6
  clear c1 c2 c3 c4 c5 c6 e hv hr ha
  go_enter Try.func4, Try.ntmps4
  go_wp2_with (first | (go_at_call 13; first | ((with_reducible refine (C1.out _).mono ?_); rintro e w' ⟨rfl, ⟨nd, rfl⟩⟩) | ((with_reducible refine (C6.out _).mono ?_); rintro e w' ⟨rfl, ⟨nd, rfl⟩⟩)) | (go_at_call 14; (with_reducible refine (C2.out _).mono ?_); rintro e w' ⟨rfl, ⟨nd, rfl⟩⟩) | (go_at_call 12; (with_reducible refine (C4.out _).mono ?_); rintro e w' ⟨rfl, ⟨nd, rfl⟩⟩) | (go_at_call 11; first | ((with_reducible refine (C3.out _).mono ?_); rintro e w' ⟨rfl, ⟨nd, rfl⟩⟩) | ((with_reducible refine (C5.out _).mono ?_); rintro e w' ⟨rfl, ⟨nd, rfl⟩⟩)))
  go_ret
  exact ⟨by first | rfl | (simp; done), Drawn0.below (by repeat (first | exact Drawn0.refl _ | apply Drawn0.step))⟩
end Go.Proofs.Ytehnhemelnpdhaa.B
