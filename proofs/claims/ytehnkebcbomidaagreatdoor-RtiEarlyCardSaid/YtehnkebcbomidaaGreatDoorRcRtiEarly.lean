/- RtiEarly: no regulating federate's timed message is taken below its time and its lookahead -/
import Derived.Test.YtehnkebcbomidaaGreatDoorRows
import Derived.Test.YtehnkebcbomidaaGreatDoorCe01
import Derived.Test.YtehnkebcbomidaaGreatDoorCn47
import Derived.Test.YtehnkebcbomidaaGreatDoorCn26
import Derived.Test.YtehnkebcbomidaaGreatDoorCn30
import Derived.Test.YtehnkebcbomidaaGreatDoorTie
import Derived.Test.YtehnkebcbomidaaGreatDoorCn05
import Derived.Test.YtehnkebcbomidaaGreatDoorCards
import Derived.SevenTiedAt
import Derived.LaidHandle
import Derived.LaidMore
import Derived.LaidOnce
import Derived.Stop.Joined
import Derived.WalkKit
import Derived.ProofKit
import Derived.OpenShut
import Derived.ShutString
import Derived.ChangeOld
import Derived.Below
import Derived.SizedLaws
namespace Go.Proofs.YtehnkebcbomidaaGreatDoor.rtiEarly
open Go.ChangeShapes Go.WideShapes Go.ChangeAt Go.RowKit
open Go.ChangeMaps (open_string shut_string)
set_option linter.unusedVariables false
set_option linter.unusedSimpArgs false
theorem own : ownKnob Tryz.prog.godebug = none := by kernel_rfl
theorem laidOut : laidOutB Tryz.prog = true := by kernel_rfl
/-- the door's own heap meets the condition -/
theorem door_met (os : Os) (args : Array Value) : laidMetH Tryz.prog Rows.rtiEarlyRow.laid ((World.doorLaid Tryz.prog 79 os).forCall (fun _ _ => 0) ⟨#[], args, []⟩).memory :=
  laidMetH_of_parts3 (fuel := 8) (laidMet_of_run' 8 (by kernel_rfl) (by kernel_rfl)) (by kernel_rfl) (by kernel_rfl)
set_option maxRecDepth 100000 in
theorem lifted (os : Os) (started : os.Started) (H : Type) (enc : TypeId × Value → H) :
    ReturnsInHanded {} Tryz.checked os 13 .any (fun w args => (Rows.rtiEarlySpec.pre enc Tryz.prog Tryz.f13 [] false w args ∧ laidMetH Tryz.prog Rows.rtiEarlyRow.laid w) ∧ sizedMet enc Tryz.prog Tryz.f13 (OpenSpec.ofChange Rows.rtiEarlySpec) false w args)
      (Rows.rtiEarlySpec.post enc Tryz.prog Tryz.f13 false true false false) := by
  refine returnsInHanded_of_change_and (C := Tryz.checked) (X := fun w _ => laidMetH Tryz.prog Rows.rtiEarlyRow.laid w) (fun _ _ _ hh h => h.of_heap hh) own started (by kernel_rfl) Tryz.func13
    (ChangeSpec.witness_shaped (enc := enc) (C := Tryz.checked) (os := os) (X := fun w _ => laidMetH Tryz.prog Rows.rtiEarlyRow.laid w) false (World.doorLaid Tryz.prog 79 os) #[.slice none 0 0] 8 rfl (World.shaped_of_RefB (by kernel_rfl) (by kernel_rfl)) (by kernel_rfl) (by kernel_rfl) (by kernel_rfl) (door_met os _)) ?_
  intro W base args ds gs before hval0 hW hcnd hsz0 hL _
  have hE := Rt.envs_of hL
  have hsz : (DataW.weightsEach Tryz.prog (Tryz.f13.params.toList ++ Rows.rtiEarlySpec.plain.varTypes Tryz.prog) (ds ++ gs)).all (· ≤ reachBytes) = true := hsz0
  have hval : ∀ (j : Nat) t v, Tryz.f13.params[j]? = some t → args[j]? = some v → Value.okWide Tryz.prog W .any base t v := hval0
  have hW' := hW
  obtain ⟨p, q, hA0, hV, rfl, hfz, hnd⟩ := hW
  have hA : DataW.TrodAll enc Tryz.prog W 0 (fun _ => true) true Tryz.f13.params.toList args.toList ds p := hA0
  rw [Tryz.params13] at hA hval hsz
  obtain ⟨v0, vs0, d0, ds0, p0, q0, hargs, rfl, rfl, h0, r0⟩ := trodAll_cons hA
  obtain ⟨rfl, rfl, rfl⟩ := trodAll_nil r0
  obtain rfl : args = #[v0] := by cases args; simp_all
  obtain ⟨rfl, rfl⟩ := trodVars_none hV
  obtain ⟨a0, len0, cap0, rfl⟩ := okWide_slice Tryz.underlying66 (hval 0 66 v0 rfl rfl)
  have k0 := h0
  have lt0 : ∀ x ∈ p0, x.block < W.heap.size := by obtain ⟨m, hm⟩ := k0; exact DataW.trod_lt m _ _ _ hm
  clear hA0 hval0 hsz0 hsz
  refine (Rt.early_row a0 len0 cap0 W k0 hE).mono fun e W' ⟨he, bel⟩ => ?_
  subst he
  exact ⟨_, rfl, _, _, _, [], _, [], hW', trodAll_mk1 (shut_bool Tryz.underlying4 _), (trodAll_cons_mk (Below.trod laidOut (by kernel_rfl) (of_decide_eq_true (by kernel_rfl)) k0 bel lt0) trodAll_mk0), rfl, bel.frame _, fun h => by cases h⟩
theorem band {a b : Bool} (ha : a = true) (hb : b = true) : (a && b) = true := by subst ha; subst hb; rfl
set_option maxRecDepth 100000 in
set_option maxHeartbeats 8000000 in
theorem closed : joinedFacts Tryz.checked.prog 13 Tryz.f13 Rows.rtiEarlySpec Rows.rtiEarlyRow = true := by
  unfold joinedFacts
  repeat' (with_reducible apply band)
  iterate 25 (focus (as_aux_lemma => kernel_rfl))
  focus exact Ini.mayEnter
  focus exact (show (false == Tryz.prog.liftsFinal) = true by rw [Ini.lifted]; rfl)
  focus exact (show (Tryz.prog.make == some Make.cut) = true by rw [Ini.make]; rfl)
  all_goals (as_aux_lemma => kernel_rfl)
theorem over : Rows.rtiEarlyRow.holds Tryz.pinned (OpenSpec.ofChange Rows.rtiEarlySpec) :=
  OpenClaim.holds_of_wide 13 Tryz.f13 rfl rfl rfl rfl rfl rfl rfl ⟨rfl, rfl, rfl, rfl, rfl⟩ rfl rfl rfl rfl rfl (by as_aux_lemma => kernel_rfl) Tryz.func13 closed
    (of_decide_eq_true (by kernel_rfl)) (by unfold Func.isWrapper; first | (rw [if_pos (by decide +kernel)]; kernel_rfl) | (rw [if_neg (by decide +kernel)]; exact ⟨rfl, rfl⟩))
    (fun os started H enc _ => lifted os started H enc)
theorem proved : Rows.RtiEarlySaid := over
end Go.Proofs.YtehnkebcbomidaaGreatDoor.rtiEarly
namespace Go.Proofs.YtehnkebcbomidaaGreatDoor
/-- The row, under a short name, for the claim. -/
theorem rtiEarly_holds : Rows.RtiEarlySaid := rtiEarly.proved
open Go in
/-- The tied card. -/
theorem rtiEarly_card : Rows.RtiEarlyCardSaid :=
  Claim7.holds_tied_plain_at .later [] [.data, .data, .data, .handle] true (true, "196aabbadef9ad1f27354956e05db2b461496aa279971771e7a47da487d874d9") true
    rtiEarly_holds (fun _ h => by cases h) (by as_aux_lemma => kernel_rfl) (fun _ h => by cases h) rtiEarly_row_tie rfl ⟨rfl, rfl⟩ Ini.mainIs rfl
    (fun f fn hf hfn => by
      obtain rfl : f = 13 := Option.some.inj ((show Tryz.prog.funcNamed "paceline/pacelinelaw20.RtiEarly" = some 13 by as_aux_lemma => kernel_rfl).symm.trans hf) |>.symm
      obtain rfl : fn = Tryz.f13 := (Option.some.inj (Tryz.func13.symm.trans hfn)).symm
      exact ⟨by as_aux_lemma => kernel_rfl, fun j t ht => by
        rw [Tryz.params13] at ht
        rcases j with _ | j
        · have e : t = 66 := by simpa using ht.symm
          subst e; exact (show Tryz.prog.wantsStandIn 66 = false by as_aux_lemma => kernel_rfl)
        simp at ht⟩)
    (by as_aux_lemma => kernel_rfl)
end Go.Proofs.YtehnkebcbomidaaGreatDoor
