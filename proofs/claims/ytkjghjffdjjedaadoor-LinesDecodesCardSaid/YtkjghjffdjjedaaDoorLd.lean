/- LinesDecodes: the walk. -/
import Derived.Test.YtkjghjffdjjedaaDoorWrap
set_option linter.unusedVariables false
set_option linter.unusedSimpArgs false
namespace Go.Proofs.YtkjghjffdjjedaaDoor.Enc
open Go Go.RowKit Go.Lib Go.Proofs Go.Proofs.YtkjghjffdjjedaaDoorW.PrintWords Go.Proofs.YtkjghjffdjjedaaDoorW.PrintLast
set_option maxHeartbeats 4000000 in
set_option maxRecDepth 100000 in
theorem decodes_walk (s : ByteArray) (w : World) (hs : s.size ≤ 140737488351232) (hE : EnvD w) : Calls Tryd.prog 5 #[.string s] w fun e w' => e = .returned (.bool true) ∧ Below w.heap.size w w' := by
  have hu22 := Tryd.underlying22
  have hu9 := Tryd.underlying9
  by_cases hbig : s.size ≤ 2048
  · have hd1 := dec_call s w (by omega) hE
    have hd2 := fun w' => ref_call s w' (by omega)
    have hen : (decF s).2.2 = 0 → encF (decF s).1 = (s, 0) := fun h => (enc_dec h).1
    have hbd := fun h => dec_bad (s := s) h
    obtain ⟨a, nn, ee, hdf⟩ : ∃ a nn ee, decF s = (a, nn, ee) := ⟨_, _, _, rfl⟩
    rw [hdf] at hd1 hen hbd
    simp only [hdf] at hd2
    simp only at hd1 hen hbd
    have hle : (ee = 0 → encF a = (s, 0)) ∧ (ee ≠ 0 → encF a = (⟨#[]⟩, 0)) ∧ (allE a a.length).length ≤ 140737488355328 ∧ a.length ≤ 2048 ∧ ∀ r ∈ a, r.length ≤ 2048 := by
      by_cases h0 : ee = 0
      · have h1 := hen h0
        obtain ⟨e1, e2, e3⟩ := enc_size h1
        exact ⟨fun _ => h1, fun h => absurd h0 h, by omega, by omega, fun r hr => Nat.le_trans (e3 r hr) hbig⟩
      · obtain ⟨h1, h2⟩ := hbd h0
        subst h1
        exact ⟨fun h => absurd h h0, fun _ => rfl, by simp [allE], by simp, fun r hr => by cases hr⟩
    obtain ⟨q1, q2, q3, q4, q5⟩ := hle
    obtain ⟨tx, tg, hte⟩ : ∃ tx tg, encF a = (tx, tg) := ⟨_, _, rfl⟩
    rw [hte] at q1 q2
    have HD2 := Lib.hid hd2
    have HEN := Lib.hid hen
    have HBD := Lib.hid hbd
    have HDF := Lib.hid hdf
    have Q1 := Lib.hid q1
    have Q2 := Lib.hid q2
    have Q3 := Lib.hid q3
    have Q4 := Lib.hid q4
    have Q5 := Lib.hid q5
    have HE := Lib.hid hE
    have HTE := Lib.hid hte
    have HD1 := Lib.hid hd1
    clear hd2 hen hbd hdf q1 q2 q3 q4 q5 hE hte hd1
    go_enter Tryd.func5, Tryd.ntmps5
    go_wp2_with (go_at_call 16; refine HD1.out.mono ?_)
    rintro e w1 ⟨v1, rfl, hv1, hb1⟩
    have HV1 := Lib.hid hv1
    have HB1 := Lib.hid hb1
    clear hv1 hb1
    go_wp2_with (go_at_call 18; refine (HD2.out _).mono ?_)
    rintro e w2 ⟨v2, rfl, hv2, hb2⟩
    have hb2' := HB1.out.trans (hb2.mono HB1.out.size)
    have hv12 := HV1.out.below hb2
    have hsm := same_call a v1 v2 w2 hv12 hv2 (fun r hr => Nat.lt_of_le_of_lt (Q5.out r hr) (by decide)) (Nat.lt_of_le_of_lt Q4.out (by decide))
    have HV2 := Lib.hid hv2
    have HB2 := Lib.hid hb2
    have HB2W := Lib.hid hb2'
    have HV12 := Lib.hid hv12
    have HSM := Lib.hid hsm
    clear hv2 hb2 hb2' hv12 hsm
    go_wp2_with (go_at_call 17; refine HSM.out.mono ?_)
    rintro e w3 ⟨rfl, hdr⟩
    have hb3 := hdr.below
    have hv13 := HV12.out.below hb3
    have hb3' := HB2W.out.trans (hb3.mono HB2W.out.size)
    have hen3 := enc_call a v1 w3 hv13 Q3.out (Nat.le_trans Q4.out (by decide))
    rw [HTE.out] at hen3
    have HDR := Lib.hid hdr
    have HB3 := Lib.hid hb3
    have HV13 := Lib.hid hv13
    have HB3W := Lib.hid hb3'
    have HEN3 := Lib.hid hen3
    clear hdr hb3 hv13 hb3' hen3
    go_wp2_with (go_at_call 14; refine HEN3.out.mono ?_)
    rintro e w4 ⟨rfl, hb4⟩
    have hb4' := HB3W.out.trans (hb4.mono HB3W.out.size)
    have HB4 := Lib.hid hb4
    have HB4W := Lib.hid hb4'
    clear hb4 hb4'
    by_cases h0 : ee = 0
    · have q := Q1.out h0
      have hx : tx = s := (Prod.mk.inj q).1
      have hg : tg = 0 := (Prod.mk.inj q).2
      subst hx hg h0
      clear q
      go_wp2_with fail
      go_ret
      exact ⟨rfl, HB4W.out⟩
    · go_wp2_with fail
      go_ret
      exact ⟨rfl, HB4W.out⟩
  · go_enter Tryd.func5, Tryd.ntmps5
    go_wp2_with fail
    go_ret
    exact ⟨rfl, Below.refl _ _⟩
end Go.Proofs.YtkjghjffdjjedaaDoor.Enc
