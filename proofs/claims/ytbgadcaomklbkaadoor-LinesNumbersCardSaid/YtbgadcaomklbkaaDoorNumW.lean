/- lines: the walk of LinesNumbers. -/
import Derived.Test.YtbgadcaomklbkaaDoorNumQ
set_option linter.unusedVariables false
set_option linter.unusedSimpArgs false
namespace Go.Proofs.YtbgadcaomklbkaaDoor.As
open Go Go.RowKit Go.Lib Go.Proofs.YtbgadcaomklbkaaDoor.XLinesNumbers Go.Proofs.YtbgadcaomklbkaaDoorW.PrintWords
/-- what the library's variables must hold -/
structure EnvN (w : World) : Prop where
  tab : Lib.TabIs Tryd.prog w "internal/strconv.uint64pow10" .u64 Lib.pow10Tab
  v1 : ∃ v, w.cell? ⟨1, 0, none⟩ = some v ∧ (v = .nilIface ∨ ∃ te pe, v = .iface te pe)
  v2 : ∃ v, w.cell? ⟨2, 0, none⟩ = some v ∧ (v = .nilIface ∨ ∃ te pe, v = .iface te pe)
theorem EnvN.below {w w' : World} (h : EnvN w) (hb : Below w.heap.size w w') : EnvN w' := by
  obtain ⟨a, h1, a2⟩ := h.v1
  obtain ⟨b, h2, b2⟩ := h.v2
  exact ⟨tab_below hb h.tab, ⟨a, pw_cell_below hb h1, a2⟩, ⟨b, pw_cell_below hb h2, b2⟩⟩
theorem num_env (s : ByteArray) (hs : s.size ≤ 281474976710656) (w : World) (h : EnvN w) :
    Calls Tryd.prog 9 #[.string s] w fun x w' => x = .returned (.tuple #[.int .i64 (numOf s).1, .int .i64 (numOf s).2]) ∧ Below w.heap.size w w' := by
  obtain ⟨a, h1, a2⟩ := h.v1
  obtain ⟨b, h2, b2⟩ := h.v2
  exact num_calls s hs w h.tab a b h1 a2 h2 b2
set_option maxHeartbeats 400000 in
theorem int_env (n : Int) (h0 : -9223372036854775808 ≤ n) (h1 : n ≤ 9223372036854775807) (w : World) (h : EnvN w) :
    Calls Tryd.prog 11 #[.int .i64 n] w fun x w' => x = .returned (.string ⟨(itoa n).toArray⟩) ∧ Below w.heap.size w w' := by
  have HE := Lib.hid h
  clear h
  go_enter Tryd.func11, Tryd.ntmps11
  go_wp2_with (go_at_call 20; refine (Tryd.strconv_Itoa n h0 h1 _ HE.out.tab).mono ?_; rintro e w'' ⟨rfl, k, os, rfl⟩)
  go_ret
  exact ⟨rfl, below_grow' w k os (Nat.le_refl _)⟩
theorem itoa_inj {v n : Int} (h : itoa v = itoa n) : v = n := by
  unfold itoa at h
  obtain ⟨a1, a2, a3⟩ := dec_facts v.natAbs
  obtain ⟨b1, b2, b3⟩ := dec_facts n.natAbs
  obtain ⟨c1, c2, c3⟩ := dec_facts v.toNat
  obtain ⟨d1, d2, d3⟩ := dec_facts n.toNat
  have no : ∀ {l l' : List UInt8}, (∀ c ∈ l', isD c) → (45 : UInt8) :: l = l' → False := fun hd he => by
    subst he
    exact isD_ne (hd 45 List.mem_cons_self) rfl
  by_cases hv : v < 0
  · by_cases hn : n < 0
    · rw [if_pos hv, if_pos hn] at h
      injection h with _ h
      rw [h, b2] at a2
      omega
    · rw [if_pos hv, if_neg hn] at h
      exact absurd h (fun h => no d1 h)
  · by_cases hn : n < 0
    · rw [if_neg hv, if_pos hn] at h
      exact absurd h.symm (fun h => no c1 h)
    · rw [if_neg hv, if_neg hn] at h
      rw [h, d2] at c2
      omega
theorem itoa_len (n : Int) (h0 : -9223372036854775808 ≤ n) (h1 : n ≤ 9223372036854775807) : (itoa n).length ≤ 21 := by
  unfold itoa
  by_cases hn : n < 0
  · rw [if_pos hn]
    have := dec_len 19 n.natAbs (by omega)
    simp; omega
  · rw [if_neg hn]
    have := dec_len 19 n.toNat (by omega)
    omega
/-- what is read back of an integer's digits -/
theorem num_back (n : Int) : numOf ⟨(itoa n).toArray⟩ = if n < -1152921504606846976 ∨ 1152921504606846976 < n then (0, 20) else (n, 0) := by
  by_cases h : n < -1152921504606846976 ∨ 1152921504606846976 < n
  · rw [if_pos h]
    refine numOf_no _ ?_
    rintro ⟨v, a, b, e⟩
    have : itoa v = itoa n := by have := congrArg (fun x : ByteArray => x.data.toList) e; simpa using this
    have := itoa_inj this
    omega
  · rw [if_neg h]
    exact numOf_yes _ n (by omega) (by omega) rfl
set_option maxHeartbeats 2000000 in
theorem numbers_walk (n : Int) (s : ByteArray) (w : World) (h0 : -9223372036854775808 ≤ n) (h1 : n ≤ 9223372036854775807) (h : EnvN w) :
    Calls Tryd.prog 3 #[.int .i64 n, .string s] w fun x w' => x = .returned (.bool true) ∧ Below w.heap.size w w' := by
  by_cases hs : s.size ≤ 1024
  · have hd0 : decide (1024 < s.size) = false := decide_eq_false (by omega)
    have hd0' : decide ((1024 : Int) < (s.size : Int)) = false := decide_eq_false (by omega)
    obtain ⟨k, hk⟩ := num_ref s (by omega)
    obtain ⟨⟨a, b⟩, hab⟩ : ∃ p : Int × Int, p = numOf s := ⟨_, rfl⟩
    have hnum : ∀ w, EnvN w → Calls Tryd.prog 9 #[.string s] w fun x w' => x = .returned (.tuple #[.int .i64 a, .int .i64 b]) ∧ Below w.heap.size w w' := fun w hw => by
      have := num_env s (by omega) w hw
      rw [← hab] at this; exact this
    have href : ∀ w, Calls Tryd.prog 10 #[.string s] w fun x w' => x = .returned (.tuple #[.int .i64 a, .int .i64 b]) ∧ Drawn0 w w' := fun w => pacelineref02_Num.calls k s a b w (by rw [hk, hab])
    obtain ⟨t, ht⟩ : ∃ t : ByteArray, t = ⟨(itoa n).toArray⟩ := ⟨_, rfl⟩
    have hint : ∀ w, EnvN w → Calls Tryd.prog 11 #[.int .i64 n] w fun x w' => x = .returned (.string t) ∧ Below w.heap.size w w' := fun w hw => by rw [ht]; exact int_env n h0 h1 w hw
    have hrint : ∀ w, Calls Tryd.prog 12 #[.int .i64 n] w fun x w' => x = .returned (.string t) ∧ Drawn0 w w' := fun w => pacelineref02_Int.calls 22 n t w (by rw [int_ref n h0 h1 22 (by omega), ht])
    have hts : t.size ≤ 281474976710656 := by rw [ht, ba_size]; have := itoa_len n h0 h1; omega
    have HE := Lib.hid h
    have HN := Lib.hid hnum
    have HR := Lib.hid href
    have HI := Lib.hid hint
    have HJ := Lib.hid hrint
    by_cases hc : n < -1152921504606846976 ∨ 1152921504606846976 < n
    · have hback : ∀ w, EnvN w → Calls Tryd.prog 9 #[.string t] w fun x w' => x = .returned (.tuple #[.int .i64 0, .int .i64 20]) ∧ Below w.heap.size w w' := fun w hw => by
        have := num_env t hts w hw
        rw [ht, num_back, if_pos hc, ← ht] at this; exact this
      have HB := Lib.hid hback
      clear hback hnum href hint hrint h hk hab ht
      rcases hc with hc | hc
      all_goals
        go_enter Tryd.func3, Tryd.ntmps3
        go_wp2_with fail
        refine (HN.out _ HE.out).mono ?_
        rintro e w1 ⟨rfl, hb1⟩
        go_wp2_with fail
        refine (HR.out _).mono ?_
        rintro e w2 ⟨rfl, n2, rfl⟩
        have HE2 := Lib.hid ((HE.out.below hb1).below (pw_below_drewN (Below.refl _ _) n2))
        have hb2 := pw_below_drewN hb1 n2
        go_wp2_with fail
        refine (HI.out _ HE2.out).mono ?_
        rintro e w3 ⟨rfl, hb3⟩
        have hb3' := hb2.trans (hb3.mono hb2.size)
        go_wp2_with fail
        refine (HB.out _ (HE2.out.below hb3)).mono ?_
        rintro e w4 ⟨rfl, hb4⟩
        have hb4' := hb3'.trans (hb4.mono hb3'.size)
        go_wp2_with fail
        refine (HJ.out _).mono ?_
        rintro e w5 ⟨rfl, n5, rfl⟩
        go_wp2_with fail
        go_ret
        exact ⟨rfl, pw_below_drewN hb4' n5⟩
    · have hback : ∀ w, EnvN w → Calls Tryd.prog 9 #[.string t] w fun x w' => x = .returned (.tuple #[.int .i64 n, .int .i64 0]) ∧ Below w.heap.size w w' := fun w hw => by
        have := num_env t hts w hw
        rw [ht, num_back, if_neg hc, ← ht] at this; exact this
      have HB := Lib.hid hback
      have e1 : decide (n < -1152921504606846976) = false := decide_eq_false (fun h => hc (.inl h))
      have e2 : decide (1152921504606846976 < n) = false := decide_eq_false (fun h => hc (.inr h))
      clear hback hnum href hint hrint h hk hab ht hc
      go_enter Tryd.func3, Tryd.ntmps3
      go_wp2_with fail
      refine (HN.out _ HE.out).mono ?_
      rintro e w1 ⟨rfl, hb1⟩
      go_wp2_with fail
      refine (HR.out _).mono ?_
      rintro e w2 ⟨rfl, n2, rfl⟩
      have HE2 := Lib.hid ((HE.out.below hb1).below (pw_below_drewN (Below.refl _ _) n2))
      have hb2 := pw_below_drewN hb1 n2
      go_wp2_with fail
      refine (HI.out _ HE2.out).mono ?_
      rintro e w3 ⟨rfl, hb3⟩
      have hb3' := hb2.trans (hb3.mono hb2.size)
      go_wp2_with fail
      refine (HB.out _ (HE2.out.below hb3)).mono ?_
      rintro e w4 ⟨rfl, hb4⟩
      have hb4' := hb3'.trans (hb4.mono hb3'.size)
      go_wp2_with fail
      refine (HJ.out _).mono ?_
      rintro e w5 ⟨rfl, n5, rfl⟩
      go_wp2_with fail
      go_ret
      exact ⟨rfl, pw_below_drewN hb4' n5⟩
  · have hd0 : decide (1024 < s.size) = true := decide_eq_true (by omega)
    have hd0' : decide ((1024 : Int) < (s.size : Int)) = true := decide_eq_true (by omega)
    clear h
    go_enter Tryd.func3, Tryd.ntmps3
    go_wp2_with fail
    go_ret
    exact ⟨rfl, Below.refl _ _⟩
end Go.Proofs.YtbgadcaomklbkaaDoor.As
