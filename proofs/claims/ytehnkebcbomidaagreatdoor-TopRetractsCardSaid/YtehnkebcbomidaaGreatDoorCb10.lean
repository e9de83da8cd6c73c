/- Part of a proof over the given program: Qu, Qv, Qp. -/
import Derived.Test.YtehnkebcbomidaaGreatDoorCb09
set_option linter.unusedVariables false
set_option linter.unusedSimpArgs false
namespace Go.Proofs.YtehnkebcbomidaaGreatDoor.Rt
open Go Go.RowKit Go.Proofs Go.Proofs.YtehnkebcbomidaaGreatDoorW.PrintWords Go.Proofs.YtehnkebcbomidaaGreatDoorW.PrintLast
theorem K_at {L : List Mg} {i : Nat} (h : i < L.length) : K L i = L[i].k := by unfold K; simp [List.getD_eq_getElem?_getD, List.getElem?_eq_getElem h]
theorem less_any (w : World) (q b : Nat) (v : Value) (L : List Mg) (h : QAt w q b v L) (x y : Int) (i k : Nat) (hx : x = i) (hy : y = k) (hi : i < L.length) (hk : k < L.length) (r : Bool) (hr : decide ((K L i).lt (K L k)) = r) :
    Calls Tryz.prog 327 #[.agg #[.pointer (some ⟨q, 0, none⟩)], .int .i64 x, .int .i64 y] w fun e w' => e = .returned (.bool r) ∧ Below w.heap.size w w' := by
  subst hx hy
  refine (fless_call w q b v L h i k hi hk).mono ?_
  rintro e w' ⟨h1, h2⟩
  rw [← K_at hi, ← K_at hk, hr] at h1
  exact ⟨h1, h2⟩
theorem swap_any (w : World) (q b : Nat) (v : Value) (L : List Mg) (h : QAt w q b v L) (x y : Int) (i k : Nat) (hx : x = i) (hy : y = k) (hi : i < L.length) (hk : k < L.length) :
    Calls Tryz.prog 330 #[.agg #[.pointer (some ⟨q, 0, none⟩)], .int .i64 x, .int .i64 y] w (SwapPost w q b v L i k) := by
  subst hx hy
  exact fswap_call w q b v L h i k hi hk
def UpPost (w : World) (q b : Nat) (v : Value) (L : List Mg) (e : Ending) (w' : World) : Prop := e = .returned (.tuple #[]) ∧ QAt w' q b v L ∧ Tch (QFp q b v) w w'
structure UpRel (w : World) (q b : Nat) (v : Value) (R : List Mg) (N : Nat) (jv : Value) (wr : World) (m : Nat) (L : List Mg) (j : Nat) : Prop where
  jv : jv = .int .i64 (j : Nat)
  fuel : j < m
  r : R = upF m L j
  len : L.length = N
  jl : j < N
  at_ : QAt wr q b v L
  tch : Tch (QFp q b v) w wr
set_option maxHeartbeats 16000000 in
set_option maxRecDepth 1000000 in
theorem up_call (w : World) (q b : Nat) (v : Value) (L : List Mg) (h : QAt w q b v L) (j : Nat) (hj : j < L.length) :
    Calls Tryz.prog 204 #[.iface 200 (fac q), .int .i64 j] w (UpPost w q b v (upF (j + 1) L j)) := by
  have h0 : ∃ m L' j', UpRel w q b v (upF (j + 1) L j) L.length (.int .i64 j) w m L' j' := ⟨j + 1, L, j, rfl, by omega, rfl, rfl, hj, h, Tch.refl _ _⟩
  have hlen := h.len
  have H0 := Lib.hid h0
  generalize hR : upF (j + 1) L j = R at *
  have hN : ∃ N, N = L.length := ⟨_, rfl⟩
  obtain ⟨N, hN⟩ := hN
  rw [← hN] at H0 hlen
  clear h h0 hR hj hN
  unfold fac
  go_enter Tryz.func204, Tryz.ntmps204
  go_wp2
  go_loopw [1] (fun i wr => ∃ m L' j', UpRel w q b v R N i wr m L' j') (fun i _ => (intOf i).toNat)
  case atStart => exact H0.out
  case round =>
    obtain ⟨m, L', j', hr⟩ := hrel
    obtain ⟨m', rfl⟩ : ∃ m', m = m' + 1 := ⟨m - 1, by have := hr.fuel; omega⟩
    obtain rfl := hr.jv
    have hjl := hr.jl
    have hl := hr.len
    have hR := hr.r
    have hq := hr.at_
    unfold upF at hR
    by_cases c : j' = 0
    · subst c
      rw [if_pos rfl] at hR
      subst hR
      have HR := Lib.hid hr
      clear hr hq hl
      go_wp2
      go_end0
      exact ⟨rfl, HR.out.at_, HR.out.tch⟩
    · obtain ⟨k, rfl⟩ : ∃ k, j' = k + 1 := ⟨j' - 1, by omega⟩
      rw [if_neg c, show (k + 1 - 1) / 2 = k / 2 by omega] at hR
      clear c
      have hk0 : (0 : Int) ≤ (k : Int) := by omega
      have hk1 : (k : Int) ≤ 1000 := by omega
      have hk2 : ¬ (k : Int) / 2 = (k : Int) + 1 := by omega
      have HQ := Lib.hid hq
      have HLN := Lib.hid hl
      have HRR := Lib.hid hr
      have HR2 := Lib.hid hR
      have HK := Lib.hid hjl
      clear hq hl hr hR hjl
      by_cases d : (K L' (k + 1)).lt (K L' (k / 2))
      · have hd : decide ((K L' (k + 1)).lt (K L' (k / 2))) = true := decide_eq_true d
        have HD := Lib.hid hd
        clear hd d
        go_wp2_with (go_at_call 327; (with_reducible refine (less_any _ q b v L' HQ.out _ _ (k + 1) (k / 2) (by omega) (by omega) (by have := HLN.out; have := HK.out; omega) (by have := HLN.out; have := HK.out; omega) true HD.out).mono ?_); rintro e w1 ⟨rfl, hb1⟩)
        have HB := Lib.hid hb1
        clear hb1
        go_wp2_with (go_at_call 330; (with_reducible refine (swap_any _ q b v L' (HQ.out.below HB.out) _ _ (k / 2) (k + 1) (by omega) (by omega) (by have := HLN.out; have := HK.out; omega) (by have := HLN.out; have := HK.out; omega)).mono ?_); rintro e w2 ⟨rfl, hq2, ht2⟩)
        have HQ2 := Lib.hid hq2
        have HT2 := Lib.hid ht2
        clear hq2 ht2
        have hrel : UpRel w q b v R N (.int .i64 ((k : Int) / 2)) w2 m' (sw L' (k / 2) (k + 1)) (k / 2) := by
          have hr2 := HR2.out
          have hdd := of_decide_eq_true HD.out
          rw [if_pos hdd] at hr2
          exact ⟨by rw [show ((k : Int) / 2) = ((k / 2 : Nat) : Int) by omega], by have := HRR.out.fuel; omega, hr2, by rw [sw_length]; exact HLN.out, by have := HK.out; omega, HQ2.out, (HRR.out.tch.trans (Tch.of_below (P := fun _ => False) HB.out) (fun _ _ e => e.elim)).trans HT2.out (fun _ _ e => e)⟩
        exact ⟨⟨_, _, _, hrel⟩, by simp [intOf]; omega⟩
      · have hd : decide ((K L' (k + 1)).lt (K L' (k / 2))) = false := decide_eq_false d
        have HD := Lib.hid hd
        have HDN := Lib.hid d
        clear hd d
        go_wp2_with (go_at_call 327; (with_reducible refine (less_any _ q b v L' HQ.out _ _ (k + 1) (k / 2) (by omega) (by omega) (by have := HLN.out; have := HK.out; omega) (by have := HLN.out; have := HK.out; omega) false HD.out).mono ?_); rintro e w1 ⟨rfl, hb1⟩)
        go_end0
        have hr2 := HR2.out
        rw [if_neg HDN.out] at hr2
        subst hr2
        exact ⟨rfl, HQ.out.below hb1, HRR.out.tch.trans (Tch.of_below (P := fun _ => False) hb1) (fun _ _ e => e.elim)⟩
def DnPost (w : World) (q b : Nat) (v : Value) (i : Nat) (R : List Mg × Nat) (e : Ending) (w' : World) : Prop := e = .returned (.bool (decide (R.2 > i))) ∧ QAt w' q b v R.1 ∧ Tch (QFp q b v) w w'
structure DnRel (w : World) (q b : Nat) (v : Value) (n : Nat) (R : List Mg × Nat) (N : Nat) (iv : Value) (wr : World) (m : Nat) (L : List Mg) (i : Nat) : Prop where
  iv : iv = .int .i64 (i : Nat)
  fuel : n ≤ m + i
  r : R = downF n m L i
  len : L.length = N
  il : i ≤ N
  at_ : QAt wr q b v L
  tch : Tch (QFp q b v) w wr
theorem downF_stop (n m : Nat) (L : List Mg) (i : Nat) (h : n ≤ 2 * i + 1) : downF n m L i = (L, i) := by
  cases m with
  | zero => rfl
  | succ m => rw [downF, if_pos h]
theorem ret_bool {a b : Bool} (h : a = b) : Ending.returned (.bool a) = .returned (.bool b) := by rw [h]
set_option maxHeartbeats 16000000 in
set_option maxRecDepth 1000000 in
theorem down_call (w : World) (q b : Nat) (v : Value) (L : List Mg) (h : QAt w q b v L) (i n : Nat) (hi : i ≤ n) (hn : n ≤ L.length) :
    Calls Tryz.prog 211 #[.iface 200 (fac q), .int .i64 i, .int .i64 n] w (DnPost w q b v i (downF n n L i)) := by
  have h0 : ∃ m L' i', DnRel w q b v n (downF n n L i) L.length (.int .i64 i) w m L' i' := ⟨n, L, i, rfl, by omega, rfl, rfl, by omega, h, Tch.refl _ _⟩
  have hlen := h.len
  have H0 := Lib.hid h0
  generalize hR : downF n n L i = R at *
  have hN : ∃ N, N = L.length := ⟨_, rfl⟩
  obtain ⟨N, hN⟩ := hN
  rw [← hN] at H0 hlen hn
  clear h h0 hR hN
  unfold fac
  go_enter Tryz.func211, Tryz.ntmps211
  go_wp2
  go_loopw [7] (fun x wr => ∃ m L' i', DnRel w q b v n R N x wr m L' i') (fun x _ => 100 - (intOf x).toNat)
  case atStart => exact H0.out
  case round =>
    obtain ⟨m, L', i', hr⟩ := hrel
    obtain rfl := hr.iv
    have hil := hr.il
    have hl := hr.len
    have hR := hr.r
    have hq := hr.at_
    have hf := hr.fuel
    have hk0 : (0 : Int) ≤ (i' : Int) := by omega
    have hk1 : (i' : Int) ≤ 64 := by omega
    have HQ := Lib.hid hq
    have HLN := Lib.hid hl
    have HRR := Lib.hid hr
    clear hq hl hr
    by_cases c : n ≤ 2 * i' + 1
    · rw [downF_stop n m L' i' c] at hR
      have HR2 := Lib.hid hR
      clear hR
      have c1 : (n : Int) ≤ 2 * (i' : Int) + 1 := by omega
      clear c
      go_wp2
      go_ret
      have hr2 := HR2.out
      refine ⟨?_, ?_, HRR.out.tch⟩
      · rw [hr2]
        exact ret_bool (decide_eq_decide.2 (by show _ ↔ i' > i; omega))
      · rw [hr2]; exact HQ.out
    · obtain ⟨m', rfl⟩ : ∃ m', m = m' + 1 := ⟨m - 1, by omega⟩
      rw [downF, if_neg c] at hR
      have c1 : ¬ (n : Int) ≤ 2 * (i' : Int) + 1 := by omega
      have c2 : ¬ 2 * (i' : Int) + 1 < 0 := by omega
      obtain ⟨s1, s2, s3⟩ := child_spec L' n i' (by omega)
      have hin : i' < n := by omega
      have HC := Lib.hid c
      have HS1 := Lib.hid s1
      have HS2 := Lib.hid s2
      have HIN := Lib.hid hin
      have HR2 := Lib.hid hR
      clear c s1 s2 s3 hR hin hf
      have hways : (∃ r : Bool, 2 * i' + 2 < n ∧ decide ((K L' (2 * i' + 2)).lt (K L' (2 * i' + 1))) = r ∧ (r = true → childF L' n i' = 2 * i' + 2) ∧ (r = false → childF L' n i' = 2 * i' + 1)) ∨ (¬ 2 * i' + 2 < n ∧ childF L' n i' = 2 * i' + 1) := by
        by_cases d : 2 * i' + 2 < n
        · by_cases e : (K L' (2 * i' + 2)).lt (K L' (2 * i' + 1))
          · exact .inl ⟨true, d, decide_eq_true e, fun _ => by unfold childF; rw [if_pos ⟨d, e⟩], fun e => by cases e⟩
          · exact .inl ⟨false, d, decide_eq_false e, (fun e => by cases e), fun _ => by unfold childF; rw [if_neg (fun k => e k.2)]⟩
        · exact .inr ⟨d, by unfold childF; rw [if_neg (fun k => d k.1)]⟩
      have hlast : ∃ z : Bool, decide ((K L' (childF L' n i')).lt (K L' i')) = z := ⟨_, rfl⟩
      obtain ⟨z, hz⟩ := hlast
      have HZ := Lib.hid hz
      clear hz
      -- behind the child: the exchange, or the end
      have fin : ∀ (w2 : World) (x : Int), z = true → x = ((childF L' n i' : Nat) : Int) → QAt w2 q b v (sw L' i' (childF L' n i')) → Tch (QFp q b v) wr w2 → DnRel w q b v n R N (.int .i64 x) w2 m' (sw L' i' (childF L' n i')) (childF L' n i') := fun w2 x hz hx hq2 ht2 => by
        have hr2 := HR2.out
        have hz2 := HZ.out
        rw [hz] at hz2
        rw [if_pos (of_decide_eq_true hz2)] at hr2
        subst hx
        have := HS1.out
        have := HS2.out
        exact ⟨rfl, by have := HRR.out.fuel; omega, hr2, by rw [sw_length]; exact HLN.out, by omega, hq2, HRR.out.tch.trans ht2 (fun _ _ e => e)⟩
      have stop : z = false → R = (L', i') := fun hz => by
        have hr2 := HR2.out
        have hz2 := HZ.out
        rw [hz] at hz2
        rw [if_neg (of_decide_eq_false hz2)] at hr2
        exact hr2
      have FIN := Lib.hid fin
      have STOP := Lib.hid stop
      clear fin stop
      rcases hways with ⟨r, d, hr, hch1, hch2⟩ | ⟨d, hch⟩
      · have d1 : 2 * (i' : Int) + 1 + 1 < (n : Int) := by omega
        have HD := Lib.hid d
        have HR3 := Lib.hid hr
        clear d hr
        cases r with
        | true =>
          have HCH := Lib.hid (hch1 rfl)
          clear hch1 hch2
          cases z with
          | true =>
            go_wp2_with (go_at_call 327; (with_reducible refine (less_any _ q b v L' HQ.out _ _ (2 * i' + 2) (2 * i' + 1) (by omega) (by omega) (by have := HLN.out; have := HD.out; omega) (by have := HLN.out; have := HD.out; omega) true HR3.out).mono ?_); rintro e w1 ⟨rfl, hb1⟩)
            have HB := Lib.hid hb1
            clear hb1
            go_wp2_with (go_at_call 327; (with_reducible refine (less_any _ q b v L' (HQ.out.below HB.out) _ _ (2 * i' + 2) i' (by omega) (by omega) (by have := HLN.out; have := HD.out; omega) (by have := HLN.out; have := HIN.out; omega) true (by have := HZ.out; rwa [HCH.out] at this)).mono ?_); rintro e w2 ⟨rfl, hb2⟩)
            have HB2 := Lib.hid hb2
            clear hb2
            go_wp2_with (go_at_call 330; (with_reducible refine (swap_any _ q b v L' ((HQ.out.below HB.out).below HB2.out) _ _ i' (2 * i' + 2) (by omega) (by omega) (by have := HLN.out; have := HIN.out; omega) (by have := HLN.out; have := HD.out; omega)).mono ?_); rintro e w3 ⟨rfl, hq3, ht3⟩)
            have hrel := FIN.out w3 (2 * (i' : Int) + 1 + 1) (by simp) (by rw [HCH.out]; simp; omega) (by rw [HCH.out]; exact hq3) (((Tch.of_below HB.out).trans (Tch.of_below (P := QFp q b v) HB2.out) (fun _ _ e => e)).trans ht3 (fun _ _ e => e))
            exact ⟨⟨_, _, _, hrel⟩, by have := HD.out; simp [intOf]; omega⟩
          | false =>
            go_wp2_with (go_at_call 327; (with_reducible refine (less_any _ q b v L' HQ.out _ _ (2 * i' + 2) (2 * i' + 1) (by omega) (by omega) (by have := HLN.out; have := HD.out; omega) (by have := HLN.out; have := HD.out; omega) true HR3.out).mono ?_); rintro e w1 ⟨rfl, hb1⟩)
            have HB := Lib.hid hb1
            clear hb1
            go_wp2_with (go_at_call 327; (with_reducible refine (less_any _ q b v L' (HQ.out.below HB.out) _ _ (2 * i' + 2) i' (by omega) (by omega) (by have := HLN.out; have := HD.out; omega) (by have := HLN.out; have := HIN.out; omega) false (by have := HZ.out; rwa [HCH.out] at this)).mono ?_); rintro e w2 ⟨rfl, hb2⟩)
            go_ret
            have hr2 := STOP.out (by simp)
            refine ⟨?_, ?_, (HRR.out.tch.trans (Tch.of_below HB.out) (fun _ _ e => e)).trans (Tch.of_below (P := QFp q b v) hb2) (fun _ _ e => e)⟩
            · rw [hr2]
              exact ret_bool (decide_eq_decide.2 (by show _ ↔ i' > i; omega))
            · rw [hr2]; exact (HQ.out.below HB.out).below hb2
        | false =>
          have HCH := Lib.hid (hch2 rfl)
          clear hch1 hch2
          cases z with
          | true =>
            go_wp2_with (go_at_call 327; (with_reducible refine (less_any _ q b v L' HQ.out _ _ (2 * i' + 2) (2 * i' + 1) (by omega) (by omega) (by have := HLN.out; have := HD.out; omega) (by have := HLN.out; have := HD.out; omega) false HR3.out).mono ?_); rintro e w1 ⟨rfl, hb1⟩)
            have HB := Lib.hid hb1
            clear hb1
            go_wp2_with (go_at_call 327; (with_reducible refine (less_any _ q b v L' (HQ.out.below HB.out) _ _ (2 * i' + 1) i' (by omega) (by omega) (by have := HLN.out; have := HD.out; omega) (by have := HLN.out; have := HIN.out; omega) true (by have := HZ.out; rwa [HCH.out] at this)).mono ?_); rintro e w2 ⟨rfl, hb2⟩)
            have HB2 := Lib.hid hb2
            clear hb2
            go_wp2_with (go_at_call 330; (with_reducible refine (swap_any _ q b v L' ((HQ.out.below HB.out).below HB2.out) _ _ i' (2 * i' + 1) (by omega) (by omega) (by have := HLN.out; have := HIN.out; omega) (by have := HLN.out; have := HD.out; omega)).mono ?_); rintro e w3 ⟨rfl, hq3, ht3⟩)
            have hrel := FIN.out w3 (2 * (i' : Int) + 1) (by simp) (by rw [HCH.out]; simp) (by rw [HCH.out]; exact hq3) (((Tch.of_below HB.out).trans (Tch.of_below (P := QFp q b v) HB2.out) (fun _ _ e => e)).trans ht3 (fun _ _ e => e))
            exact ⟨⟨_, _, _, hrel⟩, by have := HD.out; simp [intOf]; omega⟩
          | false =>
            go_wp2_with (go_at_call 327; (with_reducible refine (less_any _ q b v L' HQ.out _ _ (2 * i' + 2) (2 * i' + 1) (by omega) (by omega) (by have := HLN.out; have := HD.out; omega) (by have := HLN.out; have := HD.out; omega) false HR3.out).mono ?_); rintro e w1 ⟨rfl, hb1⟩)
            have HB := Lib.hid hb1
            clear hb1
            go_wp2_with (go_at_call 327; (with_reducible refine (less_any _ q b v L' (HQ.out.below HB.out) _ _ (2 * i' + 1) i' (by omega) (by omega) (by have := HLN.out; have := HD.out; omega) (by have := HLN.out; have := HIN.out; omega) false (by have := HZ.out; rwa [HCH.out] at this)).mono ?_); rintro e w2 ⟨rfl, hb2⟩)
            go_ret
            have hr2 := STOP.out (by simp)
            refine ⟨?_, ?_, (HRR.out.tch.trans (Tch.of_below HB.out) (fun _ _ e => e)).trans (Tch.of_below (P := QFp q b v) hb2) (fun _ _ e => e)⟩
            · rw [hr2]
              exact ret_bool (decide_eq_decide.2 (by show _ ↔ i' > i; omega))
            · rw [hr2]; exact (HQ.out.below HB.out).below hb2
      · have d1 : ¬ 2 * (i' : Int) + 1 + 1 < (n : Int) := by omega
        have HD := Lib.hid d
        have HCH := Lib.hid hch
        clear d hch
        cases z with
        | true =>
          go_wp2_with (go_at_call 327; (with_reducible refine (less_any _ q b v L' HQ.out _ _ (2 * i' + 1) i' (by omega) (by omega) (by have := HLN.out; have := HC.out; omega) (by have := HLN.out; have := HIN.out; omega) true (by have := HZ.out; rwa [HCH.out] at this)).mono ?_); rintro e w2 ⟨rfl, hb2⟩)
          have HB2 := Lib.hid hb2
          clear hb2
          go_wp2_with (go_at_call 330; (with_reducible refine (swap_any _ q b v L' (HQ.out.below HB2.out) _ _ i' (2 * i' + 1) (by omega) (by omega) (by have := HLN.out; have := HIN.out; omega) (by have := HLN.out; have := HC.out; omega)).mono ?_); rintro e w3 ⟨rfl, hq3, ht3⟩)
          have hrel := FIN.out w3 (2 * (i' : Int) + 1) (by simp) (by rw [HCH.out]; simp) (by rw [HCH.out]; exact hq3) ((Tch.of_below HB2.out).trans ht3 (fun _ _ e => e))
          exact ⟨⟨_, _, _, hrel⟩, by have := HC.out; simp [intOf]; omega⟩
        | false =>
          go_wp2_with (go_at_call 327; (with_reducible refine (less_any _ q b v L' HQ.out _ _ (2 * i' + 1) i' (by omega) (by omega) (by have := HLN.out; have := HC.out; omega) (by have := HLN.out; have := HIN.out; omega) false (by have := HZ.out; rwa [HCH.out] at this)).mono ?_); rintro e w2 ⟨rfl, hb2⟩)
          go_ret
          have hr2 := STOP.out (by simp)
          refine ⟨?_, ?_, HRR.out.tch.trans (Tch.of_below (P := QFp q b v) hb2) (fun _ _ e => e)⟩
          · rw [hr2]
            exact ret_bool (decide_eq_decide.2 (by show _ ↔ i' > i; omega))
          · rw [hr2]; exact HQ.out.below hb2
def FPopPost (w : World) (q b : Nat) (v : Value) (L : List Mg) (m : Mg) (e : Ending) (w' : World) : Prop := ∃ v', e = .returned (.iface 41 m.val) ∧ QAt w' q b v' L ∧ v'.ownBlock = v.ownBlock ∧ Tch (QFp q b v) w w'
set_option maxHeartbeats 16000000 in
set_option maxRecDepth 1000000 in
theorem fpop_call (w : World) (q b : Nat) (v : Value) (L : List Mg) (m : Mg) (h : QAt w q b v (L ++ [m])) :
    Calls Tryz.prog 328 #[fac q] w (FPopPost w q b v L m) := by
  have hu192 := Tryz.underlying192
  have hu200 := Tryz.underlying200
  have hu29 := Tryz.underlying29
  have hu41 := Tryz.underlying41
  have hu39 := Tryz.underlying39
  have hu190 := Tryz.underlying190
  have hll : (L ++ [m]).length = L.length + 1 := by simp
  obtain ⟨c0, c1, c2⟩ := h.cells
  obtain ⟨g, c, rfl, hc, hat⟩ := h.at (i := L.length) (by omega)
  have hql := World.block_lt_of_cell? w _ c1
  have hq0 := h.free 1
  have hlen := h.len
  have hm := hat L.length (by omega)
  simp only [List.getElem_append_right (Nat.le_refl _), Nat.sub_self, List.getElem_cons_zero] at hm
  have m0 := hm 0 (by decide)
  have m1 := hm 1 (by decide)
  have m2 := hm 2 (by decide)
  have m3 := hm 3 (by decide)
  have m4 := hm 4 (by decide)
  have m5 := hm 5 (by decide)
  simp only [Mg.cells, List.getElem?_cons_zero, List.getElem?_cons_succ, Nat.add_zero] at m0 m1 m2 m3 m4 m5
  rw [hll] at c1 hc hlen
  have hgl := World.block_lt_of_cell? w _ m0
  have HQ := Lib.hid h
  clear h hat hm
  unfold fac
  go_enter Tryz.func328, Tryz.ntmps328
  have hmix : Tryz.prog.follows .mixedOrders = true := by kernel_rfl
  go_wp2
  obtain ⟨W, hW⟩ : ∃ W1, W1 = (w.alloc (Obj.cells #[Value.pointer (some ⟨q, 0, none⟩)] 200)).alloc (Obj.cells #[.int .i64 m.k.t, .int .i64 m.k.f, .int .i64 m.k.s, .int .i64 m.d, .int .i64 m.cl, .int .i64 m.bd] 41) := ⟨_, rfl⟩
  rw [← hW]
  obtain ⟨bx, hbx⟩ : ∃ bx, bx = w.heap.size := ⟨_, rfl⟩
  rw [← hbx]
  have hB1 : Below w.heap.size w W := by rw [hW]; exact ((Below.refl _ _).alloc (Nat.le_refl _) _).alloc (by simp) _
  have b0 : W.cell? ⟨bx, 0, none⟩ = some (.pointer (some ⟨q, 0, none⟩)) := by rw [hW, hbx]; exact cell_al (by rw [World.cell?, heap_alloc_new]; rfl) _
  have x0 : ∀ j, W.cell? ⟨bx + 1, j, none⟩ = m.cells[j]? := fun j => by
    have := heap_alloc_new (w.alloc (Obj.cells #[Value.pointer (some ⟨q, 0, none⟩)] 200)) (Obj.cells #[.int .i64 m.k.t, .int .i64 m.k.f, .int .i64 m.k.s, .int .i64 m.d, .int .i64 m.cl, .int .i64 m.bd] 41)
    rw [World.size_alloc, ← hW, ← hbx] at this
    simp [World.cell?, this, Mg.cells]
  have y0 := x0 0
  have y1 := x0 1
  have y2 := x0 2
  have y3 := x0 3
  have y4 := x0 4
  have y5 := x0 5
  simp only [Mg.cells, List.getElem?_cons_zero, List.getElem?_cons_succ] at y0 y1 y2 y3 y4 y5
  have c1' := pw_cell_below hB1 c1
  have c2' := pw_cell_below hB1 c2
  have hz1 : (0 : Int) ≤ (L.length : Int) := by omega
  have hz2 : (L.length : Int) ≤ (c : Int) := by omega
  have HB1 := Lib.hid hB1
  have HW := Lib.hid hW
  have HBX := Lib.hid hbx
  have HLL := Lib.hid hll
  clear hB1 hW hbx hll c0 c1 c2 x0 m0 m1 m2 m3 m4 m5
  have hqf : W.frozen? ⟨q, 1, none⟩ = false := (HB1.out.frozen (p := ⟨q, 1, none⟩) hql).trans hq0
  refine still_tail 11 hmix (by kernel_rfl) ?_
  simp only [List.take_succ_cons, List.take_zero, List.drop_succ_cons, List.drop_zero]
  repeat still_step
  try refine wpStill_nil ?_
  go_wp2
  obtain ⟨V, hV⟩ : ∃ V, V = (W.setCell ⟨q, 1, none⟩ (.slice (some ⟨g, 0, none⟩) L.length c)).drew := ⟨_, rfl⟩
  rw [← hV]
  have hqb : q ≠ b := HQ.out.not_map HQ.out.blk
  have hgb : g ≠ b := by obtain ⟨cur, e⟩ := HQ.out.row_blk; exact HQ.out.not_map e
  have hqg : q ≠ g := by
    intro e
    have e1 := HQ.out.blk
    obtain ⟨cur, e3⟩ := HQ.out.row_blk
    rw [e, e3] at e1
    cases e1
  have hbl : b < w.heap.size := by obtain ⟨D, ⟨es, clock, h1, _⟩, _⟩ := HQ.out.map; exact (Array.getElem?_eq_some_iff.1 h1).1
  have hbx := HBX.out
  have hbq : bx ≠ q := by omega
  have hb1 : bx + 1 ≠ q := by omega
  have hbb : bx + 1 ≠ b := by omega
  have hTV : Tch (fun k => k = q) W V := by rw [hV]; exact (Tch.setCell (P := fun k => k = q) (Tch.refl _ _) (p := ⟨q, 1, none⟩) (.inl rfl) _).drew
  have z0 : V.cell? ⟨bx, 0, none⟩ = some (.pointer (some ⟨q, 0, none⟩)) := hTV.cell b0 hbq
  have a0 := hTV.cell y0 hb1
  have a1 := hTV.cell y1 hb1
  have a2 := hTV.cell y2 hb1
  have a3 := hTV.cell y3 hb1
  have a4 := hTV.cell y4 hb1
  have a5 := hTV.cell y5 hb1
  have hblk : V.heap[q]? = some (.cells #[.int .i64 64, .slice (some ⟨g, 0, none⟩) L.length c, .map (some b)] 192 (0, 0)) := by
    rw [hV]
    show (W.setCell ⟨q, 1, none⟩ _).heap[q]? = _
    rw [heap_setCell_same W q 1 _ 192 _ ((HB1.out.block q hql).trans HQ.out.blk)]
    rfl
  have z1 : V.cell? ⟨q, 2, none⟩ = some (.map (some b)) := by simp [World.cell?, hblk]
  have hmapV : MapIs V b (L.length + 1) (idx (L ++ [m])) := by
    have := HQ.out.map.frame ((hTV.block b (by have := HB1.out.size; omega) (Ne.symm hqb)).trans (HB1.out.block b hbl))
    rw [HLL.out] at this
    exact this
  have hmok := HQ.out.ok m (by simp)
  have hnd := HQ.out.nd
  have hid : idx (L ++ [m]) m.k = some L.length := by
    rw [idx_iff hnd]
    exact ⟨by rw [HLL.out]; omega, by rw [K_append, if_neg (by omega), if_pos rfl]⟩
  obtain ⟨U, r1, r2, r3⟩ := map_del (W := V.drew) hmapV m.k hmok.1 (by rw [hid]; rfl) 0
  have d0 := (r2.cell (p := ⟨bx + 1, 0, none⟩) hbb).trans a0
  have d1 := (r2.cell (p := ⟨bx + 1, 1, none⟩) hbb).trans a1
  have d2 := (r2.cell (p := ⟨bx + 1, 2, none⟩) hbb).trans a2
  have d3 := (r2.cell (p := ⟨bx + 1, 3, none⟩) hbb).trans a3
  have d4 := (r2.cell (p := ⟨bx + 1, 4, none⟩) hbb).trans a4
  have d5 := (r2.cell (p := ⟨bx + 1, 5, none⟩) hbb).trans a5
  have fin : QAt U q b (.slice (some ⟨g, 0, none⟩) L.length c) L ∧ Tch (QFp q b (.slice (some ⟨g, 0, none⟩) (L ++ [m]).length c)) w U := by
    have hTU : Tch (QFp q b (.slice (some ⟨g, 0, none⟩) (L ++ [m]).length c)) V U := (Tch.refl _ V).drew.trans (r2.tch (P := QFp q b (.slice (some ⟨g, 0, none⟩) (L ++ [m]).length c)) (.inr (.inl rfl))) (fun k _ e => e)
    refine ⟨⟨(r2.other hqb).trans hblk, ?_, ?_, fun x hx => HQ.out.ok x (by simp [hx]), ?_, by omega⟩, ((Tch.of_below HB1.out).trans hTV (fun k _ e => .inl e)).trans hTU (fun k _ e => e)⟩
    · have hr := own_move (w1 := U) HQ.out.row (fun k hk => by
        have e : k = g := by simpa [Value.ownBlock] using hk.symm
        subst e
        exact (r2.other hgb).trans ((hTV.block k (by have := HB1.out.size; omega) (Ne.symm hqg)).trans (HB1.out.block k hgl)))
      obtain ⟨h1, h2⟩ := hr
      refine ⟨flatM_length L, .inr ?_⟩
      rcases h2 with ⟨e, _⟩ | ⟨g2, cap, cur, e, e0, e1, e2, e3, e4, e5⟩
      · cases e
      · cases e
        refine ⟨g, c, cur, rfl, e0, e1, by omega, e3, e4, ?_⟩
        have : flatM (L ++ [m]) = flatM L ++ m.cells := by simp [flatM]
        rw [this] at e5
        have h6 := congrArg (List.take (L.length * 6)) e5
        have h7 : (flatM L ++ m.cells).take (L.length * 6) = flatM L := by
          rw [List.take_append_of_le_length (by rw [flatM_length]; exact Nat.le_refl _)]
          exact List.take_of_length_le (by rw [flatM_length]; exact Nat.le_refl _)
        have h8 : min (L.length * 6) ((L ++ [m]).length * 6) = L.length * 6 := by rw [HLL.out]; omega
        rw [List.take_take, h7, h8] at h6
        exact h6
    · refine r3.congr (fun x => ?_)
      have hnL : (L.map Mg.k).Nodup := by rw [List.map_append, List.nodup_append] at hnd; exact hnd.1
      unfold delF
      split
      · rename_i e
        symm
        rw [idx_none]
        intro y hy e2
        rw [List.map_append, List.nodup_append] at hnd
        exact hnd.2.2 y.k (List.mem_map_of_mem hy) m.k (by simp) (by rw [e2, e])
      · rename_i e
        apply Option.ext
        intro y
        rw [idx_iff hnd, idx_iff hnL, HLL.out, K_append]
        constructor
        · rintro ⟨h1, h2⟩
          by_cases c1 : y < L.length
          · rw [if_pos c1] at h2; exact ⟨c1, h2⟩
          · rw [if_neg c1, if_pos (by omega)] at h2; exact absurd h2.symm e
        · rintro ⟨h1, h2⟩
          exact ⟨by omega, by rw [if_pos h1]; exact h2⟩
    · rw [List.map_append, List.nodup_append] at hnd; exact hnd.1
  unfold Ky.val at r1
  have FIN := Lib.hid fin
  have HV := Lib.hid hV
  have HTV := Lib.hid hTV
  have R2 := Lib.hid r2
  have HID := Lib.hid hid
  have HBLK := Lib.hid hblk
  clear fin hV hTV r2 hid hblk r3 hmapV hmok hnd hbx b0 y0 y1 y2 y3 y4 y5 c1' c2' hqf
  refine still_tail 7 hmix (by kernel_rfl) ?_
  simp only [List.take_succ_cons, List.take_zero, List.drop_succ_cons, List.drop_zero]
  repeat still_step
  try refine wpStill_nil ?_
  go_wp2
  go_ret
  exact ⟨_, rfl, FIN.out.1, rfl, FIN.out.2⟩
end Go.Proofs.YtehnkebcbomidaaGreatDoor.Rt
