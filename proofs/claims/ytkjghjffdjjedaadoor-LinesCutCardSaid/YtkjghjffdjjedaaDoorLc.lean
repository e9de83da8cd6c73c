/- LinesCut: plain, and the walk. -/
import Derived.Test.YtkjghjffdjjedaaDoorLea
import Derived.OpenShut
set_option linter.unusedVariables false
set_option linter.unusedSimpArgs false
namespace Go.Proofs.YtkjghjffdjjedaaDoor.Enc
open Go Go.RowKit Go.Lib Go.Proofs Go.Proofs.YtkjghjffdjjedaaDoorW.PrintWords Go.Proofs.YtkjghjffdjjedaaDoorW.PrintLast
theorem lineH_no : ∀ l : List UInt8, (∀ x ∈ l, x ≠ 10) → (lineH l).2.1 = false := by
  intro l
  induction l with
  | nil => intro _; rfl
  | cons b l ih =>
    intro h
    rw [lineH_b l (h b List.mem_cons_self)]
    exact ih (fun x hx => h x (List.mem_cons_of_mem _ hx))
theorem Q_no {l : List UInt8} (h : ∀ x ∈ l, x ≠ 10) (hl : l ≠ []) : Q l = .inr 1 := by
  rw [Q, if_neg hl, P_eq _ l (Nat.le_refl _), lineH_no l h]
  cases fldsS (splitL 44 (lineH l).1) <;> rfl
theorem encR_no (r : Row8) : ∀ x ∈ encR r, x ≠ 10 := by
  cases r with
  | nil => intro x hx; cases hx
  | cons f fs =>
    intro x hx
    rcases List.mem_append.1 hx with hx | hx
    · exact (escS_no f x hx).2
    · obtain ⟨g, _, hg⟩ := List.mem_flatMap.1 hx
      rcases List.mem_cons.1 hg with rfl | hg
      · decide
      · exact (escS_no g x hg).2
theorem count_no {l : List UInt8} (h : ∀ x ∈ l, x ≠ 10) : l.count 10 = 0 := List.count_eq_zero.2 (fun hx => h 10 hx rfl)
/-- a text of rows, cut off -/
theorem cut_rows : ∀ (R : List Row8), (∀ r ∈ R, r ≠ []) → ∀ k, k ≤ (encT R).length →
    ((encT R).take k).count 10 ≤ R.length ∧
    (((encT R).take k = [] ∨ ((encT R).take k).getLast? = some 10) → Q ((encT R).take k) = .inl (R.take (((encT R).take k).count 10))) ∧
    (¬ ((encT R).take k = [] ∨ ((encT R).take k).getLast? = some 10) → Q ((encT R).take k) = .inr (((encT R).take k).count 10 + 1)) := by
  intro R
  induction R with
  | nil => intro _ k _; exact ⟨by simp [encT], fun _ => by simp [encT, Q], fun h => absurd (.inl (by simp [encT])) h⟩
  | cons r R ih =>
    intro hne k hk
    have hr := hne r List.mem_cons_self
    obtain ⟨f, fs, rfl⟩ : ∃ f fs, r = f :: fs := by
      cases r with
      | nil => exact absurd rfl hr
      | cons f fs => exact ⟨f, fs, rfl⟩
    have e : encT ((f :: fs) :: R) = encR (f :: fs) ++ 10 :: encT R := by simp [encT]
    have hno := encR_no (f :: fs)
    rw [e] at hk ⊢
    by_cases hkl : k ≤ (encR (f :: fs)).length
    · have et : (encR (f :: fs) ++ 10 :: encT R).take k = (encR (f :: fs)).take k := List.take_append_of_le_length hkl
      rw [et]
      have hn : ∀ x ∈ (encR (f :: fs)).take k, x ≠ 10 := fun x hx => hno x (List.mem_of_mem_take hx)
      rw [count_no hn]
      refine ⟨Nat.zero_le _, ?_, ?_⟩
      · rintro (h | h)
        · rw [h]; rfl
        · exact absurd rfl (hn 10 (List.mem_of_getLast? h))
      · intro h
        exact Q_no hn (fun h' => h (.inl h'))
    · obtain ⟨j, rfl⟩ : ∃ j, k = (encR (f :: fs)).length + (j + 1) := ⟨k - (encR (f :: fs)).length - 1, by omega⟩
      have et : (encR (f :: fs) ++ 10 :: encT R).take ((encR (f :: fs)).length + (j + 1)) = encR (f :: fs) ++ 10 :: (encT R).take j := by
        rw [List.take_length_add_append]; rfl
      have hj : j ≤ (encT R).length := by simp at hk; omega
      obtain ⟨i1, i2, i3⟩ := ih (fun q hq => hne q (List.mem_cons_of_mem _ hq)) j hj
      rw [et]
      generalize (encT R).take j = p at *
      have ec : (encR (f :: fs) ++ 10 :: p).count 10 = p.count 10 + 1 := by
        rw [List.count_append, count_no hno, List.count_cons_self]; omega
      have eq : Q (encR (f :: fs) ++ 10 :: p) = comb (some (f :: fs), true, Q p) := by
        have h := P_row fs f p
        rw [Q, if_neg (by simp)]
        rw [show encR (f :: fs) ++ 10 :: p = escS f ++ (tailE fs ++ 10 :: p) by simp [encR], h]
      have el : (encR (f :: fs) ++ 10 :: p).getLast? = some 10 ↔ (p = [] ∨ p.getLast? = some 10) := by
        rw [List.getLast?_append]
        cases p with
        | nil => simp
        | cons a p => simp [List.getLast?_cons_cons]
      rw [ec, eq]
      refine ⟨by simp; omega, ?_, ?_⟩
      · intro h
        have h' : p = [] ∨ p.getLast? = some 10 := el.1 (h.elim (fun q => absurd q (by simp)) id)
        rw [i2 h']; rfl
      · intro h
        have h' : ¬ (p = [] ∨ p.getLast? = some 10) := fun q => h (.inr (el.2 q))
        rw [i3 h']; rfl
/-- how many lines end ahead of k -/
def lfs (s : ByteArray) (k : Nat) : Nat := (s.data.toList.take k).count 10
theorem lfs_zero (s : ByteArray) : lfs s 0 = 0 := by simp [lfs]
theorem lfs_succ (s : ByteArray) (i : Nat) (h : i < s.size) : lfs s (i + 1) = lfs s i + if bt s (i : Int) = 10 then 1 else 0 := by
  have hi : i < s.data.toList.length := by simpa using h
  have hd : s.data.toList.drop i = s.data.toList[i] :: s.data.toList.drop (i + 1) := List.drop_eq_getElem_cons hi
  unfold lfs
  rw [List.take_succ_eq_append_getElem hi, List.count_append, bt_nat s i _ _ hd]
  by_cases hb : s.data.toList[i] = 10
  · rw [if_pos ((u10 _).2 hb), hb]; rfl
  · rw [if_neg (fun q => hb ((u10 _).1 q)), List.count_cons_of_ne (by simpa using hb)]; rfl
theorem lfs_le (s : ByteArray) (k : Nat) : lfs s k ≤ k := Nat.le_trans List.count_le_length (by rw [List.length_take]; omega)
theorem cut_plain {rows : List (List ByteArray)} {s : ByteArray} (h : encF rows = (s, 0)) (k : Nat) (hk : k ≤ s.size) :
    lfs s k ≤ rows.length ∧ ((k = 0 ∨ bt s ((k - 1 : Nat) : Int) = 10) → decF (s.extract 0 k) = (rows.take (lfs s k), 0, 0)) ∧ (¬ (k = 0 ∨ bt s ((k - 1 : Nat) : Int) = 10) → decF (s.extract 0 k) = ([], (lfs s k : Int) + 1, 20)) := by
  have hne := encF_inv (rows := rows) (by rw [h])
  have e1 := encF_ok hne
  rw [h] at e1
  have es : s = bl (encT (toL rows)) := (Prod.mk.inj e1).1
  have hl : s.data.toList = encT (toL rows) := by rw [es, bl_data]
  have hsz : s.size = (encT (toL rows)).length := by rw [es, bl_size]
  obtain ⟨c1, c2, c3⟩ := cut_rows (toL rows) (toL_ne hne) k (by omega)
  have hx : s.extract 0 k = bl ((encT (toL rows)).take k) := by rw [es, bl_extract]; simp
  have hlf : lfs s k = ((encT (toL rows)).take k).count 10 := by rw [lfs, hl]
  have hc : (k = 0 ∨ bt s ((k - 1 : Nat) : Int) = 10) ↔ ((encT (toL rows)).take k = [] ∨ ((encT (toL rows)).take k).getLast? = some 10) := by
    by_cases h0 : k = 0
    · subst h0; simp
    · obtain ⟨j, rfl⟩ : ∃ j, k = j + 1 := ⟨k - 1, by omega⟩
      have hj : j < (encT (toL rows)).length := by omega
      have hd : s.data.toList.drop j = (encT (toL rows))[j] :: (encT (toL rows)).drop (j + 1) := by rw [hl]; exact List.drop_eq_getElem_cons hj
      rw [Nat.add_sub_cancel, bt_nat s j _ _ hd, u10, List.take_succ_eq_append_getElem hj, List.getLast?_concat, Option.some.injEq]
      exact ⟨fun q => .inr (q.resolve_left (by omega)), fun q => .inr (q.resolve_left (fun q' => by
        have h9 : 0 < (encT (toL rows)).length := by omega
        have h8 := congrArg List.length q'
        simp only [List.length_take, List.length_append, List.length_cons, List.length_nil] at h8
        omega))⟩
  rw [hlf, hx]
  refine ⟨by simpa [toL] using c1, fun q => ?_, fun q => ?_⟩
  · have h2 := c2 (hc.1 q)
    unfold decF
    rw [bl_data, h2]
    have e3 : (toL rows).take (((encT (toL rows)).take k).count 10) = toL (rows.take (((encT (toL rows)).take k).count 10)) := by unfold toL; rw [List.map_take]
    simp only
    rw [e3, toB_toL]
  · have h2 := c3 (fun q' => q (hc.2 q'))
    unfold decF
    rw [bl_data, h2]
    simp
theorem reads_take {W : World} {A : Option Addr} {n c m : Nat} {rows : List (List ByteArray)} (h : Reads W (.slice A n c) rows) (hm : m ≤ rows.length) : Reads W (.slice A m c) (rows.take m) := by
  obtain ⟨A', c', e, h1, h2, h3, h4⟩ := h
  cases e
  have hl : (rows.take m).length = m := by rw [List.length_take]; omega
  refine ⟨A, c, by rw [hl], by rw [hl]; omega, hl.symm ▸ rfl, by rw [hl]; omega, fun h0 => ?_⟩
  obtain ⟨ad, q1, q2⟩ := h4 (by omega)
  refine ⟨ad, q1, fun j p hj => q2 j p ?_⟩
  rw [List.getElem?_take] at hj
  split at hj
  · exact hj
  · cases hj
theorem cut_at (a : Int) (n : Nat) (h : 0 < n) (hn : n ≤ 100000) : ∃ k : Nat, k < n ∧ Int.tmod (Int.tmod a n + n) n = (k : Int) ∧ -(n : Int) < Int.tmod a n ∧ Int.tmod a n < n := by
  have h1 : -(n : Int) < Int.tmod a n ∧ Int.tmod a n < n := by
    have := Int.tmod_lt_of_pos a (b := (n : Int)) (by omega)
    have h2 := Int.tmod_lt_of_pos (-a) (b := (n : Int)) (by omega)
    rw [Int.neg_tmod] at h2
    exact ⟨by omega, this⟩
  have h3 : 0 ≤ Int.tmod (Int.tmod a n + n) n := Int.tmod_nonneg _ (by omega)
  have h4 := Int.tmod_lt_of_pos (Int.tmod a n + n) (b := (n : Int)) (by omega)
  exact ⟨(Int.tmod (Int.tmod a n + n) n).toNat, by omega, by omega, h1.1, h1.2⟩
set_option maxHeartbeats 8000000 in
set_option maxRecDepth 100000 in
theorem cut_walk (rows : List (List ByteArray)) (A : Option Addr) (c : Nat) (at' : Int) (w : World) (hv : Reads w (.slice A rows.length c) rows) (hat : (Lit.int .i64 at').wf = true) (hE : EnvD w) :
    Calls Tryd.prog 8 #[.slice A rows.length c, .int .i64 at'] w fun e w' => e = .returned (.bool true) ∧ Below w.heap.size w w' := by
  have hu22 := Tryd.underlying22
  have hu9 := Tryd.underlying9
  have hu27 := Tryd.underlying27
  have hu35 := Tryd.underlying35
  have hbnd := bounds_i64 hat
  have hhv := heavy_call rows _ w hv
  have HHV := Lib.hid hhv
  clear hhv
  go_enter Tryd.func8, Tryd.ntmps8
  go_wp2_with (go_at_call 13; refine HHV.out.mono ?_)
  rintro e w1 ⟨rfl | ⟨rfl, hwt⟩, hb1⟩
  · go_wp2_with fail
    go_ret
    exact ⟨rfl, hb1⟩
  · have hv1 := hv.below hb1
    have hE1 := hE.below hb1
    have hen := enc_call2 rows _ w1 hv1 hwt
    have hre := fun w' h => refE_call rows (.slice A rows.length c) w' h hwt
    have hsz := encF_size rows hwt
    have hlt := light hwt
    have hbd := fun h => encF_bad (rows := rows) h
    have hcp := fun s h k hk => cut_plain (rows := rows) (s := s) h k hk
    obtain ⟨s, ee, hte⟩ : ∃ s ee, encF rows = (s, ee) := ⟨_, _, rfl⟩
    rw [hte] at hen hsz hbd
    simp only [hte] at hre hcp
    simp only at hsz hbd
    have HEN := Lib.hid hen
    have HRE := Lib.hid hre
    have HBD := Lib.hid hbd
    have HCP := Lib.hid hcp
    have HV1 := Lib.hid hv1
    have HE1 := Lib.hid hE1
    have HB1 := Lib.hid hb1
    have HLT := Lib.hid hlt
    have HTE := Lib.hid hte
    clear hen hre hbd hcp hv1 hE1 hb1 hlt hte
    go_wp2_with (go_at_call 14; refine HEN.out.mono ?_)
    first | rintro e w2 ⟨rfl, hb2⟩ | rintro e w2 rfl hb2
    have hv2 := HV1.out.below hb2
    have hE2 := HE1.out.below hb2
    have hb2' := HB1.out.trans (hb2.mono HB1.out.size)
    have hre2 := HRE.out w2 hv2
    have HB2 := Lib.hid hb2
    have HV2 := Lib.hid hv2
    have HE2 := Lib.hid hE2
    have HB2W := Lib.hid hb2'
    have HRE2 := Lib.hid hre2
    clear hb2 hv2 hE2 hb2' hre2
    go_wp2_with (go_at_call 15; refine HRE2.out.mono ?_)
    first | rintro e w3 ⟨rfl, hb3⟩ | rintro e w3 rfl hb3
    have hv3 := HV2.out.below hb3
    have hE3 := HE2.out.below hb3
    have hb3' := HB2W.out.trans (hb3.mono HB2W.out.size)
    have HB3 := Lib.hid hb3
    have HV3 := Lib.hid hv3
    have HE3 := Lib.hid hE3
    have HB3W := Lib.hid hb3'
    clear hb3 hv3 hE3 hb3'
    by_cases h0 : ee = 0
    · subst h0
      by_cases hs0 : s.size = 0
      · have hs1 : s = ⟨#[]⟩ := by
          obtain ⟨⟨l⟩⟩ := s
          cases l with
          | nil => rfl
          | cons a l => simp [ByteArray.size] at hs0
        subst hs1
        go_wp2_with fail
        all_goals (go_ret; exact ⟨rfl, HB3W.out⟩)
      · obtain ⟨k, hk, hmod, hm1, hm2⟩ := cut_at at' s.size (by omega) (by omega)
        obtain ⟨hml, hT, hF⟩ := HCP.out s rfl k (by omega)
        have hdl := dec_call (s.extract 0 k) w3 (by rw [ByteArray.size_extract]; omega) HE3.out
        obtain ⟨dr, dn, de, hdf⟩ : ∃ dr dn de, decF (s.extract 0 k) = (dr, dn, de) := ⟨_, _, _, rfl⟩
        rw [hdf] at hdl hT hF
        simp only [Prod.mk.injEq] at hdl hT hF
        have hbt : ∀ (n : Nat) (h : n < s.size), ((s[n]'h).toNat : Int) = bt s (n : Int) := fun n h => bt_at s n h
        have HT := Lib.hid hT
        have HF := Lib.hid hF
        have HDL := Lib.hid hdl
        have HDF := Lib.hid hdf
        clear hT hF hdl hdf
        go_wp2_with (go_at_call 16; refine HDL.out.mono ?_)
        first | rintro e w4 ⟨v4, rfl, hv4, hb4⟩ | rintro e w4 v4 rfl hv4 hb4
        have hb4' := HB3W.out.trans (hb4.mono HB3W.out.size)
        have hr4 := HV3.out.below hb4
        have HV4 := Lib.hid hv4
        have HB4 := Lib.hid hb4
        have HB4W := Lib.hid hb4'
        have HR4 := Lib.hid hr4
        clear hv4 hb4 hb4' hr4
        go_wp2
        go_loopw [13, 14] (fun mm i wr => ∃ j : Nat, j ≤ k ∧ i = .int .i64 j ∧ mm = .int .i64 (lfs s j) ∧ wr = w4) (fun mm i _ => k - (RowKit.intOf i).toNat)
        case atStart => exact ⟨0, Nat.zero_le _, rfl, by rw [lfs_zero]; rfl, rfl⟩
        case round =>
          obtain ⟨j, hj, rfl, rfl, rfl⟩ := hrel
          by_cases hjk : j < k
          · have hji : (j : Int) < (k : Int) := by omega
            have hjs : j < s.size := by omega
            have hls := lfs_succ s j hjs
            have hll := lfs_le s j
            generalize lfs s j = m at *
            by_cases hb : bt s (j : Int) = 10
            · rw [if_pos hb] at hls
              have HLS := Lib.hid hls
              clear hls
              go_wp2
              exact ⟨⟨j + 1, hjk, by simp, by rw [HLS.out]; simp, trivial⟩, by simp [RowKit.intOf]; omega⟩
            · rw [if_neg hb] at hls
              have HLS := Lib.hid hls
              clear hls
              go_wp2
              exact ⟨⟨j + 1, hjk, by simp, by rw [HLS.out]; rfl, trivial⟩, by simp [RowKit.intOf]; omega⟩
          · obtain rfl : j = k := by omega
            have hll := lfs_le s j
            have hjs : j - 1 < s.size := by omega
            have hrc : rows.length ≤ c := by obtain ⟨A', c', e, h1, _⟩ := HR4.out; cases e; exact h1
            have hrt := reads_take HR4.out hml
            have hdn := HT
            have hdm := HF
            generalize lfs s j = m at *
            have hmc : m ≤ c := by omega
            have hji : ¬ (j : Int) < (j : Int) := by omega
            by_cases hP : j = 0 ∨ bt s ((j - 1 : Nat) : Int) = 10
            · obtain ⟨e1, e2, e3⟩ := hdn.out hP
              subst e1 e2 e3
              have hsm := same_call (rows.take m) v4 _ wr HV4.out hrt (fun r hr => Nat.lt_of_le_of_lt (HLT.out.2.2.1 r (List.mem_of_mem_take hr)) (by decide)) (by rw [List.length_take]; have := HLT.out.1; omega)
              have HSM := Lib.hid hsm
              have HRT := Lib.hid hrt
              clear hsm hrt
              have hb5 : ∀ w5, Drawn0 wr w5 → Below w.heap.size w w5 := fun w5 h => HB4W.out.trans (h.below.mono HB4W.out.size)
              have HB5 := Lib.hid hb5
              clear hb5
              by_cases hj0 : j = 0
              · have hjz : (j : Int) = 0 := by omega
                have hjz2 : ((j : Int) == 0) = true := by simp [hjz]
                go_wp2_with (go_at_call 17; refine HSM.out.mono ?_)
                first | rintro e w5 rfl hdr | rintro e w5 ⟨rfl, hdr⟩
                have hdr' := HB5.out w5 hdr
                go_wp2
                go_ret
                exact ⟨rfl, hdr'⟩
              · have hb10 := hP.resolve_left hj0
                have hj1 : 0 < j := by omega
                have hjz2 : ((j : Int) == 0) = false := by simp; omega
                have hbz : (bt s ((j - 1 : Nat) : Int) == 10) = true := by simp [hb10]
                go_wp2_with (go_at_call 17; refine HSM.out.mono ?_)
                first | rintro e w5 rfl hdr | rintro e w5 ⟨rfl, hdr⟩
                have hdr' := HB5.out w5 hdr
                go_wp2
                all_goals (go_ret; exact ⟨rfl, hdr'⟩)
            · obtain ⟨e1, e2, e3⟩ := hdm.out hP
              subst e1 e2 e3
              obtain ⟨A', c', e4, _⟩ := HV4.out
              subst e4
              have hj0 : j ≠ 0 := fun q => hP (.inl q)
              have hb10 : bt s ((j - 1 : Nat) : Int) ≠ 10 := fun q => hP (.inr q)
              have hj1 : 0 < j := by omega
              have hjz2 : ((j : Int) == 0) = false := by simp; omega
              have hbz : (bt s ((j - 1 : Nat) : Int) == 10) = false := by simp [hb10]
              go_wp2
              all_goals (go_ret; exact ⟨rfl, HB4W.out⟩)
    · obtain ⟨q1, q2⟩ := Prod.mk.inj (HBD.out h0)
      subst q1 q2
      go_wp2_with fail
      all_goals (go_ret; exact ⟨rfl, HB3W.out⟩)
theorem cut_row {H : Type} {enc : TypeId × Value → H} {x : DataW H} {p : List MemPlace} (a0 : Option Addr) (len0 cap0 : Nat) (n : Int) (W : World) (k0 : DataW.Trod enc Tryd.prog W 0 (fun _ => true) true 27 (.slice a0 len0 cap0) x p) (wn : (Lit.int .i64 n).wf = true) (hE : EnvD W) :
    Calls Tryd.prog 8 #[.slice a0 len0 cap0, .int .i64 n] W fun e w' => e = .returned (.bool true) ∧ Below W.heap.size W w' := by
  obtain ⟨rows, h⟩ := rows_arg W a0 len0 cap0 k0
  have hl : rows.length = len0 := by
    obtain ⟨A', c', e, _⟩ := h
    cases e; rfl
  subst hl
  exact cut_walk rows a0 cap0 n W h wn hE
end Go.Proofs.YtkjghjffdjjedaaDoor.Enc
