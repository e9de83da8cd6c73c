/- lines: the reference's Num against strconv's (plain). -/
import Derived.Test.YtbgadcaomklbkaaDoorNumP
import Derived.Test.YtbgadcaomklbkaaDoorXLinesNumbersx2
set_option linter.unusedVariables false
set_option linter.unusedSimpArgs false
namespace Go.Proofs.YtbgadcaomklbkaaDoor.As
open Go Go.RowKit Go.Lib Go.Proofs.YtbgadcaomklbkaaDoor.XLinesNumbers Go.Proofs.YtbgadcaomklbkaaDoorW.PrintWords
/-- what digits spell, behind what was spelt -/
def val (acc : Nat) : List UInt8 → Nat
  | [] => acc
  | c :: r => val (acc * 10 + (c.toNat - 48)) r
def isD (c : UInt8) : Prop := 48 ≤ c.toNat ∧ c.toNat ≤ 57
theorem val_app (l : List UInt8) : ∀ (acc : Nat) (c : UInt8), val acc (l ++ [c]) = val acc l * 10 + (c.toNat - 48) := by
  induction l with
  | nil => intro acc c; rfl
  | cons x l ih => intro acc c; exact ih _ c
theorem val_ge (l : List UInt8) : ∀ acc, acc ≤ val acc l := by
  induction l with
  | nil => intro acc; exact Nat.le_refl _
  | cons x l ih => intro acc; exact Nat.le_trans (by omega) (ih _)
theorem dg_nat (d : Nat) (h : d < 10) : (dg d).toNat = 48 + d := by
  unfold dg
  rw [UInt8.toNat_ofNat']
  omega
theorem dec_facts (u : Nat) : (∀ c ∈ decDigits u, isD c) ∧ val 0 (decDigits u) = u ∧ decDigits u ≠ [] := by
  induction u using Nat.strongRecOn with
  | ind u ih =>
    by_cases h : u < 10
    · rw [dec_small h]
      refine ⟨fun c hc => ?_, ?_, by simp⟩
      · rw [List.mem_singleton.1 hc]; unfold isD; rw [dg_nat u h]; omega
      · show val (0 * 10 + ((dg u).toNat - 48)) [] = u
        rw [dg_nat u h]; show 0 * 10 + (48 + u - 48) = u; omega
    · obtain ⟨i1, i2, i3⟩ := ih (u / 10) (by omega)
      rw [dec_big h]
      have hd : u % 10 < 10 := Nat.mod_lt _ (by decide)
      refine ⟨fun c hc => ?_, ?_, by simp⟩
      · rcases List.mem_append.1 hc with hc | hc
        · exact i1 c hc
        · rw [List.mem_singleton.1 hc]; unfold isD; rw [dg_nat _ hd]; omega
      · rw [val_app, i2, dg_nat _ hd]; omega
theorem dec_len (j : Nat) : ∀ u, u < 10 ^ (j + 1) → (decDigits u).length ≤ j + 1 := by
  induction j with
  | zero => intro u hu; rw [dec_small (by simpa using hu)]; simp
  | succ j ih =>
    intro u hu
    by_cases h : u < 10
    · rw [dec_small h]; simp
    · rw [dec_big h, List.length_append]
      have hp : u < 10 ^ (j + 1) * 10 := by rw [← Nat.pow_succ]; exact hu
      have := ih (u / 10) (by omega)
      simp; omega
/-- strconv's reader, at digits -/
theorem parse_val (l : List UInt8) : ∀ acc, (∀ c ∈ l, isD c) → val acc l < 18446744073709551616 → parseUint10 acc l = .ok (val acc l) := by
  induction l with
  | nil => intro acc _ _; rfl
  | cons c l ih =>
    intro acc hd hv
    have hc := hd c List.mem_cons_self
    have hg := val_ge l (acc * 10 + (c.toNat - 48))
    have hv' : val (acc * 10 + (c.toNat - 48)) l < 18446744073709551616 := hv
    unfold isD at hc
    simp only [parseUint10]
    rw [if_pos hc, if_neg (by omega), if_neg (by omega)]
    exact ih _ (fun x hx => hd x (List.mem_cons_of_mem _ hx)) hv'
theorem atoi_itoa (v : Int) (h0 : -1152921504606846976 ≤ v) (h1 : v ≤ 1152921504606846976) : atoiAll (itoa v) = .ok v := by
  unfold itoa
  by_cases hn : v < 0
  · rw [if_pos hn]
    obtain ⟨f1, f2, f3⟩ := dec_facts v.natAbs
    unfold atoiAll
    have hp : parseMag (decDigits v.natAbs) = .ok v.natAbs := by
      unfold parseMag
      rw [if_neg f3, parse_val _ 0 f1 (by rw [f2]; omega), f2]
    have e : (45 : UInt8).toNat = 45 := rfl
    simp only [e, or_true, if_true, hp, true_and, not_true_eq_false, false_and, if_false]
    rw [if_neg (by omega)]
    congr 1
    omega
  · rw [if_neg hn]
    obtain ⟨u, rfl⟩ : ∃ u : Nat, v = (u : Int) := ⟨v.toNat, by omega⟩
    rw [Int.toNat_natCast]
    obtain ⟨f1, f2, f3⟩ := dec_facts u
    have hp : parseMag (decDigits u) = .ok u := by
      unfold parseMag
      rw [if_neg f3, parse_val _ 0 f1 (by rw [f2]; omega), f2]
    obtain ⟨c, r, hcr⟩ := List.exists_cons_of_ne_nil f3
    rw [hcr] at f1 hp ⊢
    have hc := f1 c List.mem_cons_self
    unfold isD at hc
    unfold atoiAll
    have n45 : ¬ c.toNat = 45 := by omega
    have n43 : ¬ c.toNat = 43 := by omega
    simp only [n45, n43, or_self, if_false, not_false_eq_true, true_and, false_and]
    rw [hp]
    simp only
    rw [if_neg (by omega)]
theorem numOf_yes (s : ByteArray) (v : Int) (h0 : -1152921504606846976 ≤ v) (h1 : v ≤ 1152921504606846976) (hs : (⟨(itoa v).toArray⟩ : ByteArray) = s) : numOf s = (v, 0) := by
  have e : s.data.toList = itoa v := by rw [← hs]
  unfold numOf
  rw [e, atoi_itoa v h0 h1]
  simp only
  rw [if_neg (by rintro (h | h | h); omega; omega; exact h hs)]
theorem numOf_no (s : ByteArray) (h : ¬ ∃ v : Int, -1152921504606846976 ≤ v ∧ v ≤ 1152921504606846976 ∧ (⟨(itoa v).toArray⟩ : ByteArray) = s) : numOf s = (0, 20) := by
  unfold numOf
  split
  · rename_i v hv
    by_cases hc : v > 1152921504606846976 ∨ v < -1152921504606846976 ∨ (⟨(itoa v).toArray⟩ : ByteArray) ≠ s
    · rw [if_pos hc]
    · exfalso
      apply h
      refine ⟨v, by omega, by omega, ?_⟩
      exact Decidable.byContradiction fun hn => hc (.inr (.inr hn))
  · rfl
/-! ### the reference's reader -/
theorem bt_get (t : ByteArray) (i : Nat) (h : i < t.size) : bt t (i : Int) = ((t.data.toList[i]'(by simpa using h)).toNat : Int) := by
  have e := bt_at t (i : Int) (by simpa using h)
  rw [← e]
  simp only [Int.toNat_natCast]
  rw [ByteArray.getElem_eq_getElem_data, Array.getElem_toList]
def OKs (s : ByteArray) (r : Int × Int) : Prop := r = (0, 20) ∨ ∃ v : Int, r = (v, 0) ∧ -1152921504606846976 ≤ v ∧ v ≤ 1152921504606846976 ∧ (⟨(itoa v).toArray⟩ : ByteArray) = s
theorem ba_ext {a b : ByteArray} (h : a.toList = b.toList) : a = b := by
  rw [ByteArray.toList_eq, ByteArray.toList_eq] at h
  cases a; cases b; congr 1; exact Array.toList_inj.1 h
theorem num_end (s : ByteArray) (v : Int) (h0 : -1152921504606846976 ≤ v) (h1 : v ≤ 1152921504606846976) (k : Nat) (hk : 21 < k) :
    ((pacelineref02_Int.f k v).bind fun t => if t.toList = s.toList then some (v, (0 : Int)) else some ((0 : Int), (20 : Int))) = some (if (⟨(itoa v).toArray⟩ : ByteArray) = s then (v, 0) else (0, 20)) := by
  rw [int_ref v (by omega) (by omega) k hk]
  simp only [Option.bind_some]
  by_cases e : (⟨(itoa v).toArray⟩ : ByteArray) = s
  · rw [if_pos e, if_pos (by rw [e])]
  · rw [if_neg e, if_neg (fun h => e (ba_ext h))]
theorem num_step (s t : ByteArray) (neg : Bool) (ht : t.size ≤ 2000) (i n k : Nat) (hlt : i < t.size) (c : UInt8) (hb : bt t (i : Int) = (c.toNat : Int)) (hn : (n : Int) ≤ 1152921504606846976) :
    pacelineref02_Num.l0 (k + 2) s t neg (n : Int) (i : Int) = if (c.toNat < 48 ∨ 57 < c.toNat) ∨ (n : Int) > 576460752303423488 then some (0, 20) else if ((n * 10 + (c.toNat - 48) : Nat) : Int) > 1152921504606846976 then some (0, 20) else pacelineref02_Num.l0 k s t neg ((n * 10 + (c.toNat - 48) : Nat) : Int) ((i + 1 : Nat) : Int) := by
  have hli : (i : Int) < (t.size : Int) := by omega
  have hz0 : (0 : Int) ≤ (i : Int) := by omega
  have hc255 : c.toNat < 256 := c.toNat_lt
  rw [pacelineref02_Num.l0, if_pos hli, if_pos hz0, hb]
  by_cases c1 : (c.toNat : Int) < 48
  · rw [if_pos c1, if_pos (.inl (.inl (by omega))), pacelineref02_Num.j4, if_pos rfl]
  · rw [if_neg c1]
    by_cases c2 : (c.toNat : Int) > 57
    · rw [if_pos c2, if_pos (.inl (.inr (by omega))), pacelineref02_Num.j4, if_pos rfl]
    · rw [if_neg c2, pacelineref02_Num.j4]
      by_cases c3 : (n : Int) > 576460752303423488
      · rw [if_pos (decide_eq_true c3), if_pos (.inr c3)]
      · have c3' : ¬ (decide ((n : Int) > 576460752303423488)) = true := by rw [decide_eq_false c3]; simp
        have c4' : ¬ ((c.toNat < 48 ∨ 57 < c.toNat) ∨ (n : Int) > 576460752303423488) := by rintro ((h | h) | h); omega; omega; exact c3 h
        have w1 : wrap64 ((n : Int) * 10) = (n : Int) * 10 := by unfold wrap64; omega
        have w2 : wrap64 ((n : Int) * 10 + ((c.toNat : Int) - 48) % 256) = ((n * 10 + (c.toNat - 48) : Nat) : Int) := by unfold wrap64; omega
        have w3 : wrap64 ((i : Int) + 1) = ((i + 1 : Nat) : Int) := by unfold wrap64; omega
        rw [if_neg c3', if_pos hz0, if_pos hli, if_neg c4', hb, w1, w2, w3]
theorem num_l0 (s t : ByteArray) (neg : Bool) (ht : t.size ≤ 2000) (d : Nat) : ∀ (i n k : Nat), t.size - i = d → i ≤ t.size → (n : Int) ≤ 1152921504606846976 → 2 * d + 30 < k →
    ∃ r, pacelineref02_Num.l0 k s t neg (n : Int) (i : Int) = some r ∧ OKs s r ∧
      ((∀ c ∈ t.data.toList.drop i, isD c) → (val n (t.data.toList.drop i) : Int) ≤ 1152921504606846976 → (⟨(itoa (if neg then -(val n (t.data.toList.drop i) : Int) else (val n (t.data.toList.drop i) : Int))).toArray⟩ : ByteArray) = s → r = ((if neg then -(val n (t.data.toList.drop i) : Int) else (val n (t.data.toList.drop i) : Int)), 0)) := by
  induction d with
  | zero =>
    intro i n k hd hi hn hk
    obtain ⟨k, rfl⟩ : ∃ m, k = m + 1 := ⟨k - 1, by omega⟩
    have hdr : t.data.toList.drop i = [] := List.drop_of_length_le (by have : t.data.toList.length = t.size := (by simp); omega)
    have w1 : wrap64 (-(n : Int)) = -(n : Int) := by unfold wrap64; omega
    simp only [pacelineref02_Num.l0]
    have hnl : ¬ (i : Int) < (t.size : Int) := by omega
    rw [if_neg hnl, hdr, w1, show val n [] = n from rfl]
    cases neg with
    | true =>
      simp only [if_true]
      have he := num_end s (-(n : Int)) (by omega) (by omega) k (by omega)
      refine ⟨_, he, ?_, fun _ _ e => by rw [if_pos e]⟩
      by_cases e : (⟨(itoa (-(n : Int))).toArray⟩ : ByteArray) = s
      · rw [if_pos e]; exact .inr ⟨_, rfl, by omega, by omega, e⟩
      · rw [if_neg e]; exact .inl rfl
    | false =>
      simp only [Bool.false_eq_true, if_false]
      have he := num_end s (n : Int) (by omega) (by omega) k (by omega)
      refine ⟨_, he, ?_, fun _ _ e => by rw [if_pos e]⟩
      by_cases e : (⟨(itoa (n : Int)).toArray⟩ : ByteArray) = s
      · rw [if_pos e]; exact .inr ⟨_, rfl, by omega, by omega, e⟩
      · rw [if_neg e]; exact .inl rfl
  | succ d ih =>
    intro i n k hd hi hn hk
    obtain ⟨k, rfl⟩ : ∃ m, k = m + 2 := ⟨k - 2, by omega⟩
    have hlt : i < t.size := by omega
    have hb := bt_get t i hlt
    have hl : i < t.data.toList.length := by simpa using hlt
    have hdr : t.data.toList.drop i = t.data.toList[i] :: t.data.toList.drop (i + 1) := List.drop_eq_getElem_cons hl
    rw [hdr]
    generalize t.data.toList[i] = c at hb
    rw [num_step s t neg ht i n k hlt c hb hn]
    have hvm : val n (c :: t.data.toList.drop (i + 1)) = val (n * 10 + (c.toNat - 48)) (t.data.toList.drop (i + 1)) := rfl
    have hge := val_ge (t.data.toList.drop (i + 1)) (n * 10 + (c.toNat - 48))
    rw [hvm]
    have b1 : t.size - (i + 1) = d := by omega
    have b4 : 2 * d + 30 < k := by omega
    clear hdr hb hvm
    generalize hm : n * 10 + (c.toNat - 48) = m at *
    by_cases c1 : (c.toNat < 48 ∨ 57 < c.toNat) ∨ (n : Int) > 576460752303423488
    · rw [if_pos c1]
      refine ⟨_, rfl, .inl rfl, fun hD hv => ?_⟩
      exfalso
      have := hD c List.mem_cons_self
      unfold isD at this
      rcases c1 with c1 | c1
      · omega
      · omega
    · rw [if_neg c1]
      by_cases c4 : (m : Int) > 1152921504606846976
      · rw [if_pos c4]
        refine ⟨_, rfl, .inl rfl, fun _ hv => ?_⟩
        exfalso
        omega
      · rw [if_neg c4]
        obtain ⟨r, h1, h2, h3⟩ := ih (i + 1) m k b1 hlt (Int.not_lt.1 c4) b4
        exact ⟨r, h1, h2, fun hD hv he => h3 (fun x hx => hD x (List.mem_cons_of_mem _ hx)) hv he⟩
theorem num_j1 (s t : ByteArray) (neg : Bool) (ht : t.size ≤ 2000) (k : Nat) (hk : 2 * t.size + 40 < k) :
    ∃ r, pacelineref02_Num.j1 k s t neg = some r ∧ OKs s r ∧
      (0 < t.size → t.size ≤ 19 → (∀ c ∈ t.data.toList, isD c) → (val 0 t.data.toList : Int) ≤ 1152921504606846976 → (⟨(itoa (if neg then -(val 0 t.data.toList : Int) else (val 0 t.data.toList : Int))).toArray⟩ : ByteArray) = s → r = ((if neg then -(val 0 t.data.toList : Int) else (val 0 t.data.toList : Int)), 0)) := by
  obtain ⟨k, rfl⟩ : ∃ m, k = m + 2 := ⟨k - 2, by omega⟩
  rw [pacelineref02_Num.j1]
  by_cases c1 : (t.size : Int) < 1
  · rw [if_pos c1, pacelineref02_Num.j2, if_pos rfl]
    exact ⟨_, rfl, .inl rfl, fun h => by omega⟩
  · rw [if_neg c1, pacelineref02_Num.j2]
    by_cases c2 : (t.size : Int) > 19
    · rw [if_pos (decide_eq_true c2)]
      exact ⟨_, rfl, .inl rfl, fun _ h => by omega⟩
    · have c2' : ¬ decide ((t.size : Int) > 19) = true := by rw [decide_eq_false c2]; simp
      rw [if_neg c2']
      obtain ⟨r, h1, h2, h3⟩ := num_l0 s t neg ht t.size 0 0 k (by omega) (by omega) (by decide) (by omega)
      rw [List.drop_zero] at h3
      exact ⟨r, h1, h2, fun _ _ => h3⟩
theorem isD_ne {c : UInt8} (h : isD c) : c.toNat ≠ 45 := by unfold isD at h; omega
/-- the reference's Num is the program's -/
theorem num_ref (s : ByteArray) (hs : s.size ≤ 1999) : ∃ k, pacelineref02_Num.f k s = some (numOf s) := by
  refine ⟨2 * s.size + 100, ?_⟩
  have fin : ∀ r : Int × Int, OKs s r → (∀ v : Int, -1152921504606846976 ≤ v → v ≤ 1152921504606846976 → (⟨(itoa v).toArray⟩ : ByteArray) = s → r = (v, 0)) → r = numOf s := by
    intro r hr hy
    by_cases h : ∃ v : Int, -1152921504606846976 ≤ v ∧ v ≤ 1152921504606846976 ∧ (⟨(itoa v).toArray⟩ : ByteArray) = s
    · obtain ⟨v, a, b, c⟩ := h
      rw [numOf_yes s v a b c, hy v a b c]
    · rw [numOf_no s h]
      rcases hr with hr | ⟨v, _, a, b, c⟩
      · exact hr
      · exact absurd ⟨v, a, b, c⟩ h
  have hlen : ∀ u : Nat, u ≤ 1152921504606846976 → 0 < (decDigits u).length ∧ (decDigits u).length ≤ 19 := fun u hu => by
    have h1 := dec_len 18 u (by omega)
    obtain ⟨_, _, f3⟩ := dec_facts u
    exact ⟨List.length_pos_iff.2 f3, h1⟩
  unfold pacelineref02_Num.f
  by_cases h0 : (s.size : Int) > 0
  · rw [if_pos h0, if_pos h0]
    have hb := bt_get s 0 (by omega)
    have hl0 : 0 < s.data.toList.length := by have : s.data.toList.length = s.size := (by simp); omega
    obtain ⟨c, l, hcl⟩ : ∃ c l, s.data.toList = c :: l := List.exists_cons_of_ne_nil (by intro e; rw [e] at hl0; simp at hl0)
    have hb0 : bt s 0 = (c.toNat : Int) := by
      have e : s.data.toList[0]'hl0 = c := by simp only [hcl, List.getElem_cons_zero]
      have hb' : bt s 0 = ((s.data.toList[0]'hl0).toNat : Int) := hb
      rw [hb', e]
    rw [hb0, pacelineref02_Num.j0]
    by_cases h45 : (c.toNat : Int) = 45
    · rw [if_pos (by rw [h45]; rfl), if_pos (by omega)]
      have htl : (s.extract 1 s.size).data.toList = l := by
        rw [ByteArray.data_extract, Array.toList_extract, List.extract_eq_take_drop]
        rw [hcl]
        have : s.size = l.length + 1 := by have : s.data.toList.length = s.size := (by simp); rw [← this, hcl]; simp
        rw [this]
        simp
      have hts : (s.extract 1 s.size).size = l.length := by rw [← htl]; simp
      have hls : l.length + 1 = s.size := by have : s.data.toList.length = s.size := (by simp); rw [← this, hcl]; simp
      obtain ⟨r, h1, h2, h3⟩ := num_j1 s (s.extract 1 s.size) true (by omega) (2 * s.size + 99) (by omega)
      rw [h1]
      congr 1
      refine fin r h2 (fun v a b e => ?_)
      have es : s.data.toList = itoa v := by rw [← e]
      rw [hcl] at es
      unfold itoa at es
      by_cases hv : v < 0
      · rw [if_pos hv] at es
        injection es with e1 e2
        obtain ⟨f1, f2, f3⟩ := dec_facts v.natAbs
        obtain ⟨g1, g2⟩ := hlen v.natAbs (by omega)
        rw [hts, htl, e2] at h3
        have hval : -((val 0 (decDigits v.natAbs) : Nat) : Int) = v := by rw [f2]; omega
        simp only [if_true] at h3
        rw [hval] at h3
        exact h3 g1 g2 f1 (by rw [f2]; omega) e
      · rw [if_neg hv] at es
        obtain ⟨f1, f2, f3⟩ := dec_facts v.toNat
        rw [← es] at f1
        exact absurd (by omega) (isD_ne (f1 c List.mem_cons_self))
    · have h45' : ¬ ((c.toNat : Int) == 45) = true := by rw [beq_iff_eq]; exact h45
      rw [if_neg h45']
      obtain ⟨r, h1, h2, h3⟩ := num_j1 s s false (by omega) (2 * s.size + 99) (by omega)
      rw [h1]
      congr 1
      refine fin r h2 (fun v a b e => ?_)
      have es : s.data.toList = itoa v := by rw [← e]
      have es' := es
      unfold itoa at es
      by_cases hv : v < 0
      · rw [if_pos hv, hcl] at es
        injection es with e1 e2
        subst e1
        exact absurd rfl h45
      · rw [if_neg hv] at es
        obtain ⟨f1, f2, f3⟩ := dec_facts v.toNat
        obtain ⟨g1, g2⟩ := hlen v.toNat (by omega)
        have hss : s.size = (decDigits v.toNat).length := by rw [← es]; simp
        rw [es, hss] at h3
        have hval : ((val 0 (decDigits v.toNat) : Nat) : Int) = v := by rw [f2]; omega
        simp only [Bool.false_eq_true, if_false] at h3
        rw [hval] at h3
        exact h3 g1 g2 f1 b e
  · rw [if_neg h0, pacelineref02_Num.j0, if_neg (by simp)]
    obtain ⟨r, h1, h2, h3⟩ := num_j1 s s false (by omega) (2 * s.size + 99) (by omega)
    rw [h1]
    congr 1
    refine fin r h2 (fun v a b e => ?_)
    exfalso
    have hsz : (itoa v).length = s.size := by rw [← e]; simp [ByteArray.size]
    have : itoa v ≠ [] := by
      unfold itoa
      by_cases hv : v < 0
      · rw [if_pos hv]; simp
      · rw [if_neg hv]; exact (dec_facts v.toNat).2.2
    have := List.length_pos_iff.2 this
    omega
end Go.Proofs.YtbgadcaomklbkaaDoor.As
