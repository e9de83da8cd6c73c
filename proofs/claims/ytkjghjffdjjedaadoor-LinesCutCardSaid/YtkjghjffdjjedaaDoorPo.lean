/- lines, plain: the reference's Decode is the machine. -/
import Derived.Test.YtkjghjffdjjedaaDoorPn
set_option linter.unusedVariables false
set_option linter.unusedSimpArgs false
namespace Go.Proofs.YtkjghjffdjjedaaDoor.Enc
open Go Go.RowKit Go.Lib Go.Proofs Go.Proofs.YtkjghjffdjjedaaDoorW.PrintWords Go.Proofs.YtkjghjffdjjedaaDoor.XLinesDecodes
abbrev Ans := List (List ByteArray) × Int × Int
def fin (rows : List (List ByteArray)) (row : List ByteArray) (fld : ByteArray) (n : Int) (fresh : Bool) (l : List UInt8) : Ans :=
  if l = [] ∧ fresh = true then (rows, 0, 0) else match P l with
    | (some (f :: fs), true, .inl rs) => (rows ++ (row ++ (fld ++ bl f) :: fs.map bl) :: toB rs, 0, 0)
    | (some (f :: fs), true, .inr k) => ([], n + k, 20)
    | _ => ([], n, 20)
theorem bl_append (a b : List UInt8) : bl a ++ bl b = bl (a ++ b) := by apply ByteArray.ext; simp [bl]
theorem app_bl (x : ByteArray) (a b : List UInt8) : x ++ bl (a ++ b) = x ++ bl a ++ bl b := by rw [← bl_append, ByteArray.append_assoc]
theorem app_nil (x : ByteArray) : x ++ bl [] = x := by apply ByteArray.ext; simp [bl]
theorem nil_app (x : List UInt8) : (⟨#[]⟩ : ByteArray) ++ bl x = bl x := by apply ByteArray.ext; simp [bl]
theorem fin_44 (rows : List (List ByteArray)) (row : List ByteArray) (fld : ByteArray) (n : Int) (fr : Bool) (l : List UInt8) : fin rows row fld n fr (44 :: l) = fin rows (row ++ [fld]) ⟨#[]⟩ n false l := by
  unfold fin
  rw [if_neg (by simp), if_neg (by simp), P_44]
  have hn := P_ne _ l (Nat.le_refl _)
  revert hn
  generalize P l = p
  intro hn
  obtain ⟨o, e, r⟩ := p
  cases o with
  | none => rfl
  | some q =>
    obtain ⟨f, fs, rfl⟩ := hn q rfl
    cases e with
    | false => rfl
    | true =>
      cases r with
      | inl rs => simp [app_nil, nil_app]
      | inr k => rfl
theorem fin_10 (rows : List (List ByteArray)) (row : List ByteArray) (fld : ByteArray) (n : Int) (fr : Bool) (l : List UInt8) : fin rows row fld n fr (10 :: l) = fin (rows ++ [row ++ [fld]]) [] ⟨#[]⟩ (n + 1) true l := by
  unfold fin
  rw [if_neg (by simp), P_10]
  unfold Q
  by_cases h : l = []
  · subst h; simp [toB, app_nil]
  · rw [if_neg h, if_neg (by simp [h])]
    have hn := P_ne _ l (Nat.le_refl _)
    revert hn
    generalize P l = p
    intro hn
    obtain ⟨o, e, r⟩ := p
    cases o with
    | none => rfl
    | some q =>
      obtain ⟨f, fs, rfl⟩ := hn q rfl
      cases e with
      | false => rfl
      | true =>
        cases r with
        | inl rs => simp [comb, app_nil, nil_app, toB]
        | inr k => simp [comb]; omega
theorem fin_step {b : UInt8} {l l' : List UInt8} (h : P l = ((P l').1.map (consH b), (P l').2)) (hl : l ≠ []) (rows : List (List ByteArray)) (row : List ByteArray) (fld : ByteArray) (n : Int) (fr : Bool) :
    fin rows row fld n fr l = fin rows row (fld ++ ⟨#[b]⟩) n false l' := by
  unfold fin
  rw [if_neg (by simp [hl]), if_neg (by simp), h]
  have hn := P_ne _ l' (Nat.le_refl _)
  revert hn
  generalize P l' = p
  intro hn
  obtain ⟨o, e, r⟩ := p
  cases o with
  | none => rfl
  | some q =>
    obtain ⟨f, fs, rfl⟩ := hn q rfl
    cases e with
    | false => rfl
    | true =>
      cases r with
      | inl rs => simp only [Option.map_some, consH]; rw [show (b :: f) = [b] ++ f from rfl, app_bl]; rfl
      | inr k => rfl
theorem fin_none {l : List UInt8} (h : (P l).1 = none) (hl : l ≠ []) (rows : List (List ByteArray)) (row : List ByteArray) (fld : ByteArray) (n : Int) (fr : Bool) : fin rows row fld n fr l = ([], n, 20) := by
  unfold fin
  rw [if_neg (by simp [hl])]
  revert h
  generalize P l = p
  intro h
  obtain ⟨o, e, r⟩ := p
  simp only at h
  subst h; rfl
theorem bt_nat (s : ByteArray) (i : Nat) (b : UInt8) (l : List UInt8) (h : s.data.toList.drop i = b :: l) : bt s (i : Int) = (b.toNat : Int) := by
  have hi : i < s.size := by
    have := congrArg List.length h
    simp at this; omega
  have hb : s.data.toList[i]? = some b := by
    have := congrArg (·[0]?) h
    simpa using this
  unfold bt
  rw [dif_pos (by simpa using hi)]
  congr 2
  rw [List.getElem?_eq_some_iff] at hb
  obtain ⟨_, hb⟩ := hb
  rw [← hb]
  simp [ByteArray.getElem_eq_getElem_data]
theorem u8i (b c : UInt8) : ((b.toNat : Int) = (c.toNat : Int)) ↔ b = c :=
  ⟨fun h => UInt8.toNat_inj.1 (by omega), fun h => by rw [h]⟩
theorem u44 (b : UInt8) : ((b.toNat : Int) = 44) ↔ b = 44 := u8i b 44
theorem u10 (b : UInt8) : ((b.toNat : Int) = 10) ↔ b = 10 := u8i b 10
theorem u37 (b : UInt8) : ((b.toNat : Int) = 37) ↔ b = 37 := u8i b 37
theorem nums_one (b : UInt8) : strOfNums [(b.toNat : Int)] = ⟨#[b]⟩ := by
  simp [strOfNums]
theorem tl0 : (⟨#[]⟩ : ByteArray).toList = [] := by
  have h := extract_toList (⟨#[]⟩ : ByteArray) 0 0
  have e : (⟨#[]⟩ : ByteArray).extract 0 0 = ⟨#[]⟩ := by decide
  rw [e] at h
  rw [h]; rfl
theorem wr1 (i : Nat) (h : i ≤ 1000002) : wrap64 ((i : Int) + 1) = ((i + 1 : Nat) : Int) := by unfold wrap64; omega
theorem wr2 (i : Nat) (h : i ≤ 1000000) : wrap64 ((i : Int) + 2) = ((i + 2 : Nat) : Int) := by unfold wrap64; omega
theorem wr3 (i : Nat) (h : i ≤ 1000000) : wrap64 ((i : Int) + 3) = ((i + 3 : Nat) : Int) := by unfold wrap64; omega
theorem sz1 (x : ByteArray) (b : UInt8) : (x ++ (⟨#[b]⟩ : ByteArray)).size = x.size + 1 := by
  rw [ByteArray.size_append]; rfl
theorem sz0 (i : Nat) : (⟨#[]⟩ : ByteArray).size ≤ i := by
  have : (⟨#[]⟩ : ByteArray).size = 0 := rfl
  omega
theorem ln0 (i : Nat) : ([] : List ByteArray).length ≤ i := Nat.zero_le i
set_option maxHeartbeats 1000000 in
theorem ref_l0 : ∀ (L : Nat) (s : ByteArray) (i k : Nat) (rows : List (List ByteArray)) (row : List ByteArray) (fld : ByteArray) (n : Nat) (fr : Bool),
    i + L = s.size → s.size ≤ 1000000 → L < k → rows.length ≤ i → row.length ≤ i → fld.size ≤ i → n ≤ i + 1 → (fr = true ↔ (i = 0 ∨ s.data.toList[i - 1]? = some 10)) →
    pacelineref02_Decode.l0 k s rows row fld (n : Int) (i : Int) = some (fin rows row fld n fr (s.data.toList.drop i)) := by
  intro L
  induction L using Nat.strongRecOn with
  | ind L ih =>
    intro s i k rows row fld n fr hL hs hk h1 h2 h3 h4 hfr
    obtain ⟨k, rfl⟩ : ∃ m, k = m + 1 := ⟨k - 1, by omega⟩
    have hi6 : i ≤ 1000000 := Nat.le_trans (by rw [← hL]; exact Nat.le_add_right i L) hs
    rw [pacelineref02_Decode.l0]
    by_cases h0 : L = 0
    · subst h0
      rw [if_neg (by omega)]
      have hlen : s.data.toList.length = s.size := by simp
      have hd : s.data.toList.drop i = [] := List.drop_eq_nil_of_le (by omega)
      rw [hd]
      by_cases hz : s.size = 0
      · rw [if_neg (by omega)]
        have : fr = true := hfr.2 (.inl (by omega))
        rw [this]; rfl
      · have hw : wrap64 ((s.size : Int) - 1) = ((s.size - 1 : Nat) : Int) := by unfold wrap64; omega
        rw [if_pos (by omega), hw, if_pos (by omega), if_pos (by omega)]
        have hi : s.size - 1 < s.data.toList.length := by omega
        rw [bt_nat s (s.size - 1) (s.data.toList[s.size - 1]) [] (by rw [List.drop_eq_getElem_cons hi]; simp; omega)]
        have hii : i - 1 = s.size - 1 := by omega
        by_cases hc : s.data.toList[s.size - 1] = 10
        · rw [if_pos ((u10 _).2 hc)]
          have : fr = true := hfr.2 (.inr (by rw [hii, List.getElem?_eq_getElem hi, hc]))
          rw [this]; rfl
        · rw [if_neg (fun h => hc ((u10 _).1 h))]
          have : fr = false := by
            cases fr with
            | false => rfl
            | true =>
              rcases hfr.1 rfl with h | h
              · omega
              · rw [hii, List.getElem?_eq_getElem hi] at h
                exact absurd (Option.some.inj h) hc
          rw [this]; rfl
    · obtain ⟨b, l, hd⟩ : ∃ b l, s.data.toList.drop i = b :: l := by
        cases hd : s.data.toList.drop i with
        | nil => have := congrArg List.length hd; simp at this; omega
        | cons b l => exact ⟨b, l, rfl⟩
      have hll : l.length + 1 = L := by have := congrArg List.length hd; simp at this; omega
      have hd1 : s.data.toList.drop (i + 1) = l := by
        have := congrArg (List.drop 1) hd
        rw [List.drop_drop] at this; simpa using this
      have hbi : s.data.toList[i]? = some b := by
        have := congrArg (·[0]?) hd
        simpa using this
      have hia : (i : Int) < (s.size : Int) := by omega
      have hib : (0 : Int) ≤ (i : Int) := by omega
      rw [if_pos hia, if_pos hib, hd, bt_nat s i b l hd]
      have hfr1 : ∀ c : UInt8, s.data.toList[i]? = some c → c ≠ 10 → (false = true ↔ (i + 1 = 0 ∨ s.data.toList[i + 1 - 1]? = some 10)) := by
        intro c hc hne
        simp only [Bool.false_eq_true, false_iff, Nat.add_sub_cancel, hc, Option.some.injEq]
        intro h; rcases h with h | h
        · omega
        · exact hne h
      by_cases c44 : b = 44
      · have hb1 : row.length < 8796093022208 := by omega
        rw [if_pos ((u44 b).2 c44), if_pos hb1, wr1 i (Nat.le_trans hi6 (by decide))]
        clear hb1
        have e44 : b = 44 := c44
        subst e44
        clear c44
        rw [fin_44, ← hd1]
        exact ih (L - 1) (by omega) s (i + 1) k rows (row ++ [fld]) ⟨#[]⟩ n false (by omega) hs (by omega) (by omega) (by rw [List.length_append]; exact Nat.succ_le_succ h2) (sz0 _) (Nat.le_succ_of_le h4) (hfr1 44 hbi (by decide))
      · rw [if_neg (fun h => c44 ((u44 b).1 h))]
        by_cases c10 : b = 10
        · have hb1 : row.length < 8796093022208 := by omega
          have hb2 : rows.length < 5864062014805 := by omega
          rw [if_pos ((u10 b).2 c10), if_pos hb1, if_pos hb2, wr1 i (Nat.le_trans hi6 (by decide))]
          clear hb1 hb2
          have e10 : b = 10 := c10
          subst e10
          clear c44 c10
          rw [fin_10, ← hd1, wr1 n (Nat.le_trans h4 (Nat.le_trans (Nat.add_le_add_right hi6 1) (by decide))), show ((n : Int) + 1) = ((n + 1 : Nat) : Int) from rfl]
          exact ih (L - 1) (by omega) s (i + 1) k _ _ _ (n + 1) true (by omega) hs (by omega) (by rw [List.length_append]; exact Nat.succ_le_succ h1) (ln0 _) (sz0 _) (Nat.succ_le_succ h4) (by simp [hbi])
        · rw [if_neg (fun h => c10 ((u10 b).1 h))]
          by_cases c37 : b = 37
          · rw [if_pos ((u37 b).2 c37)]
            have e37 : b = 37 := c37
            subst e37
            clear c44 c10 c37
            rw [wr3 i hi6]
            obtain ⟨k, rfl⟩ : ∃ m, k = m + 1 := by
              cases k with
              | zero => exact absurd (Nat.lt_of_lt_of_le hk (by rw [← hll]; exact Nat.le_add_left 1 _)) (Nat.lt_irrefl _)
              | succ k => exact ⟨k, rfl⟩
            have hk2 : L < k + 2 := hk
            clear hk
            cases l with
            | nil =>
              have hL1 : L = 1 := by rw [← hll]; rfl
              clear hll
              rw [if_neg (by omega)]
              rw [pacelineref02_Decode.j1, tl0, if_neg (by decide), if_neg (by decide), if_neg (by decide), fin_none (by rw [P_end]) (by simp)]
            | cons x l =>
              cases l with
              | nil =>
                have hL1 : L = 2 := by rw [← hll]; rfl
                clear hll
                rw [if_neg (by omega)]
                rw [pacelineref02_Decode.j1, tl0, if_neg (by decide), if_neg (by decide), if_neg (by decide), fin_none (by rw [P_one]) (by simp)]
              | cons y l =>
                have hll2 : l.length + 3 = L := hll
                clear hll
                rw [if_pos (by omega), if_pos (by omega), pacelineref02_Decode.j1, wr2 i hi6, wr1 (i + 2) (Nat.add_le_add_right hi6 2)]
                have hex : (s.extract (i : Int).toNat (((i + 3 : Nat) : Int)).toNat).toList = [37, x, y] := by
                  rw [extract_toList, show (i : Int).toNat = i from rfl, hd]
                  show List.take (i + 3 - i) _ = _
                  rw [show i + 3 - i = 3 from by omega]; rfl
                rw [hex]
                have hd3 : s.data.toList.drop (i + 3) = l := by
                  have := congrArg (List.drop 3) hd
                  rw [List.drop_drop] at this; simpa using this
                have hyi : s.data.toList[i + 2]? = some y := by
                  have := congrArg (·[2]?) hd
                  simpa using this
                have key : ∀ c : UInt8, cd x y = some c → pacelineref02_Decode.l0 k s rows row (fld ++ ⟨#[c]⟩) (n : Int) ((i + 3 : Nat) : Int) = some (fin rows row fld n fr (37 :: x :: y :: l)) := by
                  intro c hc
                  have hn := cd_ne hc
                  have hy10 : y ≠ 10 := by rcases hn.2 with rfl | rfl | rfl <;> decide
                  rw [fin_step (P_c l hc) (by simp), ← hd3]
                  refine ih (L - 3) (by omega) s (i + 3) k _ _ _ n false (by omega) hs (by omega) (Nat.le_trans h1 (Nat.le_add_right _ _)) (Nat.le_trans h2 (Nat.le_add_right _ _)) (by rw [sz1]; exact Nat.le_trans (Nat.succ_le_succ h3) (Nat.add_le_add_left (by decide : 1 ≤ 3) i)) (Nat.le_trans h4 (Nat.add_le_add_right (Nat.le_add_right _ _) 1)) ?_
                  simp only [Bool.false_eq_true, false_iff, show i + 3 - 1 = i + 2 from by omega, hyi, Option.some.injEq]
                  intro h; rcases h with h | h
                  · omega
                  · exact hy10 h
                have hsz : fld.size + 1 ≤ 9223372036854775807 := by omega
                by_cases q1 : x = 50 ∧ y = 53
                · rw [if_pos (by rw [q1.1, q1.2]), if_pos hsz]
                  exact key 37 (by unfold cd; rw [if_pos q1])
                · rw [if_neg (by simp; exact fun h => fun h' => q1 ⟨h, h'⟩)]
                  by_cases q2 : x = 50 ∧ y = 67
                  · rw [if_pos (by rw [q2.1, q2.2]), if_pos hsz]
                    exact key 44 (by unfold cd; rw [if_neg q1, if_pos q2])
                  · rw [if_neg (by simp; exact fun h => fun h' => q2 ⟨h, h'⟩)]
                    by_cases q3 : x = 48 ∧ y = 65
                    · rw [if_pos (by rw [q3.1, q3.2]), if_pos hsz]
                      exact key 10 (by unfold cd; rw [if_neg q1, if_neg q2, if_pos q3])
                    · rw [if_neg (by simp; exact fun h => fun h' => q3 ⟨h, h'⟩)]
                      rw [fin_none (by rw [P_bad l (by unfold cd; rw [if_neg q1, if_neg q2, if_neg q3])]) (by simp)]
          · rw [if_neg (fun h => c37 ((u37 b).1 h))]
            simp only [Option.bind_some]
            have hb3 : fld.size + (⟨#[b]⟩ : ByteArray).size ≤ 9223372036854775807 := by have : (⟨#[b]⟩ : ByteArray).size = 1 := rfl
                                                                                        omega
            rw [nums_one, wr1 i (Nat.le_trans hi6 (by decide)), if_pos hb3]
            rw [fin_step (P_b l c10 c44 c37) (by simp), ← hd1]
            exact ih (L - 1) (by omega) s (i + 1) k _ _ _ n false (by omega) hs (by omega) (Nat.le_succ_of_le h1) (Nat.le_succ_of_le h2) (by rw [sz1]; exact Nat.succ_le_succ h3) (Nat.le_succ_of_le h4) (hfr1 b hbi c10)
/-- what Decode answers, plainly -/
def decF (s : ByteArray) : Ans := match Q s.data.toList with
  | .inl rs => (toB rs, 0, 0)
  | .inr k => ([], k, 20)
theorem ref_decode (s : ByteArray) (h : s.size ≤ 1000000) : pacelineref02_Decode.f (s.size + 1) s = some (decF s) := by
  unfold pacelineref02_Decode.f
  have h1 := ref_l0 s.size s 0 (s.size + 1) [] [] ⟨#[]⟩ 1 true (by omega) h (by omega) (by simp) (by simp) (by simp [ByteArray.size]) (by omega) (by simp)
  have e1 : ((1 : Nat) : Int) = 1 := rfl
  have e0 : ((0 : Nat) : Int) = 0 := rfl
  rw [e1, e0] at h1
  rw [h1, List.drop_zero]
  unfold decF fin Q
  by_cases hl : s.data.toList = []
  · rw [if_pos hl, if_pos ⟨hl, rfl⟩]; rfl
  · rw [if_neg hl, if_neg (by simp [hl])]
    have hn := P_ne _ s.data.toList (Nat.le_refl _)
    revert hn
    generalize P s.data.toList = p
    intro hn
    obtain ⟨o, e, r⟩ := p
    cases o with
    | none => rfl
    | some q =>
      obtain ⟨f, fs, rfl⟩ := hn q rfl
      cases e with
      | false => rfl
      | true =>
        cases r with
        | inl rs => simp [comb, toB, nil_app]
        | inr k => simp [comb]; omega
end Go.Proofs.YtkjghjffdjjedaaDoor.Enc
