/- lines, plain: the bound of the document (heavy), and the reference's Encode. -/
import Derived.Test.YtkjghjffdjjedaaDoorLf
import Derived.Deep.Slices
import Derived.ChangeArms
set_option linter.unusedVariables false
set_option linter.unusedSimpArgs false
namespace Go.Proofs.YtkjghjffdjjedaaDoor.Enc
open Go Go.RowKit Go.Lib Go.Proofs Go.Proofs.YtkjghjffdjjedaaDoorW.PrintWords Go.Proofs.YtkjghjffdjjedaaDoor.XLinesEncodes
theorem wrA (n m : Int) (h0 : 0 ≤ n) (h1 : n ≤ 2048) (h2 : 0 ≤ m) (h3 : m ≤ 1048576) : wrap64 (n + m) = n + m := by unfold wrap64; omega
theorem mn_le (x : Int) : mn x 1048576 ≤ 1048576 := by unfold mn; split <;> omega
theorem mn_nonneg (x : Int) (h : 0 ≤ x) : 0 ≤ mn x 1048576 := by unfold mn; split <;> omega
theorem mn_small (x : Int) (n : Int) (h0 : 0 ≤ n) (h : n + mn x 1048576 ≤ 2048) : mn x 1048576 = x := by
  unfold mn at h ⊢
  by_cases q : (1048576 : Int) < x
  · rw [if_pos q] at h; omega
  · rw [if_neg q]
/-- what a row weighs -/
def wt (r : List ByteArray) : Nat := r.length + sizes r
def wts (rows : List (List ByteArray)) (i : Nat) : Nat := rows.length + ((rows.take i).map wt).sum
theorem wts_succ (rows : List (List ByteArray)) (i : Nat) (hi : i < rows.length) : wts rows (i + 1) = wts rows i + wt rows[i] := by
  unfold wts
  rw [List.take_succ_eq_append_getElem hi, List.map_append, List.sum_append, List.map_cons, List.map_nil, List.sum_cons, List.sum_nil]; omega
theorem sizes_take (r : List ByteArray) (j : Nat) (hj : j < r.length) : sizes (r.take (j + 1)) = sizes (r.take j) + r[j].size := by
  unfold sizes
  rw [List.take_succ_eq_append_getElem hj, List.map_append, List.sum_append, List.map_cons, List.map_nil, List.sum_cons, List.sum_nil]; rfl
/-- the answer of heavy: whatever it is, 'false' says that all of it is small -/
def Hv (rows : List (List ByteArray)) (o : Nat → Option Bool) : Prop := ∃ K r, (∀ k, K ≤ k → o k = some r) ∧ (r = false → wts rows rows.length ≤ 2048)
theorem heavy_l0_true (rows : List (List ByteArray)) (n : Int) (i : Int) (h : ¬ n ≤ 2048) : ∀ k, 2 ≤ k → pacelinelaw02_heavy.l0 k rows n i = some true := by
  intro k hk
  obtain ⟨k, rfl⟩ : ∃ m, k = m + 2 := ⟨k - 2, by omega⟩
  rw [pacelinelaw02_heavy.l0]
  have hd : decide (n ≤ 2048) = false := decide_eq_false h
  have hd2 : decide (n > 2048) = true := decide_eq_true (by omega)
  rw [hd]
  have e : pacelinelaw02_heavy.j1 (k + 1) rows n i false = some true := by
    rw [pacelinelaw02_heavy.j1, if_neg (by decide), hd2]
  rw [e]; split <;> rfl
theorem heavy_l1 (rows : List (List ByteArray)) (i : Nat) (hi : i < rows.length) (hl : rows.length ≤ 9223372036854775807) (hm : rows[i].length ≤ 9223372036854775807)
    (hA : ∀ n : Int, 0 ≤ n → (n ≤ 2048 → n = wts rows (i + 1)) → Hv rows (fun k => pacelinelaw02_heavy.l0 k rows n ((i + 1 : Nat) : Int))) :
    ∀ (d j : Nat) (n : Int), j + d = rows[i].length → 0 ≤ n → (n ≤ 2048 → n = ((wts rows i + rows[i].length + sizes (rows[i].take j) : Nat) : Int)) →
      Hv rows (fun k => pacelinelaw02_heavy.l1 k rows n (i : Int) (j : Int)) := by
  have hib : (0 : Int) ≤ (i : Int) := by omega
  have hia : (i : Int) < (rows.length : Int) := by omega
  have hrd : rd_L1 rows (i : Int) = rows[i] := by
    show rows.getD i [] = _
    rw [List.getD_eq_getElem?_getD, List.getElem?_eq_getElem hi]; rfl
  intro d
  induction d with
  | zero =>
    intro j n hj h0 hn
    obtain ⟨K, r, hK, hr⟩ := hA n h0 (fun h => by
      rw [hn h, wts_succ rows i hi, List.take_of_length_le (by omega)]; unfold wt; omega)
    refine ⟨K + 1, r, fun k hk => ?_, hr⟩
    obtain ⟨k, rfl⟩ : ∃ m, k = m + 1 := ⟨k - 1, by omega⟩
    show pacelinelaw02_heavy.l1 (k + 1) rows n (i : Int) (j : Int) = _
    rw [pacelinelaw02_heavy.l1, if_pos hib, if_pos hia, hrd, if_neg (by omega), wrN i (Nat.lt_of_lt_of_le hi hl)]
    exact hK k (by omega)
  | succ d ih =>
    intro j n hj h0 hn
    have hjl : j < rows[i].length := by omega
    have h1 : (j : Int) < (rows[i].length : Int) := by omega
    by_cases hs : n ≤ 2048
    · have hrf : rdOf ByteArray.empty rows[i] (j : Int) = rows[i][j] := by
        show rows[i].getD j ByteArray.empty = _
        rw [List.getD_eq_getElem?_getD, List.getElem?_eq_getElem hjl]; rfl
      have hsz : (0 : Int) ≤ ((rows[i][j].size : Nat) : Int) := by omega
      obtain ⟨K, r, hK, hr⟩ := ih (j + 1) (n + mn ((rows[i][j].size : Nat) : Int) 1048576) (by omega) (by have := mn_nonneg _ hsz; omega) (fun h => by
        have e := mn_small _ n h0 h
        rw [e, hn hs, sizes_take _ _ hjl]; omega)
      refine ⟨K + 1, r, fun k hk => ?_, hr⟩
      obtain ⟨k, rfl⟩ : ∃ m, k = m + 1 := ⟨k - 1, by omega⟩
      show pacelinelaw02_heavy.l1 (k + 1) rows n (i : Int) (j : Int) = _
      rw [pacelinelaw02_heavy.l1, if_pos hib, if_pos hia, hrd, if_pos h1, if_pos hs, if_pos (by omega), hrf, wrA n _ h0 hs (mn_nonneg _ hsz) (mn_le _), wrN j (by omega)]
      exact hK k (by omega)
    · refine ⟨3, true, fun k hk => ?_, fun h => by cases h⟩
      obtain ⟨k, rfl⟩ : ∃ m, k = m + 1 := ⟨k - 1, by omega⟩
      show pacelinelaw02_heavy.l1 (k + 1) rows n (i : Int) (j : Int) = _
      rw [pacelinelaw02_heavy.l1, if_pos hib, if_pos hia, hrd, if_pos h1, if_neg hs]
      exact heavy_l0_true rows n _ hs k (by omega)
theorem heavy_l0 (rows : List (List ByteArray)) (hl : rows.length ≤ 9223372036854775807) (hm : ∀ r ∈ rows, r.length ≤ 9223372036854775807) :
    ∀ (d i : Nat) (n : Int), i + d = rows.length → 0 ≤ n → (n ≤ 2048 → n = (wts rows i : Int)) → Hv rows (fun k => pacelinelaw02_heavy.l0 k rows n (i : Int)) := by
  intro d
  induction d with
  | zero =>
    intro i n hi h0 hn
    refine ⟨2, decide (n > 2048), fun k hk => ?_, fun h => ?_⟩
    · obtain ⟨k, rfl⟩ : ∃ m, k = m + 2 := ⟨k - 2, by omega⟩
      show pacelinelaw02_heavy.l0 (k + 2) rows n (i : Int) = _
      rw [pacelinelaw02_heavy.l0, if_neg (by omega), pacelinelaw02_heavy.j1, if_neg (by decide)]
    · have h2 := of_decide_eq_false h
      have h3 := hn (by omega)
      obtain rfl : i = rows.length := by omega
      omega
  | succ d ih =>
    intro i n hi h0 hn
    have hil : i < rows.length := by omega
    by_cases hs : n ≤ 2048
    · have hrd : rd_L1 rows (i : Int) = rows[i] := by
        show rows.getD i [] = _
        rw [List.getD_eq_getElem?_getD, List.getElem?_eq_getElem hil]; rfl
      have hsz : (0 : Int) ≤ ((rows[i].length : Nat) : Int) := by omega
      obtain ⟨K, r, hK, hr⟩ := heavy_l1 rows i hil hl (hm _ (List.getElem_mem hil)) (fun n' a b => ih (i + 1) n' (by omega) a b) rows[i].length 0 (n + mn ((rows[i].length : Nat) : Int) 1048576) (by omega) (by have := mn_nonneg _ hsz; omega) (fun h => by
        have e := mn_small _ n h0 h
        rw [e, hn hs]; simp [sizes])
      refine ⟨K + 2, r, fun k hk => ?_, hr⟩
      obtain ⟨k, rfl⟩ : ∃ m, k = m + 2 := ⟨k - 2, by omega⟩
      show pacelinelaw02_heavy.l0 (k + 2) rows n (i : Int) = _
      have hia : (i : Int) < (rows.length : Int) := by omega
      have hib : (0 : Int) ≤ (i : Int) := by omega
      have hd : decide (n ≤ 2048) = true := decide_eq_true hs
      rw [pacelinelaw02_heavy.l0, if_pos hia, hd, pacelinelaw02_heavy.j1, if_pos rfl, if_pos hib, if_pos hia, hrd, wrA n _ h0 hs (mn_nonneg _ hsz) (mn_le _)]
      exact hK k (by omega)
    · exact ⟨2, true, fun k hk => heavy_l0_true rows n _ hs k hk, fun h => by cases h⟩
theorem heavy_eq (rows : List (List ByteArray)) (hl : rows.length ≤ 9223372036854775807) (hm : ∀ r ∈ rows, r.length ≤ 9223372036854775807) :
    ∃ k r, pacelinelaw02_heavy.f k rows = some r ∧ (r = false → wts rows rows.length ≤ 2048) := by
  have hsz : (0 : Int) ≤ ((rows.length : Nat) : Int) := by omega
  obtain ⟨K, r, hK, hr⟩ := heavy_l0 rows hl hm rows.length 0 (mn ((rows.length : Nat) : Int) 1048576) (by omega) (mn_nonneg _ hsz) (fun h => by
    have e := mn_small ((rows.length : Nat) : Int) 0 (by omega) (by omega)
    rw [e]; simp [wts])
  exact ⟨K, r, hK K (Nat.le_refl _), hr⟩
theorem reads_max {W : World} {v : Value} {rows : List (List ByteArray)} (h : Reads W v rows) : rows.length ≤ 9223372036854775807 ∧ ∀ r ∈ rows, r.length ≤ 9223372036854775807 := by
  obtain ⟨A, c, rfl, hc, h1, h2, h3⟩ := h
  refine ⟨h2, fun r hr => ?_⟩
  obtain ⟨j, hj, rfl⟩ := List.mem_iff_getElem.1 hr
  obtain ⟨ad, _, h4⟩ := h3 (by omega)
  obtain ⟨cs, _, ⟨A', c', _, _, hC⟩, _⟩ := h4 j _ (List.getElem?_eq_getElem hj)
  exact hC.2.1
theorem heavy_call (rows : List (List ByteArray)) (v : Value) (w : World) (h : Reads w v rows) :
    Calls Tryd.prog 13 #[v] w fun e w' => (e = .returned (.bool true) ∨ (e = .returned (.bool false) ∧ wts rows rows.length ≤ 2048)) ∧ Below w.heap.size w w' := by
  have hm := reads_max h
  obtain ⟨A, c, rfl, hc, hC⟩ := h
  obtain ⟨k, r, hk, hr⟩ := heavy_eq rows hm.1 hm.2
  refine (pacelinelaw02_heavy.calls k A c rows r w hC hc hk).mono ?_
  rintro e w' ⟨rfl, hb⟩
  cases r with
  | true => exact ⟨.inl rfl, hb⟩
  | false => exact ⟨.inr ⟨rfl, hr rfl⟩, hb⟩
/-- what is not heavy -/
theorem light {rows : List (List ByteArray)} (h : wts rows rows.length ≤ 2048) : rows.length ≤ 2048 ∧ (encT (toL rows)).length ≤ 8192 ∧ (∀ r ∈ rows, r.length ≤ 2048) ∧ ∀ r ∈ rows, ∀ f ∈ r, f.size ≤ 2048 := by
  have e0 : wts rows rows.length = rows.length + (rows.map wt).sum := by unfold wts; rw [List.take_of_length_le (Nat.le_refl _)]
  rw [e0] at h
  have key : ∀ rows : List (List ByteArray), (encT (toL rows)).length ≤ rows.length + 4 * (rows.map wt).sum ∧ ∀ r ∈ rows, wt r ≤ (rows.map wt).sum := by
    intro rows
    induction rows with
    | nil => exact ⟨Nat.le_refl _, fun r hr => by cases hr⟩
    | cons q rows ih =>
      have e : (encT (toL (q :: rows))).length = (encR (q.map (·.data.toList))).length + 1 + (encT (toL rows)).length := by simp [encT, toL]; omega
      have hq : (encR (q.map (·.data.toList))).length ≤ 4 * wt q := by
        have ht : ∀ fs : List ByteArray, (tailE (fs.map (·.data.toList))).length ≤ 4 * wt fs := by
          intro fs
          induction fs with
          | nil => exact Nat.zero_le _
          | cons f fs ih2 =>
            have h1 := escS_len f.data.toList
            have hf : f.data.toList.length = f.size := by simp
            have e2 : (tailE ((f :: fs).map (·.data.toList))).length = 1 + (escS f.data.toList).length + (tailE (fs.map (·.data.toList))).length := by simp [tailE]; omega
            have e3 : wt (f :: fs) = 1 + f.size + wt fs := by unfold wt; rw [sizes_cons]; simp; omega
            rw [e2, e3]; omega
        cases q with
        | nil => exact Nat.zero_le _
        | cons f fs =>
          have h1 := escS_len f.data.toList
          have hf : f.data.toList.length = f.size := by simp
          have h2 := ht fs
          have e3 : wt (f :: fs) = 1 + f.size + wt fs := by unfold wt; rw [sizes_cons]; simp; omega
          rw [e3]
          simp only [List.map_cons, encR, List.length_append]
          omega
      rw [e]
      simp only [List.map_cons, List.sum_cons, List.length_cons]
      refine ⟨by omega, fun r hr => ?_⟩
      rcases List.mem_cons.1 hr with rfl | hr
      · omega
      · have := ih.2 r hr; omega
  obtain ⟨k1, k2⟩ := key rows
  refine ⟨by omega, by omega, fun r hr => ?_, fun r hr f hf => ?_⟩
  · have := k2 r hr
    have e : wt r = r.length + sizes r := rfl
    omega
  · have h1 := k2 r hr
    have e : wt r = r.length + sizes r := rfl
    have h2 : f.size ≤ sizes r := by
      obtain ⟨j, hj, rfl⟩ := List.mem_iff_getElem.1 hf
      have := sizes_get r j
      rw [List.getD_eq_getElem?_getD, List.getElem?_eq_getElem hj] at this
      exact this
    omega
end Go.Proofs.YtkjghjffdjjedaaDoor.Enc

set_option linter.unusedVariables false
set_option linter.unusedSimpArgs false
namespace Go.Proofs.YtkjghjffdjjedaaDoor.Enc
open Go Go.RowKit Go.Lib Go.Proofs Go.Proofs.YtkjghjffdjjedaaDoorW.PrintWords Go.Proofs.YtkjghjffdjjedaaDoor.XLinesEncodes
def Ev (o : Nat → Option (ByteArray × Int)) (r : ByteArray × Int) : Prop := ∃ K, ∀ k, K ≤ k → o k = some r
theorem escaped_eq (c : UInt8) : pacelineref02_escaped.f (c.toNat : Int) = some (bl (escB c)) := by
  unfold pacelineref02_escaped.f escB
  by_cases h1 : c = 37
  · rw [if_pos ((u37 c).2 h1), if_pos h1]; rfl
  · rw [if_neg (fun h => h1 ((u37 c).1 h)), if_neg h1]
    by_cases h2 : c = 44
    · rw [if_pos ((u44 c).2 h2), if_pos h2]; rfl
    · rw [if_neg (fun h => h2 ((u44 c).1 h)), if_neg h2]
      by_cases h3 : c = 10
      · rw [if_pos ((u10 c).2 h3), if_pos h3]; rfl
      · rw [if_neg (fun h => h3 ((u10 c).1 h)), if_neg h3, nums_one]; rfl
theorem bls (a : List UInt8) (n : Nat) (h : a.length + n ≤ 1000000000) : (bl a).size + n ≤ 9223372036854775807 := by rw [bl_size]; omega
theorem refE_l2 (rows : List (List ByteArray)) (i j : Nat) (hi : i < rows.length) (hj : j < rows[i].length) (hjm : j < 1000000000) (hfm : rows[i][j].size < 1000000000) (r : ByteArray × Int) :
    ∀ (d c : Nat) (acc : List UInt8), c + d = rows[i][j].size → acc.length + (escS (rows[i][j].data.toList.drop c)).length ≤ 1000000000 →
      Ev (fun k => pacelineref02_Encode.l1 k rows (bl (acc ++ escS (rows[i][j].data.toList.drop c))) (i : Int) ((j + 1 : Nat) : Int)) r →
      Ev (fun k => pacelineref02_Encode.l2 k rows (bl acc) (i : Int) (j : Int) (c : Int)) r := by
  have hib : (0 : Int) ≤ (i : Int) := by omega
  have hia : (i : Int) < (rows.length : Int) := by omega
  have hjb : (0 : Int) ≤ (j : Int) := by omega
  have hja : (j : Int) < (rows[i].length : Int) := by omega
  have hrd : rd_L1 rows (i : Int) = rows[i] := by
    show rows.getD i [] = _
    rw [List.getD_eq_getElem?_getD, List.getElem?_eq_getElem hi]; rfl
  have hrf : rdOf ByteArray.empty rows[i] (j : Int) = rows[i][j] := by
    show rows[i].getD j ByteArray.empty = _
    rw [List.getD_eq_getElem?_getD, List.getElem?_eq_getElem hj]; rfl
  generalize hf : rows[i][j] = f at *
  intro d
  induction d with
  | zero =>
    intro c acc hc hb hE
    obtain ⟨K, hK⟩ := hE
    have hd : f.data.toList.drop c = [] := List.drop_eq_nil_of_le (by simp; omega)
    rw [hd] at hK
    refine ⟨K + 1, fun k hk => ?_⟩
    obtain ⟨k, rfl⟩ : ∃ m, k = m + 1 := ⟨k - 1, by omega⟩
    show pacelineref02_Encode.l2 (k + 1) rows (bl acc) (i : Int) (j : Int) (c : Int) = _
    have h1 : ¬ (c : Int) < (f.size : Int) := by omega
    rw [pacelineref02_Encode.l2, if_pos hib, if_pos hia, if_pos hjb, hrd, if_pos hja, hrf, if_neg h1, wrN j (Nat.lt_trans hjm (by decide))]
    have := hK k (by omega)
    simpa [escS] using this
  | succ d ih =>
    intro c acc hc hb hE
    obtain ⟨b, l, hd⟩ : ∃ b l, f.data.toList.drop c = b :: l := by
      cases hd : f.data.toList.drop c with
      | nil => have := congrArg List.length hd; simp at this; omega
      | cons b l => exact ⟨b, l, rfl⟩
    have hd1 : f.data.toList.drop (c + 1) = l := by
      have := congrArg (List.drop 1) hd
      rw [List.drop_drop] at this; simpa using this
    have he : escS (b :: l) = escB b ++ escS l := by simp [escS]
    rw [hd, he] at hb hE
    rw [List.length_append] at hb
    obtain ⟨K, hK⟩ := ih (c + 1) (acc ++ escB b) (by omega) (by rw [hd1, List.length_append]; omega) (by rw [hd1, List.append_assoc]; exact hE)
    refine ⟨K + 1, fun k hk => ?_⟩
    obtain ⟨k, rfl⟩ : ∃ m, k = m + 1 := ⟨k - 1, by omega⟩
    show pacelineref02_Encode.l2 (k + 1) rows (bl acc) (i : Int) (j : Int) (c : Int) = _
    have h1 : (c : Int) < (f.size : Int) := by omega
    have h2 : (0 : Int) ≤ (c : Int) := by omega
    rw [pacelineref02_Encode.l2, if_pos hib, if_pos hia, if_pos hjb, hrd, if_pos hja, hrf, if_pos h1, if_pos h2, bt_nat f c b l hd, escaped_eq, Option.bind_some]
    rw [if_pos (show (bl acc).size + (bl (escB b)).size ≤ 9223372036854775807 by rw [bl_size (escB b)]; exact bls _ _ (by omega)), bl_append, wrN c (Nat.lt_trans (by omega : c < 1000000000) (by decide))]
    exact hK k (by omega)
theorem refE_l1 (rows : List (List ByteArray)) (i : Nat) (hi : i < rows.length) (him : i < 1000000000) (hm : rows[i].length < 1000000000) (hfm : ∀ f ∈ rows[i], f.size < 1000000000) (r : ByteArray × Int) :
    ∀ (d j : Nat) (acc : List UInt8), 1 ≤ j → j + d = rows[i].length → acc.length + (tailE ((rows[i].drop j).map (·.data.toList))).length + 1 ≤ 1000000000 →
      Ev (fun k => pacelineref02_Encode.l0 k rows (bl (acc ++ tailE ((rows[i].drop j).map (·.data.toList)) ++ [10])) ((i + 1 : Nat) : Int)) r →
      Ev (fun k => pacelineref02_Encode.l1 k rows (bl acc) (i : Int) (j : Int)) r := by
  have hib : (0 : Int) ≤ (i : Int) := by omega
  have hia : (i : Int) < (rows.length : Int) := by omega
  have hrd : rd_L1 rows (i : Int) = rows[i] := by
    show rows.getD i [] = _
    rw [List.getD_eq_getElem?_getD, List.getElem?_eq_getElem hi]; rfl
  intro d
  induction d with
  | zero =>
    intro j acc hj1 hj hb hE
    obtain ⟨K, hK⟩ := hE
    have hd : rows[i].drop j = [] := List.drop_eq_nil_of_le (by omega)
    rw [hd] at hK hb
    refine ⟨K + 1, fun k hk => ?_⟩
    obtain ⟨k, rfl⟩ : ∃ m, k = m + 1 := ⟨k - 1, by omega⟩
    show pacelineref02_Encode.l1 (k + 1) rows (bl acc) (i : Int) (j : Int) = _
    have h1 : ¬ (j : Int) < (rows[i].length : Int) := by omega
    rw [pacelineref02_Encode.l1, if_pos hib, if_pos hia, hrd, if_neg h1, if_pos (bls acc 1 (by omega)), wrN i (Nat.lt_trans him (by decide))]
    have := hK k (by omega)
    rw [show bl acc ++ (⟨#[10]⟩ : ByteArray) = bl (acc ++ [10]) from bl_append acc [10]]
    simpa [tailE] using this
  | succ d ih =>
    intro j acc hj1 hj hb hE
    have hjl : j < rows[i].length := by omega
    have hd : rows[i].drop j = rows[i][j] :: rows[i].drop (j + 1) := List.drop_eq_getElem_cons hjl
    have he : tailE ((rows[i].drop j).map (·.data.toList)) = 44 :: (escS rows[i][j].data.toList ++ tailE ((rows[i].drop (j + 1)).map (·.data.toList))) := by rw [hd, List.map_cons]; simp only [tailE, List.flatMap_cons, List.cons_append]
    rw [he] at hb hE
    simp only [List.length_cons, List.length_append] at hb
    have h3 := ih (j + 1) (acc ++ [44] ++ escS rows[i][j].data.toList) (by omega) (by omega) (by simp only [List.length_append, List.length_cons, List.length_nil]; omega) (by
      have e : acc ++ [44] ++ escS rows[i][j].data.toList ++ tailE ((rows[i].drop (j + 1)).map (·.data.toList)) ++ [10] = acc ++ 44 :: (escS rows[i][j].data.toList ++ tailE ((rows[i].drop (j + 1)).map (·.data.toList))) ++ [10] := by simp
      rw [e]; exact hE)
    have hz : rows[i][j].data.toList.drop 0 = rows[i][j].data.toList := rfl
    obtain ⟨K, hK⟩ := refE_l2 rows i j hi hjl (by omega) (hfm _ (List.getElem_mem hjl)) r rows[i][j].size 0 (acc ++ [44]) (by omega) (by rw [hz]; simp only [List.length_append, List.length_cons, List.length_nil]; omega) h3
    refine ⟨K + 2, fun k hk => ?_⟩
    obtain ⟨k, rfl⟩ : ∃ m, k = m + 2 := ⟨k - 2, by omega⟩
    show pacelineref02_Encode.l1 (k + 2) rows (bl acc) (i : Int) (j : Int) = _
    have h1 : (j : Int) < (rows[i].length : Int) := by omega
    have h2 : (j : Int) > 0 := by omega
    rw [pacelineref02_Encode.l1, if_pos hib, if_pos hia, hrd, if_pos h1, if_pos h2, if_pos (bls acc 1 (by omega)), pacelineref02_Encode.j2, show bl acc ++ (⟨#[44]⟩ : ByteArray) = bl (acc ++ [44]) from bl_append acc [44]]
    exact hK k (by omega)
def resE (rows : List (List ByteArray)) (i : Nat) (acc : List UInt8) : ByteArray × Int := if ∃ r ∈ rows.drop i, r = [] then (⟨#[]⟩, 1) else (bl (acc ++ encT (toL (rows.drop i))), 0)
theorem refE_l0 (rows : List (List ByteArray)) (hl : rows.length < 1000000000) (hm : ∀ r ∈ rows, r.length < 1000000000) (hfm : ∀ r ∈ rows, ∀ f ∈ r, f.size < 1000000000) :
    ∀ (d i : Nat) (acc : List UInt8), i + d = rows.length → acc.length + (encT (toL (rows.drop i))).length ≤ 1000000000 → Ev (fun k => pacelineref02_Encode.l0 k rows (bl acc) (i : Int)) (resE rows i acc) := by
  intro d
  induction d with
  | zero =>
    intro i acc hi hb
    have hd : rows.drop i = [] := List.drop_eq_nil_of_le (by omega)
    refine ⟨1, fun k hk => ?_⟩
    obtain ⟨k, rfl⟩ : ∃ m, k = m + 1 := ⟨k - 1, by omega⟩
    show pacelineref02_Encode.l0 (k + 1) rows (bl acc) (i : Int) = _
    rw [pacelineref02_Encode.l0, if_neg (by omega)]
    unfold resE
    rw [hd]; simp [encT, toL]
  | succ d ih =>
    intro i acc hi hb
    have hil : i < rows.length := by omega
    have hd : rows.drop i = rows[i] :: rows.drop (i + 1) := List.drop_eq_getElem_cons hil
    have hib : (0 : Int) ≤ (i : Int) := by omega
    have hia : (i : Int) < (rows.length : Int) := by omega
    have hrd : rd_L1 rows (i : Int) = rows[i] := by
      show rows.getD i [] = _
      rw [List.getD_eq_getElem?_getD, List.getElem?_eq_getElem hil]; rfl
    by_cases h0 : rows[i].length = 0
    · refine ⟨1, fun k hk => ?_⟩
      obtain ⟨k, rfl⟩ : ∃ m, k = m + 1 := ⟨k - 1, by omega⟩
      show pacelineref02_Encode.l0 (k + 1) rows (bl acc) (i : Int) = _
      have h1 : (rows[i].length : Int) = 0 := by omega
      rw [pacelineref02_Encode.l0, if_pos hia, if_pos hib, hrd, if_pos h1]
      unfold resE
      rw [if_pos ⟨rows[i], by rw [hd]; exact List.mem_cons_self, List.length_eq_zero_iff.1 h0⟩]
    · have hmi := hm _ (List.getElem_mem hil)
      have hfi := hfm _ (List.getElem_mem hil)
      obtain ⟨f, fs, hr⟩ : ∃ f fs, rows[i] = f :: fs := by
        cases hr : rows[i] with
        | nil => rw [hr] at h0; exact absurd rfl h0
        | cons f fs => exact ⟨f, fs, rfl⟩
      have he : encT (toL (rows.drop i)) = escS f.data.toList ++ tailE (fs.map (·.data.toList)) ++ [10] ++ encT (toL (rows.drop (i + 1))) := by rw [hd, hr]; simp [encT, toL, encR]
      have hln : acc.length + ((escS f.data.toList).length + (tailE (fs.map (·.data.toList))).length + 1 + (encT (toL (rows.drop (i + 1)))).length) ≤ 1000000000 := by
        rw [he] at hb; simp only [List.length_append, List.length_cons, List.length_nil] at hb; omega
      have hA := ih (i + 1) (acc ++ escS f.data.toList ++ tailE (fs.map (·.data.toList)) ++ [10]) (by omega) (by simp only [List.length_append, List.length_cons, List.length_nil]; omega)
      have hres : resE rows (i + 1) (acc ++ escS f.data.toList ++ tailE (fs.map (·.data.toList)) ++ [10]) = resE rows i acc := by
        unfold resE
        have hx : (∃ r ∈ rows.drop i, r = []) ↔ (∃ r ∈ rows.drop (i + 1), r = []) := by
          rw [hd, hr]; simp
        by_cases hq : ∃ r ∈ rows.drop (i + 1), r = []
        · rw [if_pos hq, if_pos (hx.2 hq)]
        · rw [if_neg hq, if_neg (fun h => hq (hx.1 h)), he]; simp
      rw [hres] at hA
      have hj0 : 0 < rows[i].length := by omega
      have hf0 : rows[i][0] = f := by simp [hr]
      have hdr : rows[i].drop 1 = fs := by rw [hr]; rfl
      have hB := refE_l1 rows i hil (by omega) hmi hfi (resE rows i acc) (rows[i].length - 1) 1 (acc ++ escS f.data.toList) (Nat.le_refl _) (by omega) (by rw [hdr]; simp only [List.length_append]; omega) (by rw [hdr]; exact hA)
      obtain ⟨K, hK⟩ := refE_l2 rows i 0 hil hj0 (by decide) (by rw [hf0]; exact hfi f (by rw [hr]; exact List.mem_cons_self)) (resE rows i acc) rows[i][0].size 0 acc (by omega) (by rw [hf0, List.drop_zero]; omega) (by rw [hf0, List.drop_zero]; exact hB)
      refine ⟨K + 3, fun k hk => ?_⟩
      obtain ⟨k, rfl⟩ : ∃ m, k = m + 3 := ⟨k - 3, by omega⟩
      show pacelineref02_Encode.l0 (k + 3) rows (bl acc) (i : Int) = _
      have h1 : ¬ (rows[i].length : Int) = 0 := by omega
      have h2 : ((0 : Nat) : Int) < (rows[i].length : Int) := by omega
      have h3 : ¬ ((0 : Nat) : Int) > 0 := by omega
      rw [pacelineref02_Encode.l0, if_pos hia, if_pos hib, hrd, if_neg h1]
      show pacelineref02_Encode.l1 (k + 2) rows (bl acc) (i : Int) ((0 : Nat) : Int) = _
      rw [pacelineref02_Encode.l1, if_pos hib, if_pos hia, hrd, if_pos h2, if_neg h3, pacelineref02_Encode.j2]
      exact hK k (by omega)
theorem ref_encode (rows : List (List ByteArray)) (hl : rows.length < 1000000000) (hm : ∀ r ∈ rows, r.length < 1000000000) (hfm : ∀ r ∈ rows, ∀ f ∈ r, f.size < 1000000000) (hb : (encT (toL rows)).length ≤ 1000000000) :
    ∃ k, pacelineref02_Encode.f k rows = some (encF rows) := by
  obtain ⟨K, hK⟩ := refE_l0 rows hl hm hfm rows.length 0 [] (by omega) (by simpa using hb)
  refine ⟨K, ?_⟩
  have h := hK K (Nat.le_refl _)
  have e : resE rows 0 [] = encF rows := by
    unfold resE encF
    rw [List.drop_zero, allE_eq]; simp [bl]
  rw [e] at h
  exact h
end Go.Proofs.YtkjghjffdjjedaaDoor.Enc

set_option linter.unusedVariables false
set_option linter.unusedSimpArgs false
namespace Go.Proofs.YtkjghjffdjjedaaDoor.Enc
open Go Go.RowKit Go.Lib Go.Proofs Go.Proofs.YtkjghjffdjjedaaDoorW.PrintWords Go.Proofs.YtkjghjffdjjedaaDoorW.PrintLast Go.Proofs.YtkjghjffdjjedaaDoor.XLinesEncodes
/-- the reference's Encode as a contract -/
theorem refE_call (rows : List (List ByteArray)) (v : Value) (w : World) (hv : Reads w v rows) (hw : wts rows rows.length ≤ 2048) :
    Calls Tryd.prog 15 #[v] w fun e w' => e = .returned (.tuple #[.string (encF rows).1, .int .i64 (encF rows).2]) ∧ Below w.heap.size w w' := by
  obtain ⟨h1, h2, h3, h4⟩ := light hw
  obtain ⟨A, c, rfl, hc, hC⟩ := hv
  obtain ⟨k, hk⟩ := ref_encode rows (Nat.lt_of_le_of_lt h1 (by decide)) (fun r hr => Nat.lt_of_le_of_lt (h3 r hr) (by decide)) (fun r hr f hf => Nat.lt_of_le_of_lt (h4 r hr f hf) (by decide)) (Nat.le_trans h2 (by decide))
  exact pacelineref02_Encode.calls k A c rows _ _ w hC hc hk
theorem enc_call2 (rows : List (List ByteArray)) (v : Value) (w : World) (hv : Reads w v rows) (hw : wts rows rows.length ≤ 2048) :
    Calls Tryd.prog 14 #[v] w fun e w' => e = .returned (.tuple #[.string (encF rows).1, .int .i64 (encF rows).2]) ∧ Below w.heap.size w w' := by
  obtain ⟨h1, h2, h3, h4⟩ := light hw
  exact enc_call rows v w hv (by rw [allE_eq]; exact Nat.le_trans h2 (by decide)) (Nat.le_trans h1 (by decide))
theorem encF_size (rows : List (List ByteArray)) (hw : wts rows rows.length ≤ 2048) : (encF rows).1.size ≤ 8192 := by
  obtain ⟨h1, h2, h3, h4⟩ := light hw
  by_cases h : (encF rows).2 = 0
  · rw [encF_ok (encF_inv h), bl_size]; exact h2
  · rw [encF_bad h]; exact Nat.zero_le _
set_option maxHeartbeats 4000000 in
set_option maxRecDepth 100000 in
theorem encodes_walk (rows : List (List ByteArray)) (v : Value) (w : World) (hv : Reads w v rows) (hE : EnvD w) : Calls Tryd.prog 4 #[v] w fun e w' => e = .returned (.bool true) ∧ Below w.heap.size w w' := by
  have hu22 := Tryd.underlying22
  have hu9 := Tryd.underlying9
  have hu27 := Tryd.underlying27
  have hhv := heavy_call rows v w hv
  have HHV := Lib.hid hhv
  clear hhv
  go_enter Tryd.func4, Tryd.ntmps4
  go_wp2_with (go_at_call 13; refine HHV.out.mono ?_)
  rintro e w1 ⟨rfl | ⟨rfl, hwt⟩, hb1⟩
  · go_wp2_with fail
    go_ret
    exact ⟨rfl, hb1⟩
  · have hv1 := hv.below hb1
    have hE1 := hE.below hb1
    have hen := enc_call2 rows v w1 hv1 hwt
    have hre := fun w' h => refE_call rows v w' h hwt
    have hsz := encF_size rows hwt
    have hlt := light hwt
    have hbd := fun h => encF_bad (rows := rows) h
    have hdc := fun h => dec_enc (rows := rows) h
    obtain ⟨s, ee, hte⟩ : ∃ s ee, encF rows = (s, ee) := ⟨_, _, rfl⟩
    rw [hte] at hen hsz hbd hdc
    simp only [hte] at hre
    simp only at hsz hbd hdc
    have HEN := Lib.hid hen
    have HRE := Lib.hid hre
    have HBD := Lib.hid hbd
    have HDC := Lib.hid hdc
    have HV1 := Lib.hid hv1
    have HE1 := Lib.hid hE1
    have HB1 := Lib.hid hb1
    have HLT := Lib.hid hlt
    have HTE := Lib.hid hte
    clear hen hre hbd hdc hv1 hE1 hb1 hlt hte
    go_wp2_with (go_at_call 14; refine HEN.out.mono ?_)
    rintro e w2 ⟨rfl, hb2⟩
    have hv2 := HV1.out.below hb2
    have hE2 := HE1.out.below hb2
    have hb2' := HB1.out.trans (hb2.mono HB1.out.size)
    have hre2 := HRE.out w2 hv2
    have HB2 := Lib.hid hb2
    have HV2 := Lib.hid hv2
    have HE2 := Lib.hid hE2
    have HB2W := Lib.hid hb2'
    have HRE2 := Lib.hid hre2
    clear hb2 hv2 hE2 hb2' hre2
    go_wp2_with (go_at_call 15; refine HRE2.out.mono ?_)
    rintro e w3 ⟨rfl, hb3⟩
    have hv3 := HV2.out.below hb3
    have hE3 := HE2.out.below hb3
    have hb3' := HB2W.out.trans (hb3.mono HB2W.out.size)
    have HB3 := Lib.hid hb3
    have HV3 := Lib.hid hv3
    have HE3 := Lib.hid hE3
    have HB3W := Lib.hid hb3'
    clear hb3 hv3 hE3 hb3'
    by_cases h0 : ee = 0
    · subst h0
      have hd := HDC.out rfl
      have hdl := dec_call s w3 (by omega) HE3.out
      rw [hd] at hdl
      simp only at hdl
      have HD := Lib.hid hd
      have HDL := Lib.hid hdl
      clear hd hdl
      go_wp2_with (go_at_call 16; refine HDL.out.mono ?_)
      rintro e w4 ⟨v2, rfl, hr4, hb4⟩
      have hb4' := HB3W.out.trans (hb4.mono HB3W.out.size)
      have hv4 := HV3.out.below hb4
      have hsm := same_call rows v2 v w4 hr4 hv4 (fun r hr => Nat.lt_of_le_of_lt (HLT.out.2.2.1 r hr) (by decide)) (Nat.lt_of_le_of_lt HLT.out.1 (by decide))
      have HR4 := Lib.hid hr4
      have HB4 := Lib.hid hb4
      have HV4 := Lib.hid hv4
      have HB4W := Lib.hid hb4'
      have HSM := Lib.hid hsm
      clear hr4 hb4 hv4 hb4' hsm
      go_wp2_with (go_at_call 17; refine HSM.out.mono ?_)
      rintro e w5 ⟨rfl, hdr⟩
      have hb5 := HB4W.out.trans (hdr.below.mono HB4W.out.size)
      have HDR := Lib.hid hdr
      have HB5 := Lib.hid hb5
      clear hdr hb5
      go_wp2
      go_ret
      exact ⟨rfl, HB5.out⟩
    · have hq := HBD.out h0
      obtain ⟨hs0, he0⟩ := Prod.mk.inj hq
      clear hq
      subst hs0 he0
      go_wp2_with fail
      go_ret
      exact ⟨rfl, HB3W.out⟩
end Go.Proofs.YtkjghjffdjjedaaDoor.Enc

set_option linter.unusedVariables false
set_option linter.unusedSimpArgs false
namespace Go.Proofs.YtkjghjffdjjedaaDoor.Enc
open Go.RowKit Go.ChangeShapes Go.WideShapes Go.Deep Go.Proofs.YtkjghjffdjjedaaDoorW.PrintWords Go.Proofs.YtkjghjffdjjedaaDoorW.PrintLast
/-! ### arguments that are read, as the print's kinds tell them -/
structure Opens (P : Program) (T : TypeId) {α : Type} (d : Kd α) (good : α → Prop) : Prop where
  open_ : ∀ {H : Type} {enc : TypeId × Value → H} {w : World} {base : Nat} {spare : Nat → Bool} {held : Bool} {fuel : Nat} {cs : List Value} {x : DataW H × List MemPlace}, DataW.trod enc P w base spare held fuel T cs = some x → ∃ a, d.K w a cs ∧ good a
theorem Opens.slice {P : Program} {T e : TypeId} {α : Type} {d : Kd α} {good : α → Prop} (ht : P.underlying T = some (.slice e)) (hs : P.cellsOf e = d.sz) (h : Opens P e d good) : Opens P T (Kd.slice e d) (fun l => ∀ a ∈ l, good a) := by
  refine ⟨fun {H enc w base spare held fuel cs x} hx => ?_⟩
  rcases Go.Deep.open_slice ht hx with ⟨rfl, _⟩ | ⟨a, len, cap, m, n, D, Pl, rfl, hb, hl, hm, hmm, _, hi⟩
  · exact ⟨[], ⟨none, 0, rfl, Nat.le_refl _, rfl, by simp, fun h => absurd h (Nat.lt_irrefl _)⟩, fun a ha => by cases ha⟩
  · have hlm : len ≤ m := by rw [hmm]; split <;> omega
    have hall : ∀ i : Fin len, ∃ a' : α, good a' ∧ ∃ c, c.length = d.sz ∧ d.K w a' c ∧ ∀ j u, c[j]? = some u → w.cell? (a.add (i.1 * d.sz + j)) = some u := by
      intro i
      obtain ⟨c, hc, ht'⟩ := hi i.1 (by have := i.2; omega)
      obtain ⟨a', hk, hg⟩ := h.open_ ht'
      obtain ⟨_, hcl, hat⟩ := World.cells?_some hc
      rw [hs] at hcl hat
      refine ⟨a', hg, c, hcl, hk, fun j u hj => ?_⟩
      have hjl : j < d.sz := by rw [← hcl]; exact (List.getElem?_eq_some_iff.1 hj).1
      have := hat j hjl
      rw [← Go.Deep.add_add, this, hj]
    obtain ⟨f, hf⟩ := Classical.axiomOfChoice hall
    have hlen : (List.ofFn f).length = len := List.length_ofFn
    refine ⟨List.ofFn f, ⟨some a, cap, by rw [hlen], by rw [hlen]; exact hl, rfl, by rw [hlen]; unfold maxLen at hm; omega, fun _ => ⟨a, rfl, fun j p hj => ?_⟩⟩, fun a' ha => ?_⟩
    · have hjl : j < len := by rw [← hlen]; exact (List.getElem?_eq_some_iff.1 hj).1
      rw [List.getElem?_ofFn, dif_pos hjl] at hj
      obtain rfl := Option.some.inj hj
      exact (hf ⟨j, hjl⟩).2
    · obtain ⟨i, rfl⟩ := List.mem_ofFn.1 ha
      exact (hf i).1
/-- a slice argument: its row -/
theorem Opens.arg {P : Program} {T e : TypeId} {α : Type} {d : Kd α} {good : α → Prop} (h : Opens P T (Kd.slice e d) (fun l => ∀ a ∈ l, good a)) {H : Type} {enc : TypeId × Value → H} {w : World} {base : Nat} {spare : Nat → Bool} {held : Bool} {a : Option Addr} {len cap : Nat} {x : DataW H} {p : List MemPlace}
    (hx : DataW.Trod enc P w base spare held T (.slice a len cap) x p) : ∃ l : List α, l.length = len ∧ len ≤ cap ∧ d.C w a len l ∧ ∀ a ∈ l, good a := by
  obtain ⟨fuel, hf⟩ := hx
  obtain ⟨l, ⟨A, c, he, hc, hC⟩, hg⟩ := h.open_ hf
  simp only [Value.cells, List.cons.injEq, and_true, Value.slice.injEq] at he
  obtain ⟨rfl, rfl, rfl⟩ := he
  exact ⟨l, rfl, hc, hC, hg⟩
theorem Opens.str {P : Program} {T : TypeId} (ht : P.underlying T = some .string) : Opens P T Kd.string (fun _ => True) :=
  ⟨fun h => by obtain ⟨s, rfl, _⟩ := DataW.trod_string ht h; exact ⟨s, rfl, trivial⟩⟩
theorem rows_arg {H : Type} {enc : TypeId × Value → H} {x : DataW H} {p : List MemPlace} (W : World) (a : Option Addr) (len cap : Nat) (k : DataW.Trod enc Tryd.prog W 0 (fun _ => true) true 27 (.slice a len cap) x p) :
    ∃ rows, Reads W (.slice a len cap) rows := by
  obtain ⟨l, rfl, hc, hC, _⟩ := Opens.arg (Opens.slice Tryd.underlying27 (by kernel_rfl) (Opens.slice Tryd.underlying35 (by kernel_rfl) (Opens.str Tryd.underlying9))) k
  exact ⟨l, a, cap, rfl, hc, hC⟩
theorem encodes_row {H : Type} {enc : TypeId × Value → H} {x : DataW H} {p : List MemPlace} (a : Option Addr) (len cap : Nat) (W : World) (k : DataW.Trod enc Tryd.prog W 0 (fun _ => true) true 27 (.slice a len cap) x p) (hE : EnvD W) :
    Calls Tryd.prog 4 #[.slice a len cap] W fun e w' => e = .returned (.bool true) ∧ Below W.heap.size W w' := by
  obtain ⟨rows, h⟩ := rows_arg W a len cap k
  exact encodes_walk rows _ W h hE
end Go.Proofs.YtkjghjffdjjedaaDoor.Enc
