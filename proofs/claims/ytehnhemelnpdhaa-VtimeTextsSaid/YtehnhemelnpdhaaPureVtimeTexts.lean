/- The law VtimeTexts of the given program, as a plain statement on integers and texts: any bytes that are a key's are just that key's; its parts are within their bounds; for every input. -/
import Derived.Test.YtehnhemelnpdhaaXVtimeTextsx5
import Derived.Test.YtehnhemelnpdhaaBytes
import Derived.OpenShut
set_option linter.unusedVariables false
set_option linter.unusedSimpArgs false
namespace Go.Proofs.Ytehnhemelnpdhaa.Pure
open Go.RowKit Go.Proofs.Ytehnhemelnpdhaa.XVtimeTexts Go.Proofs.YtehnhemelnpdhaaW.PrintWords Go.Proofs.YtehnhemelnpdhaaW.PrintLast Go.Proofs.YtehnhemelnpdhaaW.PrintMore Go.Proofs.Ytehnhemelnpdhaa.Ext Go.Proofs.Ytehnhemelnpdhaa.Bytes
open Go.Proofs.Ytehnhemelnpdhaa.B (vd u64_wrap)

theorem valid_eq (t : Int) (h : (Lit.int .i64 t).wf = true) : vtime_Valid.f t = some (vd t) := by
  have hb := bounds_i64 h
  unfold vtime_Valid.f vd
  rw [u64_wrap t hb]
  split
  · rename_i e; rw [e]; rfl
  · congr 1; rw [decide_eq_decide]; omega
theorem rvalid_eq (t : Int) : pacelineref01_Valid.f t = some (vd t) := by
  unfold pacelineref01_Valid.f vd
  split
  · split
    · congr 1; symm; rw [decide_eq_true_eq]; omega
    · congr 1; rw [Bool.eq_iff_iff]; simp; omega
  · congr 1; rw [Bool.eq_iff_iff]; simp; omega
theorem shr_eq (n : Int) (m : Nat) (h : m ≤ 7) : shr .i64 n (IntKind.u64.wrap (8 * (m : Int))) = n / 256 ^ m := by
  have e : IntKind.u64.wrap (8 * (m : Int)) = 8 * (m : Int) := by rw [u64_wrap _ (by omega), if_neg (by omega)]
  unfold shr
  rw [e]
  have e2 : min (8 * (m : Int)).toNat IntKind.i64.bits = 8 * m := by simp only [IntKind.bits]; omega
  rw [e2, Int.pow_mul]; rfl
theorem lay_inner (n : Int) (b : Int) (l : List S45) (c i : Int) (m : Nat) (hm : m ≤ 8) : ∀ (k : Nat) (x : List Int), x.length + m ≤ 100 →
    vtime_lay.l1 (k + m + 1) x (8 * (m : Int) - 8) l c i n b = vtime_lay.l0 k (x ++ beI n m) l c (wrap64 (i + 1)) := by
  induction m with
  | zero =>
    intro k x _
    simp only [vtime_lay.l1]
    rw [if_neg (by omega)]; simp [beI]
  | succ m ih =>
    intro k x hx
    obtain ⟨kk, hkk⟩ : ∃ kk, kk = k + m + 1 := ⟨_, rfl⟩
    rw [show k + (m + 1) + 1 = kk + 1 by omega]
    simp only [vtime_lay.l1]
    have e : 8 * ((m + 1 : Nat) : Int) - 8 = 8 * (m : Int) := by omega
    have w1 : wrap64 (8 * (m : Int) - 8) = 8 * (m : Int) - 8 := by unfold wrap64; omega
    have w2 : (0 : Int) ≤ IntKind.u64.wrap (8 * (m : Int)) := by rw [u64_wrap _ (by omega), if_neg (by omega)]; omega
    rw [e, if_pos (by omega), if_pos w2, if_pos (by omega), w1, shr_eq n m (by omega), hkk, ih (by omega) k _ (by simp; omega), beI_cons]
    simp
theorem lay_eq (t f s : Int) : vtime_lay.f 25 [(⟨t, 8⟩ : S45), (⟨f, 2⟩ : S45), (⟨s, 6⟩ : S45)] = some (strOfNums (keyBs t f s)) := by
  unfold vtime_lay.f
  have r0 : rd_T45 [(⟨t, 8⟩ : S45), (⟨f, 2⟩ : S45), (⟨s, 6⟩ : S45)] 0 = ⟨t, 8⟩ := rfl
  have r1 : rd_T45 [(⟨t, 8⟩ : S45), (⟨f, 2⟩ : S45), (⟨s, 6⟩ : S45)] 1 = ⟨f, 2⟩ := rfl
  have r2 : rd_T45 [(⟨t, 8⟩ : S45), (⟨f, 2⟩ : S45), (⟨s, 6⟩ : S45)] 2 = ⟨s, 6⟩ := rfl
  have w8 : wrap64 (8 * wrap64 ((8 : Int) - 1)) = 8 * ((8 : Nat) : Int) - 8 := by unfold wrap64; omega
  have w2 : wrap64 (8 * wrap64 ((2 : Int) - 1)) = 8 * ((2 : Nat) : Int) - 8 := by unfold wrap64; omega
  have w6 : wrap64 (8 * wrap64 ((6 : Int) - 1)) = 8 * ((6 : Nat) : Int) - 8 := by unfold wrap64; omega
  have e1 : wrap64 ((0 : Int) + 1) = 1 := by unfold wrap64; omega
  have e2 : wrap64 ((1 : Int) + 1) = 2 := by unfold wrap64; omega
  have e3 : wrap64 ((2 : Int) + 1) = 3 := by unfold wrap64; omega
  have hlen : (([(⟨t, 8⟩ : S45), (⟨f, 2⟩ : S45), (⟨s, 6⟩ : S45)].length : Nat) : Int) = 3 := rfl
  generalize hl : [(⟨t, 8⟩ : S45), (⟨f, 2⟩ : S45), (⟨s, 6⟩ : S45)] = l at *
  rw [hlen]
  have s0 : ∀ k x, vtime_lay.l0 (k + 1) x l 3 0 = vtime_lay.l1 k x (8 * ((8 : Nat) : Int) - 8) l 3 0 t 8 := by
    intro k x
    simp only [vtime_lay.l0]
    rw [if_pos (by decide), if_pos (by decide), hlen, if_pos (by decide), r0, w8]
  have s1 : ∀ k x, vtime_lay.l0 (k + 1) x l 3 1 = vtime_lay.l1 k x (8 * ((2 : Nat) : Int) - 8) l 3 1 f 2 := by
    intro k x
    simp only [vtime_lay.l0]
    rw [if_pos (by decide), if_pos (by decide), hlen, if_pos (by decide), r1, w2]
  have s2 : ∀ k x, vtime_lay.l0 (k + 1) x l 3 2 = vtime_lay.l1 k x (8 * ((6 : Nat) : Int) - 8) l 3 2 s 6 := by
    intro k x
    simp only [vtime_lay.l0]
    rw [if_pos (by decide), if_pos (by decide), hlen, if_pos (by decide), r2, w6]
  have s3 : ∀ k x, vtime_lay.l0 (k + 1) x l 3 3 = some (strOfNums x) := by
    intro k x
    simp only [vtime_lay.l0]
    rw [if_neg (by decide)]
  rw [s0 24, show (24 : Nat) = 15 + 8 + 1 by rfl, lay_inner t 8 l 3 0 8 (by omega) 15 _ (by simp), e1, s1 14, show (14 : Nat) = 11 + 2 + 1 by rfl, lay_inner f 2 l 3 1 2 (by omega) 11 _ (by simp [beI_length]), e2,
    s2 10, show (10 : Nat) = 3 + 6 + 1 by rfl, lay_inner s 6 l 3 2 6 (by omega) 3 _ (by simp [beI_length]), e3, s3 2]
  unfold keyBs
  simp
theorem code_eq (t f s : Int) (ht : (Lit.int .i64 t).wf = true) (k : Nat) (hk : 25 ≤ k) : vtime_Code.f k t f s = some (codeP t f s) := by
  have hl : vtime_lay.f k [(⟨t, 8⟩ : S45), (⟨f, 2⟩ : S45), (⟨s, 6⟩ : S45)] = some (strOfNums (keyBs t f s)) := at_rounds (vtime_lay.mono _) hk (lay_eq t f s)
  unfold vtime_Code.f codeP okKey
  rw [valid_eq t ht, Option.bind_some]
  cases h : vd t with
  | false => simp
  | true =>
    rw [if_pos rfl]
    by_cases c1 : f < 0
    · rw [if_pos c1, decide_eq_false (show ¬ (0 ≤ f ∧ f < 65536) by omega)]; simp
    · rw [if_neg c1]
      by_cases c2 : f ≥ 65536
      · rw [if_pos c2, decide_eq_false (show ¬ (0 ≤ f ∧ f < 65536) by omega)]; simp
      · rw [if_neg c2, decide_eq_true (show 0 ≤ f ∧ f < 65536 by omega)]
        by_cases c3 : s < 0
        · rw [if_pos c3, decide_eq_false (show ¬ (0 ≤ s ∧ s < 281474976710656) by omega)]; simp
        · rw [if_neg c3]
          by_cases c4 : s ≥ 281474976710656
          · rw [if_pos c4, decide_eq_false (show ¬ (0 ≤ s ∧ s < 281474976710656) by omega)]; simp
          · rw [if_neg c4, decide_eq_true (show 0 ≤ s ∧ s < 281474976710656 by omega), hl]; simp
theorem big_loop (m : Nat) (hm : m ≤ 8) : ∀ (k : Nat) (n : Int) (a r : List Int), 0 ≤ n → n ≤ 9223372036854775807 → a.length = m →
    pacelineref01_big.l0 (k + m + 1) n (a ++ r) ((m : Int) - 1) = some (strOfNums (beI n m ++ r)) := by
  induction m with
  | zero =>
    intro k n a r _ _ ha
    obtain rfl := List.length_eq_zero_iff.1 ha
    simp only [pacelineref01_big.l0]
    rw [if_neg (by omega)]; simp [beI]
  | succ m ih =>
    intro k n a r h0 h1 ha
    obtain ⟨kk, hkk⟩ : ∃ kk, kk = k + m + 1 := ⟨_, rfl⟩
    rw [show k + (m + 1) + 1 = kk + 1 by omega]
    simp only [pacelineref01_big.l0]
    have e1 : ((m + 1 : Nat) : Int) - 1 = (m : Int) := by omega
    have d : Int.tdiv n 256 = n / 256 := Int.tdiv_eq_ediv_of_nonneg h0
    have md : Int.tmod n 256 = n % 256 := Int.tmod_eq_emod_of_nonneg h0
    have w1 : wrap64 (n / 256) = n / 256 := by unfold wrap64; omega
    have w2 : wrap64 ((m : Int) - 1) = (m : Int) - 1 := by unfold wrap64; omega
    have mm : n % 256 % 256 = n % 256 := by omega
    have hlen : (m : Int) < (((a ++ r).length : Nat) : Int) := by rw [List.length_append]; omega
    have hset : (a ++ r).set ((m : Int)).toNat (n % 256) = a.take m ++ (n % 256 :: r) := by
      have hm' : a = a.take m ++ [a[m]'(by omega)] := by
        rw [List.take_append_getElem]; exact (List.take_of_length_le (by omega)).symm
      rw [Int.toNat_natCast]
      conv => lhs; rw [hm']
      rw [List.append_assoc, List.set_append_right _ _ (by rw [List.length_take]; omega), List.length_take]
      rw [show m - min m a.length = 0 by omega]; rfl
    rw [e1, if_pos (by omega), if_pos (by omega), if_pos hlen, d, md, w1, w2, mm, hset, hkk, ih (by omega) k (n / 256) _ _ (by omega) (by omega) (by rw [List.length_take]; omega)]
    simp [beI]
theorem big_eq (n : Int) (m : Nat) (hm : m ≤ 8) (h0 : 0 ≤ n) (h1 : n ≤ 9223372036854775807) (k : Nat) (hk : 9 ≤ k) : pacelineref01_big.f k n (m : Int) = some (strOfNums (beI n m)) := by
  unfold pacelineref01_big.f
  have w2 : wrap64 ((m : Int) - 1) = (m : Int) - 1 := by unfold wrap64; omega
  rw [if_pos (by omega), if_pos (by omega), w2, Int.toNat_natCast]
  have := big_loop m hm (k - m - 1) n (List.replicate m 0) [] h0 h1 (by simp)
  rw [show k - m - 1 + m + 1 = k by omega] at this
  simpa using this
theorem rcode_eq (t f s : Int) (k : Nat) (hk : 10 ≤ k) : pacelineref01_Code.f k t f s = some (codeP t f s) := by
  obtain ⟨k, rfl⟩ : ∃ m, k = m + 1 := ⟨k - 1, by omega⟩
  have jt : pacelineref01_Code.j0 (k + 1) true t f s = some ((⟨#[]⟩ : ByteArray), 1) := by
    simp only [pacelineref01_Code.j0]; rw [if_pos trivial]
  have jf : okKey t f s = true → pacelineref01_Code.j0 (k + 1) false t f s = some (strOfNums (keyBs t f s), 0) := by
    intro h
    obtain ⟨ht, hf, hs⟩ := okKey_bound h
    simp only [pacelineref01_Code.j0]
    have b8 := big_eq t 8 (by omega) ht.1 (by omega) k (by omega)
    have b2 := big_eq f 2 (by omega) hf.1 (by omega) k (by omega)
    have b6 := big_eq s 6 (by omega) hs.1 (by omega) k (by omega)
    have z8 : (strOfNums (beI t 8)).size = 8 := by rw [strOfNums_size, beI_length]
    have z2 : (strOfNums (beI f 2)).size = 2 := by rw [strOfNums_size, beI_length]
    have z6 : (strOfNums (beI s 6)).size = 6 := by rw [strOfNums_size, beI_length]
    rw [if_neg (by simp)]
    rw [show ((8 : Nat) : Int) = 8 by rfl] at b8
    rw [show ((2 : Nat) : Int) = 2 by rfl] at b2
    rw [show ((6 : Nat) : Int) = 6 by rfl] at b6
    rw [b8, Option.bind_some, b2, Option.bind_some, if_pos (by omega), b6, Option.bind_some, if_pos (by rw [ByteArray.size_append]; omega)]
    congr 2
  unfold pacelineref01_Code.f codeP
  rw [rvalid_eq, Option.bind_some]
  by_cases h : okKey t f s = true
  · rw [if_pos h]
    have h' := h
    unfold okKey at h'
    simp only [Bool.and_eq_true, decide_eq_true_eq] at h'
    rw [if_pos h'.1.1, if_neg (by omega), if_neg (by omega), if_neg (by omega), decide_eq_false (by omega)]
    exact jf h
  · rw [if_neg h]
    by_cases c0 : vd t = true
    · rw [if_pos c0]
      by_cases c1 : f < 0
      · rw [if_pos c1]; exact jt
      · rw [if_neg c1]
        by_cases c2 : f > 65535
        · rw [if_pos c2]; exact jt
        · rw [if_neg c2]
          by_cases c3 : s < 0
          · rw [if_pos c3]; exact jt
          · rw [if_neg c3, decide_eq_true (show s > 281474976710655 by
              apply Decidable.byContradiction
              intro c4
              apply h
              unfold okKey
              simp only [Bool.and_eq_true, decide_eq_true_eq]
              exact ⟨⟨c0, by omega⟩, by omega⟩)]
            exact jt
    · rw [if_neg c0]; exact jt

theorem bt_at (s : ByteArray) (i : Nat) (h : i < s.data.toList.length) : bt s (i : Int) = ((s.data.toList[i].toNat : Nat) : Int) := by
  have h' : i < s.size := by rw [Array.length_toList] at h; exact h
  unfold bt
  rw [dif_pos (by simpa using h')]
  rfl
theorem nw1 (v : Nat) (c : (v : Int) ≤ 4503599627370496) : wrap64 ((v : Int) * 256) = (v : Int) * 256 := by unfold wrap64; omega
theorem nw2 (y : Nat) (hy : y < 256) : wrap64 (y : Int) = (y : Int) := by unfold wrap64; omega
theorem nw4 (v y : Nat) : ((v * 256 + y : Nat) : Int) = (v : Int) * 256 + (y : Int) := by
  rw [Int.natCast_add, Int.natCast_mul]; rfl
theorem nw3 (v y : Nat) (c : (v : Int) ≤ 4503599627370496) (hy : y < 256) : wrap64 ((v : Int) * 256 + (y : Int)) = ((v * 256 + y : Nat) : Int) := by rw [nw4]; unfold wrap64; omega
theorem nw5 (v y : Nat) (c : (v : Int) ≤ 4503599627370496) (hy : y < 256) : ((v * 256 + y : Nat) : Int) ≤ 1152921504606847231 := by rw [nw4]; omega
/-- what a text's number is, up to a bound: the number, or one that is above the bound, as the number is -/
theorem number_loop (s : ByteArray) (hs : s.size ≤ 8) (d : Nat) : ∀ (k i : Nat), s.size - i = d → i ≤ s.size → d < k → (((big (s.data.toList.take i) : Nat) : Int) ≤ 1152921504606847231) →
    ∃ n : Nat, pacelineref01_number.l0 k s (big (s.data.toList.take i) : Nat) i = some (n : Int) ∧ (n = big s.data.toList ∨ ((4503599627370496 : Int) < n ∧ (4503599627370496 : Int) < (big s.data.toList : Nat) ∧ (n : Int) ≤ 1152921504606847231)) := by
  have hl : s.data.toList.length = s.size := by rw [Array.length_toList]; rfl
  induction d with
  | zero =>
    intro k i hd hi hk hb
    obtain ⟨k, rfl⟩ : ∃ m, k = m + 1 := ⟨k - 1, by omega⟩
    have e : s.data.toList.take i = s.data.toList := List.take_of_length_le (by omega)
    refine ⟨big s.data.toList, ?_, Or.inl rfl⟩
    simp only [pacelineref01_number.l0]
    rw [if_neg (by omega), e]
  | succ d ih =>
    intro k i hd hi hk hb
    obtain ⟨k, rfl⟩ : ∃ m, k = m + 1 := ⟨k - 1, by omega⟩
    have hlt : i < s.data.toList.length := by omega
    have hc := (s.data.toList[i]).toNat_lt
    have hsn := big_take_succ s.data.toList i hlt
    simp only [pacelineref01_number.l0]
    rw [if_pos (by omega)]
    by_cases c : ((big (s.data.toList.take i) : Nat) : Int) > 4503599627370496
    · rw [if_pos c]
      refine ⟨_, rfl, Or.inr ⟨c, ?_, hb⟩⟩
      have e : s.data.toList = s.data.toList.take i ++ s.data.toList.drop i := (List.take_append_drop _ _).symm
      have h1 := big_append (s.data.toList.take i) (s.data.toList.drop i)
      rw [← e] at h1
      have h2 : big (s.data.toList.take i) * 1 ≤ big (s.data.toList.take i) * 256 ^ (s.data.toList.drop i).length := Nat.mul_le_mul_left _ (Nat.pow_pos (by decide))
      have h3 : big (s.data.toList.take i) ≤ big s.data.toList := by omega
      have h4 : ((big (s.data.toList.take i) : Nat) : Int) ≤ (big s.data.toList : Nat) := Int.ofNat_le.2 h3
      omega
    · rw [if_neg c, if_pos (by omega), bt_at s i hlt]
      have key := ih k (i + 1) (by omega) (by omega) (by omega)
      rw [hsn] at key
      have w4 : wrap64 ((i : Int) + 1) = ((i + 1 : Nat) : Int) := by unfold wrap64; omega
      rw [w4]
      generalize big (s.data.toList.take i) = v at *
      generalize (s.data.toList[i]).toNat = y at *
      have c' : (v : Int) ≤ 4503599627370496 := by omega
      rw [nw1 v c', nw2 y hc, nw3 v y c' hc]
      exact key (nw5 v y c' hc)
theorem number_ev (s : ByteArray) (hs : s.size ≤ 8) (k : Nat) (hk : 9 ≤ k) : ∃ n : Nat, pacelineref01_number.f k s = some (n : Int) ∧ (n = big s.data.toList ∨ ((4503599627370496 : Int) < n ∧ (4503599627370496 : Int) < (big s.data.toList : Nat) ∧ (n : Int) ≤ 1152921504606847231)) := by
  have e : big (s.data.toList.take 0) = 0 := rfl
  have := number_loop s hs s.size k 0 (by omega) (by omega) (by omega) (by rw [e]; decide)
  rw [e] at this
  exact this
theorem small_piece (s : ByteArray) (a b : Nat) (h : b - a ≤ 6) : piece s a b = (big ((s.data.toList.drop a).take (b - a)) : Nat) ∧ big ((s.data.toList.drop a).take (b - a)) < 256 ^ (b - a) := by
  have h1 := big_lt ((s.data.toList.drop a).take (b - a))
  have h2 : ((s.data.toList.drop a).take (b - a)).length ≤ b - a := List.length_take_le _ _
  have h3 : 256 ^ ((s.data.toList.drop a).take (b - a)).length ≤ 256 ^ (b - a) := Nat.pow_le_pow_right (by decide) h2
  have h4 : 256 ^ (b - a) ≤ 256 ^ 6 := Nat.pow_le_pow_right (by decide) h
  have h5 : (256 : Nat) ^ 6 = 281474976710656 := by decide
  refine ⟨?_, by omega⟩
  unfold piece wrap64; omega
theorem key_of (s : ByteArray) (h : s.size = 16) (hv : vd (piece s 0 8) = true) : okKey (piece s 0 8) (piece s 8 10) (piece s 10 16) = true ∧ strOfNums (keyBs (piece s 0 8) (piece s 8 10) (piece s 10 16)) = s := by
  have hl : s.data.toList.length = 16 := by rw [Array.length_toList]; exact h
  obtain ⟨p2, q2⟩ := small_piece s 8 10 (by omega)
  obtain ⟨p6, q6⟩ := small_piece s 10 16 (by omega)
  have hb := vd_bound hv
  have h8 := big_lt ((s.data.toList.drop 0).take (8 - 0))
  have p8 : piece s 0 8 = (big ((s.data.toList.drop 0).take (8 - 0)) : Nat) := by
    have l8 : ((s.data.toList.drop 0).take (8 - 0)).length = 8 := by simp [hl]
    rw [l8] at h8
    have e8 : (256 : Nat) ^ 8 = 18446744073709551616 := by decide
    unfold piece at hb ⊢
    generalize big ((s.data.toList.drop 0).take (8 - 0)) = n at *
    unfold wrap64 at hb ⊢
    omega
  refine ⟨?_, ?_⟩
  · unfold okKey
    simp only [Bool.and_eq_true, decide_eq_true_eq]
    have e2 : (256 : Nat) ^ (10 - 8) = 65536 := by decide
    have e6 : (256 : Nat) ^ (16 - 10) = 281474976710656 := by decide
    exact ⟨⟨hv, by omega⟩, by omega⟩
  · rw [p8, p2, p6]
    unfold keyBs
    have l8 : ((s.data.toList.drop 0).take (8 - 0)).length = 8 := by simp [hl]
    have l2 : ((s.data.toList.drop 8).take (10 - 8)).length = 2 := by simp [hl]
    have l6 : ((s.data.toList.drop 10).take (16 - 10)).length = 6 := by simp [hl]
    have b8 := be_big ((s.data.toList.drop 0).take (8 - 0))
    have b2 := be_big ((s.data.toList.drop 8).take (10 - 8))
    have b6 := be_big ((s.data.toList.drop 10).take (16 - 10))
    rw [l8] at b8
    rw [l2] at b2
    rw [l6] at b6
    apply ByteArray.ext
    apply Array.ext'
    rw [str_data, List.map_append, List.map_append, b8, b2, b6]
    apply List.ext_getElem
    · simp [hl]
    · intro i h1 h2
      rcases Nat.lt_or_ge i 8 with g | g
      · rw [List.getElem_append_left (by simp [hl]; omega), List.getElem_append_left (by simp [hl]; omega)]
        simp
      · rcases Nat.lt_or_ge i 10 with g2 | g2
        · rw [List.getElem_append_left (by simp [hl]; omega), List.getElem_append_right (by simp [hl]; omega)]
          simp only [List.getElem_take, List.getElem_drop]
          congr 1; simp [hl]; omega
        · rw [List.getElem_append_right (by simp [hl]; omega)]
          simp only [List.getElem_take, List.getElem_drop]
          congr 1; simp [hl]; omega
/-- the document's decoding is the program's -/
theorem rdecode_eq (s : ByteArray) (k : Nat) (hk : 10 ≤ k) : pacelineref01_Decode.f k s = vtime_Decode.f s := by
  unfold pacelineref01_Decode.f vtime_Decode.f
  by_cases h : s.size = 16
  · rw [if_pos (by omega), if_pos h, if_pos (by decide), if_pos (by omega)]
    have x8 : (s.extract 0 8).data.toList = (s.data.toList.drop 0).take (8 - 0) := Go.Lib.extract_data s 0 8
    have x2 : (s.extract 8 10).data.toList = (s.data.toList.drop 8).take (10 - 8) := Go.Lib.extract_data s 8 10
    have x6 : (s.extract 10 s.size).data.toList = (s.data.toList.drop 10).take (16 - 10) := by rw [h]; exact Go.Lib.extract_data s 10 16
    obtain ⟨n8, e8, r8⟩ := number_ev (s.extract 0 8) (by rw [ByteArray.size_extract]; omega) k (by omega)
    obtain ⟨n2, e2, r2⟩ := number_ev (s.extract 8 10) (by rw [ByteArray.size_extract]; omega) k (by omega)
    obtain ⟨n6, e6, r6⟩ := number_ev (s.extract 10 s.size) (by rw [ByteArray.size_extract]; omega) k (by omega)
    obtain ⟨p2, q2⟩ := small_piece s 8 10 (by omega)
    obtain ⟨p6, q6⟩ := small_piece s 10 16 (by omega)
    rw [x8] at r8
    rw [x2] at r2
    rw [x6] at r6
    have g2 : (n2 : Int) = piece s 8 10 := by
      have : (256 : Nat) ^ (10 - 8) = 65536 := by decide
      rcases r2 with r2 | r2 <;> omega
    have g6 : (n6 : Int) = piece s 10 16 := by
      have : (256 : Nat) ^ (16 - 10) = 281474976710656 := by decide
      rcases r6 with r6 | r6 <;> omega
    rw [e8, Option.bind_some, if_pos (by decide), if_pos (by omega), e2, Option.bind_some, e6, Option.bind_some, g2, g6, rcode_eq _ _ _ k hk, Option.bind_some]
    have hl : s.data.toList.length = 16 := by rw [Array.length_toList]; exact h
    have l8 : ((s.data.toList.drop 0).take (8 - 0)).length = 8 := by simp [hl]
    have b8 := big_lt ((s.data.toList.drop 0).take (8 - 0))
    rw [l8] at b8
    have z8 : (256 : Nat) ^ 8 = 18446744073709551616 := by decide
    by_cases hv : vd (piece s 0 8) = true
    · obtain ⟨hk1, hk2⟩ := key_of s h hv
      have hb := vd_bound hv
      have g8 : (n8 : Int) = piece s 0 8 := by
        unfold piece at hb ⊢
        generalize big ((s.data.toList.drop 0).take (8 - 0)) = n at *
        unfold wrap64 at hb ⊢
        omega
      rw [if_pos hv, g8]
      unfold codeP
      rw [if_pos hk1]
      simp only []
      rw [if_pos trivial, hk2, if_pos rfl]
    · rw [if_neg hv]
      have hn : okKey (n8 : Int) (piece s 8 10) (piece s 10 16) = false := by
        have : vd (n8 : Int) = false := by
          apply Bool.eq_false_iff.2
          intro hc
          apply hv
          have hb := vd_bound hc
          have : piece s 0 8 = (n8 : Int) := by
            unfold piece
            generalize big ((s.data.toList.drop 0).take (8 - 0)) = n at *
            unfold wrap64
            omega
          rw [this]; exact hc
        unfold okKey; rw [this]; rfl
      unfold codeP
      rw [if_neg (by rw [hn]; simp)]
  · rw [if_neg (by omega), if_neg h]

theorem VtimeTexts : pacelinelaw01_VtimeTexts.Pure := by
  intro s _
  refine ⟨30, ?_⟩
  unfold pacelinelaw01_VtimeTexts.f
  by_cases h : (s.size : Int) > 1024
  · rw [if_pos h]
  · rw [if_neg h, rdecode_eq s 30 (by omega)]
    have hd : ∃ r, vtime_Decode.f s = some r := by unfold vtime_Decode.f; split <;> (try split) <;> exact ⟨_, rfl⟩
    obtain ⟨⟨t, f, q, e⟩, hr⟩ := hd
    rw [hr]
    simp only [Option.bind_some, beq_self_eq_true, Bool.not_true, Bool.or_self, Bool.false_eq_true, if_false, bne_self_eq_false]
    simp only [pacelinelaw01_VtimeTexts.j0]
    rw [if_neg (by simp)]
    unfold vtime_Decode.f at hr
    by_cases hs : s.size = 16
    · rw [if_pos hs] at hr
      by_cases hv : vd (piece s 0 8) = true
      · rw [if_pos hv] at hr
        simp only [Option.some.injEq, Prod.mk.injEq] at hr
        obtain ⟨rfl, rfl, rfl, rfl⟩ := hr
        obtain ⟨k1, k2⟩ := key_of s hs hv
        obtain ⟨b1, b2, b3⟩ := okKey_bound k1
        have hw : (Lit.int .i64 (piece s 0 8)).wf = true := Go.WalkArith.wf_i64 (by omega)
        rw [if_pos rfl, code_eq _ _ _ hw 29 (by omega), Option.bind_some]
        unfold codeP
        rw [if_pos k1]
        simp only []
        rw [k2, if_pos rfl, if_pos trivial, valid_eq _ hw, Option.bind_some, if_pos hv, if_pos (by omega), if_pos (by omega), if_pos (by omega)]
        congr 1; exact decide_eq_true (by omega)
      · rw [if_neg hv] at hr
        simp only [Option.some.injEq, Prod.mk.injEq] at hr
        obtain ⟨rfl, rfl, rfl, rfl⟩ := hr
        simp
    · rw [if_neg hs] at hr
      simp only [Option.some.injEq, Prod.mk.injEq] at hr
      obtain ⟨rfl, rfl, rfl, rfl⟩ := hr
      simp
end Go.Proofs.Ytehnhemelnpdhaa.Pure
