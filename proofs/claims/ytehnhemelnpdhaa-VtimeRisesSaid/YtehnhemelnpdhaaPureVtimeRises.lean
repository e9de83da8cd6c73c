/- The law VtimeRises of the given program, as a plain statement on integers and texts: codes are ordered as their keys are; for every input. -/
import Derived.Test.YtehnhemelnpdhaaXVtimeRisesx3
import Derived.Test.YtehnhemelnpdhaaBytes
import Derived.OpenShut
set_option linter.unusedVariables false
set_option linter.unusedSimpArgs false
namespace Go.Proofs.Ytehnhemelnpdhaa.Pure
open Go.RowKit Go.Proofs.Ytehnhemelnpdhaa.XVtimeRises Go.Proofs.YtehnhemelnpdhaaW.PrintWords Go.Proofs.YtehnhemelnpdhaaW.PrintLast Go.Proofs.YtehnhemelnpdhaaW.PrintMore Go.Proofs.Ytehnhemelnpdhaa.Ext Go.Proofs.Ytehnhemelnpdhaa.Bytes
open Go.Proofs.Ytehnhemelnpdhaa.B (vd u64_wrap)

theorem compare_eq (a b : Int) : cmp_Compare_int.f a b = some (if a < b then -1 else if a > b then 1 else 0) := by
  unfold cmp_Compare_int.f cmp_isNaN_int.f
  simp only [bne_self_eq_false, Option.bind_some, Bool.false_eq_true, if_false]
  split
  · rfl
  · split <;> rfl
theorem or_eq (x y z : Int) (k : Nat) : cmp_Or_int.f (k + 4) [x, y, z] = some (if x = 0 then (if y = 0 then z else y) else x) := by
  unfold cmp_Or_int.f
  have e1 : wrap64 ((0 : Int) + 1) = 1 := by unfold wrap64; omega
  have e2 : wrap64 ((1 : Int) + 1) = 2 := by unfold wrap64; omega
  have e3 : wrap64 ((2 : Int) + 1) = 3 := by unfold wrap64; omega
  have r0 : rd [x, y, z] 0 = x := rfl
  have r1 : rd [x, y, z] 1 = y := rfl
  have r2 : rd [x, y, z] 2 = z := rfl
  have hlen : (([x, y, z].length : Nat) : Int) = 3 := rfl
  generalize [x, y, z] = l at *
  rw [hlen]
  have st : ∀ (k : Nat) (i : Int), 0 ≤ i → i < 3 → cmp_Or_int.l0 (k + 1) 0 l 3 i = if rd l i = 0 then cmp_Or_int.l0 k 0 l 3 (wrap64 (i + 1)) else some (rd l i) := by
    intro k i h0 h1
    simp only [cmp_Or_int.l0]
    rw [if_pos h1, if_pos h0, hlen, if_pos h1]
  have s3 : ∀ k : Nat, cmp_Or_int.l0 (k + 1) 0 l 3 3 = some 0 := by
    intro k
    simp only [cmp_Or_int.l0]
    rw [if_neg (by omega)]
  rw [st (k + 3) 0 (by omega) (by omega), e1, st (k + 2) 1 (by omega) (by omega), e2, st (k + 1) 2 (by omega) (by omega), e3, s3 k, r0, r1, r2]
  by_cases hx : x = 0
  · rw [if_pos hx, if_pos hx]
    by_cases hy : y = 0
    · rw [if_pos hy, if_pos hy]
      by_cases hz : z = 0
      · rw [if_pos hz, hz]
      · rw [if_neg hz]
    · rw [if_neg hy, if_neg hy]
  · rw [if_neg hx, if_neg hx]
theorem cmp_eq (a0 a1 a2 b0 b1 b2 : Int) (k : Nat) : vtime_Cmp.f (k + 4) a0 a1 a2 b0 b1 b2 = some (kc a0 a1 a2 b0 b1 b2) := by
  unfold vtime_Cmp.f
  simp only [compare_eq, Option.bind_some, or_eq]
  congr 1
  unfold kc
  omega

theorem valid_eq (t : Int) (h : (Lit.int .i64 t).wf = true) : vtime_Valid.f t = some (vd t) := by
  have hb := bounds_i64 h
  unfold vtime_Valid.f vd
  rw [u64_wrap t hb]
  split
  · rename_i e; rw [e]; rfl
  · congr 1; rw [decide_eq_decide]; omega
theorem rvalid_eq (t : Int) : pacelineref01_Valid.f t = some (vd t) := by
  unfold pacelineref01_Valid.f vd
  split
  · split
    · congr 1; symm; rw [decide_eq_true_eq]; omega
    · congr 1; rw [Bool.eq_iff_iff]; simp; omega
  · congr 1; rw [Bool.eq_iff_iff]; simp; omega
theorem shr_eq (n : Int) (m : Nat) (h : m ≤ 7) : shr .i64 n (IntKind.u64.wrap (8 * (m : Int))) = n / 256 ^ m := by
  have e : IntKind.u64.wrap (8 * (m : Int)) = 8 * (m : Int) := by rw [u64_wrap _ (by omega), if_neg (by omega)]
  unfold shr
  rw [e]
  have e2 : min (8 * (m : Int)).toNat IntKind.i64.bits = 8 * m := by simp only [IntKind.bits]; omega
  rw [e2, Int.pow_mul]; rfl
theorem lay_inner (n : Int) (b : Int) (l : List S45) (c i : Int) (m : Nat) (hm : m ≤ 8) : ∀ (k : Nat) (x : List Int), x.length + m ≤ 100 →
    vtime_lay.l1 (k + m + 1) x (8 * (m : Int) - 8) l c i n b = vtime_lay.l0 k (x ++ beI n m) l c (wrap64 (i + 1)) := by
  induction m with
  | zero =>
    intro k x _
    simp only [vtime_lay.l1]
    rw [if_neg (by omega)]; simp [beI]
  | succ m ih =>
    intro k x hx
    obtain ⟨kk, hkk⟩ : ∃ kk, kk = k + m + 1 := ⟨_, rfl⟩
    rw [show k + (m + 1) + 1 = kk + 1 by omega]
    simp only [vtime_lay.l1]
    have e : 8 * ((m + 1 : Nat) : Int) - 8 = 8 * (m : Int) := by omega
    have w1 : wrap64 (8 * (m : Int) - 8) = 8 * (m : Int) - 8 := by unfold wrap64; omega
    have w2 : (0 : Int) ≤ IntKind.u64.wrap (8 * (m : Int)) := by rw [u64_wrap _ (by omega), if_neg (by omega)]; omega
    rw [e, if_pos (by omega), if_pos w2, if_pos (by omega), w1, shr_eq n m (by omega), hkk, ih (by omega) k _ (by simp; omega), beI_cons]
    simp
theorem lay_eq (t f s : Int) : vtime_lay.f 25 [(⟨t, 8⟩ : S45), (⟨f, 2⟩ : S45), (⟨s, 6⟩ : S45)] = some (strOfNums (keyBs t f s)) := by
  unfold vtime_lay.f
  have r0 : rd_T45 [(⟨t, 8⟩ : S45), (⟨f, 2⟩ : S45), (⟨s, 6⟩ : S45)] 0 = ⟨t, 8⟩ := rfl
  have r1 : rd_T45 [(⟨t, 8⟩ : S45), (⟨f, 2⟩ : S45), (⟨s, 6⟩ : S45)] 1 = ⟨f, 2⟩ := rfl
  have r2 : rd_T45 [(⟨t, 8⟩ : S45), (⟨f, 2⟩ : S45), (⟨s, 6⟩ : S45)] 2 = ⟨s, 6⟩ := rfl
  have w8 : wrap64 (8 * wrap64 ((8 : Int) - 1)) = 8 * ((8 : Nat) : Int) - 8 := by unfold wrap64; omega
  have w2 : wrap64 (8 * wrap64 ((2 : Int) - 1)) = 8 * ((2 : Nat) : Int) - 8 := by unfold wrap64; omega
  have w6 : wrap64 (8 * wrap64 ((6 : Int) - 1)) = 8 * ((6 : Nat) : Int) - 8 := by unfold wrap64; omega
  have e1 : wrap64 ((0 : Int) + 1) = 1 := by unfold wrap64; omega
  have e2 : wrap64 ((1 : Int) + 1) = 2 := by unfold wrap64; omega
  have e3 : wrap64 ((2 : Int) + 1) = 3 := by unfold wrap64; omega
  have hlen : (([(⟨t, 8⟩ : S45), (⟨f, 2⟩ : S45), (⟨s, 6⟩ : S45)].length : Nat) : Int) = 3 := rfl
  generalize hl : [(⟨t, 8⟩ : S45), (⟨f, 2⟩ : S45), (⟨s, 6⟩ : S45)] = l at *
  rw [hlen]
  have s0 : ∀ k x, vtime_lay.l0 (k + 1) x l 3 0 = vtime_lay.l1 k x (8 * ((8 : Nat) : Int) - 8) l 3 0 t 8 := by
    intro k x
    simp only [vtime_lay.l0]
    rw [if_pos (by decide), if_pos (by decide), hlen, if_pos (by decide), r0, w8]
  have s1 : ∀ k x, vtime_lay.l0 (k + 1) x l 3 1 = vtime_lay.l1 k x (8 * ((2 : Nat) : Int) - 8) l 3 1 f 2 := by
    intro k x
    simp only [vtime_lay.l0]
    rw [if_pos (by decide), if_pos (by decide), hlen, if_pos (by decide), r1, w2]
  have s2 : ∀ k x, vtime_lay.l0 (k + 1) x l 3 2 = vtime_lay.l1 k x (8 * ((6 : Nat) : Int) - 8) l 3 2 s 6 := by
    intro k x
    simp only [vtime_lay.l0]
    rw [if_pos (by decide), if_pos (by decide), hlen, if_pos (by decide), r2, w6]
  have s3 : ∀ k x, vtime_lay.l0 (k + 1) x l 3 3 = some (strOfNums x) := by
    intro k x
    simp only [vtime_lay.l0]
    rw [if_neg (by decide)]
  rw [s0 24, show (24 : Nat) = 15 + 8 + 1 by rfl, lay_inner t 8 l 3 0 8 (by omega) 15 _ (by simp), e1, s1 14, show (14 : Nat) = 11 + 2 + 1 by rfl, lay_inner f 2 l 3 1 2 (by omega) 11 _ (by simp [beI_length]), e2,
    s2 10, show (10 : Nat) = 3 + 6 + 1 by rfl, lay_inner s 6 l 3 2 6 (by omega) 3 _ (by simp [beI_length]), e3, s3 2]
  unfold keyBs
  simp
theorem code_eq (t f s : Int) (ht : (Lit.int .i64 t).wf = true) (k : Nat) (hk : 25 ≤ k) : vtime_Code.f k t f s = some (codeP t f s) := by
  have hl : vtime_lay.f k [(⟨t, 8⟩ : S45), (⟨f, 2⟩ : S45), (⟨s, 6⟩ : S45)] = some (strOfNums (keyBs t f s)) := at_rounds (vtime_lay.mono _) hk (lay_eq t f s)
  unfold vtime_Code.f codeP okKey
  rw [valid_eq t ht, Option.bind_some]
  cases h : vd t with
  | false => simp
  | true =>
    rw [if_pos rfl]
    by_cases c1 : f < 0
    · rw [if_pos c1, decide_eq_false (show ¬ (0 ≤ f ∧ f < 65536) by omega)]; simp
    · rw [if_neg c1]
      by_cases c2 : f ≥ 65536
      · rw [if_pos c2, decide_eq_false (show ¬ (0 ≤ f ∧ f < 65536) by omega)]; simp
      · rw [if_neg c2, decide_eq_true (show 0 ≤ f ∧ f < 65536 by omega)]
        by_cases c3 : s < 0
        · rw [if_pos c3, decide_eq_false (show ¬ (0 ≤ s ∧ s < 281474976710656) by omega)]; simp
        · rw [if_neg c3]
          by_cases c4 : s ≥ 281474976710656
          · rw [if_pos c4, decide_eq_false (show ¬ (0 ≤ s ∧ s < 281474976710656) by omega)]; simp
          · rw [if_neg c4, decide_eq_true (show 0 ≤ s ∧ s < 281474976710656 by omega), hl]; simp
theorem big_loop (m : Nat) (hm : m ≤ 8) : ∀ (k : Nat) (n : Int) (a r : List Int), 0 ≤ n → n ≤ 9223372036854775807 → a.length = m →
    pacelineref01_big.l0 (k + m + 1) n (a ++ r) ((m : Int) - 1) = some (strOfNums (beI n m ++ r)) := by
  induction m with
  | zero =>
    intro k n a r _ _ ha
    obtain rfl := List.length_eq_zero_iff.1 ha
    simp only [pacelineref01_big.l0]
    rw [if_neg (by omega)]; simp [beI]
  | succ m ih =>
    intro k n a r h0 h1 ha
    obtain ⟨kk, hkk⟩ : ∃ kk, kk = k + m + 1 := ⟨_, rfl⟩
    rw [show k + (m + 1) + 1 = kk + 1 by omega]
    simp only [pacelineref01_big.l0]
    have e1 : ((m + 1 : Nat) : Int) - 1 = (m : Int) := by omega
    have d : Int.tdiv n 256 = n / 256 := Int.tdiv_eq_ediv_of_nonneg h0
    have md : Int.tmod n 256 = n % 256 := Int.tmod_eq_emod_of_nonneg h0
    have w1 : wrap64 (n / 256) = n / 256 := by unfold wrap64; omega
    have w2 : wrap64 ((m : Int) - 1) = (m : Int) - 1 := by unfold wrap64; omega
    have mm : n % 256 % 256 = n % 256 := by omega
    have hlen : (m : Int) < (((a ++ r).length : Nat) : Int) := by rw [List.length_append]; omega
    have hset : (a ++ r).set ((m : Int)).toNat (n % 256) = a.take m ++ (n % 256 :: r) := by
      have hm' : a = a.take m ++ [a[m]'(by omega)] := by
        rw [List.take_append_getElem]; exact (List.take_of_length_le (by omega)).symm
      rw [Int.toNat_natCast]
      conv => lhs; rw [hm']
      rw [List.append_assoc, List.set_append_right _ _ (by rw [List.length_take]; omega), List.length_take]
      rw [show m - min m a.length = 0 by omega]; rfl
    rw [e1, if_pos (by omega), if_pos (by omega), if_pos hlen, d, md, w1, w2, mm, hset, hkk, ih (by omega) k (n / 256) _ _ (by omega) (by omega) (by rw [List.length_take]; omega)]
    simp [beI]
theorem big_eq (n : Int) (m : Nat) (hm : m ≤ 8) (h0 : 0 ≤ n) (h1 : n ≤ 9223372036854775807) (k : Nat) (hk : 9 ≤ k) : pacelineref01_big.f k n (m : Int) = some (strOfNums (beI n m)) := by
  unfold pacelineref01_big.f
  have w2 : wrap64 ((m : Int) - 1) = (m : Int) - 1 := by unfold wrap64; omega
  rw [if_pos (by omega), if_pos (by omega), w2, Int.toNat_natCast]
  have := big_loop m hm (k - m - 1) n (List.replicate m 0) [] h0 h1 (by simp)
  rw [show k - m - 1 + m + 1 = k by omega] at this
  simpa using this
theorem rcode_eq (t f s : Int) (k : Nat) (hk : 10 ≤ k) : pacelineref01_Code.f k t f s = some (codeP t f s) := by
  obtain ⟨k, rfl⟩ : ∃ m, k = m + 1 := ⟨k - 1, by omega⟩
  have jt : pacelineref01_Code.j0 (k + 1) true t f s = some ((⟨#[]⟩ : ByteArray), 1) := by
    simp only [pacelineref01_Code.j0]; rw [if_pos trivial]
  have jf : okKey t f s = true → pacelineref01_Code.j0 (k + 1) false t f s = some (strOfNums (keyBs t f s), 0) := by
    intro h
    obtain ⟨ht, hf, hs⟩ := okKey_bound h
    simp only [pacelineref01_Code.j0]
    have b8 := big_eq t 8 (by omega) ht.1 (by omega) k (by omega)
    have b2 := big_eq f 2 (by omega) hf.1 (by omega) k (by omega)
    have b6 := big_eq s 6 (by omega) hs.1 (by omega) k (by omega)
    have z8 : (strOfNums (beI t 8)).size = 8 := by rw [strOfNums_size, beI_length]
    have z2 : (strOfNums (beI f 2)).size = 2 := by rw [strOfNums_size, beI_length]
    have z6 : (strOfNums (beI s 6)).size = 6 := by rw [strOfNums_size, beI_length]
    rw [if_neg (by simp)]
    rw [show ((8 : Nat) : Int) = 8 by rfl] at b8
    rw [show ((2 : Nat) : Int) = 2 by rfl] at b2
    rw [show ((6 : Nat) : Int) = 6 by rfl] at b6
    rw [b8, Option.bind_some, b2, Option.bind_some, if_pos (by omega), b6, Option.bind_some, if_pos (by rw [ByteArray.size_append]; omega)]
    congr 2
  unfold pacelineref01_Code.f codeP
  rw [rvalid_eq, Option.bind_some]
  by_cases h : okKey t f s = true
  · rw [if_pos h]
    have h' := h
    unfold okKey at h'
    simp only [Bool.and_eq_true, decide_eq_true_eq] at h'
    rw [if_pos h'.1.1, if_neg (by omega), if_neg (by omega), if_neg (by omega), decide_eq_false (by omega)]
    exact jf h
  · rw [if_neg h]
    by_cases c0 : vd t = true
    · rw [if_pos c0]
      by_cases c1 : f < 0
      · rw [if_pos c1]; exact jt
      · rw [if_neg c1]
        by_cases c2 : f > 65535
        · rw [if_pos c2]; exact jt
        · rw [if_neg c2]
          by_cases c3 : s < 0
          · rw [if_pos c3]; exact jt
          · rw [if_neg c3, decide_eq_true (show s > 281474976710655 by
              apply Decidable.byContradiction
              intro c4
              apply h
              unfold okKey
              simp only [Bool.and_eq_true, decide_eq_true_eq]
              exact ⟨⟨c0, by omega⟩, by omega⟩)]
            exact jt
    · rw [if_neg c0]; exact jt

theorem VtimeRises (a0 a1 a2 b0 b1 b2 : Int) (ha : (Lit.int .i64 a0).wf = true) (hb : (Lit.int .i64 b0).wf = true) : ∃ k, pacelinelaw01_VtimeRises.f k a0 a1 a2 b0 b1 b2 = some true := by
  refine ⟨30, ?_⟩
  unfold pacelinelaw01_VtimeRises.f
  rw [code_eq a0 a1 a2 ha 30 (by omega), code_eq b0 b1 b2 hb 30 (by omega), rcode_eq a0 a1 a2 30 (by omega), rcode_eq b0 b1 b2 30 (by omega)]
  simp only [Option.bind_some, if_true, bne_self_eq_false]
  simp only [pacelinelaw01_VtimeRises.j0, pacelinelaw01_VtimeRises.j1]
  have hc : vtime_Cmp.f 28 1 0 0 2 0 0 = some (-1) := by rw [show (28 : Nat) = 24 + 4 by rfl, cmp_eq]; rfl
  have hk : vtime_Cmp.f 28 a0 a1 a2 b0 b1 b2 = some (kc a0 a1 a2 b0 b1 b2) := by rw [show (28 : Nat) = 24 + 4 by rfl, cmp_eq]
  rw [hc, hk, if_neg (by simp)]
  simp only [Option.bind_some]
  by_cases ga : okKey a0 a1 a2 = true
  · by_cases gb : okKey b0 b1 b2 = true
    · have xa := keyBs_big ga
      have xb := keyBs_big gb
      obtain ⟨ra, rb, rc⟩ := okKey_bound ga
      obtain ⟨sa, sb, sc⟩ := okKey_bound gb
      unfold codeP
      rw [if_pos ga, if_pos gb]
      simp only []
      rw [if_pos trivial, if_neg (by simp)]
      have da : (strOfNums (keyBs a0 a1 a2)).toList = (keyBs a0 a1 a2).map fun n => UInt8.ofNat n.toNat := by rw [Go.Lib.toList_data]; exact str_data _
      have db : (strOfNums (keyBs b0 b1 b2)).toList = (keyBs b0 b1 b2).map fun n => UInt8.ofNat n.toNat := by rw [Go.Lib.toList_data]; exact str_data _
      rw [da, db]
      have hla : ((keyBs a0 a1 a2).map fun n => UInt8.ofNat n.toNat).length = 16 := by rw [List.length_map, keyBs_length]
      have hlb : ((keyBs b0 b1 b2).map fun n => UInt8.ofNat n.toNat).length = 16 := by rw [List.length_map, keyBs_length]
      have hle := less_big _ _ (hla.trans hlb.symm)
      have heq := big_inj _ _ (hla.trans hlb.symm)
      generalize (keyBs a0 a1 a2).map (fun n => UInt8.ofNat n.toNat) = la at *
      generalize (keyBs b0 b1 b2).map (fun n => UInt8.ofNat n.toNat) = lb at *
      have hlt := kc_lt a0 a1 a2 b0 b1 b2
      have hz := kc_zero a0 a1 a2 b0 b1 b2
      have e1 : (Op.bytesLess la lb == decide (kc a0 a1 a2 b0 b1 b2 < 0)) = true := by
        rw [hle, beq_iff_eq, decide_eq_decide, hlt]
        omega
      rw [if_pos e1]
      have e2 : (la == lb) = (kc a0 a1 a2 b0 b1 b2 == 0) := by
        rw [Bool.eq_iff_iff, beq_iff_eq, beq_iff_eq, hz]
        constructor
        · intro h; rw [h] at xa; omega
        · rintro ⟨rfl, rfl, rfl⟩; exact heq (by omega)
      rw [e2]; simp
    · unfold codeP
      rw [if_pos ga, if_neg gb]
      simp
  · unfold codeP
    rw [if_neg ga]
    simp

theorem VtimeRises_walk (a0 a1 a2 b0 b1 b2 : Int) (w : World) (f0 : (Lit.int .i64 a0).wf = true) (f1 : (Lit.int .i64 a1).wf = true) (f2 : (Lit.int .i64 a2).wf = true) (f3 : (Lit.int .i64 b0).wf = true) (f4 : (Lit.int .i64 b1).wf = true) (f5 : (Lit.int .i64 b2).wf = true) : Calls Try.prog 10 #[.agg #[.int .i64 a0, .int .i64 a1, .int .i64 a2], .agg #[.int .i64 b0, .int .i64 b1, .int .i64 b2]] w fun e w' => e = .returned (.bool true) ∧ Below w.heap.size w w' := by
  obtain ⟨k, h⟩ := VtimeRises a0 a1 a2 b0 b1 b2 f0 f3
  exact pacelinelaw01_VtimeRises.calls k a0 a1 a2 b0 b1 b2 true w h
end Go.Proofs.Ytehnhemelnpdhaa.Pure
