/- The law LinesChanged of the given program, as a plain statement on texts. -/
import Derived.Test.YthmamoodmmloaaaXLinesChangedx2
import Derived.Test.YthmamoodmmloaaaSealPlain
import Derived.OpenShut
set_option linter.unusedVariables false
set_option linter.unusedSimpArgs false
namespace Go.Proofs.Ythmamoodmmloaaa.PureLinesChanged
open Go.RowKit Go.Proofs.Ythmamoodmmloaaa.XLinesChanged Go.Proofs.YthmamoodmmloaaaW.PrintWords Go.Proofs.YthmamoodmmloaaaW.PrintLast
open Go.Proofs.Ythmamoodmmloaaa.Fnv Go.Proofs.Ythmamoodmmloaaa.SealPlain Go.Proofs.Ythmamoodmmloaaa.Ext
open Go.Proofs.Ythmamoodmmloaaa.Pure (wrap_head fnv_drop app_size app_data)

theorem rsum_loop (s : ByteArray) (hn : s.size ≤ 140737488351232) (d : Nat) : ∀ (k i h : Nat), s.size - i = d → i ≤ s.size → h < 4294967296 → d < k →
    pacelineref02_Sum.l0 k s (h : Int) i = some ((fnv h (s.data.toList.drop i) : Nat) : Int) := by
  have hl : s.data.toList.length = s.size := by rw [Array.length_toList]; rfl
  induction d with
  | zero =>
    intro k i h hd hi hh hk
    obtain ⟨k, rfl⟩ : ∃ m, k = m + 1 := ⟨k - 1, by omega⟩
    simp only [pacelineref02_Sum.l0]
    rw [if_neg (by omega), List.drop_of_length_le (by omega)]; rfl
  | succ d ih =>
    intro k i h hd hi hh hk
    obtain ⟨k, rfl⟩ : ∃ m, k = m + 1 := ⟨k - 1, by omega⟩
    simp only [pacelineref02_Sum.l0]
    rw [if_pos (by omega), if_pos (by omega), Go.Proofs.Ythmamoodmmloaaa.Pure.bt_at s i (by omega), bits_fstep h _ hh, wrap_head (by omega) (by omega : (i : Int) < s.size) hn, fnv_drop s h i (by omega)]
    exact ih k (i + 1) _ (by omega) (by omega) (fstep_lt _ _) (by omega)
theorem rsum_eq (s : ByteArray) (hn : s.size ≤ 140737488351232) (k : Nat) (hk : s.size < k) : pacelineref02_Sum.f k s = some ((sum s.data.toList : Nat) : Int) :=
  rsum_loop s hn s.size k 0 2166136261 (by omega) (by omega) (by decide) hk
theorem digit (d : Int) (h0 : 0 ≤ d) (h1 : d < 16) (l : List Int) :
    (⟨#[48, 49, 50, 51, 52, 53, 54, 55, 56, 57, 97, 98, 99, 100, 101, 102]⟩ : ByteArray).extract d.toNat (d + 1).toNat ++ strOfNums l = strOfNums (hx d :: l) := by
  have key : ∀ e : Fin 16, ((⟨#[48, 49, 50, 51, 52, 53, 54, 55, 56, 57, 97, 98, 99, 100, 101, 102]⟩ : ByteArray).extract e.val (e.val + 1)).data.toList = [UInt8.ofNat (hx e.val).toNat] := by decide
  have k2 := key ⟨d.toNat, by omega⟩
  apply ByteArray.ext
  apply Array.ext'
  rw [app_data, show (d + 1).toNat = d.toNat + 1 by omega, k2]
  rw [show ((⟨d.toNat, by omega⟩ : Fin 16).val : Int) = d by simp; omega]
  simp [strOfNums]
theorem wrapd (d : Int) (h0 : 0 ≤ d) (h1 : d < 16) : wrap64 d = d ∧ wrap64 (d + 1) = d + 1 := by
  unfold wrap64
  constructor <;> omega
theorem tmod16 (H : Int) (h0 : 0 ≤ H) : Int.tmod H 16 = H % 16 := Int.tmod_eq_emod_of_nonneg h0
theorem tdiv16 (H : Int) (h0 : 0 ≤ H) (h1 : H < 4294967296) : Int.tdiv H 16 % 4294967296 = H / 16 := by
  rw [Int.tdiv_eq_ediv_of_nonneg h0]
  omega
theorem div_pow (H : Int) (i : Nat) : H / 16 ^ i / 16 = H / 16 ^ (i + 1) := by
  rw [Int.pow_succ, Int.ediv_ediv_of_nonneg (by exact Int.pow_nonneg (by decide))]
theorem div_rng (H : Int) (i : Nat) (h0 : 0 ≤ H) (h1 : H < 4294967296) : 0 ≤ H / 16 ^ i ∧ H / 16 ^ i < 4294967296 := by
  have p : (0 : Int) < 16 ^ i := Int.pow_pos (by decide)
  have a := Int.ediv_nonneg h0 (Int.le_of_lt p)
  have b := Int.ediv_le_self (16 ^ i) h0
  omega
theorem rseal_loop (s : ByteArray) (hn : s.size ≤ 140737488350000) (H : Int) (h0 : 0 ≤ H) (h1 : H < 4294967296) (d : Nat) : ∀ (k i : Nat), 8 - i = d → i ≤ 8 → d < k →
    pacelineref02_Seal.l0 k s (H / 16 ^ i) (strOfNums (tl H i)) i = some (((s ++ (⟨#[61]⟩ : ByteArray)) ++ strOfNums (tl H 8)) ++ (⟨#[10]⟩ : ByteArray)) := by
  have tll : ∀ i, (tl H i).length = i := by intro i; induction i with | zero => rfl | succ i ih => simp [tl, ih]
  induction d with
  | zero =>
    intro k i hd hi hk
    obtain ⟨k, rfl⟩ : ∃ m, k = m + 1 := ⟨k - 1, by omega⟩
    obtain rfl : i = 8 := by omega
    simp only [pacelineref02_Seal.l0]
    have e1 : (⟨#[61]⟩ : ByteArray).size = 1 := rfl
    rw [if_neg (by omega), if_pos (by omega), if_pos (by rw [app_size, e1, strOfNums_size, tll]; omega), if_pos (by rw [app_size, app_size, e1, strOfNums_size, tll]; omega)]
  | succ d ih =>
    intro k i hd hi hk
    obtain ⟨k, rfl⟩ : ∃ m, k = m + 1 := ⟨k - 1, by omega⟩
    simp only [pacelineref02_Seal.l0]
    have c1 : (i : Int) < 8 := by omega
    have hi8 : wrap64 ((i : Int) + 1) = ((i + 1 : Nat) : Int) := by unfold wrap64; omega
    have nx := ih k (i + 1) (by omega) (by omega) (by omega)
    obtain ⟨g0, g1⟩ := div_rng H i h0 h1
    have d0 : 0 ≤ H / 16 ^ i % 16 := Int.emod_nonneg _ (by decide)
    have d1 : H / 16 ^ i % 16 < 16 := Int.emod_lt_of_pos _ (by decide)
    have e17 : tl H (i + 1) = hx (H / 16 ^ i % 16) :: tl H i := rfl
    rw [← div_pow, e17] at nx
    have hlen := tll i
    generalize tl H i = T at *
    generalize H / 16 ^ i = z at *
    clear e17 ih
    obtain ⟨w1, w2⟩ := wrapd _ d0 d1
    have c2 : z % 16 ≤ z % 16 + 1 := by omega
    have c3 : z % 16 + 1 ≤ 16 := by omega
    have hdg := digit _ d0 d1 T
    have hsz := congrArg ByteArray.size hdg
    rw [app_size, strOfNums_size, strOfNums_size] at hsz
    rw [if_pos c1, tmod16 _ g0, w1, w2, if_pos d0, if_pos c2, if_pos c3, strOfNums_size, hsz, if_pos (by simp [hlen]; omega), hdg, tdiv16 _ g0 g1, hi8]
    exact nx
theorem rseal_eq (s : ByteArray) (hn : s.size ≤ 1000000) (k : Nat) (hk : s.size + 8 < k) : pacelineref02_Seal.f k s = some (sealOf s) := by
  unfold pacelineref02_Seal.f
  rw [rsum_eq s (by omega) k (by omega)]
  have hh := sum_lt s.data.toList
  have e := rseal_loop s (by omega) (sum s.data.toList : Nat) (by omega) (by omega) 8 k 0 (by omega) (by omega) (by omega)
  rw [Option.bind_some]
  rw [show ((sum s.data.toList : Nat) : Int) / 16 ^ 0 = ((sum s.data.toList : Nat) : Int) by simp] at e
  refine Eq.trans e ?_
  rw [tl8]
  congr 1
  apply ByteArray.ext
  apply Array.ext'
  rw [seal_data]
  simp [tailOf, strOfNums]
theorem lseal_eq (s : ByteArray) (hn : s.size ≤ 1000000) : lines_Seal.f s = some (sealOf s) := by unfold lines_Seal.f; rw [if_pos hn]
theorem ext_eq {a b : ByteArray} (h : a.toList = b.toList) : a = b := by
  rw [ByteArray.toList_eq, ByteArray.toList_eq] at h
  exact ByteArray.ext (Array.ext' h)
/-- what is read back -/
def un (a : ByteArray) : ByteArray × Int := if a.size < 10 then ((⟨#[]⟩ : ByteArray), 21) else if (sealOf (a.extract 0 (a.size - 10))).toList = a.toList then (a.extract 0 (a.size - 10), 0) else ((⟨#[]⟩ : ByteArray), 21)
theorem wrap10 (n : Nat) (h : n ≤ 1000000) : wrap64 ((n : Int) - 10) = (n : Int) - 10 := by unfold wrap64; omega
theorem lun_eq (a : ByteArray) (hn : a.size ≤ 1000000) : lines_Unseal.f a = some (un a) := by
  unfold lines_Unseal.f un
  rw [wrap10 _ hn]
  by_cases c : a.size < 10
  · rw [if_pos (by omega), if_pos c]
  · rw [if_neg (by omega), if_neg c, if_pos (by omega), if_pos (by omega), show ((a.size : Int) - 10).toNat = a.size - 10 by omega, lseal_eq _ (by rw [ByteArray.size_extract]; omega), Option.bind_some]
    split <;> rfl
theorem un_seal (s : ByteArray) : un (sealOf s) = (s, 0) := by
  have e : (sealOf s).extract 0 ((sealOf s).size - 10) = s := by
    rw [seal_size, Nat.add_sub_cancel]
    apply ByteArray.ext
    apply Array.ext'
    have hl := data_length s
    simp only [ByteArray.data_extract, Array.toList_extract, seal_data]
    rw [List.extract_eq_take_drop, List.drop_zero, Nat.sub_zero, ← hl, seal_data, List.take_left]
  unfold un
  rw [if_neg (by rw [seal_size]; omega), e, if_pos rfl]
theorem wrapn (a b : Int) (n : Nat) (hn : n ≤ 1000000) (hn0 : 0 < n) : wrap64 (Int.tmod a n + n) = Int.tmod a n + n ∧ 0 ≤ Int.tmod (Int.tmod a n + n) n ∧ Int.tmod (Int.tmod a n + n) n < n := by
  have p : (0 : Int) < n := by omega
  have h1 := Int.tmod_lt_of_pos a p
  have h2 : -(n : Int) < Int.tmod a n := by
    have := Int.lt_tmod_of_pos a p
    exact this
  refine ⟨?_, Int.tmod_nonneg _ (by omega), Int.tmod_lt_of_pos _ p⟩
  generalize Int.tmod a n = z at *
  unfold wrap64
  omega
theorem wrap1 (j : Int) (h0 : 0 ≤ j) (h1 : j ≤ 1000000) : wrap64 (j + 1) = j + 1 := by unfold wrap64; omega
theorem bt_val (X : ByteArray) (j : Nat) (hj : j < X.data.toList.length) : bt X (j : Int) = ((X.data.toList[j].toNat : Nat) : Int) := Go.Proofs.Ythmamoodmmloaaa.Pure.bt_at X j hj
theorem split_at (L : List UInt8) (j : Nat) (h : j < L.length) : L = L.take j ++ L[j] :: L.drop (j + 1) := by
  rw [← List.drop_eq_getElem_cons h, List.take_append_drop]
theorem put_data (X : ByteArray) (j : Nat) (b : Int) (hj : j < X.size) : ((X.extract 0 j ++ strOfNums [b]) ++ X.extract (j + 1) X.size).data.toList = X.data.toList.take j ++ UInt8.ofNat b.toNat :: X.data.toList.drop (j + 1) := by
  have hl := data_length X
  rw [app_data, app_data]
  simp only [ByteArray.data_extract, Array.toList_extract, List.extract_eq_take_drop, strOfNums, List.map_cons, List.map_nil, List.append_assoc, List.singleton_append]
  rw [List.drop_zero, Nat.sub_zero]
  congr 2
  exact List.take_of_length_le (by simp)
theorem main (s : ByteArray) (hs : s.size ≤ 2048) (at_ b : Int) (hb0 : 0 ≤ b) (hb1 : b ≤ 255) : pacelinelaw02_LinesChanged.j0 (s.size + 30) s at_ b (sealOf s) false = some true := by
  have hn := seal_size s
  simp only [pacelinelaw02_LinesChanged.j0]
  have n0 : 0 < (sealOf s).size := by omega
  have nl : (sealOf s).size ≤ 1000000 := by omega
  obtain ⟨w1, w2, w3⟩ := wrapn at_ 0 (sealOf s).size nl n0
  rw [if_neg (by simp), if_neg (by omega), w1]
  generalize Int.tmod (Int.tmod at_ ((sealOf s).size : Int) + ((sealOf s).size : Int)) ((sealOf s).size : Int) = j at w2 w3 ⊢
  clear w1
  obtain ⟨j, rfl⟩ := Int.eq_ofNat_of_zero_le w2
  have hj : j < (sealOf s).size := by omega
  have hjl : j < (sealOf s).data.toList.length := by rw [data_length]; exact hj
  rw [if_pos w2, if_pos (by omega), if_pos w3, Option.bind_some, wrap1 _ w2 (by omega)]
  rw [show (((j : Nat) : Int) + 1).toNat = j + 1 by omega, show ((j : Nat) : Int).toNat = j by omega, bt_val _ j hjl]
  have hx := (sealOf s).data.toList[j].toNat_lt
  generalize hv : ((((sealOf s).data.toList[j].toNat : Nat) : Int) + b) % 256 = v
  have e1 : (strOfNums [v]).size = 1 := rfl
  rw [if_pos (by rw [ByteArray.size_extract, e1]; omega), if_pos (by omega), if_pos (by omega), if_pos (by rw [app_size, ByteArray.size_extract, ByteArray.size_extract, e1]; omega)]
  have hy := put_data (sealOf s) j v hj
  have hys : (((sealOf s).extract 0 j ++ strOfNums [v]) ++ (sealOf s).extract (j + 1) (sealOf s).size).size = (sealOf s).size := by
    rw [app_size, app_size, ByteArray.size_extract, ByteArray.size_extract, e1]; omega
  generalize hY : ((sealOf s).extract 0 j ++ strOfNums [v]) ++ (sealOf s).extract (j + 1) (sealOf s).size = Y at *
  rw [lun_eq Y (by omega), Option.bind_some]
  have hsp := split_at (sealOf s).data.toList j hjl
  have hv0 : 0 ≤ v ∧ v < 256 := by omega
  have hvc : UInt8.ofNat v.toNat = (sealOf s).data.toList[j] ↔ b = 0 := by
    rw [← UInt8.toNat_inj, UInt8.toNat_ofNat_of_lt' (by show v.toNat < 256; omega)]
    omega
  by_cases c : b = 0
  · have eY : Y = sealOf s := by
      apply ByteArray.ext
      apply Array.ext'
      rw [hy, hvc.2 c]
      exact hsp.symm
    rw [if_pos c, eY, un_seal, if_pos rfl]
    rfl
  · have e : un Y = ((⟨#[]⟩ : ByteArray), 21) := by
      unfold un
      rw [if_neg (by omega), if_neg]
      intro he
      have he := ext_eq he
      have hd := congrArg (fun z : ByteArray => z.data.toList) he
      simp only [seal_data] at hd
      refine c (hvc.1 (turned s.data.toList _ _ _ _ _ ((seal_data s).symm.trans hsp) ?_ (hd.trans hy)).symm)
      rw [data_length, data_length, ByteArray.size_extract]
      omega
    rw [if_neg c, e, if_pos (by simp [ByteArray.toList_eq])]
    rfl
end Go.Proofs.Ythmamoodmmloaaa.PureLinesChanged
namespace Go.Proofs.Ythmamoodmmloaaa.Pure
open Go.RowKit Go.Proofs.Ythmamoodmmloaaa.XLinesChanged Go.Proofs.YthmamoodmmloaaaW.PrintWords Go.Proofs.YthmamoodmmloaaaW.PrintLast
theorem LinesChanged : pacelinelaw02_LinesChanged.Pure := by
  intro s at_ b hs ha hb
  have bb := bounds_u8 hb
  refine ⟨s.size + 30, ?_⟩
  unfold pacelinelaw02_LinesChanged.f
  split
  · rfl
  · rename_i h
    rw [PureLinesChanged.lseal_eq s (by omega), Option.bind_some, PureLinesChanged.rseal_eq s (by omega) _ (by omega), Option.bind_some, if_pos rfl]
    have e : decide (((Ext.sealOf s).size : Int) < 10) = false := by rw [decide_eq_false_iff_not, SealPlain.seal_size]; omega
    rw [e]
    exact PureLinesChanged.main s (by omega) at_ b (by omega) (by omega)
end Go.Proofs.Ythmamoodmmloaaa.Pure
