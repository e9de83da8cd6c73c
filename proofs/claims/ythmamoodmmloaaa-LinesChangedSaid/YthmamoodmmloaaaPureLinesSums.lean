/- The law LinesSums of the given program, as a plain statement on texts: a sum goes on byte by byte, a turned byte turns it whatever stands behind, and it is the document's; for every input. -/
import Derived.Test.YthmamoodmmloaaaQLinesSums
import Derived.Test.YthmamoodmmloaaaFnv
import Derived.OpenShut
namespace Go.Proofs.Ythmamoodmmloaaa.Pure
open Go.RowKit Go.Proofs.Ythmamoodmmloaaa.PLinesSums Go.Proofs.YthmamoodmmloaaaW.PrintWords Go.Proofs.YthmamoodmmloaaaW.PrintLast
open Go.Proofs.Ythmamoodmmloaaa.Fnv

theorem wrap_head {i : Int} {n : Nat} (h0 : 0 ≤ i) (h : i < (n : Int)) (hn : n ≤ 140737488351232) : wrap64 (i + 1) = i + 1 := by
  unfold wrap64
  omega
theorem bt_at (s : ByteArray) (i : Nat) (h : i < s.data.toList.length) : bt s (i : Int) = ((s.data.toList[i].toNat : Nat) : Int) := by
  have h' : i < s.size := by rw [Array.length_toList] at h; exact h
  unfold bt
  rw [dif_pos (by simpa using h')]
  rfl
theorem fnv_drop (s : ByteArray) (h i : Nat) (hi : i < s.data.toList.length) : fnv h (s.data.toList.drop i) = fnv (fstep h s.data.toList[i].toNat) (s.data.toList.drop (i + 1)) := by
  rw [List.drop_eq_getElem_cons hi]; rfl
theorem sum_loop (s : ByteArray) (hn : s.size ≤ 140737488351232) (d : Nat) : ∀ (k i h : Nat), s.size - i = d → i ≤ s.size → h < 4294967296 → d < k →
    lines_Sum.l0 k s (h : Int) s.size i = some ((fnv h (s.data.toList.drop i) : Nat) : Int) := by
  have hl : s.data.toList.length = s.size := by rw [Array.length_toList]; rfl
  induction d with
  | zero =>
    intro k i h hd hi hh hk
    obtain ⟨k, rfl⟩ : ∃ m, k = m + 1 := ⟨k - 1, by omega⟩
    simp only [lines_Sum.l0]
    rw [if_neg (by omega), List.drop_of_length_le (by omega)]; rfl
  | succ d ih =>
    intro k i h hd hi hh hk
    obtain ⟨k, rfl⟩ : ∃ m, k = m + 1 := ⟨k - 1, by omega⟩
    simp only [lines_Sum.l0]
    rw [if_pos (by omega), if_pos (by omega), if_pos (by omega), bt_at s i (by omega), bits_fstep h _ hh, wrap_head (by omega) (by omega : (i : Int) < s.size) hn, fnv_drop s h i (by omega)]
    exact ih k (i + 1) _ (by omega) (by omega) (fstep_lt _ _) (by omega)
theorem rsum_loop (s : ByteArray) (hn : s.size ≤ 140737488351232) (d : Nat) : ∀ (k i h : Nat), s.size - i = d → i ≤ s.size → h < 4294967296 → d < k →
    pacelineref02_Sum.l0 k s (h : Int) i = some ((fnv h (s.data.toList.drop i) : Nat) : Int) := by
  have hl : s.data.toList.length = s.size := by rw [Array.length_toList]; rfl
  induction d with
  | zero =>
    intro k i h hd hi hh hk
    obtain ⟨k, rfl⟩ : ∃ m, k = m + 1 := ⟨k - 1, by omega⟩
    simp only [pacelineref02_Sum.l0]
    rw [if_neg (by omega), List.drop_of_length_le (by omega)]; rfl
  | succ d ih =>
    intro k i h hd hi hh hk
    obtain ⟨k, rfl⟩ : ∃ m, k = m + 1 := ⟨k - 1, by omega⟩
    simp only [pacelineref02_Sum.l0]
    rw [if_pos (by omega), if_pos (by omega), bt_at s i (by omega), bits_fstep h _ hh, wrap_head (by omega) (by omega : (i : Int) < s.size) hn, fnv_drop s h i (by omega)]
    exact ih k (i + 1) _ (by omega) (by omega) (fstep_lt _ _) (by omega)
theorem sum_eq (s : ByteArray) (hn : s.size ≤ 140737488351232) (k : Nat) (hk : s.size < k) : lines_Sum.f k s = some ((sum s.data.toList : Nat) : Int) :=
  sum_loop s hn s.size k 0 2166136261 (by omega) (by omega) (by decide) hk
theorem rsum_eq (s : ByteArray) (hn : s.size ≤ 140737488351232) (k : Nat) (hk : s.size < k) : pacelineref02_Sum.f k s = some ((sum s.data.toList : Nat) : Int) :=
  rsum_loop s hn s.size k 0 2166136261 (by omega) (by omega) (by decide) hk
theorem one_data (x : Int) : (strOfNums [x]).data.toList = [UInt8.ofNat x.toNat] := rfl
theorem one_size (x : Int) : (strOfNums [x]).size = 1 := rfl
theorem app_data (a b : ByteArray) : (a ++ b).data.toList = a.data.toList ++ b.data.toList := by simp
theorem app_size (a b : ByteArray) : (a ++ b).size = a.size + b.size := by simp
theorem fnv_nil (a : Nat) : fnv a [] = a := rfl
theorem fnv_one (g : Nat) (x : UInt8) : fnv g [x] = fstep g x.toNat := (fnv_cons g x []).trans (fnv_nil _)
theorem fnv_snoc (h : Nat) (l : List UInt8) (x : UInt8) : fnv h (l ++ [x]) = fstep (fnv h l) x.toNat := (fnv_append h l [x]).trans (fnv_one _ x)
theorem sum_snoc (l : List UInt8) (x : UInt8) : sum (l ++ [x]) = fstep (sum l) x.toNat := fnv_snoc _ l x

theorem LinesSums : pacelinelaw02_LinesSums.Pure := by
  intro a x y b ha hx hy hb
  have bx := bounds_u8 hx
  have by_ := bounds_u8 hy
  refine ⟨a.size + b.size + 3, ?_⟩
  have key : ∀ c : Bool, (c = false → a.size ≤ 1024 ∧ b.size ≤ 1024) → pacelinelaw02_LinesSums.j0 (a.size + b.size + 3) a x y b c = some true := by
    intro c hc
    simp only [pacelinelaw02_LinesSums.j0]
    by_cases h : c = true
    · rw [if_pos h]
    · rw [if_neg h]
      have hs := hc (by simpa using h)
      have e1 : (strOfNums [x]).size = 1 := rfl
      have e2 : (strOfNums [y]).size = 1 := rfl
      simp only [Option.bind_some, e1, e2, app_size]
      rw [if_pos (by omega), if_pos (by omega), sum_eq _ (by rw [app_size, e1]; omega) _ (by rw [app_size, e1]; omega), sum_eq a (by omega) _ (by omega)]
      simp only [Option.bind_some, app_data, one_data]
      have s1 := sum_lt a.data.toList
      have hX : x = (((UInt8.ofNat x.toNat).toNat : Nat) : Int) := by
        rw [UInt8.toNat_ofNat_of_lt' (by show x.toNat < 256; omega)]; omega
      have st : ((Go.bits .xor .u32 ((sum a.data.toList : Nat) : Int) (x % 4294967296)) * 16777619) % 4294967296 = ((fstep (sum a.data.toList) (UInt8.ofNat x.toNat).toNat : Nat) : Int) := by
        have := bits_fstep (sum a.data.toList) (UInt8.ofNat x.toNat) s1
        rw [← hX] at this; exact this
      rw [sum_snoc, st, if_pos rfl, if_pos (by omega), sum_eq _ (by rw [app_size, app_size, e1]; omega) _ (by rw [app_size, app_size, e1]; omega)]
      simp only [Option.bind_some]
      rw [if_pos (by omega), sum_eq _ (by rw [app_size, app_size, e2]; omega) _ (by rw [app_size, app_size, e2]; omega)]
      simp only [Option.bind_some, app_data, one_data]
      have tu := sum_turn a.data.toList (UInt8.ofNat x.toNat) (UInt8.ofNat y.toNat) b.data.toList
      have q : (((sum (a.data.toList ++ [UInt8.ofNat x.toNat] ++ b.data.toList) : Nat) : Int) == ((sum (a.data.toList ++ [UInt8.ofNat y.toNat] ++ b.data.toList) : Nat) : Int)) = (x == y) := by
        rw [Bool.eq_iff_iff, beq_iff_eq, beq_iff_eq]
        simp only [List.append_assoc, List.singleton_append]
        rw [Int.natCast_inj, tu]
        constructor
        · intro e
          have := congrArg UInt8.toNat e
          rw [UInt8.toNat_ofNat_of_lt' (by show x.toNat < 256; omega), UInt8.toNat_ofNat_of_lt' (by show y.toNat < 256; omega)] at this
          omega
        · rintro rfl; rfl
      rw [q, if_pos (by simp), rsum_eq _ (by rw [app_size, app_size, e1]; omega) _ (by rw [app_size, app_size, e1]; omega)]
      simp only [Option.bind_some, app_data, one_data, beq_self_eq_true]
  unfold pacelinelaw02_LinesSums.f
  split
  · exact key true (by simp)
  · rename_i h
    refine key _ (fun hd => ?_)
    have := of_decide_eq_false hd
    omega
end Go.Proofs.Ythmamoodmmloaaa.Pure
