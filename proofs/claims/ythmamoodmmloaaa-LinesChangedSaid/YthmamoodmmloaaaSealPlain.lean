/- The seal of chapter 2 on lists of bytes: its digits part where the sums part; a sealed text of which one byte is turned is no sealed text (plain lists, no program). -/
import Derived.Test.YthmamoodmmloaaaSeal
set_option linter.unusedVariables false
set_option linter.unusedSimpArgs false
namespace Go.Proofs.Ythmamoodmmloaaa.SealPlain
open Go.RowKit Go.Proofs.YthmamoodmmloaaaW.PrintWords Go.Proofs.Ythmamoodmmloaaa.Fnv Go.Proofs.Ythmamoodmmloaaa.Ext

/-- the last i digits -/
def tl (H : Int) : Nat → List Int
  | 0 => []
  | i + 1 => hx (H / 16 ^ i % 16) :: tl H i
theorem tl8 (H : Int) : tl H 8 = hexes H 8 := by
  simp only [tl, hexes, List.range_succ, List.range_zero, List.nil_append, List.cons_append, List.map_cons, List.map_nil]
  rfl
/-- the ten bytes behind a text -/
def tailOf (l : List UInt8) : List UInt8 := (61 :: (hexes (sum l : Nat) 8 ++ [10])).map fun n => UInt8.ofNat n.toNat
theorem tail_len (l : List UInt8) : (tailOf l).length = 10 := by simp [tailOf, hexes_len]
theorem seal_data (s : ByteArray) : (sealOf s).data.toList = s.data.toList ++ tailOf s.data.toList := by simp [sealOf, tailOf, strOfNums]
theorem seal_size (s : ByteArray) : (sealOf s).size = s.size + 10 := by
  have := congrArg List.length (seal_data s)
  rw [data_length, List.length_append, tail_len, data_length] at this
  exact this
theorem hx_lt (d : Int) (h0 : 0 ≤ d) (h1 : d < 16) : 48 ≤ hx d ∧ hx d ≤ 102 := by unfold hx; split <;> omega
theorem hx_inj (d e : Int) (h0 : 0 ≤ d) (h1 : d < 16) (h2 : 0 ≤ e) (h3 : e < 16) (h : UInt8.ofNat (hx d).toNat = UInt8.ofNat (hx e).toNat) : d = e := by
  have a := hx_lt d h0 h1
  have b := hx_lt e h2 h3
  have := congrArg UInt8.toNat h
  rw [UInt8.toNat_ofNat_of_lt' (by show (hx d).toNat < 256; omega), UInt8.toNat_ofNat_of_lt' (by show (hx e).toNat < 256; omega)] at this
  unfold hx at this a b
  split at this <;> split at this <;> simp_all <;> omega
theorem tl_inj (H G : Int) (h0 : 0 ≤ H) (g0 : 0 ≤ G) (n : Nat) (h : (tl H n).map (fun m : Int => UInt8.ofNat m.toNat) = (tl G n).map (fun m : Int => UInt8.ofNat m.toNat)) : H % 16 ^ n = G % 16 ^ n := by
  induction n with
  | zero => simp
  | succ n ih =>
    simp only [tl, List.map_cons, List.cons.injEq] at h
    have i := ih h.2
    have d := hx_inj _ _ (Int.emod_nonneg _ (by decide)) (Int.emod_lt_of_pos _ (by decide)) (Int.emod_nonneg _ (by decide)) (Int.emod_lt_of_pos _ (by decide)) h.1
    have key : ∀ X : Int, 0 ≤ X → X % 16 ^ (n + 1) = X % 16 ^ n + 16 ^ n * (X / 16 ^ n % 16) := by
      intro X hX
      obtain ⟨x, rfl⟩ := Int.eq_ofNat_of_zero_le hX
      have := Nat.mod_mul (a := 16 ^ n) (b := 16) (x := x)
      rw [← Nat.pow_succ] at this
      exact_mod_cast this
    rw [key H h0, key G g0, i, d]
theorem tail_inj (l m : List UInt8) (h : tailOf l = tailOf m) : sum l = sum m := by
  unfold tailOf at h
  simp only [List.map_cons, List.map_append, List.map_nil, List.cons.injEq, true_and] at h
  have h2 := List.append_cancel_right h
  rw [← tl8, ← tl8] at h2
  have h3 := tl_inj _ _ (by omega) (by omega) 8 h2
  have a := sum_lt l
  have b := sum_lt m
  rw [show (16 : Int) ^ 8 = 4294967296 by decide] at h3
  omega
/-- one byte turned: what is read back is no seal -/
theorem turned (S : List UInt8) (A B : List UInt8) (c d : UInt8) (T : List UInt8) (hS : S ++ tailOf S = A ++ c :: B) (hT : T.length = S.length) (hY : T ++ tailOf T = A ++ d :: B) : c = d := by
  by_cases hk : A.length < S.length
  · obtain ⟨B1, rfl⟩ : ∃ B1, S = A ++ c :: B1 := by
      rw [List.append_eq_append_iff] at hS
      rcases hS with ⟨a', h1, h2⟩ | ⟨c', h1, h2⟩
      · have := congrArg List.length h1; simp at this; omega
      · cases c' with
        | nil => simp at h1; subst h1; omega
        | cons x c' =>
          simp only [List.cons_append, List.cons.injEq] at h2
          exact ⟨c', by rw [h1, h2.1]⟩
    obtain ⟨B2, rfl⟩ : ∃ B2, T = A ++ d :: B2 := by
      rw [List.append_eq_append_iff] at hY
      rcases hY with ⟨a', h1, h2⟩ | ⟨c', h1, h2⟩
      · have := congrArg List.length h1; simp at this hT hk; omega
      · cases c' with
        | nil => simp at h1; subst h1; omega
        | cons x c' =>
          simp only [List.cons_append, List.cons.injEq] at h2
          exact ⟨c', by rw [h1, h2.1]⟩
    simp only [List.append_assoc, List.cons_append, List.append_cancel_left_eq, List.cons.injEq, true_and] at hS hY
    have hl : B1.length = B2.length := by simp at hT; omega
    rw [← hS] at hY
    obtain ⟨e1, e2⟩ := List.append_inj hY hl.symm
    subst e1
    exact ((sum_turn A d c B2).1 (tail_inj _ _ e2)).symm
  · have e : T = S := by
      have h1 := congrArg (List.take S.length) hS
      have h2 := congrArg (List.take S.length) hY
      rw [List.take_left, List.take_append_of_le_length (by omega)] at h1
      rw [← hT, List.take_left, hT, List.take_append_of_le_length (by omega)] at h2
      rw [h1, h2]
    subst e
    rw [hS] at hY
    have := List.append_cancel_left hY
    injection this
end Go.Proofs.Ythmamoodmmloaaa.SealPlain
