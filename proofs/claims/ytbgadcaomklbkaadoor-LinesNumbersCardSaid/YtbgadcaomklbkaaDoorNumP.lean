/- lines: integers as text, plain: the reference's Int and Num against digits. -/
import Derived.Test.YtbgadcaomklbkaaDoorXLinesNumbersx1
import Derived.Test.YtbgadcaomklbkaaDoorNum
set_option linter.unusedVariables false
set_option linter.unusedSimpArgs false
namespace Go.Proofs.YtbgadcaomklbkaaDoor.As
open Go Go.RowKit Go.Lib Go.Proofs.YtbgadcaomklbkaaDoor.XLinesNumbers Go.Proofs.YtbgadcaomklbkaaDoorW.PrintWords
def dg (d : Nat) : UInt8 := UInt8.ofNat (48 + d)
def dgs : ByteArray := ⟨#[48, 49, 50, 51, 52, 53, 54, 55, 56, 57]⟩
theorem dig_ex : ∀ d : Fin 10, dgs.extract d.1 (d.1 + 1) = ⟨#[dg d.1]⟩ := by decide
theorem dec_small {u : Nat} (h : u < 10) : decDigits u = [dg u] := by rw [decDigits, dif_pos h]; rfl
theorem dec_big {u : Nat} (h : ¬ u < 10) : decDigits u = decDigits (u / 10) ++ [dg (u % 10)] := by rw [decDigits, dif_neg h]; rfl
theorem ba_cons (c : UInt8) (l : List UInt8) : (⟨#[c]⟩ : ByteArray) ++ ⟨l.toArray⟩ = ⟨(c :: l).toArray⟩ := by
  apply ByteArray.ext; simp
theorem ba_size (l : List UInt8) : (⟨l.toArray⟩ : ByteArray).size = l.length := by simp [ByteArray.size]
theorem dec_or (u : Nat) (h : 0 < u) (acc : List UInt8) : (if u / 10 = 0 then [] else decDigits (u / 10)) ++ dg (u % 10) :: acc = decDigits u ++ acc := by
  by_cases h10 : u < 10
  · rw [if_pos (by omega), dec_small h10, Nat.mod_eq_of_lt h10]; rfl
  · rw [if_neg (by omega), dec_big h10]; simp
theorem int_l1 (j : Nat) : ∀ (u k : Nat) (acc : List UInt8), u < 10 ^ j → u ≤ 9223372036854775807 → j < k → acc.length + j ≤ 1000 →
    pacelineref02_Int.l1 k (u : Int) ⟨acc.toArray⟩ = some ⟨((if u = 0 then [] else decDigits u) ++ acc).toArray⟩ := by
  induction j with
  | zero =>
    intro u k acc hu hm hk ha
    obtain ⟨k, rfl⟩ : ∃ m, k = m + 1 := ⟨k - 1, by omega⟩
    obtain rfl : u = 0 := by simpa using hu
    simp only [pacelineref02_Int.l1]
    rw [if_neg (by omega)]; simp
  | succ j ih =>
    intro u k acc hu hm hk ha
    obtain ⟨k, rfl⟩ : ∃ m, k = m + 1 := ⟨k - 1, by omega⟩
    by_cases h0 : u = 0
    · subst h0
      simp only [pacelineref02_Int.l1]
      rw [if_neg (by omega)]; simp
    · have hd : u % 10 < 10 := Nat.mod_lt _ (by decide)
      have e1 : Int.tmod (u : Int) 10 = ((u % 10 : Nat) : Int) := rfl
      have e2 : Int.tdiv (u : Int) 10 = ((u / 10 : Nat) : Int) := rfl
      have w1 : wrap64 (((u % 10 : Nat) : Int) + 1) = ((u % 10 + 1 : Nat) : Int) := by unfold wrap64; omega
      have w2 : wrap64 ((u / 10 : Nat) : Int) = ((u / 10 : Nat) : Int) := by unfold wrap64; omega
      have hx := dig_ex ⟨u % 10, hd⟩
      simp only at hx
      simp only [pacelineref02_Int.l1]
      rw [if_pos (by omega), e1, e2, w1, w2]
      rw [if_pos (by omega), if_pos (by omega), if_pos (by omega)]
      simp only [Int.toNat_natCast]
      rw [show (⟨#[48, 49, 50, 51, 52, 53, 54, 55, 56, 57]⟩ : ByteArray) = dgs from rfl, hx, ba_cons]
      have hs1 : (⟨#[dg (u % 10)]⟩ : ByteArray).size = 1 := rfl
      have hs2 := ba_size acc
      rw [if_pos (by omega)]
      have hp : u < 10 ^ j * 10 := by rw [← Nat.pow_succ]; exact hu
      rw [ih (u / 10) k _ (by omega) (by omega) (by omega) (by simp; omega), dec_or u (by omega) acc, if_neg h0]
theorem int_l0 (j : Nat) : ∀ (u k : Nat) (acc : List UInt8), u < 10 ^ j → u ≤ 9223372036854775808 → j < k → acc.length + j ≤ 1000 →
    pacelineref02_Int.l0 k (-(u : Int)) ⟨acc.toArray⟩ = some ⟨(45 :: ((if u = 0 then [] else decDigits u) ++ acc)).toArray⟩ := by
  induction j with
  | zero =>
    intro u k acc hu hm hk ha
    obtain ⟨k, rfl⟩ : ∃ m, k = m + 1 := ⟨k - 1, by omega⟩
    obtain rfl : u = 0 := by simpa using hu
    simp only [pacelineref02_Int.l0]
    rw [if_neg (by omega), if_pos (by rw [ba_size]; omega), ba_cons]; simp
  | succ j ih =>
    intro u k acc hu hm hk ha
    obtain ⟨k, rfl⟩ : ∃ m, k = m + 1 := ⟨k - 1, by omega⟩
    by_cases h0 : u = 0
    · subst h0
      simp only [pacelineref02_Int.l0]
      rw [if_neg (by omega), if_pos (by rw [ba_size]; omega), ba_cons]; simp
    · have hd : u % 10 < 10 := Nat.mod_lt _ (by decide)
      have e1 : Int.tmod (-(u : Int)) 10 = -((u % 10 : Nat) : Int) := by rw [Int.neg_tmod]; rfl
      have e2 : Int.tdiv (-(u : Int)) 10 = -((u / 10 : Nat) : Int) := by rw [Int.neg_tdiv]; rfl
      have w0 : wrap64 (-(-((u % 10 : Nat) : Int))) = ((u % 10 : Nat) : Int) := by unfold wrap64; omega
      have w1 : wrap64 (((u % 10 : Nat) : Int) + 1) = ((u % 10 + 1 : Nat) : Int) := by unfold wrap64; omega
      have w2 : wrap64 (-((u / 10 : Nat) : Int)) = -((u / 10 : Nat) : Int) := by unfold wrap64; omega
      have hx := dig_ex ⟨u % 10, hd⟩
      simp only at hx
      simp only [pacelineref02_Int.l0]
      rw [if_pos (by omega), e1, e2, w0, w1, w2]
      rw [if_pos (by omega), if_pos (by omega), if_pos (by omega)]
      simp only [Int.toNat_natCast]
      rw [show (⟨#[48, 49, 50, 51, 52, 53, 54, 55, 56, 57]⟩ : ByteArray) = dgs from rfl, hx, ba_cons]
      have hs1 : (⟨#[dg (u % 10)]⟩ : ByteArray).size = 1 := rfl
      have hs2 := ba_size acc
      rw [if_pos (by omega)]
      have hp : u < 10 ^ j * 10 := by rw [← Nat.pow_succ]; exact hu
      rw [ih (u / 10) k _ (by omega) (by omega) (by omega) (by simp; omega), dec_or u (by omega) acc, if_neg h0]
/-- the reference's Int is the digits -/
theorem int_ref (n : Int) (h0 : -9223372036854775808 ≤ n) (h1 : n ≤ 9223372036854775807) (k : Nat) (hk : 21 < k) : pacelineref02_Int.f k n = some ⟨(itoa n).toArray⟩ := by
  unfold pacelineref02_Int.f itoa
  by_cases hn : n < 0
  · rw [if_pos hn, if_pos hn]
    have e : n = -(n.natAbs : Int) := by omega
    have := int_l0 20 n.natAbs k [] (by omega) (by omega) (by omega) (by simp)
    rw [← e] at this
    rw [show (⟨#[]⟩ : ByteArray) = ⟨([] : List UInt8).toArray⟩ from rfl, this, if_neg (by omega)]
    simp
  · rw [if_neg hn, if_neg hn]
    obtain ⟨u, rfl⟩ : ∃ u : Nat, n = (u : Int) := ⟨n.toNat, by omega⟩
    have hd : u % 10 < 10 := Nat.mod_lt _ (by decide)
    have e1 : Int.tmod (u : Int) 10 = ((u % 10 : Nat) : Int) := rfl
    have e2 : Int.tdiv (u : Int) 10 = ((u / 10 : Nat) : Int) := rfl
    have w1 : wrap64 (((u % 10 : Nat) : Int) + 1) = ((u % 10 + 1 : Nat) : Int) := by unfold wrap64; omega
    have w2 : wrap64 ((u / 10 : Nat) : Int) = ((u / 10 : Nat) : Int) := by unfold wrap64; omega
    have hx := dig_ex ⟨u % 10, hd⟩
    simp only at hx
    rw [e1, e2, w1, w2, if_pos (by omega), if_pos (by omega), if_pos (by omega)]
    simp only [Int.toNat_natCast]
    rw [show (⟨#[48, 49, 50, 51, 52, 53, 54, 55, 56, 57]⟩ : ByteArray) = dgs from rfl, hx]
    have := int_l1 20 (u / 10) k [dg (u % 10)] (by omega) (by omega) (by omega) (by simp)
    rw [show (⟨#[dg (u % 10)]⟩ : ByteArray) = ⟨[dg (u % 10)].toArray⟩ from rfl, this]
    by_cases h0 : u = 0
    · subst h0; rw [dec_small (by decide)]; rfl
    · have := dec_or u (by omega) []
      rw [this, List.append_nil]
end Go.Proofs.YtbgadcaomklbkaaDoor.As
