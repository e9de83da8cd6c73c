/- past: entries out of a list of steps (plain); a slice of bytes that came in. -/
import Derived.Test.YtemedggbodkhcaaLawA
set_option linter.unusedVariables false
set_option linter.unusedSimpArgs false
namespace Go.Proofs.Ytemedggbodkhcaa.Past
open Go.RowKit Go.Proofs.YtemedggbodkhcaaW.PrintWords Go.Proofs.YtemedggbodkhcaaW.PrintLast
/-- the sum of the first k -/
def sumTo (z : List Int) : Nat → Int
  | 0 => 0
  | k + 1 => sumTo z k + z.getD k 0
theorem sumTo_bd (z : List Int) (n : Nat) (hz : ∀ i, i < n → 0 ≤ z.getD i 0 ∧ z.getD i 0 ≤ 255) : ∀ k, k ≤ n → 0 ≤ sumTo z k ∧ sumTo z k ≤ 255 * k
  | 0, _ => by simp [sumTo]
  | k + 1, h => by
    have h1 := sumTo_bd z n hz k (by omega)
    have h2 := hz k (by omega)
    simp only [sumTo]
    omega
theorem sumTo_mono (z : List Int) (n : Nat) (hz : ∀ i, i < n → 0 ≤ z.getD i 0 ∧ z.getD i 0 ≤ 255) (a b : Nat) (hab : a ≤ b) (hb : b ≤ n) : sumTo z a ≤ sumTo z b := by
  induction b with
  | zero => have : a = 0 := by omega
            subst this; exact Int.le_refl _
  | succ b ih =>
    rcases Nat.lt_or_ge a (b + 1) with h | h
    · have h1 := ih (by omega) (by omega)
      have h2 := hz b (by omega)
      simp only [sumTo]
      omega
    · have : a = b + 1 := by omega
      subst this; exact Int.le_refl _
/-- the entries of k steps: times, bodies (or not), states -/
def entA (m : Int) (z : List Int) (k : Nat) : Ent := ⟨sumTo z (k + 1), 0, k, 0, 0, m * k, 0, 0, k, none, 0, 0⟩
def entsA (m : Int) (z : List Int) (k : Nat) : List Ent := (List.range k).map (entA m z)
theorem entsA_succ (m : Int) (z : List Int) (k : Nat) : entsA m z (k + 1) = entsA m z k ++ [entA m z k] := by simp [entsA, List.range_succ]
theorem entsA_len (m : Int) (z : List Int) (k : Nat) : (entsA m z k).length = k := by simp [entsA]
theorem entsA_get (m : Int) (z : List Int) (k i : Nat) (h : i < (entsA m z k).length) : (entsA m z k)[i] = entA m z i := by simp [entsA]
theorem entsA_noO (m : Int) (z : List Int) (k : Nat) : NoO (entsA m z k) := fun e he => by
  simp only [entsA, List.mem_map] at he
  obtain ⟨i, _, rfl⟩ := he
  rfl
theorem entsA_last (m : Int) (z : List Int) (n k : Nat) (hz : ∀ i, i < n → 0 ≤ z.getD i 0 ∧ z.getD i 0 ≤ 255) (hk : k < n) (l : Ent) (hl : (entsA m z k).getLast? = some l) : kc l.t l.f l.s (sumTo z (k + 1)) 0 k < 0 := by
  rw [List.getLast?_eq_getElem?, entsA_len] at hl
  obtain ⟨h1, h2⟩ := List.getElem?_eq_some_iff.1 hl
  have h1' := h1
  rw [entsA_len] at h1'
  rw [entsA_get] at h2
  subst h2
  have := sumTo_mono z n hz (k - 1 + 1) (k + 1) (by omega) (by omega)
  rw [kc_lt]
  simp only [entA]
  rcases Int.lt_or_eq_of_le this with h | h
  · exact .inl h
  · exact .inr ⟨h, .inr ⟨trivial, by omega⟩⟩
theorem entsA_mono (m : Int) (z : List Int) (n : Nat) (hz : ∀ i, i < n → 0 ≤ z.getD i 0 ∧ z.getD i 0 ≤ 255) (t : Int) :
    ∀ x y (hx : x < (entsA m z n).length) (hy : y < (entsA m z n).length), x ≤ y → ¬ ((entsA m z n)[x].t < t) → ¬ ((entsA m z n)[y].t < t) := by
  intro x y hx hy hxy h
  rw [entsA_get] at h ⊢
  have hx' := hx
  have hy' := hy
  rw [entsA_len] at hx' hy'
  have := sumTo_mono z n hz (x + 1) (y + 1) (by omega) (by omega)
  simp only [entA] at h ⊢
  omega
/-- a slice of bytes that came in -/
def U8 (W : World) (a : Option Addr) (len cap : Nat) (z : List Int) : Prop :=
  (a = none ∧ len = 0 ∧ cap = 0 ∧ z = []) ∨ ∃ x, a = some x ∧ len ≤ cap ∧ cap ≤ maxLen ∧ z.length = cap ∧ (∀ i, i < z.length → W.cell? (x.add i) = some (.int .u8 (z.getD i 0))) ∧ ∀ n ∈ z, (Lit.int .u8 n).wf = true
theorem U8.bd {W : World} {a : Option Addr} {len cap : Nat} {z : List Int} (h : U8 W a len cap z) : ∀ i, i < len → 0 ≤ z.getD i 0 ∧ z.getD i 0 ≤ 255 := by
  intro i hi
  rcases h with ⟨_, h, _⟩ | ⟨x, _, h1, _, h2, _, h3⟩
  · omega
  · have hm : z.getD i 0 ∈ z := by
      rw [List.getD_eq_getElem?_getD, List.getElem?_eq_getElem (by omega)]
      exact List.getElem_mem _
    have := h3 _ hm
    simp only [Lit.wf, Bool.and_eq_true, decide_eq_true_eq] at this
    exact this
theorem U8.cell {W : World} {a : Option Addr} {len cap : Nat} {z : List Int} (h : U8 W a len cap z) (i : Nat) (hi : i < len) : ∃ x, a = some x ∧ len ≤ cap ∧ W.cell? (x.add i) = some (.int .u8 (z.getD i 0)) := by
  rcases h with ⟨_, h, _⟩ | ⟨x, h0, h1, _, h2, h3, _⟩
  · omega
  · exact ⟨x, h0, h1, h3 i (by omega)⟩
end Go.Proofs.Ytemedggbodkhcaa.Past
