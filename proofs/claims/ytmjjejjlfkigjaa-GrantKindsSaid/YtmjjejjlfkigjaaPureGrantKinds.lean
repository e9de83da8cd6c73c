/- The law GrantKinds of the given program, as a plain statement on integers and lists: of other kinds nothing is granted; what is not granted comes with nothing; for every input. -/
import Derived.Test.YtmjjejjlfkigjaaXGrantKindsx2
import Derived.Test.YtmjjejjlfkigjaaPlain
import Derived.OpenShut
set_option linter.unusedVariables false
set_option linter.unusedSimpArgs false
namespace Go.Proofs.Ytmjjejjlfkigjaa.Pure
open Go.RowKit Go.Proofs.Ytmjjejjlfkigjaa.XGrantKinds Go.Proofs.YtmjjejjlfkigjaaW.PrintWords Go.Proofs.YtmjjejjlfkigjaaW.PrintLast Go.Proofs.Ytmjjejjlfkigjaa.Ext Go.Proofs.Ytmjjejjlfkigjaa.Plain

theorem rising_loop (l : List Int) (hn : l.length ≤ 4096) (d : Nat) : ∀ (k i : Nat) (acc : List Int), l.length - i = d → i ≤ l.length → acc.length ≤ i → i ≤ 100 → acc.Pairwise (· ≤ ·) → (∀ x ∈ acc, x ∈ l) → 2 * d + 2 ≤ k →
    ∃ q, pacelinelaw19_rising.l0 k l acc i = some q ∧ q.Pairwise (· ≤ ·) ∧ q.length ≤ 100 ∧ ∀ x ∈ q, x ∈ l := by
  induction d with
  | zero =>
    intro k i acc hd hi ha h100 hs hm hk
    obtain ⟨k, rfl⟩ : ∃ m, k = m + 2 := ⟨k - 2, by omega⟩
    refine ⟨acc, ?_, hs, by omega, hm⟩
    simp only [pacelinelaw19_rising.l0, pacelinelaw19_rising.j1]
    rw [if_neg (by omega), if_neg (by simp)]
  | succ d ih =>
    intro k i acc hd hi ha h100 hs hm hk
    obtain ⟨k, rfl⟩ : ∃ m, k = m + 2 := ⟨k - 2, by omega⟩
    simp only [pacelinelaw19_rising.l0, pacelinelaw19_rising.j1]
    rw [if_pos (by omega)]
    by_cases c : i < 100
    · have hlt : i < l.length := by omega
      have hw : wrap64 ((i : Int) + 1) = ((i + 1 : Nat) : Int) := by unfold wrap64; omega
      rw [if_pos (by simp; omega)]
      by_cases e : acc.length = 0
      · rw [if_pos (by omega), if_pos (by omega), if_pos (by omega), if_pos (by omega), rd_at l i hlt, hw]
        have : acc = [] := List.length_eq_zero_iff.1 e
        subst this
        exact ih k (i + 1) _ (by omega) (by omega) (by simp) (by omega) (by simp) (by intro x hx; simp at hx; rw [hx]; exact List.getElem_mem hlt) (by omega)
      · have hw1 : wrap64 ((acc.length : Int) - 1) = ((acc.length - 1 : Nat) : Int) := by unfold wrap64; omega
        rw [if_neg (by omega), if_pos (by omega), if_pos (by omega), hw1, if_pos (by omega), if_pos (by omega), rd_at l i hlt, hw]
        by_cases g : l[i] ≥ rd acc ((acc.length - 1 : Nat) : Int)
        · rw [if_pos g, if_pos (by omega)]
          refine ih k (i + 1) _ (by omega) (by omega) (by simp; omega) (by omega) (pairwise_snoc acc _ hs (fun y hy => ?_)) ?_ (by omega)
          · have := last_max acc hs e y hy; omega
          · intro x hx; rcases List.mem_append.1 hx with hx | hx
            · exact hm x hx
            · simp at hx; rw [hx]; exact List.getElem_mem hlt
        · rw [if_neg g]
          exact ih k (i + 1) acc (by omega) (by omega) (by omega) (by omega) hs hm (by omega)
    · rw [if_neg (by simp; omega)]
      exact ⟨acc, rfl, hs, by omega, hm⟩
theorem rising_ev (l : List Int) (hn : l.length ≤ 4096) (k : Nat) (hk : 2 * l.length + 2 ≤ k) : ∃ q, pacelinelaw19_rising.f k l = some q ∧ q.Pairwise (· ≤ ·) ∧ q.length ≤ 100 ∧ ∀ x ∈ q, x ∈ l := by
  have := rising_loop l hn l.length k 0 [] (by omega) (by omega) (by simp) (by omega) (by simp) (by simp) hk
  exact this

theorem decide_eq (kind ask time bound : Int) (q : List Int) (hs : q.Pairwise (· ≤ ·)) (hl : q.length ≤ 4096) : grant_Decide.f kind ask time bound q = some (dec kind ask time bound q) := by
  unfold grant_Decide.f; rw [if_pos ⟨hs, hl⟩]

theorem GrantKinds : pacelinelaw19_GrantKinds.Pure := by
  intro a0 a1 a2 a3 l _ _ _ _ _ _ _
  unfold pacelinelaw19_GrantKinds.f
  by_cases h : (l.length : Int) > 4096
  · exact ⟨0, by rw [if_pos h]⟩
  · refine ⟨2 * l.length + 200, ?_⟩
    obtain ⟨q, hq, hs, hl, _⟩ := rising_ev l (by omega) (2 * l.length + 200) (by omega)
    rw [if_neg h, hq]
    simp only [Option.bind_some]
    rw [decide_eq a0 a1 a2 a3 q hs (by omega), decide_eq 3 a1 a2 a3 q hs (by omega)]
    have e3 : (dec 3 a1 a2 a3 q).1 = true ∧ (dec 3 a1 a2 a3 q).2.2 = (q.length : Int) := by unfold dec; simp
    simp only [Option.bind_some]
    rw [if_pos e3.1, if_pos e3.2]
    by_cases b : (dec a0 a1 a2 a3 q).1 = true
    · have hk : a0 = 1 ∨ a0 = 2 ∨ a0 = 3 := by
        unfold dec at b
        by_cases c1 : a0 = 1
        · exact Or.inl c1
        · by_cases c2 : a0 = 2
          · exact Or.inr (Or.inl c2)
          · by_cases c3 : a0 = 3
            · exact Or.inr (Or.inr c3)
            · rw [if_neg c1, if_neg c2, if_neg c3] at b; simp at b
      rw [if_pos b, if_neg (by omega), if_neg (by omega)]
    · have hz : (dec a0 a1 a2 a3 q).2 = (0, 0) := by
        revert b
        unfold dec
        split
        · split <;> simp
        · split
          · split
            · split <;> simp
            · split <;> simp
          · split <;> simp
      rw [if_neg b, hz]; simp
end Go.Proofs.Ytmjjejjlfkigjaa.Pure
