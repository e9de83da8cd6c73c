/- The law GrantFree of the given program, as a plain statement on integers and lists: whom nothing bounds is always granted; for every input. -/
import Derived.Test.YtmjjejjlfkigjaaXGrantFreex2
import Derived.Test.YtmjjejjlfkigjaaPlain
import Derived.OpenShut
set_option linter.unusedVariables false
set_option linter.unusedSimpArgs false
namespace Go.Proofs.Ytmjjejjlfkigjaa.Pure
open Go.RowKit Go.Proofs.Ytmjjejjlfkigjaa.XGrantFree Go.Proofs.YtmjjejjlfkigjaaW.PrintWords Go.Proofs.YtmjjejjlfkigjaaW.PrintLast Go.Proofs.Ytmjjejjlfkigjaa.Ext Go.Proofs.Ytmjjejjlfkigjaa.Plain

theorem rising_loop (l : List Int) (hn : l.length ≤ 4096) (d : Nat) : ∀ (k i : Nat) (acc : List Int), l.length - i = d → i ≤ l.length → acc.length ≤ i → i ≤ 100 → acc.Pairwise (· ≤ ·) → (∀ x ∈ acc, x ∈ l) → 2 * d + 2 ≤ k →
    ∃ q, pacelinelaw19_rising.l0 k l acc i = some q ∧ q.Pairwise (· ≤ ·) ∧ q.length ≤ 100 ∧ ∀ x ∈ q, x ∈ l := by
  induction d with
  | zero =>
    intro k i acc hd hi ha h100 hs hm hk
    obtain ⟨k, rfl⟩ : ∃ m, k = m + 2 := ⟨k - 2, by omega⟩
    refine ⟨acc, ?_, hs, by omega, hm⟩
    simp only [pacelinelaw19_rising.l0, pacelinelaw19_rising.j1]
    rw [if_neg (by omega), if_neg (by simp)]
  | succ d ih =>
    intro k i acc hd hi ha h100 hs hm hk
    obtain ⟨k, rfl⟩ : ∃ m, k = m + 2 := ⟨k - 2, by omega⟩
    simp only [pacelinelaw19_rising.l0, pacelinelaw19_rising.j1]
    rw [if_pos (by omega)]
    by_cases c : i < 100
    · have hlt : i < l.length := by omega
      have hw : wrap64 ((i : Int) + 1) = ((i + 1 : Nat) : Int) := by unfold wrap64; omega
      rw [if_pos (by simp; omega)]
      by_cases e : acc.length = 0
      · rw [if_pos (by omega), if_pos (by omega), if_pos (by omega), if_pos (by omega), rd_at l i hlt, hw]
        have : acc = [] := List.length_eq_zero_iff.1 e
        subst this
        exact ih k (i + 1) _ (by omega) (by omega) (by simp) (by omega) (by simp) (by intro x hx; simp at hx; rw [hx]; exact List.getElem_mem hlt) (by omega)
      · have hw1 : wrap64 ((acc.length : Int) - 1) = ((acc.length - 1 : Nat) : Int) := by unfold wrap64; omega
        rw [if_neg (by omega), if_pos (by omega), if_pos (by omega), hw1, if_pos (by omega), if_pos (by omega), rd_at l i hlt, hw]
        by_cases g : l[i] ≥ rd acc ((acc.length - 1 : Nat) : Int)
        · rw [if_pos g, if_pos (by omega)]
          refine ih k (i + 1) _ (by omega) (by omega) (by simp; omega) (by omega) (pairwise_snoc acc _ hs (fun y hy => ?_)) ?_ (by omega)
          · have := last_max acc hs e y hy; omega
          · intro x hx; rcases List.mem_append.1 hx with hx | hx
            · exact hm x hx
            · simp at hx; rw [hx]; exact List.getElem_mem hlt
        · rw [if_neg g]
          exact ih k (i + 1) acc (by omega) (by omega) (by omega) (by omega) hs hm (by omega)
    · rw [if_neg (by simp; omega)]
      exact ⟨acc, rfl, hs, by omega, hm⟩
theorem rising_ev (l : List Int) (hn : l.length ≤ 4096) (k : Nat) (hk : 2 * l.length + 2 ≤ k) : ∃ q, pacelinelaw19_rising.f k l = some q ∧ q.Pairwise (· ≤ ·) ∧ q.length ≤ 100 ∧ ∀ x ∈ q, x ∈ l := by
  have := rising_loop l hn l.length k 0 [] (by omega) (by omega) (by simp) (by omega) (by simp) (by simp) hk
  exact this

theorem decide_eq (kind ask time bound : Int) (q : List Int) (hs : q.Pairwise (· ≤ ·)) (hl : q.length ≤ 4096) : grant_Decide.f kind ask time bound q = some (dec kind ask time bound q) := by
  unfold grant_Decide.f; rw [if_pos ⟨hs, hl⟩]

theorem u16w {x : Int} (h : (Lit.int .u16 x).wf = true) : wrap64 x = x ∧ 0 ≤ x ∧ x ≤ 65535 := by
  have := bounds_u16 h; unfold wrap64; omega
theorem filter_sorted (q : List Int) (p : Int → Bool) (h : q.Pairwise (· ≤ ·)) : (q.filter p).Pairwise (· ≤ ·) := h.filter p
theorem filter_snoc_true (q : List Int) (p : Int → Bool) (i : Nat) (h : i < q.length) (c : p q[i] = true) : (q.take (i + 1)).filter p = (q.take i).filter p ++ [q[i]] := by
  rw [List.take_succ_eq_append_getElem h, List.filter_append]; simp [c]
theorem filter_snoc_false (q : List Int) (p : Int → Bool) (i : Nat) (h : i < q.length) (c : p q[i] = false) : (q.take (i + 1)).filter p = (q.take i).filter p := by
  rw [List.take_succ_eq_append_getElem h, List.filter_append]; simp [c]
theorem filter_le (q : List Int) (p : Int → Bool) (i : Nat) : ((q.take i).filter p).length ≤ q.length :=
  Nat.le_trans (List.length_filter_le _ _) (by rw [List.length_take]; omega)

theorem filter_loop (x0 x1 : Int) (q : List Int) (time : Int) (hx : wrap64 x1 = time) (hl : q.length ≤ 100) (r : Option Bool) (m : Nat)
    (hfin : ∀ k, m ≤ k → ((grant_Decide.f 1 (mx (wrap64 (x0)) (wrap64 (x1))) (wrap64 (x1)) 1125899906842624 (q.filter fun x => decide (x ≥ time))).bind fun bt135 => ((grant_Decide.f 2 (mx (wrap64 (x0)) (wrap64 (x1))) (wrap64 (x1)) 1125899906842624 (q.filter fun x => decide (x ≥ time))).bind fun bt138 => (if bt135.1 = true then (if bt138.1 = true then (pacelinelaw19_GrantFree.j1 k (q.filter fun x => decide (x ≥ time)) (mx (wrap64 (x0)) (wrap64 (x1))) bt135.2.2 bt138.2.1 bt138.2.2 (bt135.2.1 != (mx (wrap64 (x0)) (wrap64 (x1))))) else (pacelinelaw19_GrantFree.j1 k (q.filter fun x => decide (x ≥ time)) (mx (wrap64 (x0)) (wrap64 (x1))) bt135.2.2 bt138.2.1 bt138.2.2 true)) else (pacelinelaw19_GrantFree.j1 k (q.filter fun x => decide (x ≥ time)) (mx (wrap64 (x0)) (wrap64 (x1))) bt135.2.2 bt138.2.1 bt138.2.2 true)))) = r) (d : Nat) : ∀ (k i : Nat), q.length - i = d → i ≤ q.length → d + m + 1 ≤ k →
    pacelinelaw19_GrantFree.l0 k x0 x1 q ((q.take i).filter fun x => decide (x ≥ time)) i = r := by
  induction d with
  | zero =>
    intro k i hd hi hk
    obtain ⟨k, rfl⟩ : ∃ m, k = m + 1 := ⟨k - 1, by omega⟩
    simp only [pacelinelaw19_GrantFree.l0]
    rw [if_neg (by omega), List.take_of_length_le (by omega)]
    exact hfin k (by omega)
  | succ d ih =>
    intro k i hd hi hk
    obtain ⟨k, rfl⟩ : ∃ m, k = m + 1 := ⟨k - 1, by omega⟩
    have hlt : i < q.length := by omega
    have hw : wrap64 ((i : Int) + 1) = ((i + 1 : Nat) : Int) := by unfold wrap64; omega
    have hn := filter_le q (fun x => decide (x ≥ time)) i
    simp only [pacelinelaw19_GrantFree.l0]
    rw [if_pos (by omega), if_pos (by omega), rd_at q i hlt, hw, hx]
    have key := ih k (i + 1) (by omega) (by omega) (by omega)
    by_cases c : q[i] ≥ time
    · rw [if_pos c, if_pos (by omega), ← filter_snoc_true q (fun x => decide (x ≥ time)) i hlt (by simp; omega)]
      exact key
    · rw [if_neg c]
      rw [filter_snoc_false q (fun x => decide (x ≥ time)) i hlt (by simp; omega)] at key
      exact key

theorem check_loop (q : List Int) (ot x15 x16 : Int) (n : Nat) (hl : q.length ≤ 100) (h : ∀ (i : Nat) (hi : i < q.length), (q[i] ≤ ot ↔ i < n)) (r : Option Bool)
    (hfin : (if (q.length : Int) > 0 then (if 0 < (q.length : Int) then (if (rd q 0) ≤ ot then (if x15 = (rd q 0) then (if x16 ≥ 1 then (if x16 ≤ n then (if x16 = (q.length : Int) then (some true) else (if 0 ≤ x16 then (if x16 < (q.length : Int) then (some (decide ((rd q x16) > (rd q 0)))) else (none)) else (none))) else (some false)) else (some false)) else (some false)) else (if x15 = ot then (if x16 = 0 then (some ((n : Int) == 0)) else (some false)) else (some false))) else (none)) else (if x15 = ot then (if x16 = 0 then (some ((n : Int) == 0)) else (some false)) else (some false))) = r)
    (d : Nat) : ∀ (k i : Nat), q.length - i = d → i ≤ q.length → d < k → pacelinelaw19_GrantFree.l1 k q ot n x15 x16 i = r := by
  induction d with
  | zero =>
    intro k i hd hi hk
    obtain ⟨k, rfl⟩ : ∃ m, k = m + 1 := ⟨k - 1, by omega⟩
    simp only [pacelinelaw19_GrantFree.l1]
    rw [if_neg (by omega)]; exact hfin
  | succ d ih =>
    intro k i hd hi hk
    obtain ⟨k, rfl⟩ : ∃ m, k = m + 1 := ⟨k - 1, by omega⟩
    have hlt : i < q.length := by omega
    have hw : wrap64 ((i : Int) + 1) = ((i + 1 : Nat) : Int) := by unfold wrap64; omega
    have e : (decide ((i : Int) < (n : Int)) != decide (q[i] ≤ ot)) = false := by
      have := h i hlt
      rw [bne_eq_false_iff_eq, decide_eq_decide]; omega
    simp only [pacelinelaw19_GrantFree.l1]
    rw [if_pos (by omega), if_pos (by omega), rd_at q i hlt, e, if_neg (by simp), hw]
    exact ih k (i + 1) (by omega) (by omega) (by omega)
theorem GrantFree : pacelinelaw19_GrantFree.Pure := by
  intro a0 a1 l h0 h1 _ _ _
  obtain ⟨e0, r0⟩ := u16w h0
  obtain ⟨e1, r1⟩ := u16w h1
  unfold pacelinelaw19_GrantFree.f
  by_cases h : (l.length : Int) > 4096
  · exact ⟨0, by rw [if_pos h]⟩
  · refine ⟨2 * l.length + 400, ?_⟩
    obtain ⟨q, hq, hs, hl, _⟩ := rising_ev l (by omega) (2 * l.length + 400) (by omega)
    rw [if_neg h, hq, Option.bind_some]
    have fs := filter_sorted q (fun x => decide (x ≥ a1)) hs
    have fl : (q.filter fun x => decide (x ≥ a1)).length ≤ 100 := Nat.le_trans (List.length_filter_le _ _) hl
    have fm : ∀ x ∈ q.filter (fun x => decide (x ≥ a1)), a1 ≤ x := fun x hx => by have := (List.mem_filter.1 hx).2; simp at this; omega
    have key := filter_loop a0 a1 q a1 e1 hl (some true) 200 ?_ q.length (2 * l.length + 400) 0 (by omega) (by omega) (by omega)
    · simpa using key
    intro k hk
    generalize (q.filter fun x => decide (x ≥ a1)) = f at fs fl fm ⊢
    rw [e0, e1, mx_eq, decide_eq 1 _ _ _ f fs (by omega), decide_eq 2 _ _ _ f fs (by omega)]
    simp only [Option.bind_some]
    obtain ⟨k, rfl⟩ : ∃ m, k = m + 1 := ⟨k - 1, by omega⟩
    have d1 : dec 1 (max a0 a1) a1 1125899906842624 f = (true, max a0 a1, ((upN f (max a0 a1) : Nat) : Int)) := by
      unfold dec; rw [if_pos rfl, if_pos (by omega)]
    rw [d1]
    simp only []
    rw [if_pos trivial]
    have hb : (max a0 a1 != max a0 a1) = false := by simp
    rw [hb]
    have hup := upN_iff f (max a0 a1) fs
    by_cases e : f ≠ [] ∧ rd f 0 ≤ max a0 a1
    · have hp : 0 < f.length := List.length_pos_iff.2 e.1
      have hm : rd f 0 ∈ f := by
        cases f with
        | nil => exact absurd rfl e.1
        | cons a l => rw [rd_zero]; simp
      have hge := fm _ hm
      have d2 : dec 2 (max a0 a1) a1 1125899906842624 f = (true, rd f 0, ((upN f (rd f 0) : Nat) : Int)) := by
        unfold dec; rw [if_neg (by decide), if_pos rfl, if_pos e, if_pos (by omega)]
        rw [show max a1 (rd f 0) = rd f 0 by omega]
      rw [d2]
      simp only []
      rw [if_pos trivial]
      simp only [pacelinelaw19_GrantFree.j1]
      rw [if_neg (by simp)]
      have g1 := upN_head_pos f e.1
      have g2 := upN_mono f e.2
      have g3 := upN_le f (rd f 0)
      refine check_loop f (max a0 a1) _ _ (upN f (max a0 a1)) fl hup (some true) ?_ f.length k 0 (by omega) (by omega) (by omega)
      rw [if_pos (by omega), if_pos (by omega), if_pos e.2, if_pos rfl, if_pos (by omega), if_pos (by omega)]
      by_cases w : ((upN f (rd f 0) : Nat) : Int) = (f.length : Int)
      · rw [if_pos w]
      · have hlt : upN f (rd f 0) < f.length := by omega
        rw [if_neg w, if_pos (by omega), if_pos (by omega), rd_at f _ hlt]
        have := upN_iff f (rd f 0) fs _ hlt
        congr 1; exact decide_eq_true (by omega)
    · have d2 : dec 2 (max a0 a1) a1 1125899906842624 f = (true, max a0 a1, 0) := by
        unfold dec; rw [if_neg (by decide), if_pos rfl, if_neg e, if_pos (by omega)]
      rw [d2]
      simp only []
      rw [if_pos trivial]
      simp only [pacelinelaw19_GrantFree.j1]
      rw [if_neg (by simp)]
      have hz : upN f (max a0 a1) = 0 := by
        cases f with
        | nil => rfl
        | cons a l =>
          have : ¬ a ≤ max a0 a1 := fun h => e ⟨by simp, by rw [rd_zero]; exact h⟩
          exact upN_zero _ _ (fun x hx => by
            rcases List.mem_cons.1 hx with rfl | hx
            · omega
            · have := (List.pairwise_cons.1 fs).1 x hx; omega)
      refine check_loop f (max a0 a1) _ _ (upN f (max a0 a1)) fl hup (some true) ?_ f.length k 0 (by omega) (by omega) (by omega)
      rw [hz]
      by_cases n : f = []
      · subst n; simp
      · have hp : 0 < f.length := List.length_pos_iff.2 n
        have : ¬ rd f 0 ≤ max a0 a1 := fun h => e ⟨n, h⟩
        rw [if_pos (by omega), if_pos (by omega), if_neg this, if_pos rfl, if_pos rfl]; simp
end Go.Proofs.Ytmjjejjlfkigjaa.Pure
