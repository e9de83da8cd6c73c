/- The law GrantAll of the given program, as a plain statement on integers and lists: who asks for all that waits is granted at once, with all of it, ot a time that nothing is below; for every input. -/
import Derived.Test.YtmjjejjlfkigjaaXGrantAllx2
import Derived.Test.YtmjjejjlfkigjaaPlain
import Derived.OpenShut
set_option linter.unusedVariables false
set_option linter.unusedSimpArgs false
namespace Go.Proofs.Ytmjjejjlfkigjaa.Pure
open Go.RowKit Go.Proofs.Ytmjjejjlfkigjaa.XGrantAll Go.Proofs.YtmjjejjlfkigjaaW.PrintWords Go.Proofs.YtmjjejjlfkigjaaW.PrintLast Go.Proofs.Ytmjjejjlfkigjaa.Ext Go.Proofs.Ytmjjejjlfkigjaa.Plain

theorem rising_loop (l : List Int) (hn : l.length ≤ 4096) (d : Nat) : ∀ (k i : Nat) (acc : List Int), l.length - i = d → i ≤ l.length → acc.length ≤ i → i ≤ 100 → acc.Pairwise (· ≤ ·) → (∀ x ∈ acc, x ∈ l) → 2 * d + 2 ≤ k →
    ∃ q, pacelinelaw19_rising.l0 k l acc i = some q ∧ q.Pairwise (· ≤ ·) ∧ q.length ≤ 100 ∧ ∀ x ∈ q, x ∈ l := by
  induction d with
  | zero =>
    intro k i acc hd hi ha h100 hs hm hk
    obtain ⟨k, rfl⟩ : ∃ m, k = m + 2 := ⟨k - 2, by omega⟩
    refine ⟨acc, ?_, hs, by omega, hm⟩
    simp only [pacelinelaw19_rising.l0, pacelinelaw19_rising.j1]
    rw [if_neg (by omega), if_neg (by simp)]
  | succ d ih =>
    intro k i acc hd hi ha h100 hs hm hk
    obtain ⟨k, rfl⟩ : ∃ m, k = m + 2 := ⟨k - 2, by omega⟩
    simp only [pacelinelaw19_rising.l0, pacelinelaw19_rising.j1]
    rw [if_pos (by omega)]
    by_cases c : i < 100
    · have hlt : i < l.length := by omega
      have hw : wrap64 ((i : Int) + 1) = ((i + 1 : Nat) : Int) := by unfold wrap64; omega
      rw [if_pos (by simp; omega)]
      by_cases e : acc.length = 0
      · rw [if_pos (by omega), if_pos (by omega), if_pos (by omega), if_pos (by omega), rd_at l i hlt, hw]
        have : acc = [] := List.length_eq_zero_iff.1 e
        subst this
        exact ih k (i + 1) _ (by omega) (by omega) (by simp) (by omega) (by simp) (by intro x hx; simp at hx; rw [hx]; exact List.getElem_mem hlt) (by omega)
      · have hw1 : wrap64 ((acc.length : Int) - 1) = ((acc.length - 1 : Nat) : Int) := by unfold wrap64; omega
        rw [if_neg (by omega), if_pos (by omega), if_pos (by omega), hw1, if_pos (by omega), if_pos (by omega), rd_at l i hlt, hw]
        by_cases g : l[i] ≥ rd acc ((acc.length - 1 : Nat) : Int)
        · rw [if_pos g, if_pos (by omega)]
          refine ih k (i + 1) _ (by omega) (by omega) (by simp; omega) (by omega) (pairwise_snoc acc _ hs (fun y hy => ?_)) ?_ (by omega)
          · have := last_max acc hs e y hy; omega
          · intro x hx; rcases List.mem_append.1 hx with hx | hx
            · exact hm x hx
            · simp at hx; rw [hx]; exact List.getElem_mem hlt
        · rw [if_neg g]
          exact ih k (i + 1) acc (by omega) (by omega) (by omega) (by omega) hs hm (by omega)
    · rw [if_neg (by simp; omega)]
      exact ⟨acc, rfl, hs, by omega, hm⟩
theorem rising_ev (l : List Int) (hn : l.length ≤ 4096) (k : Nat) (hk : 2 * l.length + 2 ≤ k) : ∃ q, pacelinelaw19_rising.f k l = some q ∧ q.Pairwise (· ≤ ·) ∧ q.length ≤ 100 ∧ ∀ x ∈ q, x ∈ l := by
  have := rising_loop l hn l.length k 0 [] (by omega) (by omega) (by simp) (by omega) (by simp) (by simp) hk
  exact this

theorem decide_eq (kind ask time bound : Int) (q : List Int) (hs : q.Pairwise (· ≤ ·)) (hl : q.length ≤ 4096) : grant_Decide.f kind ask time bound q = some (dec kind ask time bound q) := by
  unfold grant_Decide.f; rw [if_pos ⟨hs, hl⟩]

theorem u16w {x : Int} (h : (Lit.int .u16 x).wf = true) : wrap64 x = x ∧ 0 ≤ x ∧ x ≤ 65535 := by
  have := bounds_u16 h; unfold wrap64; omega
theorem filter_sorted (q : List Int) (p : Int → Bool) (h : q.Pairwise (· ≤ ·)) : (q.filter p).Pairwise (· ≤ ·) := h.filter p
theorem filter_snoc_true (q : List Int) (p : Int → Bool) (i : Nat) (h : i < q.length) (c : p q[i] = true) : (q.take (i + 1)).filter p = (q.take i).filter p ++ [q[i]] := by
  rw [List.take_succ_eq_append_getElem h, List.filter_append]; simp [c]
theorem filter_snoc_false (q : List Int) (p : Int → Bool) (i : Nat) (h : i < q.length) (c : p q[i] = false) : (q.take (i + 1)).filter p = (q.take i).filter p := by
  rw [List.take_succ_eq_append_getElem h, List.filter_append]; simp [c]
theorem filter_le (q : List Int) (p : Int → Bool) (i : Nat) : ((q.take i).filter p).length ≤ q.length :=
  Nat.le_trans (List.length_filter_le _ _) (by rw [List.length_take]; omega)

theorem filter_loop (x0 x1 x2 : Int) (q : List Int) (time : Int) (hx : wrap64 x1 = time) (hl : q.length ≤ 100) (r : Option Bool) (m : Nat)
    (hfin : ∀ k, m ≤ k → ((grant_Decide.f 3 (mx (wrap64 (x0)) (wrap64 (x1))) (wrap64 (x1)) (mx (wrap64 (x2)) (wrap64 (x1))) (q.filter fun x => decide (x ≥ time))).bind fun bt135 => (if bt135.1 = true then (if bt135.2.2 = ((q.filter fun x => decide (x ≥ time)).length : Int) then (if bt135.2.1 < (wrap64 (x1)) then (pacelinelaw19_GrantAll.j1 k (q.filter fun x => decide (x ≥ time)) bt135.2.1 true) else (if bt135.2.1 > (mx (wrap64 (x0)) (wrap64 (x1))) then (pacelinelaw19_GrantAll.j1 k (q.filter fun x => decide (x ≥ time)) bt135.2.1 true) else (pacelinelaw19_GrantAll.j1 k (q.filter fun x => decide (x ≥ time)) bt135.2.1 (decide (bt135.2.1 > (mx (wrap64 (x2)) (wrap64 (x1)))))))) else (pacelinelaw19_GrantAll.j1 k (q.filter fun x => decide (x ≥ time)) bt135.2.1 true)) else (pacelinelaw19_GrantAll.j1 k (q.filter fun x => decide (x ≥ time)) bt135.2.1 true))) = r) (d : Nat) : ∀ (k i : Nat), q.length - i = d → i ≤ q.length → d + m + 1 ≤ k →
    pacelinelaw19_GrantAll.l0 k x0 x1 x2 q ((q.take i).filter fun x => decide (x ≥ time)) i = r := by
  induction d with
  | zero =>
    intro k i hd hi hk
    obtain ⟨k, rfl⟩ : ∃ m, k = m + 1 := ⟨k - 1, by omega⟩
    simp only [pacelinelaw19_GrantAll.l0]
    rw [if_neg (by omega), List.take_of_length_le (by omega)]
    exact hfin k (by omega)
  | succ d ih =>
    intro k i hd hi hk
    obtain ⟨k, rfl⟩ : ∃ m, k = m + 1 := ⟨k - 1, by omega⟩
    have hlt : i < q.length := by omega
    have hw : wrap64 ((i : Int) + 1) = ((i + 1 : Nat) : Int) := by unfold wrap64; omega
    have hn := filter_le q (fun x => decide (x ≥ time)) i
    simp only [pacelinelaw19_GrantAll.l0]
    rw [if_pos (by omega), if_pos (by omega), rd_at q i hlt, hw, hx]
    have key := ih k (i + 1) (by omega) (by omega) (by omega)
    by_cases c : q[i] ≥ time
    · rw [if_pos c, if_pos (by omega), ← filter_snoc_true q (fun x => decide (x ≥ time)) i hlt (by simp; omega)]
      exact key
    · rw [if_neg c]
      rw [filter_snoc_false q (fun x => decide (x ≥ time)) i hlt (by simp; omega)] at key
      exact key

theorem check_loop (q : List Int) (t : Int) (hl : q.length ≤ 100) (h : ∀ x ∈ q, t ≤ x) (d : Nat) : ∀ (k i : Nat), q.length - i = d → i ≤ q.length → d < k → pacelinelaw19_GrantAll.l1 k q t i = some true := by
  induction d with
  | zero =>
    intro k i hd hi hk
    obtain ⟨k, rfl⟩ : ∃ m, k = m + 1 := ⟨k - 1, by omega⟩
    simp only [pacelinelaw19_GrantAll.l1]
    rw [if_neg (by omega)]
  | succ d ih =>
    intro k i hd hi hk
    obtain ⟨k, rfl⟩ : ∃ m, k = m + 1 := ⟨k - 1, by omega⟩
    have hlt : i < q.length := by omega
    have hw : wrap64 ((i : Int) + 1) = ((i + 1 : Nat) : Int) := by unfold wrap64; omega
    have := h q[i] (List.getElem_mem hlt)
    simp only [pacelinelaw19_GrantAll.l1]
    rw [if_pos (by omega), if_pos (by omega), rd_at q i hlt, if_neg (by omega), hw]
    exact ih k (i + 1) (by omega) (by omega) (by omega)
theorem head_least (q : List Int) (hs : q.Pairwise (· ≤ ·)) (x : Int) (hx : x ∈ q) : rd q 0 ≤ x := by
  cases q with
  | nil => simp at hx
  | cons a l =>
    rw [rd_zero]
    rcases List.mem_cons.1 hx with rfl | hx
    · exact Int.le_refl _
    · exact (List.pairwise_cons.1 hs).1 x hx
theorem GrantAll : pacelinelaw19_GrantAll.Pure := by
  intro a0 a1 a2 l h0 h1 h2 _ _ _
  obtain ⟨e0, r0⟩ := u16w h0
  obtain ⟨e1, r1⟩ := u16w h1
  obtain ⟨e2, r2⟩ := u16w h2
  unfold pacelinelaw19_GrantAll.f
  by_cases h : (l.length : Int) > 4096
  · exact ⟨0, by rw [if_pos h]⟩
  · refine ⟨2 * l.length + 400, ?_⟩
    obtain ⟨q, hq, hs, hl, _⟩ := rising_ev l (by omega) (2 * l.length + 400) (by omega)
    rw [if_neg h, hq, Option.bind_some]
    have fs := filter_sorted q (fun x => decide (x ≥ a1)) hs
    have fl : (q.filter fun x => decide (x ≥ a1)).length ≤ 100 := Nat.le_trans (List.length_filter_le _ _) hl
    have fm : ∀ x ∈ q.filter (fun x => decide (x ≥ a1)), a1 ≤ x := fun x hx => by have := (List.mem_filter.1 hx).2; simp at this; omega
    have key := filter_loop a0 a1 a2 q a1 e1 hl (some true) 200 ?_ q.length (2 * l.length + 400) 0 (by omega) (by omega) (by omega)
    · simpa using key
    intro k hk
    generalize (q.filter fun x => decide (x ≥ a1)) = f at fs fl fm ⊢
    rw [e0, e1, e2, mx_eq, mx_eq, decide_eq 3 _ _ _ f fs (by omega), Option.bind_some]
    have ed : dec 3 (max a0 a1) a1 (max a2 a1) f = (true, max a1 (if f = [] then min (max a0 a1) (max a2 a1) else min (min (max a0 a1) (max a2 a1)) (rd f 0)), (f.length : Int)) := by unfold dec; simp
    rw [ed]
    simp only []
    obtain ⟨k, rfl⟩ : ∃ m, k = m + 1 := ⟨k - 1, by omega⟩
    generalize hv : (if f = [] then min (max a0 a1) (max a2 a1) else min (min (max a0 a1) (max a2 a1)) (rd f 0)) = v
    have hv1 : v ≤ max a0 a1 ∧ v ≤ max a2 a1 := by rw [← hv]; split <;> omega
    have hv2 : ∀ x ∈ f, v ≤ x := by
      intro x hx
      have := head_least f fs x hx
      rw [← hv, if_neg (by rintro rfl; simp at hx)]; omega
    rw [if_pos trivial, if_pos trivial, if_neg (by omega), if_neg (by omega), decide_eq_false (by omega)]
    simp only [pacelinelaw19_GrantAll.j1]
    rw [if_neg (by simp)]
    exact check_loop f _ fl (fun x hx => by have := hv2 x hx; have := fm x hx; omega) f.length k 0 (by omega) (by omega) (by omega)
end Go.Proofs.Ytmjjejjlfkigjaa.Pure
