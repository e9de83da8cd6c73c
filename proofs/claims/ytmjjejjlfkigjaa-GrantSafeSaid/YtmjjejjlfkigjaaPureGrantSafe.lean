/- The law GrantSafe of the given program, as a plain statement on integers and lists: behind a grant nothing is left at its time or below, and nothing can come there; for every input. -/
import Derived.Test.YtmjjejjlfkigjaaXGrantSafex2
import Derived.Test.YtmjjejjlfkigjaaPlain
import Derived.OpenShut
set_option linter.unusedVariables false
set_option linter.unusedSimpArgs false
namespace Go.Proofs.Ytmjjejjlfkigjaa.Pure
open Go.RowKit Go.Proofs.Ytmjjejjlfkigjaa.XGrantSafe Go.Proofs.YtmjjejjlfkigjaaW.PrintWords Go.Proofs.YtmjjejjlfkigjaaW.PrintLast Go.Proofs.Ytmjjejjlfkigjaa.Ext Go.Proofs.Ytmjjejjlfkigjaa.Plain

theorem rising_loop (l : List Int) (hn : l.length ≤ 4096) (d : Nat) : ∀ (k i : Nat) (acc : List Int), l.length - i = d → i ≤ l.length → acc.length ≤ i → i ≤ 100 → acc.Pairwise (· ≤ ·) → (∀ x ∈ acc, x ∈ l) → 2 * d + 2 ≤ k →
    ∃ q, pacelinelaw19_rising.l0 k l acc i = some q ∧ q.Pairwise (· ≤ ·) ∧ q.length ≤ 100 ∧ ∀ x ∈ q, x ∈ l := by
  induction d with
  | zero =>
    intro k i acc hd hi ha h100 hs hm hk
    obtain ⟨k, rfl⟩ : ∃ m, k = m + 2 := ⟨k - 2, by omega⟩
    refine ⟨acc, ?_, hs, by omega, hm⟩
    simp only [pacelinelaw19_rising.l0, pacelinelaw19_rising.j1]
    rw [if_neg (by omega), if_neg (by simp)]
  | succ d ih =>
    intro k i acc hd hi ha h100 hs hm hk
    obtain ⟨k, rfl⟩ : ∃ m, k = m + 2 := ⟨k - 2, by omega⟩
    simp only [pacelinelaw19_rising.l0, pacelinelaw19_rising.j1]
    rw [if_pos (by omega)]
    by_cases c : i < 100
    · have hlt : i < l.length := by omega
      have hw : wrap64 ((i : Int) + 1) = ((i + 1 : Nat) : Int) := by unfold wrap64; omega
      rw [if_pos (by simp; omega)]
      by_cases e : acc.length = 0
      · rw [if_pos (by omega), if_pos (by omega), if_pos (by omega), if_pos (by omega), rd_at l i hlt, hw]
        have : acc = [] := List.length_eq_zero_iff.1 e
        subst this
        exact ih k (i + 1) _ (by omega) (by omega) (by simp) (by omega) (by simp) (by intro x hx; simp at hx; rw [hx]; exact List.getElem_mem hlt) (by omega)
      · have hw1 : wrap64 ((acc.length : Int) - 1) = ((acc.length - 1 : Nat) : Int) := by unfold wrap64; omega
        rw [if_neg (by omega), if_pos (by omega), if_pos (by omega), hw1, if_pos (by omega), if_pos (by omega), rd_at l i hlt, hw]
        by_cases g : l[i] ≥ rd acc ((acc.length - 1 : Nat) : Int)
        · rw [if_pos g, if_pos (by omega)]
          refine ih k (i + 1) _ (by omega) (by omega) (by simp; omega) (by omega) (pairwise_snoc acc _ hs (fun y hy => ?_)) ?_ (by omega)
          · have := last_max acc hs e y hy; omega
          · intro x hx; rcases List.mem_append.1 hx with hx | hx
            · exact hm x hx
            · simp at hx; rw [hx]; exact List.getElem_mem hlt
        · rw [if_neg g]
          exact ih k (i + 1) acc (by omega) (by omega) (by omega) (by omega) hs hm (by omega)
    · rw [if_neg (by simp; omega)]
      exact ⟨acc, rfl, hs, by omega, hm⟩
theorem rising_ev (l : List Int) (hn : l.length ≤ 4096) (k : Nat) (hk : 2 * l.length + 2 ≤ k) : ∃ q, pacelinelaw19_rising.f k l = some q ∧ q.Pairwise (· ≤ ·) ∧ q.length ≤ 100 ∧ ∀ x ∈ q, x ∈ l := by
  have := rising_loop l hn l.length k 0 [] (by omega) (by omega) (by simp) (by omega) (by simp) (by simp) hk
  exact this

theorem decide_eq (kind ask time bound : Int) (q : List Int) (hs : q.Pairwise (· ≤ ·)) (hl : q.length ≤ 4096) : grant_Decide.f kind ask time bound q = some (dec kind ask time bound q) := by
  unfold grant_Decide.f; rw [if_pos ⟨hs, hl⟩]

theorem u16w {x : Int} (h : (Lit.int .u16 x).wf = true) : wrap64 x = x ∧ 0 ≤ x ∧ x ≤ 65535 := by
  have := bounds_u16 h; unfold wrap64; omega
theorem filter_sorted (q : List Int) (p : Int → Bool) (h : q.Pairwise (· ≤ ·)) : (q.filter p).Pairwise (· ≤ ·) := h.filter p
theorem filter_snoc_true (q : List Int) (p : Int → Bool) (i : Nat) (h : i < q.length) (c : p q[i] = true) : (q.take (i + 1)).filter p = (q.take i).filter p ++ [q[i]] := by
  rw [List.take_succ_eq_append_getElem h, List.filter_append]; simp [c]
theorem filter_snoc_false (q : List Int) (p : Int → Bool) (i : Nat) (h : i < q.length) (c : p q[i] = false) : (q.take (i + 1)).filter p = (q.take i).filter p := by
  rw [List.take_succ_eq_append_getElem h, List.filter_append]; simp [c]
theorem filter_le (q : List Int) (p : Int → Bool) (i : Nat) : ((q.take i).filter p).length ≤ q.length :=
  Nat.le_trans (List.length_filter_le _ _) (by rw [List.length_take]; omega)

theorem filter_loop (x0 x1 x2 x3 : Int) (q : List Int) (time : Int) (hx : wrap64 x2 = time) (hl : q.length ≤ 100) (r : Option Bool) (m : Nat)
    (hfin : ∀ k, m ≤ k → ((grant_Decide.f (wrap64 (1 + (Int.tmod (wrap64 (x0)) 2))) (mx (wrap64 (x1)) (wrap64 (x2))) (wrap64 (x2)) (wrap64 (x3)) (q.filter fun x => decide (x ≥ time))).bind fun bt135 => ((grant_Decide.f 3 0 0 0 ([] : List Int)).bind fun bt138 => (if bt138.1 = true then (if bt135.1 = true then (if bt135.2.1 < (wrap64 (x2)) then (pacelinelaw19_GrantSafe.j1 k (q.filter fun x => decide (x ≥ time)) bt135.2.1 bt135.2.2 true) else (if bt135.2.1 > (mx (wrap64 (x1)) (wrap64 (x2))) then (pacelinelaw19_GrantSafe.j1 k (q.filter fun x => decide (x ≥ time)) bt135.2.1 bt135.2.2 true) else (if (wrap64 (x3)) ≤ bt135.2.1 then (pacelinelaw19_GrantSafe.j1 k (q.filter fun x => decide (x ≥ time)) bt135.2.1 bt135.2.2 true) else (if bt135.2.2 < 0 then (pacelinelaw19_GrantSafe.j1 k (q.filter fun x => decide (x ≥ time)) bt135.2.1 bt135.2.2 true) else (pacelinelaw19_GrantSafe.j1 k (q.filter fun x => decide (x ≥ time)) bt135.2.1 bt135.2.2 (decide (bt135.2.2 > ((q.filter fun x => decide (x ≥ time)).length : Int)))))))) else (if bt135.2.1 = 0 then (if bt135.2.2 = 0 then (some (decide ((wrap64 (x3)) ≤ (mx (wrap64 (x1)) (wrap64 (x2)))))) else (some false)) else (some false))) else (some false)))) = r) (d : Nat) : ∀ (k i : Nat), q.length - i = d → i ≤ q.length → d + m + 1 ≤ k →
    pacelinelaw19_GrantSafe.l0 k x0 x1 x2 x3 q ((q.take i).filter fun x => decide (x ≥ time)) i = r := by
  induction d with
  | zero =>
    intro k i hd hi hk
    obtain ⟨k, rfl⟩ : ∃ m, k = m + 1 := ⟨k - 1, by omega⟩
    simp only [pacelinelaw19_GrantSafe.l0]
    rw [if_neg (by omega), List.take_of_length_le (by omega)]
    exact hfin k (by omega)
  | succ d ih =>
    intro k i hd hi hk
    obtain ⟨k, rfl⟩ : ∃ m, k = m + 1 := ⟨k - 1, by omega⟩
    have hlt : i < q.length := by omega
    have hw : wrap64 ((i : Int) + 1) = ((i + 1 : Nat) : Int) := by unfold wrap64; omega
    have hn := filter_le q (fun x => decide (x ≥ time)) i
    simp only [pacelinelaw19_GrantSafe.l0]
    rw [if_pos (by omega), if_pos (by omega), rd_at q i hlt, hw, hx]
    have key := ih k (i + 1) (by omega) (by omega) (by omega)
    by_cases c : q[i] ≥ time
    · rw [if_pos c, if_pos (by omega), ← filter_snoc_true q (fun x => decide (x ≥ time)) i hlt (by simp; omega)]
      exact key
    · rw [if_neg c]
      rw [filter_snoc_false q (fun x => decide (x ≥ time)) i hlt (by simp; omega)] at key
      exact key

theorem check_loop (q : List Int) (t : Int) (hs : q.Pairwise (· ≤ ·)) (n : Nat) (hl : q.length ≤ 100) (h : ∀ (i : Nat) (hi : i < q.length), (q[i] ≤ t ↔ i < n)) (d : Nat) : ∀ (k i : Nat), q.length - i = d → i ≤ q.length → d < k → pacelinelaw19_GrantSafe.l1 k q t n i = some true := by
  induction d with
  | zero =>
    intro k i hd hi hk
    obtain ⟨k, rfl⟩ : ∃ m, k = m + 1 := ⟨k - 1, by omega⟩
    simp only [pacelinelaw19_GrantSafe.l1]
    rw [if_neg (by omega)]
  | succ d ih =>
    intro k i hd hi hk
    obtain ⟨k, rfl⟩ : ∃ m, k = m + 1 := ⟨k - 1, by omega⟩
    have hlt : i < q.length := by omega
    have hw : wrap64 ((i : Int) + 1) = ((i + 1 : Nat) : Int) := by unfold wrap64; omega
    have e : (decide (q[i] ≤ t) != decide ((i : Int) < (n : Int))) = false := by
      have := h i hlt
      rw [bne_eq_false_iff_eq, decide_eq_decide]; omega
    simp only [pacelinelaw19_GrantSafe.l1]
    rw [if_pos (by omega), if_pos (by omega), rd_at q i hlt, e, if_neg (by simp), hw]
    exact ih k (i + 1) (by omega) (by omega) (by omega)
theorem dec_safe (kind ask time bound : Int) (q : List Int) (hs : q.Pairwise (· ≤ ·)) (hk : kind = 1 ∨ kind = 2) (ht : time ≤ ask) (hq : ∀ x ∈ q, time ≤ x) :
    ((dec kind ask time bound q).1 = true → ∃ t, ∃ n : Nat, dec kind ask time bound q = (true, t, (n : Int)) ∧ time ≤ t ∧ t ≤ ask ∧ t < bound ∧ n ≤ q.length ∧ ∀ (i : Nat) (hi : i < q.length), (q[i] ≤ t ↔ i < n)) ∧
    ((dec kind ask time bound q).1 ≠ true → (dec kind ask time bound q).2 = (0, 0) ∧ bound ≤ ask) := by
  unfold dec
  rcases hk with rfl | rfl
  · rw [if_pos rfl]
    by_cases c : bound > ask
    · rw [if_pos c]
      exact ⟨fun _ => ⟨ask, upN q ask, rfl, ht, Int.le_refl _, c, upN_le _ _, upN_iff q ask hs⟩, fun h => absurd rfl h⟩
    · rw [if_neg c]
      exact ⟨fun h => by simp at h, fun _ => ⟨rfl, by omega⟩⟩
  · rw [if_neg (by decide), if_pos rfl]
    by_cases e : q ≠ [] ∧ rd q 0 ≤ ask
    · rw [if_pos e]
      have hm : rd q 0 ∈ q := by
        cases q with
        | nil => exact absurd rfl e.1
        | cons a l => rw [rd_zero]; simp
      have := hq _ hm
      by_cases c : bound > rd q 0
      · rw [if_pos c]
        have em : max time (rd q 0) = rd q 0 := by omega
        rw [em]
        exact ⟨fun _ => ⟨rd q 0, upN q (rd q 0), rfl, this, e.2, c, upN_le _ _, upN_iff q _ hs⟩, fun h => absurd rfl h⟩
      · rw [if_neg c]
        exact ⟨fun h => by simp at h, fun _ => ⟨rfl, by omega⟩⟩
    · rw [if_neg e]
      by_cases c : bound > ask
      · rw [if_pos c]
        refine ⟨fun _ => ⟨ask, 0, rfl, ht, Int.le_refl _, c, Nat.zero_le _, fun i hi => ?_⟩, fun h => absurd rfl h⟩
        have hne : q ≠ [] := by rintro rfl; simp at hi
        have h0 : ¬ rd q 0 ≤ ask := fun h => e ⟨hne, h⟩
        have hu : upN q ask = 0 := by
          cases q with
          | nil => rfl
          | cons a l =>
            rw [rd_zero] at h0
            exact upN_zero _ _ (fun x hx => by
              rcases List.mem_cons.1 hx with rfl | hx
              · omega
              · have := (List.pairwise_cons.1 hs).1 x hx; omega)
        have := upN_iff q ask hs i hi
        omega
      · rw [if_neg c]
        exact ⟨fun h => by simp at h, fun _ => ⟨rfl, by omega⟩⟩
theorem GrantSafe : pacelinelaw19_GrantSafe.Pure := by
  intro a0 a1 a2 a3 l h0 h1 h2 h3 _ _ _
  have b0 := bounds_u8 h0
  obtain ⟨e1, r1⟩ := u16w h1
  obtain ⟨e2, r2⟩ := u16w h2
  obtain ⟨e3, r3⟩ := u16w h3
  unfold pacelinelaw19_GrantSafe.f
  by_cases h : (l.length : Int) > 4096
  · exact ⟨0, by rw [if_pos h]⟩
  · refine ⟨2 * l.length + 400, ?_⟩
    obtain ⟨q, hq, hs, hl, _⟩ := rising_ev l (by omega) (2 * l.length + 400) (by omega)
    rw [if_neg h, hq, Option.bind_some]
    have fs := filter_sorted q (fun x => decide (x ≥ a2)) hs
    have fl : (q.filter fun x => decide (x ≥ a2)).length ≤ 100 := Nat.le_trans (List.length_filter_le _ _) hl
    have fm : ∀ x ∈ q.filter (fun x => decide (x ≥ a2)), a2 ≤ x := fun x hx => by have := (List.mem_filter.1 hx).2; simp at this; omega
    have key := filter_loop a0 a1 a2 a3 q a2 e2 hl (some true) 200 ?_ q.length (2 * l.length + 400) 0 (by omega) (by omega) (by omega)
    · simpa using key
    intro k hk
    generalize (q.filter fun x => decide (x ≥ a2)) = f at fs fl fm ⊢
    have e0 : wrap64 a0 = a0 := by unfold wrap64; omega
    have et : Int.tmod a0 2 = a0 % 2 := Int.tmod_eq_emod_of_nonneg (by omega)
    have ek : wrap64 (1 + a0 % 2) = 1 + a0 % 2 := by unfold wrap64; omega
    rw [e0, et, ek, e1, e2, e3, mx_eq]
    have hkd : 1 + a0 % 2 = 1 ∨ 1 + a0 % 2 = 2 := by omega
    generalize 1 + a0 % 2 = kd at hkd ⊢
    rw [decide_eq kd _ _ _ f fs (by omega), decide_eq 3 0 0 0 [] (by simp) (by simp)]
    simp only [Option.bind_some]
    rw [if_pos (by simp [dec])]
    obtain ⟨s1, s2⟩ := dec_safe kd (max a1 a2) a2 a3 f fs hkd (by omega) fm
    obtain ⟨k, rfl⟩ : ∃ m, k = m + 1 := ⟨k - 1, by omega⟩
    by_cases b : (dec kd (max a1 a2) a2 a3 f).1 = true
    · obtain ⟨t, n, ed, t1, t2, t3, t4, t5⟩ := s1 b
      rw [ed]
      simp only []
      rw [if_pos trivial, if_neg (by omega), if_neg (by omega), if_neg (by omega), if_neg (by omega), decide_eq_false (by omega)]
      simp only [pacelinelaw19_GrantSafe.j1]
      rw [if_neg (by simp)]
      exact check_loop f t fs n fl t5 f.length k 0 (by omega) (by omega) (by omega)
    · obtain ⟨ed, t1⟩ := s2 b
      rw [if_neg b, ed]
      simp only []
      rw [if_pos trivial, if_pos trivial]; congr 1; exact decide_eq_true (by omega)
end Go.Proofs.Ytmjjejjlfkigjaa.Pure
