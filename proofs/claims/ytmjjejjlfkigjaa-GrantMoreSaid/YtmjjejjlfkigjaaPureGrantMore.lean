/- The law GrantMore of the given program, as a plain statement on integers and lists: with a later bound whoever was granted is granted still, the same or more; for every input. -/
import Derived.Test.YtmjjejjlfkigjaaXGrantMorex2
import Derived.Test.YtmjjejjlfkigjaaPlain
import Derived.OpenShut
set_option linter.unusedVariables false
set_option linter.unusedSimpArgs false
namespace Go.Proofs.Ytmjjejjlfkigjaa.Pure
open Go.RowKit Go.Proofs.Ytmjjejjlfkigjaa.XGrantMore Go.Proofs.YtmjjejjlfkigjaaW.PrintWords Go.Proofs.YtmjjejjlfkigjaaW.PrintLast Go.Proofs.Ytmjjejjlfkigjaa.Ext Go.Proofs.Ytmjjejjlfkigjaa.Plain

theorem rising_loop (l : List Int) (hn : l.length ≤ 4096) (d : Nat) : ∀ (k i : Nat) (acc : List Int), l.length - i = d → i ≤ l.length → acc.length ≤ i → i ≤ 100 → acc.Pairwise (· ≤ ·) → (∀ x ∈ acc, x ∈ l) → 2 * d + 2 ≤ k →
    ∃ q, pacelinelaw19_rising.l0 k l acc i = some q ∧ q.Pairwise (· ≤ ·) ∧ q.length ≤ 100 ∧ ∀ x ∈ q, x ∈ l := by
  induction d with
  | zero =>
    intro k i acc hd hi ha h100 hs hm hk
    obtain ⟨k, rfl⟩ : ∃ m, k = m + 2 := ⟨k - 2, by omega⟩
    refine ⟨acc, ?_, hs, by omega, hm⟩
    simp only [pacelinelaw19_rising.l0, pacelinelaw19_rising.j1]
    rw [if_neg (by omega), if_neg (by simp)]
  | succ d ih =>
    intro k i acc hd hi ha h100 hs hm hk
    obtain ⟨k, rfl⟩ : ∃ m, k = m + 2 := ⟨k - 2, by omega⟩
    simp only [pacelinelaw19_rising.l0, pacelinelaw19_rising.j1]
    rw [if_pos (by omega)]
    by_cases c : i < 100
    · have hlt : i < l.length := by omega
      have hw : wrap64 ((i : Int) + 1) = ((i + 1 : Nat) : Int) := by unfold wrap64; omega
      rw [if_pos (by simp; omega)]
      by_cases e : acc.length = 0
      · rw [if_pos (by omega), if_pos (by omega), if_pos (by omega), if_pos (by omega), rd_at l i hlt, hw]
        have : acc = [] := List.length_eq_zero_iff.1 e
        subst this
        exact ih k (i + 1) _ (by omega) (by omega) (by simp) (by omega) (by simp) (by intro x hx; simp at hx; rw [hx]; exact List.getElem_mem hlt) (by omega)
      · have hw1 : wrap64 ((acc.length : Int) - 1) = ((acc.length - 1 : Nat) : Int) := by unfold wrap64; omega
        rw [if_neg (by omega), if_pos (by omega), if_pos (by omega), hw1, if_pos (by omega), if_pos (by omega), rd_at l i hlt, hw]
        by_cases g : l[i] ≥ rd acc ((acc.length - 1 : Nat) : Int)
        · rw [if_pos g, if_pos (by omega)]
          refine ih k (i + 1) _ (by omega) (by omega) (by simp; omega) (by omega) (pairwise_snoc acc _ hs (fun y hy => ?_)) ?_ (by omega)
          · have := last_max acc hs e y hy; omega
          · intro x hx; rcases List.mem_append.1 hx with hx | hx
            · exact hm x hx
            · simp at hx; rw [hx]; exact List.getElem_mem hlt
        · rw [if_neg g]
          exact ih k (i + 1) acc (by omega) (by omega) (by omega) (by omega) hs hm (by omega)
    · rw [if_neg (by simp; omega)]
      exact ⟨acc, rfl, hs, by omega, hm⟩
theorem rising_ev (l : List Int) (hn : l.length ≤ 4096) (k : Nat) (hk : 2 * l.length + 2 ≤ k) : ∃ q, pacelinelaw19_rising.f k l = some q ∧ q.Pairwise (· ≤ ·) ∧ q.length ≤ 100 ∧ ∀ x ∈ q, x ∈ l := by
  have := rising_loop l hn l.length k 0 [] (by omega) (by omega) (by simp) (by omega) (by simp) (by simp) hk
  exact this

theorem decide_eq (kind ask time bound : Int) (q : List Int) (hs : q.Pairwise (· ≤ ·)) (hl : q.length ≤ 4096) : grant_Decide.f kind ask time bound q = some (dec kind ask time bound q) := by
  unfold grant_Decide.f; rw [if_pos ⟨hs, hl⟩]

theorem many_loop (q : List Int) (t : Int) (hs : q.Pairwise (· ≤ ·)) (hl : q.length ≤ 4096) (d : Nat) : ∀ (k i : Nat), q.length - i = d → i ≤ upN q t → d < k → pacelineref19_many.l0 k q t i = some ((upN q t : Nat) : Int) := by
  have hu := upN_le q t
  induction d with
  | zero =>
    intro k i hd hi hk
    obtain ⟨k, rfl⟩ : ∃ m, k = m + 1 := ⟨k - 1, by omega⟩
    simp only [pacelineref19_many.l0]
    rw [if_neg (by omega)]; congr 1; omega
  | succ d ih =>
    intro k i hd hi hk
    obtain ⟨k, rfl⟩ : ∃ m, k = m + 1 := ⟨k - 1, by omega⟩
    have hlt : i < q.length := by omega
    have hw : wrap64 ((i : Int) + 1) = ((i + 1 : Nat) : Int) := by unfold wrap64; omega
    have hif := upN_iff q t hs i hlt
    simp only [pacelineref19_many.l0]
    rw [if_pos (by omega), if_pos (by omega), rd_at q i hlt, hw]
    by_cases c : q[i] ≤ t
    · rw [if_pos c]; exact ih k (i + 1) (by omega) (by have := hif.1 c; omega) (by omega)
    · rw [if_neg c]; congr 1; have : ¬ i < upN q t := fun h => c (hif.2 h); omega
theorem many_eq (q : List Int) (t : Int) (hs : q.Pairwise (· ≤ ·)) (hl : q.length ≤ 4096) (k : Nat) (hk : q.length < k) : pacelineref19_many.f k q t = some ((upN q t : Nat) : Int) :=
  many_loop q t hs hl q.length k 0 (by omega) (by omega) hk
theorem rdecide_eq (kind ask time bound : Int) (q : List Int) (hs : q.Pairwise (· ≤ ·)) (hl : q.length ≤ 4096) (k : Nat) (hk : q.length + 5 ≤ k) : pacelineref19_Decide.f k kind ask time bound q = some (dec kind ask time bound q) := by
  obtain ⟨k, rfl⟩ : ∃ m, k = m + 3 := ⟨k - 3, by omega⟩
  have h2 : ∀ b : Bool, (b = true ↔ (kind = 2 ∧ bound > ask)) → kind ≠ 1 → ¬ (kind = 2 ∧ q ≠ [] ∧ rd q 0 ≤ ask) → pacelineref19_Decide.j2 (k + 1) kind ask time bound q b = some (dec kind ask time bound q) := by
    intro b hb h1 hn
    simp only [pacelineref19_Decide.j2]
    unfold dec
    rw [if_neg h1]
    by_cases c2 : kind = 2
    · have hn' : ¬ (q ≠ [] ∧ rd q 0 ≤ ask) := fun h => hn ⟨c2, h⟩
      rw [if_pos c2, if_neg hn']
      by_cases c : bound > ask
      · rw [if_pos (hb.2 ⟨c2, c⟩), if_pos c]
      · rw [if_neg (fun h => c (hb.1 h).2), if_neg (by omega), if_neg c]
    · rw [if_neg (fun h => c2 (hb.1 h).1), if_neg c2]
      by_cases c3 : kind = 3
      · rw [if_pos c3, if_pos c3]
        by_cases e : q = []
        · subst e; rw [if_neg (by simp), if_pos rfl]; simp only [mx_eq, mn_eq]
        · have hp : 0 < q.length := List.length_pos_iff.2 e
          rw [if_pos (by omega), if_pos (by omega), if_neg e]; simp only [mx_eq, mn_eq]
      · rw [if_neg c3, if_neg c3]
  have h1 : ∀ b : Bool, (b = true ↔ (kind = 2 ∧ q ≠ [] ∧ rd q 0 ≤ ask)) → kind ≠ 1 → pacelineref19_Decide.j1 (k + 2) kind ask time bound q b = some (dec kind ask time bound q) := by
    intro b hb h1
    simp only [pacelineref19_Decide.j1]
    by_cases c : b = true
    · obtain ⟨c2, e, d⟩ := hb.1 c
      have hp : 0 < q.length := List.length_pos_iff.2 e
      have ed : dec kind ask time bound q = (if bound > rd q 0 then (true, max time (rd q 0), ((upN q (rd q 0) : Nat) : Int)) else (false, 0, 0)) := by
        unfold dec; rw [if_neg h1, if_pos c2, if_pos ⟨e, d⟩]
      rw [if_pos c, if_pos (by omega), ed]
      by_cases g : bound > rd q 0
      · rw [if_pos g, if_pos g, many_eq q _ hs hl (k + 1) (by omega), Option.bind_some, mx_eq]
      · rw [if_neg g, if_neg g]
    · rw [if_neg c]
      have hn : ¬ (kind = 2 ∧ q ≠ [] ∧ rd q 0 ≤ ask) := fun h => c (hb.2 h)
      by_cases c2 : kind = 2
      · rw [if_pos c2]; exact h2 _ (by simp [c2]) h1 hn
      · rw [if_neg c2]; exact h2 false (by simp [c2]) h1 hn
  have h0 : ∀ b : Bool, (b = true ↔ (kind = 1 ∧ bound > ask)) → pacelineref19_Decide.j0 (k + 3) kind ask time bound q b = some (dec kind ask time bound q) := by
    intro b hb
    simp only [pacelineref19_Decide.j0]
    by_cases c : b = true
    · obtain ⟨c1, g⟩ := hb.1 c
      rw [if_pos c, many_eq q _ hs hl (k + 2) (by omega), Option.bind_some]
      unfold dec; rw [if_pos c1, if_pos g]
    · rw [if_neg c]
      by_cases c1 : kind = 1
      · have : ¬ bound > ask := fun g => c (hb.2 ⟨c1, g⟩)
        subst c1
        rw [if_neg (by omega)]
        simp only [pacelineref19_Decide.j1, pacelineref19_Decide.j2]
        unfold dec
        rw [if_neg (by simp), if_neg (by omega), if_neg (by simp), if_neg (by omega), if_pos rfl, if_neg this]
      · by_cases c2 : kind = 2
        · rw [if_pos c2]
          by_cases e : q = []
          · subst e; rw [if_neg (by simp)]; exact h1 false (by simp) c1
          · have hp : 0 < q.length := List.length_pos_iff.2 e
            rw [if_pos (by omega), if_pos (by omega)]; exact h1 _ (by simp [c2, e]) c1
        · rw [if_neg c2]; exact h1 false (by simp [c2]) c1
  unfold pacelineref19_Decide.f
  by_cases c1 : kind = 1
  · rw [if_pos c1]; exact h0 _ (by simp [c1])
  · rw [if_neg c1]; exact h0 false (by simp [c1])

theorem u16w {x : Int} (h : (Lit.int .u16 x).wf = true) : wrap64 x = x ∧ 0 ≤ x ∧ x ≤ 65535 := by
  have := bounds_u16 h; unfold wrap64; omega
theorem dec_one (ask time bound : Int) (q : List Int) : dec 1 ask time bound q = (if bound > ask then (true, ask, ((upN q ask : Nat) : Int)) else (false, 0, 0)) := by
  unfold dec; rw [if_pos rfl]
theorem dec_two (ask time bound : Int) (q : List Int) : dec 2 ask time bound q = (if q ≠ [] ∧ rd q 0 ≤ ask then (if bound > rd q 0 then (true, max time (rd q 0), ((upN q (rd q 0) : Nat) : Int)) else (false, 0, 0)) else if bound > ask then (true, ask, 0) else (false, 0, 0)) := by
  unfold dec; rw [if_neg (by decide), if_pos rfl]
theorem dec_three (ask time bound : Int) (q : List Int) : dec 3 ask time bound q = (true, max time (if q = [] then min ask bound else min (min ask bound) (rd q 0)), (q.length : Int)) := by
  unfold dec; rw [if_neg (by decide), if_neg (by decide), if_pos rfl]
theorem dec_more (kind ask time bound more : Int) (q : List Int) (hm : 0 ≤ more) (hk : kind = 1 ∨ kind = 2 ∨ kind = 3) (h : (dec kind ask time bound q).1 = true) :
    (dec kind ask time (bound + more) q).1 = true ∧ (dec kind ask time (bound + more) q).2.1 ≥ (dec kind ask time bound q).2.1 ∧ (dec kind ask time (bound + more) q).2.2 ≥ (dec kind ask time bound q).2.2 := by
  rcases hk with rfl | rfl | rfl
  · simp only [dec_one] at h ⊢
    by_cases c : bound > ask
    · simp only [if_pos c, if_pos (show bound + more > ask by omega)]; simp
    · simp only [if_neg c] at h; simp at h
  · simp only [dec_two] at h ⊢
    by_cases e : q ≠ [] ∧ rd q 0 ≤ ask
    · simp only [if_pos e] at h ⊢
      by_cases c : bound > rd q 0
      · simp only [if_pos c, if_pos (show bound + more > rd q 0 by omega)]; simp
      · simp only [if_neg c] at h; simp at h
    · simp only [if_neg e] at h ⊢
      by_cases c : bound > ask
      · simp only [if_pos c, if_pos (show bound + more > ask by omega)]; simp
      · simp only [if_neg c] at h; simp at h
  · simp only [dec_three]
    refine ⟨trivial, ?_, Int.le_refl _⟩
    by_cases e : q = []
    · simp only [if_pos e]; omega
    · simp only [if_neg e]; omega
theorem GrantMore : pacelinelaw19_GrantMore.Pure := by
  intro a0 a1 a2 a3 a4 l h0 h1 h2 h3 h4 _ _ _
  have b0 := bounds_u8 h0
  obtain ⟨e1, r1⟩ := u16w h1
  obtain ⟨e2, r2⟩ := u16w h2
  obtain ⟨e3, r3⟩ := u16w h3
  obtain ⟨e4, r4⟩ := u16w h4
  unfold pacelinelaw19_GrantMore.f
  by_cases h : (l.length : Int) > 4096
  · exact ⟨0, by rw [if_pos h]⟩
  · refine ⟨2 * l.length + 200, ?_⟩
    obtain ⟨q, hq, hs, hl, _⟩ := rising_ev l (by omega) (2 * l.length + 200) (by omega)
    rw [if_neg h, hq, e1, e2, e3, e4]
    have e0 : wrap64 a0 = a0 := by unfold wrap64; omega
    have et : Int.tmod a0 3 = a0 % 3 := Int.tmod_eq_emod_of_nonneg (by omega)
    have ek : wrap64 (1 + a0 % 3) = 1 + a0 % 3 := by unfold wrap64; omega
    have es : wrap64 (a3 + a4) = a3 + a4 := by unfold wrap64; omega
    rw [e0, et, ek, es]
    have hk : 1 + a0 % 3 = 1 ∨ 1 + a0 % 3 = 2 ∨ 1 + a0 % 3 = 3 := by omega
    generalize 1 + a0 % 3 = kd at hk ⊢
    simp only [Option.bind_some]
    rw [decide_eq kd a1 a2 a3 q hs (by omega), rdecide_eq kd a1 a2 a3 q hs (by omega) _ (by omega), decide_eq kd a1 a2 (a3 + a4) q hs (by omega)]
    simp only [Option.bind_some]
    rw [if_neg (by simp), if_pos trivial, if_pos trivial]
    by_cases b : (dec kd a1 a2 a3 q).1 = true
    · obtain ⟨m1, m2, m3⟩ := dec_more kd a1 a2 a3 a4 q r4.1 hk b
      rw [if_pos b, if_pos m1, if_pos m2]; simp [m3]
    · rw [if_neg b]
end Go.Proofs.Ytmjjejjlfkigjaa.Pure
