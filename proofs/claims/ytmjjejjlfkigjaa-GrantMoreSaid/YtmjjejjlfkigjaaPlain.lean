/- Lists that do not fall, and what is granted, in plain words: how many are at most a time, the decision, the rising part of a list (no program). -/
import Derived.Test.YtmjjejjlfkigjaaUpTo
namespace Go.Proofs.Ytmjjejjlfkigjaa.Plain
open Go.RowKit Go.Proofs.YtmjjejjlfkigjaaW.PrintWords Go.Proofs.Ytmjjejjlfkigjaa.Ext

theorem upN_nil (t : Int) : upN [] t = 0 := rfl
theorem upN_cons (a : Int) (l : List Int) (t : Int) : upN (a :: l) t = upN l t + if a ≤ t then 1 else 0 := by
  unfold upN; rw [List.countP_cons]; simp
theorem upN_le (l : List Int) (t : Int) : upN l t ≤ l.length := by unfold upN; exact List.countP_le_length
theorem upN_zero (l : List Int) (t : Int) (h : ∀ x ∈ l, t < x) : upN l t = 0 := by
  unfold upN; rw [List.countP_eq_zero]; intro x hx; have := h x hx; simp; omega
theorem upN_iff (l : List Int) (t : Int) (hs : l.Pairwise (· ≤ ·)) : ∀ (i : Nat) (h : i < l.length), (l[i] ≤ t ↔ i < upN l t) := by
  induction l with
  | nil => intro i h; exact absurd h (Nat.not_lt_zero i)
  | cons a l ih =>
    intro i h
    obtain ⟨ha, hl⟩ := List.pairwise_cons.1 hs
    rw [upN_cons]
    by_cases c : a ≤ t
    · rw [if_pos c]
      cases i with
      | zero => simp [c]
      | succ i =>
        have := ih hl i (by simpa using h)
        simp only [List.getElem_cons_succ]
        omega
    · rw [if_neg c, upN_zero l t (fun x hx => by have := ha x hx; omega)]
      cases i with
      | zero => simp; omega
      | succ i =>
        have hm : l[i]'(by simpa using h) ∈ l := List.getElem_mem _
        have := ha _ hm
        simp only [List.getElem_cons_succ]; omega
theorem upN_mono (l : List Int) {t u : Int} (h : t ≤ u) : upN l t ≤ upN l u := by
  unfold upN; apply List.countP_mono_left; intro x _ hx; simp at hx ⊢; omega
theorem rd_at (l : List Int) (i : Nat) (h : i < l.length) : rd l (i : Int) = l[i] := by
  unfold rd; simp [h]
theorem rd_zero (a : Int) (l : List Int) : rd (a :: l) 0 = a := rfl
theorem mn_eq (a b : Int) : mn a b = min a b := by unfold mn; omega
theorem mx_eq (a b : Int) : mx a b = max a b := by unfold mx; omega
theorem wrap_head {i : Int} {n : Nat} (h0 : 0 ≤ i) (h : i < (n : Int)) (hn : n ≤ 1073741824) : wrap64 (i + 1) = i + 1 := by
  unfold wrap64; omega
theorem upTo_eq (q : List Int) (t : Int) (hs : q.Pairwise (· ≤ ·)) (hl : q.length ≤ 4096) : grant_upTo.f q t = some ((upN q t : Nat) : Int) := by
  unfold grant_upTo.f; rw [if_pos ⟨hs, hl⟩]
/-- the decision -/
def dec (kind ask time bound : Int) (q : List Int) : Bool × Int × Int :=
  if kind = 1 then (if bound > ask then (true, ask, ((upN q ask : Nat) : Int)) else (false, 0, 0))
  else if kind = 2 then
    (if q ≠ [] ∧ rd q 0 ≤ ask then (if bound > rd q 0 then (true, max time (rd q 0), ((upN q (rd q 0) : Nat) : Int)) else (false, 0, 0))
     else if bound > ask then (true, ask, 0) else (false, 0, 0))
  else if kind = 3 then (true, max time (if q = [] then min ask bound else min (min ask bound) (rd q 0)), (q.length : Int))
  else (false, 0, 0)
theorem upN_head_pos (q : List Int) (h : q ≠ []) : 0 < upN q (rd q 0) := by
  cases q with
  | nil => exact absurd rfl h
  | cons a l => rw [rd_zero, upN_cons]; simp
theorem pairwise_snoc (l : List Int) (x : Int) (h : l.Pairwise (· ≤ ·)) (hx : ∀ y ∈ l, y ≤ x) : (l ++ [x]).Pairwise (· ≤ ·) := by
  rw [List.pairwise_append]; exact ⟨h, by simp, fun a ha b hb => by rw [List.mem_singleton.1 hb]; exact hx a ha⟩
theorem last_max (l : List Int) (h : l.Pairwise (· ≤ ·)) (hn : l.length ≠ 0) (y : Int) (hy : y ∈ l) : y ≤ rd l ((l.length - 1 : Nat) : Int) := by
  rw [rd_at l _ (by omega)]
  obtain ⟨i, hi, rfl⟩ := List.mem_iff_getElem.1 hy
  by_cases e : i = l.length - 1
  · subst e; exact Int.le_refl _
  · exact List.pairwise_iff_getElem.1 h i (l.length - 1) hi (by omega) (by omega)
end Go.Proofs.Ytmjjejjlfkigjaa.Plain
