/- lines.rows: rows of strings in memory, and the plain words. -/
import Derived.Test.YtkjghjffdjjedaaDoorFld
import Derived.Test.YtkjghjffdjjedaaDoorLin
import Derived.Test.YtkjghjffdjjedaaDoorCut
set_option linter.unusedVariables false
set_option linter.unusedSimpArgs false
namespace Go.Proofs.YtkjghjffdjjedaaDoor.Enc
open Go Go.RowKit Go.Lib Go.Proofs Go.Proofs.YtkjghjffdjjedaaDoorW.PrintWords Go.Proofs.YtkjghjffdjjedaaDoorW.PrintLast
/-- the fields of a line without its end -/
def commaB (t : ByteArray) : List ByteArray := splitB ⟨#[44]⟩ 0 (countB t ⟨#[44]⟩) t
def fldsF : List ByteArray → Option (List ByteArray)
  | [] => some []
  | f :: fs => match fieldF f with
    | some t => (fldsF fs).map (⟨t.toArray⟩ :: ·)
    | none => none
/-- a line's row -/
def rowL (l : ByteArray) : Option (List ByteArray) := if hasSuffix l.data.toList [10] then fldsF (commaB (cutLf l)) else none
/-- the rows of the lines, or the number of the first that is none -/
def goR : List ByteArray → Nat → List (List ByteArray) → Sum (List (List ByteArray)) Nat
  | [], _, acc => .inl acc
  | l :: ls, n, acc => match rowL l with
    | some r => goR ls (n + 1) (acc ++ [r])
    | none => .inr (n + 1)
def rowsF (s : ByteArray) : Sum (List (List ByteArray)) Nat := goR (linesB s) 0 []
/-- v holds these rows, in blocks from n0 on -/
def Rws (n0 : Nat) (W : World) (v : Value) (rows : List (List ByteArray)) : Prop :=
  ∃ hs : List Value, hs.length = rows.length ∧ W.ownsRow n0 35 1 v rows.length hs ∧ ∀ (i : Nat) (h : Value) (r : List ByteArray), hs[i]? = some h → rows[i]? = some r → W.ownsRow n0 9 1 h r.length (r.map Value.string)
theorem Rws.nil (n0 : Nat) (W : World) : Rws n0 W (.slice none 0 0) [] := ⟨[], rfl, World.ownsRow_nil _ _ _ _, fun i h r hi => by simp at hi⟩
theorem Rws.below {n0 n : Nat} {W W' : World} {v : Value} {rows : List (List ByteArray)} (h : Rws n0 W v rows) (hb : Below n W W') (hn : W.heap.size ≤ n) : Rws n0 W' v rows := by
  obtain ⟨hs, h1, h2, h3⟩ := h
  exact ⟨hs, h1, own_move h2 (fun k hk => hb.block _ (Nat.lt_of_lt_of_le (own_lt h2 k hk) hn)), fun i h r hi hr => own_move (h3 i h r hi hr) (fun k hk => hb.block _ (Nat.lt_of_lt_of_le (own_lt (h3 i h r hi hr) k hk) hn))⟩
theorem Rws.same {n0 : Nat} {W W' : World} {v : Value} {rows : List (List ByteArray)} (h : Rws n0 W v rows) (hk : ∀ k, n0 ≤ k → k < W.heap.size → W'.heap[k]? = W.heap[k]?) : Rws n0 W' v rows := by
  obtain ⟨hs, h1, h2, h3⟩ := h
  exact ⟨hs, h1, own_move h2 (fun k hkk => hk k (h2.lt k hkk).1 (own_lt h2 k hkk)), fun i h r hi hr => own_move (h3 i h r hi hr) (fun k hkk => hk k ((h3 i h r hi hr).lt k hkk).1 (own_lt (h3 i h r hi hr) k hkk))⟩
theorem own_types_ne {W : World} {B B' : Nat} {e e' : TypeId} {s s' n n' : Nat} {v v' : Value} {xs xs' : List Value} (he : e ≠ e') (h : W.ownsRow B e s v n xs) (h' : W.ownsRow B' e' s' v' n' xs') : v.ownBlock = none ∨ v.ownBlock ≠ v'.ownBlock := by
  rcases h.2 with ⟨rfl, _⟩ | ⟨g, cap, cur, rfl, _, hg, _⟩
  · exact .inl rfl
  · rcases h'.2 with ⟨rfl, _⟩ | ⟨g', cap', cur', rfl, _, hg', _⟩
    · exact .inr (by simp [Value.ownBlock])
    · refine .inr (fun e0 => ?_)
      simp only [Value.ownBlock, Option.some.injEq] at e0
      subst e0
      rw [hg] at hg'
      simp only [Option.some.injEq, Obj.cells.injEq] at hg'
      exact he hg'.2.1
theorem Rws.snoc {n0 : Nat} {W W' : World} {v v' hv : Value} {rows : List (List ByteArray)} {hs : List Value} {r : List ByteArray} (h1 : hs.length = rows.length) (h2 : W.ownsRow n0 35 1 v rows.length hs)
    (h3 : ∀ (i : Nat) (h : Value) (r : List ByteArray), hs[i]? = some h → rows[i]? = some r → W.ownsRow n0 9 1 h r.length (r.map Value.string)) (h4 : W.ownsRow n0 9 1 hv r.length (r.map Value.string))
    (h5 : W'.ownsRow n0 35 1 v' (rows.length + 1) (hs ++ [hv])) (hg : W.grownBy W' v.ownBlock) : Rws n0 W' v' (rows ++ [r]) := by
  refine ⟨hs ++ [hv], by simp [h1], by rw [List.length_append]; exact h5, ?_⟩
  intro i h q hi hq
  by_cases hlt : i < rows.length
  · rw [List.getElem?_append_left (by omega)] at hi
    rw [List.getElem?_append_left hlt] at hq
    have h6 := h3 i h q hi hq
    exact h6.kept hg (own_types_ne (by decide) h6 h2)
  · have hi2 : i = rows.length := by
      have := (List.getElem?_eq_some_iff.1 hq).1
      simp at this; omega
    subst hi2
    rw [List.getElem?_append_right (by omega), h1, Nat.sub_self] at hi
    rw [List.getElem?_append_right (Nat.le_refl _), Nat.sub_self] at hq
    simp only [List.getElem?_cons_zero, Option.some.injEq] at hi hq
    subst hi hq
    exact h4.kept hg (own_types_ne (by decide) h4 h2)
theorem own_cells {W : World} {B : Nat} {e : TypeId} {s n : Nat} {v : Value} {xs : List Value} (h : W.ownsRow B e s v n xs) {W' : World} {row : Option Nat} (hg : W.grownBy W' row) (hr : ∀ r, row = some r → ∃ o : Obj, W.heap[r]? = some o ∧ o.isCells = false) : W'.ownsRow B e s v n xs := by
  refine h.kept hg ?_
  rcases h.2 with ⟨rfl, _⟩ | ⟨g, cap, cur, rfl, _, hgc, _⟩
  · exact .inl rfl
  · refine .inr (fun e0 => ?_)
    obtain ⟨o, ho, hc⟩ := hr g (by simpa [Value.ownBlock] using e0.symm)
    rw [hgc] at ho
    cases ho
    cases hc
theorem Rws.own {n0 : Nat} {W W' : World} {v : Value} {rows : List (List ByteArray)} (h : Rws n0 W v rows) {row : Option Nat} (hg : W.grownBy W' row) (hr : ∀ r, row = some r → ∃ o : Obj, W.heap[r]? = some o ∧ o.isCells = false) : Rws n0 W' v rows := by
  obtain ⟨hs, h1, h2, h3⟩ := h
  exact ⟨hs, h1, own_cells h2 hg hr, fun i h r hi hq => own_cells (h3 i h r hi hq) hg hr⟩
theorem Rws.set {n0 : Nat} {W : World} {v : Value} {rows : List (List ByteArray)} (h : Rws n0 W v rows) {b : Nat} (hb : b < n0) (j : Nat) (u : Value) : Rws n0 (W.setCell ⟨b, j, none⟩ u) v rows :=
  h.same (fun k hk _ => Below.heap_setCell _ _ _ _ (fun e => by simp only at e; omega))
end Go.Proofs.YtkjghjffdjjedaaDoor.Enc
