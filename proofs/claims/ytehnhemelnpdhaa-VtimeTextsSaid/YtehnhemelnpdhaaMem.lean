/- Blocks of memory: a new one, an old one, and what is read of a block that is known whole. -/
import Derived.WalkKit
set_option linter.unusedVariables false
namespace Go.Proofs.Ytehnhemelnpdhaa.Mem
open Go.RowKit
theorem mb_new (w : World) (o : Obj) : (w.alloc o).heap[w.heap.size]? = some o := by
  show (w.heap.push o)[w.heap.size]? = some o
  rw [Array.getElem?_push]; simp
theorem mb_lt {w : World} {b : Nat} {x : Obj} (h : w.heap[b]? = some x) : b < w.heap.size := by
  rcases Nat.lt_or_ge b w.heap.size with h1 | h1
  · exact h1
  · rw [Array.getElem?_eq_none h1] at h; cases h
theorem mb_old {w : World} {b : Nat} {x : Obj} (o : Obj) (h : w.heap[b]? = some x) : (w.alloc o).heap[b]? = some x := by
  have := mb_lt h
  show (w.heap.push o)[b]? = some x
  rw [Array.getElem?_push, if_neg (by omega)]; exact h
theorem mb_below {B : Nat} {w w' : World} {b : Nat} {x : Obj} (hb : Below B w w') (hlt : b < B) (h : w.heap[b]? = some x) : w'.heap[b]? = some x := (hb.block b hlt).trans h
theorem mcell {w : World} {b : Nat} {C : Array Value} {T : TypeId} {fz : Nat × Nat} (h : w.heap[b]? = some (.cells C T fz)) (j : Nat) : w.cell? ⟨b, j, none⟩ = C[j]? := by
  unfold World.cell?; simp only [h]; rfl
theorem mfrozen {w : World} {b : Nat} {C : Array Value} {T : TypeId} (h : w.heap[b]? = some (.cells C T (0, 0))) (j : Nat) : w.frozen? ⟨b, j, none⟩ = false := by
  unfold World.frozen?; simp only [h]; simp
end Go.Proofs.Ytehnhemelnpdhaa.Mem
