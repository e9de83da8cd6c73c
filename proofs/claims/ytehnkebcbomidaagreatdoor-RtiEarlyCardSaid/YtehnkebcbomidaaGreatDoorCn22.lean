/- Part of a proof over the given program: Oa, Ro, Rp. -/
import Derived.Test.YtehnkebcbomidaaGreatDoorCn21
set_option linter.unusedVariables false
set_option linter.unusedSimpArgs false
section
namespace Go.Proofs.YtehnkebcbomidaaGreatDoor.Rt
open Go Go.RowKit Go.Proofs Go.Proofs.YtehnkebcbomidaaGreatDoorW.PrintWords Go.Proofs.YtehnkebcbomidaaGreatDoorW.PrintLast
def bC (l : List Bool) : Array Value := (l.map Value.bool).toArray
def iC (l : List Int) : Array Value := (l.map (Value.int .i64)).toArray
structure OuAt (B : Nat) (W : World) (L : List LM) (A : Option Addr) (c : Nat) (hg op : List Bool) (out : List Int) : Prop where
 b0 : W.heap[B]? = some (.cells #[.slice A L.length c] 123 (0, 0))
 b1 : W.heap[B + 1]? = some (.cells (iC out) 3 (0, 0))
 b2 : W.heap[B + 2]? = some (.cells #[.slice (some ⟨B + 1, 0, none⟩) L.length L.length] 52 (0, 0))
 b3 : W.heap[B + 3]? = some (.cells (bC op) 4 (0, 0))
 b4 : W.heap[B + 4]? = some (.cells #[.slice (some ⟨B + 3, 0, none⟩) L.length L.length] 36 (0, 0))
 b5 : W.heap[B + 5]? = some (.cells (bC hg) 4 (0, 0))
 row : W.ownsRow 0 195 7 (.slice A L.length c) L.length (lmF L)
 rlt : ∀ k, (Value.slice A L.length c).ownBlock = some k → k < B
 n1 : out.length = L.length
 n3 : op.length = L.length
 n5 : hg.length = L.length
theorem OuAt.frame {B : Nat} {W W' : World} {L : List LM} {A : Option Addr} {c : Nat} {hg op : List Bool} {out : List Int} (h : OuAt B W L A c hg op out) (hb : ∀ k, k < W.heap.size → W'.heap[k]? = W.heap[k]?) : OuAt B W' L A c hg op out :=
 ⟨(hb _ (Array.getElem?_eq_some_iff.1 h.b0).1).trans h.b0, (hb _ (Array.getElem?_eq_some_iff.1 h.b1).1).trans h.b1, (hb _ (Array.getElem?_eq_some_iff.1 h.b2).1).trans h.b2, (hb _ (Array.getElem?_eq_some_iff.1 h.b3).1).trans h.b3, (hb _ (Array.getElem?_eq_some_iff.1 h.b4).1).trans h.b4, (hb _ (Array.getElem?_eq_some_iff.1 h.b5).1).trans h.b5, own_move h.row (fun k hk => hb k (own_lt h.row k hk)), h.rlt, h.n1, h.n3, h.n5⟩
theorem OuAt.below {B : Nat} {W W' : World} {L : List LM} {A : Option Addr} {c : Nat} {hg op : List Bool} {out : List Int} (h : OuAt B W L A c hg op out) (hb : Below W.heap.size W W') : OuAt B W' L A c hg op out := h.frame hb.block
section
variable {B : Nat} {W : World} {L : List LM} {A : Option Addr} {c : Nat} {hg op : List Bool} {out : List Int}
theorem OuAt.c0 (h : OuAt B W L A c hg op out) : W.cell? ⟨B, 0, none⟩ = some (.slice A L.length c) := by simp [World.cell?, h.b0]
theorem OuAt.c2 (h : OuAt B W L A c hg op out) : W.cell? ⟨B + 2, 0, none⟩ = some (.slice (some ⟨B + 1, 0, none⟩) L.length L.length) := by simp [World.cell?, h.b2]
theorem OuAt.c4 (h : OuAt B W L A c hg op out) : W.cell? ⟨B + 4, 0, none⟩ = some (.slice (some ⟨B + 3, 0, none⟩) L.length L.length) := by simp [World.cell?, h.b4]
theorem OuAt.c1 (h : OuAt B W L A c hg op out) (j : Nat) (hj : j < L.length) : W.cell? ⟨B + 1, j, none⟩ = some (.int .i64 (out.getD j 0)) := by
 have hl : j < out.length := by rw [h.n1]; exact hj
 simp [World.cell?, h.b1, iC, List.getD_eq_getElem?_getD, List.getElem?_eq_getElem hl]
theorem OuAt.c3 (h : OuAt B W L A c hg op out) (j : Nat) (hj : j < L.length) : W.cell? ⟨B + 3, j, none⟩ = some (.bool (op.getD j false)) := by
 have hl : j < op.length := by rw [h.n3]; exact hj
 simp [World.cell?, h.b3, bC, List.getD_eq_getElem?_getD, List.getElem?_eq_getElem hl]
theorem OuAt.c5 (h : OuAt B W L A c hg op out) (j : Nat) (hj : j < L.length) : W.cell? ⟨B + 5, j, none⟩ = some (.bool (hg.getD j false)) := by
 have hl : j < hg.length := by rw [h.n5]; exact hj
 simp [World.cell?, h.b5, bC, List.getD_eq_getElem?_getD, List.getElem?_eq_getElem hl]
theorem OuAt.f1 (h : OuAt B W L A c hg op out) (j : Nat) : W.frozen? ⟨B + 1, j, none⟩ = false := by have e := h.b1; simp [World.frozen?, e]
theorem OuAt.f3 (h : OuAt B W L A c hg op out) (j : Nat) : W.frozen? ⟨B + 3, j, none⟩ = false := by have e := h.b3; simp [World.frozen?, e]
theorem OuAt.f5 (h : OuAt B W L A c hg op out) (j : Nat) : W.frozen? ⟨B + 5, j, none⟩ = false := by have e := h.b5; simp [World.frozen?, e]
theorem OuAt.size (h : OuAt B W L A c hg op out) : B + 6 ≤ W.heap.size := (Array.getElem?_eq_some_iff.1 h.b5).1
theorem OuAt.le (h : OuAt B W L A c hg op out) : LeAt W L.length B (B + 4) (B + 2) (B + 3) (B + 1) A c op out := ⟨h.c0, h.c4, h.c2, h.c3, h.c1⟩
theorem OuAt.rows (h : OuAt B W L A c hg op out) (j : Nat) (hj : j < L.length) : ∃ g, A = some ⟨g, 0, none⟩ ∧ g < B ∧ ∀ i v, i < 7 → L[j].cells[i]? = some v → W.cell? ⟨g, j * 7 + i, none⟩ = some v := by
 rcases h.row.2 with ⟨e, h0⟩ | ⟨g, cap, cur, e, _⟩
 ·have hlen := h.row.1
  simp only [Value.slice.injEq] at e
  omega
 ·simp only [Value.slice.injEq] at e
  obtain ⟨e1, e2, e3⟩ := e
  subst e1
  refine ⟨g, rfl, h.rlt g rfl, fun i v hi hv => ?_⟩
  have := h.row.cells (g := g) rfl (j * 7 + i) v (by
   unfold lmF
   rw [flat_get LM.cells 7 (fun _ => rfl) L j i hj hi]
   exact hv)
  rwa [add_plain] at this
theorem own_keep {W : World} {v : Value} {base e sz n : Nat} {xs : List Value} (h : W.ownsRow base e sz v n xs) (p : Addr) (u : Value) (hp : ∀ k, v.ownBlock = some k → k ≠ p.block) : (W.setCell p u).ownsRow base e sz v n xs :=
 own_move h (fun k hk => heap_setCell_other W p k u (hp k hk))
theorem OuAt.set1 (h : OuAt B W L A c hg op out) (j : Nat) (x : Int) : OuAt B (W.setCell ⟨B + 1, j, none⟩ (.int .i64 x)) L A c hg op (out.set j x) := by
 have ho : ∀ k, k ≠ B + 1 → (W.setCell ⟨B + 1, j, none⟩ (.int .i64 x)).heap[k]? = W.heap[k]? := fun k hk => heap_setCell_other W _ k _ hk
 refine ⟨(ho _ (by omega)).trans h.b0, ?_, (ho _ (by omega)).trans h.b2, (ho _ (by omega)).trans h.b3, (ho _ (by omega)).trans h.b4, (ho _ (by omega)).trans h.b5, own_keep h.row _ _ (fun k hk => by have := h.rlt k hk; show k ≠ B + 1; omega), h.rlt, by rw [List.length_set]; exact h.n1, h.n3, h.n5⟩
 rw [heap_setCell_same W (B + 1) j _ 3 _ h.b1]
 simp [iC, List.map_set]
theorem OuAt.set3 (h : OuAt B W L A c hg op out) (j : Nat) (x : Bool) : OuAt B (W.setCell ⟨B + 3, j, none⟩ (.bool x)) L A c hg (op.set j x) out := by
 have ho : ∀ k, k ≠ B + 3 → (W.setCell ⟨B + 3, j, none⟩ (.bool x)).heap[k]? = W.heap[k]? := fun k hk => heap_setCell_other W _ k _ hk
 refine ⟨(ho _ (by omega)).trans h.b0, (ho _ (by omega)).trans h.b1, (ho _ (by omega)).trans h.b2, ?_, (ho _ (by omega)).trans h.b4, (ho _ (by omega)).trans h.b5, own_keep h.row _ _ (fun k hk => by have := h.rlt k hk; show k ≠ B + 3; omega), h.rlt, h.n1, by rw [List.length_set]; exact h.n3, h.n5⟩
 rw [heap_setCell_same W (B + 3) j _ 4 _ h.b3]
 simp [bC, List.map_set]
theorem OuAt.set5 (h : OuAt B W L A c hg op out) (j : Nat) (x : Bool) : OuAt B (W.setCell ⟨B + 5, j, none⟩ (.bool x)) L A c (hg.set j x) op out := by
 have ho : ∀ k, k ≠ B + 5 → (W.setCell ⟨B + 5, j, none⟩ (.bool x)).heap[k]? = W.heap[k]? := fun k hk => heap_setCell_other W _ k _ hk
 refine ⟨(ho _ (by omega)).trans h.b0, (ho _ (by omega)).trans h.b1, (ho _ (by omega)).trans h.b2, (ho _ (by omega)).trans h.b3, (ho _ (by omega)).trans h.b4, ?_, own_keep h.row _ _ (fun k hk => by have := h.rlt k hk; show k ≠ B + 5; omega), h.rlt, h.n1, h.n3, by rw [List.length_set]; exact h.n5⟩
 rw [heap_setCell_same W (B + 5) j _ 4 _ h.b5]
 simp [bC, List.map_set]
end
def hg1 (L : List LM) (j : Nat) : List Bool := (L.take j).map (fun m => m.reg && m.hangs) ++ List.replicate (L.length - j) false
def op1 (L : List LM) (j : Nat) : List Bool := (L.take j).map (·.reg) ++ List.replicate (L.length - j) false
def out1 (L : List LM) (j : Nat) : List Int := (L.take j).map (fun m => if m.reg then m.later m.base else 1125899906842624) ++ List.replicate (L.length - j) 0
theorem fill_step {α β : Type} (L : List α) (f : α → β) (z : β) (j : Nat) (hj : j < L.length) : ((L.take j).map f ++ List.replicate (L.length - j) z).set j (f L[j]) = (L.take (j + 1)).map f ++ List.replicate (L.length - (j + 1)) z := by
 rw [show L.length - j = (L.length - (j + 1)) + 1 by omega, List.replicate_succ, List.take_succ_eq_append_getElem hj, List.map_append]
 have hl : ((L.take j).map f).length = j := by simp; omega
 rw [List.set_append_right _ _ (by omega), hl]
 simp
theorem fill_same {α β : Type} (L : List α) (f : α → β) (z : β) (j : Nat) (hj : j < L.length) (h : f L[j] = z) : (L.take j).map f ++ List.replicate (L.length - j) z = (L.take (j + 1)).map f ++ List.replicate (L.length - (j + 1)) z := by
 rw [show L.length - j = (L.length - (j + 1)) + 1 by omega, List.replicate_succ, List.take_succ_eq_append_getElem hj, List.map_append]
 simp [h]
theorem outsGo_step (l : List LM) (hg : List Bool) (n : Nat) (out : List Int) (op : List Bool) : outsGo l hg (n + 1) out op = match leastO out op l.length with
  | none => out
  | some i => outsGo l hg n (roundO l i (op.set i false) hg out) (op.set i false) := rfl
theorem made_one (v : Value) (n : Nat) : madeCells #[v] (n * 1) = (List.replicate n v).toArray := by
 unfold madeCells
 apply Array.ext
 ·simp
 ·intro i h1 h2
  simp [Nat.mod_one]
theorem infI : (Tryz.prog.info? 3).map (fun i => (i.zero, i.size, i.bytes)) = some (some (.int .i64 0), 1, 8) := by kernel_rfl
theorem infB : (Tryz.prog.info? 4).map (fun i => (i.zero, i.size, i.bytes)) = some (some (.bool false), 1, 1) := by kernel_rfl
theorem make52 (n : Nat) (hn : n ≤ 1000) (W : World) : (Instr.makeSlice 52 (.int .i64 (n : Int)) (.int .i64 (n : Int))).run Tryz.prog W = .ok (.slice (some ⟨W.heap.size, 0, none⟩) n n) (W.alloc (.cells (iC (List.replicate n 0)) 3)) := by
 obtain ⟨i0, hi, hz0, hz1, hz2⟩ := info_parts infI
 have := run_makeSlice (P := Tryz.prog) W 52 3 i0 _ Tryz.underlying52 hi hz0 .i64 .i64 (n : Int) (n : Int) (by omega) (Int.le_refl _) (by rw [hz1, Int.toNat_natCast]; omega) (by rw [hz2]; omega) (by omega)
 rw [this, hz1, Int.toNat_natCast]
 have e : (Value.int .i64 0).cells = #[.int .i64 0] := rfl
 rw [e, made_one]
 simp [iC]
theorem make36 (n : Nat) (hn : n ≤ 1000) (W : World) : (Instr.makeSlice 36 (.int .i64 (n : Int)) (.int .i64 (n : Int))).run Tryz.prog W = .ok (.slice (some ⟨W.heap.size, 0, none⟩) n n) (W.alloc (.cells (bC (List.replicate n false)) 4)) := by
 obtain ⟨i0, hi, hz0, hz1, hz2⟩ := info_parts infB
 have := run_makeSlice (P := Tryz.prog) W 36 4 i0 _ Tryz.underlying36 hi hz0 .i64 .i64 (n : Int) (n : Int) (by omega) (Int.le_refl _) (by rw [hz1, Int.toNat_natCast]; omega) (by rw [hz2]; omega) (by omega)
 rw [this, hz1, Int.toNat_natCast]
 have e : (Value.bool false).cells = #[.bool false] := rfl
 rw [e, made_one]
 simp [bC]
theorem OuAt.new (w : World) (L : List LM) (A : Option Addr) (c : Nat) (h : w.ownsRow 0 195 7 (.slice A L.length c) L.length (lmF L)) :
  OuAt w.heap.size ((((((w.alloc (.cells #[.slice A L.length c] 123)).alloc (.cells (iC (List.replicate L.length 0)) 3)).alloc (.cells #[.slice (some ⟨w.heap.size + 1, 0, none⟩) L.length L.length] 52)).alloc (.cells (bC (List.replicate L.length false)) 4)).alloc (.cells #[.slice (some ⟨w.heap.size + 1 + 1 + 1, 0, none⟩) L.length L.length] 36)).alloc (.cells (bC (List.replicate L.length false)) 4)) L A c (List.replicate L.length false) (List.replicate L.length false) (List.replicate L.length 0) := by
 have hb : ∀ (W : World) (o : Obj) k, k < W.heap.size → (W.alloc o).heap[k]? = W.heap[k]? := fun W o k hk => Below.heap_alloc W o k hk
 have q0 := heap_alloc_new w (.cells #[.slice A L.length c] 123)
 have q1 := heap_alloc_new (w.alloc (.cells #[.slice A L.length c] 123)) (.cells (iC (List.replicate L.length 0)) 3)
 generalize hw1 : w.alloc (.cells #[.slice A L.length c] 123) = w1 at *
 have s1 : w1.heap.size = w.heap.size + 1 := by rw [← hw1]; simp
 have q2 := heap_alloc_new (w1.alloc (.cells (iC (List.replicate L.length 0)) 3)) (.cells #[.slice (some ⟨w.heap.size + 1, 0, none⟩) L.length L.length] 52)
 generalize hw2 : w1.alloc (.cells (iC (List.replicate L.length 0)) 3) = w2 at *
 have s2 : w2.heap.size = w.heap.size + 2 := by rw [← hw2]; simp [s1]
 have q3 := heap_alloc_new (w2.alloc (.cells #[.slice (some ⟨w.heap.size + 1, 0, none⟩) L.length L.length] 52)) (.cells (bC (List.replicate L.length false)) 4)
 generalize hw3 : w2.alloc (.cells #[.slice (some ⟨w.heap.size + 1, 0, none⟩) L.length L.length] 52) = w3 at *
 have s3 : w3.heap.size = w.heap.size + 3 := by rw [← hw3]; simp [s2]
 have q4 := heap_alloc_new (w3.alloc (.cells (bC (List.replicate L.length false)) 4)) (.cells #[.slice (some ⟨w.heap.size + 1 + 1 + 1, 0, none⟩) L.length L.length] 36)
 generalize hw4 : w3.alloc (.cells (bC (List.replicate L.length false)) 4) = w4 at *
 have s4 : w4.heap.size = w.heap.size + 4 := by rw [← hw4]; simp [s3]
 have q5 := heap_alloc_new (w4.alloc (.cells #[.slice (some ⟨w.heap.size + 1 + 1 + 1, 0, none⟩) L.length L.length] 36)) (.cells (bC (List.replicate L.length false)) 4)
 generalize hw5 : w4.alloc (.cells #[.slice (some ⟨w.heap.size + 1 + 1 + 1, 0, none⟩) L.length L.length] 36) = w5 at *
 have s5 : w5.heap.size = w.heap.size + 5 := by rw [← hw5]; simp [s4]
 have k1 : ∀ k, k < w1.heap.size → w2.heap[k]? = w1.heap[k]? := fun k hk => by rw [← hw2]; exact hb _ _ k hk
 have k2 : ∀ k, k < w2.heap.size → w3.heap[k]? = w2.heap[k]? := fun k hk => by rw [← hw3]; exact hb _ _ k hk
 have k3 : ∀ k, k < w3.heap.size → w4.heap[k]? = w3.heap[k]? := fun k hk => by rw [← hw4]; exact hb _ _ k hk
 have k4 : ∀ k, k < w4.heap.size → w5.heap[k]? = w4.heap[k]? := fun k hk => by rw [← hw5]; exact hb _ _ k hk
 have k5 : ∀ k, k < w5.heap.size → (w5.alloc (.cells (bC (List.replicate L.length false)) 4)).heap[k]? = w5.heap[k]? := fun k hk => hb _ _ k hk
 have k0 : ∀ k, k < w.heap.size → w1.heap[k]? = w.heap[k]? := fun k hk => by rw [← hw1]; exact hb _ _ k hk
 rw [s1] at q1
 rw [s2] at q2
 rw [s3] at q3
 rw [s4] at q4
 rw [s5] at q5
 refine ⟨?_, ?_, ?_, ?_, ?_, q5, own_move h (fun k hk => ?_), fun k hk => own_lt h k hk, by simp, by simp, by simp⟩
 ·rw [k5 _ (by omega), k4 _ (by omega), k3 _ (by omega), k2 _ (by omega), k1 _ (by omega)]; exact q0
 ·rw [k5 _ (by omega), k4 _ (by omega), k3 _ (by omega), k2 _ (by omega)]; exact q1
 ·rw [k5 _ (by omega), k4 _ (by omega), k3 _ (by omega)]; exact q2
 ·rw [k5 _ (by omega), k4 _ (by omega)]; exact q3
 ·rw [k5 _ (by omega)]; exact q4
 ·have := own_lt h k hk
  rw [k5 _ (by omega), k4 _ (by omega), k3 _ (by omega), k2 _ (by omega), k1 _ (by omega)]; exact k0 k this
end Go.Proofs.YtehnkebcbomidaaGreatDoor.Rt
end
namespace Go.Proofs.YtehnkebcbomidaaGreatDoor.Rt
open Go Go.RowKit Go.Proofs Go.Proofs.YtehnkebcbomidaaGreatDoorW.PrintWords Go.Proofs.YtehnkebcbomidaaGreatDoorW.PrintLast
theorem shr_bit (x c : Nat) (hx : x < 4294967296) : (bits .and .u32 ((x : Int) / 2 ^ c) 1 == 1) = x.testBit c := by
 have e : ((x : Int) / 2 ^ c) = ((x / 2 ^ c : Nat) : Int) := by norm_cast
 have hl : x / 2 ^ c < 2 ^ 32 := Nat.lt_of_le_of_lt (Nat.div_le_self _ _) hx
 have h := (bits_nat .u32 32 (by decide) wraps_u32 (x / 2 ^ c) 1 hl (by decide)).1
 rw [e, show (1 : Int) = ((1 : Nat) : Int) from rfl, h, Nat.and_one_is_mod, Nat.testBit_eq_decide_div_mod_eq]
 by_cases h1 : x / 2 ^ c % 2 = 1
 ·rw [h1]; rfl
 ·rw [decide_eq_false h1]
  have : x / 2 ^ c % 2 = 0 := by omega
  rw [this]; rfl
theorem and_bits (x y : Nat) (hx : x < 4294967296) (hy : y < 4294967296) : bits .and .u32 (x : Int) (y : Int) = ((x &&& y : Nat) : Int) := (bits_nat .u32 32 (by decide) wraps_u32 x y hx hy).1
set_option maxHeartbeats 4000000 in
set_option maxRecDepth 100000 in
theorem publishes_call (w : World) (g : Nat) (v : Value) (above pubs subs : List Nat) (h : TabAt w g v above pubs subs) (n : Nat) (hn : n < 8) (c : Nat) (hc : c < above.length) (h16 : above.length ≤ 16) (x : Nat) (hx : pubs[n]? = some x) (hx2 : x < 4294967296) :
  Calls Tryz.prog 97 #[.pointer (some ⟨g, 0, none⟩), .int .i64 n, .int .i64 c] w fun e w' => e = .returned (.bool (x.testBit c)) ∧ w' = w := by
 have hz : chk n c above.length = 0 := by unfold chk; rw [if_neg (by omega), if_neg (by omega)]
 have c1 := h.cell n x (by rw [List.getElem?_append_left (by rw [h.p8]; exact hn)]; exact hx)
 have HZ := Lib.hid hz
 have H := Lib.hid h
 have hu189 := Tryz.underlying189
 have hu187 := Tryz.underlying187
 have hu110 := Tryz.underlying110
 have hu157 := Tryz.underlying157
 have hz0 : (0 : Int) ≤ (n : Int) := by omega
 have hz8 : (n : Int) < 8 := by omega
 have hc0 : (0 : Int) ≤ (c : Int) := by omega
 have hc16 : (c : Int) < 16 := by omega
 clear h hz hx
 go_enter Tryz.func97, Tryz.ntmps97
 go_wp2_with (go_at_call 134; (with_reducible refine (check_any _ g v above pubs subs H.out n c 0 HZ.out).mono ?_); rintro e w1 ⟨rfl, rfl⟩)
 go_ret
 rw [← shr_bit x c hx2]
 exact ⟨rfl, rfl⟩
def rtTo (subs : List Nat) (n y : Nat) (j : Nat) : List Nat := (List.range j).filter fun g : Nat => decide ((g : Int) ≠ n) && hears (subs.getD g 0) y
theorem rtTo_succ (subs : List Nat) (n y j : Nat) : rtTo subs n y (j + 1) = rtTo subs n y j ++ if (decide ((j : Int) ≠ n) && hears (subs.getD j 0) y) = true then [j] else [] := by
 unfold rtTo
 rw [List.range_succ, List.filter_append]
 congr 1
 rw [List.filter_cons, List.filter_nil]
theorem rtTo_length (subs : List Nat) (n y j : Nat) : (rtTo subs n y j).length ≤ j := by
 have := List.length_filter_le (fun g : Nat => decide ((g : Int) ≠ n) && hears (subs.getD g 0) y) (List.range j)
 simpa [rtTo] using this
def natC (l : List Nat) : List Value := l.map fun g => Value.int .i64 (g : Nat)
theorem agg110 (w : World) : (isAgg 110).run Tryz.prog w = .ok false w := by kernel_rfl
theorem size110 (w : World) : (Go.sizeOf 110).run Tryz.prog w = .ok 1 w := by kernel_rfl
def u32C (l : List Nat) : List Value := l.map fun g => Value.int .u32 (g : Nat)
theorem idx187 (l : List Nat) (h8 : l.length = 8) (j : Nat) (hj : j < 8) (w : World) : (Instr.index 187 (.agg (u32C l).toArray) (.int .i64 j)).run Tryz.prog w = .ok (.int .u32 (l.getD j 0 : Nat)) w := by
 have hin : (0 : Int) ≤ (j : Int) ∧ (j : Int) < (8 : Nat) := ⟨by omega, by omega⟩
 have hu187 := Tryz.underlying187
 have hl : j < l.length := by omega
 have e : (u32C l)[j]? = some (.int .u32 (l.getD j 0 : Nat)) := by
  unfold u32C
  rw [List.getElem?_map, List.getElem?_eq_getElem hl, List.getD_eq_getElem?_getD, List.getElem?_eq_getElem hl]
  rfl
 simp [Instr.index, run_underlying hu187, asIntOf, hin, part, agg110, size110, go_sem, e, hj]
set_option maxHeartbeats 8000000 in
set_option maxRecDepth 100000 in
theorem route_call (w : World) (g : Nat) (v : Value) (above pubs subs : List Nat) (h : TabAt w g v above pubs subs) (n : Nat) (hn : n < 8) (c : Nat) (hc : c < above.length) (h16 : above.length ≤ 16) (x : Nat) (hx : pubs[n]? = some x) (hx2 : x < 4294967296) (hb : x.testBit c = true)
  (hsu : ∀ y ∈ subs, y < 4294967296) (hab : ∀ y ∈ above, y < 4294967296) :
  Calls Tryz.prog 65 #[.pointer (some ⟨g, 0, none⟩), .int .i64 n, .int .i64 c] w fun e w' => ∃ A cc, e = .returned (.tuple #[.slice A (rtTo subs n (above.getD c 0) 8).length cc, .int .i64 0]) ∧ w'.ownsRow w.heap.size 3 1 (.slice A (rtTo subs n (above.getD c 0) 8).length cc) (rtTo subs n (above.getD c 0) 8).length (natC (rtTo subs n (above.getD c 0) 8)) ∧ Below w.heap.size w w' := by
 have hz : chk n c above.length = 0 := by unfold chk; rw [if_neg (by omega), if_neg (by omega)]
 have hpu := publishes_call w g v above pubs subs h n hn c hc h16 x hx hx2
 rw [hb] at hpu
 have hck := check_any w g v above pubs subs h n c 0 hz
 have c0 := h.c0
 obtain ⟨a0, a1, a2, a3, a4, a5, a6, a7, hs⟩ : ∃ a0 a1 a2 a3 a4 a5 a6 a7, subs = [a0, a1, a2, a3, a4, a5, a6, a7] := by
  match subs, h.s8 with
  | [a0, a1, a2, a3, a4, a5, a6, a7], _ => exact ⟨_, _, _, _, _, _, _, _, rfl⟩
 have e0 : w.cell? ⟨g, 9, none⟩ = some (.int .u32 (a0 : Nat)) := h.cell (8 + 0) a0 (by rw [List.getElem?_append_right (by rw [h.p8]; omega), h.p8, hs]; rfl)
 have e1 : w.cell? ⟨g, 10, none⟩ = some (.int .u32 (a1 : Nat)) := h.cell (8 + 1) a1 (by rw [List.getElem?_append_right (by rw [h.p8]; omega), h.p8, hs]; rfl)
 have e2 : w.cell? ⟨g, 11, none⟩ = some (.int .u32 (a2 : Nat)) := h.cell (8 + 2) a2 (by rw [List.getElem?_append_right (by rw [h.p8]; omega), h.p8, hs]; rfl)
 have e3 : w.cell? ⟨g, 12, none⟩ = some (.int .u32 (a3 : Nat)) := h.cell (8 + 3) a3 (by rw [List.getElem?_append_right (by rw [h.p8]; omega), h.p8, hs]; rfl)
 have e4 : w.cell? ⟨g, 13, none⟩ = some (.int .u32 (a4 : Nat)) := h.cell (8 + 4) a4 (by rw [List.getElem?_append_right (by rw [h.p8]; omega), h.p8, hs]; rfl)
 have e5 : w.cell? ⟨g, 14, none⟩ = some (.int .u32 (a5 : Nat)) := h.cell (8 + 5) a5 (by rw [List.getElem?_append_right (by rw [h.p8]; omega), h.p8, hs]; rfl)
 have e6 : w.cell? ⟨g, 15, none⟩ = some (.int .u32 (a6 : Nat)) := h.cell (8 + 6) a6 (by rw [List.getElem?_append_right (by rw [h.p8]; omega), h.p8, hs]; rfl)
 have e7 : w.cell? ⟨g, 16, none⟩ = some (.int .u32 (a7 : Nat)) := h.cell (8 + 7) a7 (by rw [List.getElem?_append_right (by rw [h.p8]; omega), h.p8, hs]; rfl)
 have hCC : (u32C subs).toArray = #[.int .u32 (a0 : Nat), .int .u32 (a1 : Nat), .int .u32 (a2 : Nat), .int .u32 (a3 : Nat), .int .u32 (a4 : Nat), .int .u32 (a5 : Nat), .int .u32 (a6 : Nat), .int .u32 (a7 : Nat)] := by rw [hs]; rfl
 obtain ⟨er, hrow⟩ := h.row
 obtain ⟨ga, hga, hgl, hac⟩ : ∃ ga cc, v = .slice (some ⟨ga, 0, none⟩) above.length cc ∧ w.cell? ⟨ga, c, none⟩ = some (.int .u32 (above.getD c 0 : Nat)) := by
  rcases hrow.2 with ⟨e, h0⟩ | ⟨ga, cap, cur, e, _⟩
  ·omega
  ·refine ⟨ga, cap, e, ?_⟩
   have := hrow.cells (g := ga) (by rw [e]; rfl) c (.int .u32 (above.getD c 0 : Nat)) (by
    rw [List.getElem?_map, List.getElem?_eq_getElem hc, List.getD_eq_getElem?_getD, List.getElem?_eq_getElem hc]
    rfl)
   rwa [add_plain] at this
 subst hgl
 have hay : above.getD c 0 < 4294967296 := by
  rw [List.getD_eq_getElem?_getD, List.getElem?_eq_getElem hc]
  exact hab _ (List.getElem_mem hc)
 have hsb : ∀ j, subs.getD j 0 < 4294967296 := fun j => by
  by_cases hj : j < subs.length
  ·rw [List.getD_eq_getElem?_getD, List.getElem?_eq_getElem hj]
   exact hsu _ (List.getElem_mem hj)
  ·rw [List.getD_eq_getElem?_getD, List.getElem?_eq_none (by omega)]
   decide
 have hidx := fun j hj w => idx187 subs h.s8 j hj w
 rw [hCC] at hidx
 obtain ⟨i0, hi, hz1, hz2, hz3⟩ := info_parts infI
 generalize above.getD c 0 = y at hac hay ⊢
 have HPU := Lib.hid hpu
 have HCK := Lib.hid hck
 have HIX := Lib.hid hidx
 have HSB := Lib.hid hsb
 have HAY := Lib.hid hay
 have HI := Lib.hid hi
 have HZ0 := Lib.hid hz1
 have HZ1 := Lib.hid hz2
 have HZ2 := Lib.hid hz3
 have hcl : (c : Int) < (above.length : Int) := by omega
 have hcl0 : (0 : Int) ≤ (c : Int) := by omega
 have hn0 : (0 : Int) ≤ (n : Int) := by omega
 have hu189 := Tryz.underlying189
 have hu110 := Tryz.underlying110
 have hu186 := Tryz.underlying186
 have hu52 := Tryz.underlying52
 clear hz hpu hck h hrow hidx hsb hay hi hz1 hz2 hz3 hx hb hsu hab hCC hs
 go_enter Tryz.func65, Tryz.ntmps65
 go_wp2_with (first | (go_at_call 134; (with_reducible refine HCK.out.mono ?_); rintro e w1 ⟨rfl, rfl⟩) | (go_at_call 97; (with_reducible refine HPU.out.mono ?_); rintro e w1 ⟨rfl, rfl⟩))
 clear e0 e1 e2 e3 e4 e5 e6 e7
 go_loopw [9, 28] (fun o jv wr => ∃ (A : Option Addr) (cc j : Nat), j ≤ 8 ∧ jv = .int .i64 j ∧ o = .slice A (rtTo subs n y j).length cc ∧ wr.ownsRow w1.heap.size 3 1 (.slice A (rtTo subs n y j).length cc) (rtTo subs n y j).length (natC (rtTo subs n y j)) ∧ Below w1.heap.size w1 wr) (fun _ jv _ => 8 - (RowKit.intOf jv).toNat)
 case atStart => exact ⟨none, 0, 0, Nat.zero_le _, rfl, rfl, World.ownsRow_nil _ _ _ _, Below.refl _ _⟩
 case round =>
  obtain ⟨A, cc, j, hj, rfl, rfl, ho, hb⟩ := hrel
  by_cases hj8 : j < 8
  ·have hji : (j : Int) < 8 := by omega
   have hix := HIX.out j hj8
   have hsj := HSB.out j
   have hrs := rtTo_succ subs n y j
   have hll := rtTo_length subs n y j
   generalize subs.getD j 0 = sj at hix hsj hrs
   have hand := and_bits sj y hsj HAY.out
   have d0 := pw_cell_below hb c0
   have d1 := pw_cell_below hb hac
   have HO := Lib.hid ho
   have HB := Lib.hid hb
   have HLL := Lib.hid hll
   clear ho hb hsj hll
   by_cases hjn : j = n
   ·subst hjn
    have HRS := Lib.hid (hrs.trans (by rw [if_neg (by simp)]; exact List.append_nil _ : _ = rtTo subs j y j))
    clear hrs
    go_wp2
    all_goals (
     refine ⟨⟨A, cc, j + 1, hj8, by simp, ?_, ?_, HB.out⟩, by simp [RowKit.intOf]; omega⟩
     ·rw [HRS.out]
     ·rw [HRS.out]; exact HO.out)
   ·have hjn2 : ¬ (j : Int) = (n : Int) := by omega
    by_cases hz : sj &&& y = 0
    ·have HRS := Lib.hid (hrs.trans (by rw [if_neg (by simp [hears, hz])]; exact List.append_nil _ : _ = rtTo subs n y j))
     rw [hz] at hand
     clear hrs
     go_wp2
     all_goals (
      refine ⟨⟨A, cc, j + 1, hj8, by simp, ?_, ?_, HB.out⟩, by simp [RowKit.intOf]; omega⟩
      ·rw [HRS.out]
      ·rw [HRS.out]; exact HO.out)
    ·have HRS := Lib.hid (hrs.trans (by rw [if_pos (by simp [hears, hz]; omega)] : _ = rtTo subs n y j ++ [j]))
     clear hrs
     generalize sj &&& y = sy at hz hand
     have hz2 : ¬ (sy : Int) = 0 := by omega
     have HN := Lib.hid (World.news_of_block (heap_alloc_new wr (.cells #[.int .i64 j] 3)))
     go_wp2_with (at_builtin; go_loud (refine wpList_append_own _ rfl (.tmp 47) (.tmp 49) 52 rfl w1.heap.size 3 i0 _ 1 8 hu52 HI.out HZ0.out HZ1.out HZ2.out rfl (by decide) (.slice A (rtTo subs n y j).length cc) (rtTo subs n y j).length (natC (rtTo subs n y j)) rfl (HO.out.alloc _) ⟨wr.heap.size, 0, none⟩ 1 1 [.int .i64 j] (by rfl) rfl HN.out (by simp [Value.oneCell']) (by have := HLL.out; unfold maxLen; omega) (by have := HLL.out; omega) (by have := HB.out.size; simp; omega) ?_); go_loud (intro v1 w2 hown hg hnn))
     have hf : ∃ A' c', v1 = .slice A' ((rtTo subs n y j).length + 1) c' := by
      rcases hown.2 with ⟨rfl, h0⟩ | ⟨g, cap, cur, rfl, _⟩
      ·omega
      ·exact ⟨_, _, rfl⟩
     obtain ⟨A', c', rfl⟩ := hf
     have hlen : (rtTo subs n y (j + 1)).length = (rtTo subs n y j).length + 1 := by rw [HRS.out, List.length_append]; rfl
     have hnat : natC (rtTo subs n y (j + 1)) = natC (rtTo subs n y j) ++ [.int .i64 j] := by rw [HRS.out]; simp [natC]
     refine ⟨⟨A', c', j + 1, hj8, by simp, ?_, ?_, ?_⟩, by simp [RowKit.intOf]; omega⟩
     ·rw [hlen]
     ·rw [hlen, hnat]; exact hown
     ·exact (HB.out.alloc HB.out.size _).grown hg (by have := HB.out.size; simp; omega) (fun q hq => own_base HO.out q hq)
     rename_i hh
     exfalso
     rcases hh with hh | hh <;> simp at hh <;> omega
  ·obtain rfl : j = 8 := by omega
   have hji : ¬ (8 : Int) < 8 := by omega
   have HO := Lib.hid ho
   have HB := Lib.hid hb
   clear ho hb
   go_wp2
   go_ret2
   exact ⟨A, cc, rfl, HO.out, HB.out⟩
set_option maxHeartbeats 4000000 in
theorem route_chk (w : World) (g : Nat) (v : Value) (above pubs subs : List Nat) (h : TabAt w g v above pubs subs) (f c : Int) (hr : chk f c above.length ≠ 0) :
    Calls Tryz.prog 65 #[.pointer (some ⟨g, 0, none⟩), .int .i64 f, .int .i64 c] w fun e w' => e = .returned (.tuple #[.slice none 0 0, .int .i64 (chk f c above.length)]) ∧ w' = w := by
  have H := Lib.hid h
  generalize hz : chk f c above.length = z at hr
  have HZ := Lib.hid hz
  have hne : ¬ z = 0 := hr
  clear h hz hr
  go_enter Tryz.func65, Tryz.ntmps65
  go_wp2_with (go_at_call 134; (with_reducible refine (check_any _ g v above pubs subs H.out f c z HZ.out).mono ?_); rintro e w1 ⟨rfl, rfl⟩)
  go_ret2
  exact ⟨rfl, rfl⟩
set_option maxHeartbeats 4000000 in
set_option maxRecDepth 100000 in
theorem route_211 (w : World) (g : Nat) (v : Value) (above pubs subs : List Nat) (h : TabAt w g v above pubs subs) (n : Nat) (hn : n < 8) (c : Nat) (hc : c < above.length) (h16 : above.length ≤ 16) (x : Nat) (hx : pubs[n]? = some x) (hx2 : x < 4294967296) (hb : x.testBit c = false) :
    Calls Tryz.prog 65 #[.pointer (some ⟨g, 0, none⟩), .int .i64 n, .int .i64 c] w fun e w' => e = .returned (.tuple #[.slice none 0 0, .int .i64 211]) ∧ w' = w := by
  have hz : chk n c above.length = 0 := by unfold chk; rw [if_neg (by omega), if_neg (by omega)]
  have hpu := publishes_call w g v above pubs subs h n hn c hc h16 x hx hx2
  rw [hb] at hpu
  have hck := check_any w g v above pubs subs h n c 0 hz
  have HPU := Lib.hid hpu
  have HCK := Lib.hid hck
  clear hz hpu hck h hx hb
  go_enter Tryz.func65, Tryz.ntmps65
  go_wp2_with (first | (go_at_call 134; (with_reducible refine HCK.out.mono ?_); rintro e w1 ⟨rfl, rfl⟩) | (go_at_call 97; (with_reducible refine HPU.out.mono ?_); rintro e w1 ⟨rfl, rfl⟩))
  go_ret2
  exact ⟨rfl, rfl⟩
theorem subsOf_get (S : St) (k : Nat) (hk : k < 8) : (subsOf S).getD k 0 = (S.get k).subs := by
  unfold subsOf
  rw [List.getD_eq_getElem?_getD, List.getElem?_map, List.getElem?_range hk]
  rfl
theorem rtTo_route (S : St) (n c : Nat) : rtTo (subsOf S) n (S.above.getD c 0) 8 = S.route n c := by
  unfold rtTo St.route
  refine List.filter_congr fun k hk => ?_
  have hk : k < 8 := by simpa using hk
  rw [subsOf_get S k hk, Int.toNat_natCast]
def rtE (S : St) (n : Nat) (c : Int) : Int := if S.noClass c then 81 else if (S.pubs.getD n 0).testBit c.toNat = false then 211 else 0
theorem routeR (w : World) (H : Sh) (S : St) {N : Int} (hR : RAt H w S) (ok : S.Ok N) (n : Nat) (hn : n < 8) (c : Int) :
    Calls Tryz.prog 65 #[.pointer (some ⟨H.tb, 0, none⟩), .int .i64 n, .int .i64 c] w fun e w' => Below w.heap.size w w' ∧
      ((rtE S n c ≠ 0 ∧ e = .returned (.tuple #[.slice none 0 0, .int .i64 (rtE S n c)])) ∨
       (rtE S n c = 0 ∧ ∃ A cc, e = .returned (.tuple #[.slice A (S.route n c).length cc, .int .i64 0]) ∧ w'.ownsRow w.heap.size 3 1 (.slice A (S.route n c).length cc) (S.route n c).length (natC (S.route n c)))) := by
  unfold rtE
  by_cases hc : S.noClass c
  · rw [if_pos hc]
    refine (route_chk w H.tb H.av S.above S.pubs _ hR.tab n c (by rw [chk_no S n hn, if_pos hc]; decide)).mono ?_
    rintro e w' ⟨rfl, rfl⟩
    rw [chk_no S n hn, if_pos hc]
    exact ⟨Below.refl _ _, .inl ⟨by decide, rfl⟩⟩
  · rw [if_neg hc]
    have hc2 : ¬ (c < 0 ∨ (S.above.length : Int) ≤ c) := hc
    obtain ⟨k, rfl⟩ : ∃ k : Nat, c = k := ⟨c.toNat, by omega⟩
    rw [Int.toNat_natCast]
    have hp : S.pubs[n]? = some (S.pubs.getD n 0) := by
      have : n < S.pubs.length := by rw [ok.p8]; exact hn
      rw [List.getD_eq_getElem?_getD, List.getElem?_eq_getElem this]; rfl
    have h16 : S.above.length ≤ 16 := by rw [ok.al]; exact ok.a1
    have hx2 := ok.pb _ (List.mem_of_getElem? hp)
    cases hb : (S.pubs.getD n 0).testBit k with
    | false =>
      refine (route_211 w H.tb H.av S.above S.pubs _ hR.tab n hn k (by omega) h16 _ hp hx2 hb).mono ?_
      rintro e w' ⟨rfl, rfl⟩
      exact ⟨Below.refl _ _, .inl ⟨by decide, rfl⟩⟩
    | true =>
      refine (route_call w H.tb H.av S.above S.pubs (subsOf S) hR.tab n hn k (by omega) h16 _ hp hx2 hb (fun y hy => ?_) ok.ab).mono ?_
      · unfold subsOf at hy
        obtain ⟨j, _, rfl⟩ := List.mem_map.1 hy
        exact (ok.m j).su
      · rintro e w' ⟨A, cc, h1, h2, h3⟩
        rw [rtTo_route] at h1 h2
        exact ⟨h3, .inr ⟨rfl, A, cc, h1, h2⟩⟩
end Go.Proofs.YtehnkebcbomidaaGreatDoor.Rt
