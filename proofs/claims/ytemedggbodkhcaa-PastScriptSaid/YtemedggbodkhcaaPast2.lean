/- past.own: an entry with a copy of its messages. -/
import Derived.Test.YtemedggbodkhcaaPast1
set_option linter.unusedVariables false
set_option linter.unusedSimpArgs false
namespace Go.Proofs.Ytemedggbodkhcaa.Past
open Go.RowKit Go.Proofs.YtemedggbodkhcaaW.PrintWords Go.Proofs.YtemedggbodkhcaaW.PrintLast

theorem blk_new' (w : World) (o : Obj) : (w.alloc o).heap[w.heap.size]? = some o := by
  show (w.heap.push o)[w.heap.size]? = some o
  rw [Array.getElem?_push]; simp
theorem blk_old' {w : World} {b : Nat} {x : Obj} (o : Obj) (h : w.heap[b]? = some x) : (w.alloc o).heap[b]? = some x := by
  have := blk_lt h
  show (w.heap.push o)[b]? = some x
  rw [Array.getElem?_push, if_neg (by omega)]; exact h
theorem mcell {w : World} {b : Nat} {C : Array Value} {T : TypeId} {fz : Nat × Nat} (h : w.heap[b]? = some (.cells C T fz)) (j : Nat) : w.cell? ⟨b, j, none⟩ = C[j]? := by
  unfold World.cell?; simp only [h]; rfl
theorem mfrozen {w : World} {b : Nat} {C : Array Value} {T : TypeId} (h : w.heap[b]? = some (.cells C T (0, 0))) (j : Nat) : w.frozen? ⟨b, j, none⟩ = false := by
  unfold World.frozen?; simp only [h]; simp
/-- ten cells of one block written, one behind the other -/
theorem set10 {w : World} {g : Nat} {u0 u1 u2 u3 u4 u5 u6 u7 u8 u9 : Value} {T : TypeId} (h : w.heap[g]? = some (.cells #[u0, u1, u2, u3, u4, u5, u6, u7, u8, u9] T (0, 0))) (v0 v1 v2 v3 v4 v5 v6 v7 v8 v9 : Value) :
    ((((((((((w.setCell ⟨g, 0, none⟩ v0).setCell ⟨g, 1, none⟩ v1).setCell ⟨g, 2, none⟩ v2).setCell ⟨g, 3, none⟩ v3).setCell ⟨g, 4, none⟩ v4).setCell ⟨g, 5, none⟩ v5).setCell ⟨g, 6, none⟩ v6).setCell ⟨g, 7, none⟩ v7).setCell ⟨g, 8, none⟩ v8).setCell ⟨g, 9, none⟩ v9).heap[g]? = some (.cells #[v0, v1, v2, v3, v4, v5, v6, v7, v8, v9] T (0, 0)) ∧
    Kept w ((((((((((w.setCell ⟨g, 0, none⟩ v0).setCell ⟨g, 1, none⟩ v1).setCell ⟨g, 2, none⟩ v2).setCell ⟨g, 3, none⟩ v3).setCell ⟨g, 4, none⟩ v4).setCell ⟨g, 5, none⟩ v5).setCell ⟨g, 6, none⟩ v6).setCell ⟨g, 7, none⟩ v7).setCell ⟨g, 8, none⟩ v8).setCell ⟨g, 9, none⟩ v9) (fun k => k = g) ∧
    (∀ B u, Below B u w → B ≤ g → Below B u ((((((((((w.setCell ⟨g, 0, none⟩ v0).setCell ⟨g, 1, none⟩ v1).setCell ⟨g, 2, none⟩ v2).setCell ⟨g, 3, none⟩ v3).setCell ⟨g, 4, none⟩ v4).setCell ⟨g, 5, none⟩ v5).setCell ⟨g, 6, none⟩ v6).setCell ⟨g, 7, none⟩ v7).setCell ⟨g, 8, none⟩ v8).setCell ⟨g, 9, none⟩ v9)) := by
  refine ⟨?_, ?_, ?_⟩
  · have k := blk_set (blk_set (blk_set (blk_set (blk_set (blk_set (blk_set (blk_set (blk_set (blk_set h 0 v0) 1 v1) 2 v2) 3 v3) 4 v4) 5 v5) 6 v6) 7 v7) 8 v8) 9 v9
    simp only [List.setIfInBounds_toArray, List.set_cons_zero, List.set_cons_succ] at k
    exact k
  · exact (((((((((((Kept.refl w (fun k => k = g)).setCell (p := ⟨g, 0, none⟩) (.inl rfl) v0).setCell (p := ⟨g, 1, none⟩) (.inl rfl) v1).setCell (p := ⟨g, 2, none⟩) (.inl rfl) v2).setCell (p := ⟨g, 3, none⟩) (.inl rfl) v3).setCell (p := ⟨g, 4, none⟩) (.inl rfl) v4).setCell (p := ⟨g, 5, none⟩) (.inl rfl) v5).setCell (p := ⟨g, 6, none⟩) (.inl rfl) v6).setCell (p := ⟨g, 7, none⟩) (.inl rfl) v7).setCell (p := ⟨g, 8, none⟩) (.inl rfl) v8).setCell (p := ⟨g, 9, none⟩) (.inl rfl) v9)
  · intro B u hb hg
    exact (((((((((hb.setCell (p := ⟨g, 0, none⟩) hg v0).setCell (p := ⟨g, 1, none⟩) hg v1).setCell (p := ⟨g, 2, none⟩) hg v2).setCell (p := ⟨g, 3, none⟩) hg v3).setCell (p := ⟨g, 4, none⟩) hg v4).setCell (p := ⟨g, 5, none⟩) hg v5).setCell (p := ⟨g, 6, none⟩) hg v6).setCell (p := ⟨g, 7, none⟩) hg v7).setCell (p := ⟨g, 8, none⟩) hg v8).setCell (p := ⟨g, 9, none⟩) hg v9
set_option maxHeartbeats 4000000 in
set_option maxRecDepth 100000 in
theorem own27 (e : Ent) (ms : List Value) (w : World) (h : Rd w e.o ms) :
    Calls Try.prog 27 #[e.val] w fun x w' => ∃ a n c, x = .returned ({ e with oa := a, on_ := n, oc := c } : Ent).val ∧ Rd w' (.slice a n c) ms ∧ Below w.heap.size w w' ∧ (∀ k, (Value.slice a n c).ownBlock = some k → w.heap.size ≤ k) ∧ (e.o = .slice none 0 0 → (.slice a n c : Value) = .slice none 0 0) := by
  obtain ⟨t, f, s, d, cl, bd, ah, se, st, oa, on_, oc⟩ := e
  simp only [Ent.val, Ent.o] at h ⊢
  have hu32 := Try.underlying32
  have hu29 := Try.underlying29
  have hu27 := Try.underlying27
  obtain ⟨W0, hW0⟩ : ∃ W0, W0 = (w.alloc (.cells #[.int .i64 t, .int .i64 f, .int .i64 s, .int .i64 d, .int .i64 cl, .int .i64 bd, .int .i64 ah, .int .i64 se, .int .i64 st, .slice oa on_ oc] 32)).alloc (.cells #[.int .i64 0, .int .i64 0, .int .i64 0, .int .i64 0, .int .i64 0, .int .i64 0, .int .i64 0, .int .i64 0, .int .i64 0, .slice none 0 0] 32) := ⟨_, rfl⟩
  have hB0 : Below w.heap.size w W0 := by rw [hW0]; exact ((Below.refl _ w).alloc (Nat.le_refl _) _).alloc (by simp) _
  have hs0 : W0.heap.size = w.heap.size + 2 := by rw [hW0]; simp
  have g0 : W0.heap[w.heap.size]? = some (.cells #[.int .i64 t, .int .i64 f, .int .i64 s, .int .i64 d, .int .i64 cl, .int .i64 bd, .int .i64 ah, .int .i64 se, .int .i64 st, .slice oa on_ oc] 32 (0, 0)) := by rw [hW0]; exact blk_old' _ (blk_new' _ _)
  have g1 : W0.heap[w.heap.size + 1]? = some (.cells #[.int .i64 0, .int .i64 0, .int .i64 0, .int .i64 0, .int .i64 0, .int .i64 0, .int .i64 0, .int .i64 0, .int .i64 0, .slice none 0 0] 32 (0, 0)) := by rw [hW0]; have := blk_new' (w.alloc (.cells #[.int .i64 t, .int .i64 f, .int .i64 s, .int .i64 d, .int .i64 cl, .int .i64 bd, .int .i64 ah, .int .i64 se, .int .i64 st, .slice oa on_ oc] 32)) (.cells #[.int .i64 0, .int .i64 0, .int .i64 0, .int .i64 0, .int .i64 0, .int .i64 0, .int .i64 0, .int .i64 0, .int .i64 0, .slice none 0 0] 32); rwa [World.size_alloc] at this
  have G0 := Lib.hid g0
  have G1 := Lib.hid g1
  clear g0 g1
  have c1 := clone33 (.slice oa on_ oc) ms W0 (h.below hB0)
  have HC := Lib.hid c1
  have HB := Lib.hid hB0
  have HR := Lib.hid h
  clear c1 hB0 h
  go_enter Try.func27, Try.ntmps27
  go_wp2_with (first
    | (go_at_call 33; go_loud (rw [← hW0]); refine HC.out.mono ?_; rintro x w1 ⟨o', rfl, hr', hb', hg', hn'⟩; obtain ⟨a', n', c', rfl⟩ := hr'.form; have m0 := (hb'.block _ (by omega)).trans G0.out; have m1 := (hb'.block _ (by omega)).trans G1.out; have z0 := mfrozen m0; have z1 := mfrozen m1; have a0 := mcell m0 0; have a1 := mcell m0 1; have a2 := mcell m0 2; have a3 := mcell m0 3; have a4 := mcell m0 4; have a5 := mcell m0 5; have a6 := mcell m0 6; have a7 := mcell m0 7; have a8 := mcell m0 8; have a9 := mcell m0 9; have b0 := mcell m1 0; have b1 := mcell m1 1; have b2 := mcell m1 2; have b3 := mcell m1 3; have b4 := mcell m1 4; have b5 := mcell m1 5; have b6 := mcell m1 6; have b7 := mcell m1 7; have b8 := mcell m1 8; have b9 := mcell m1 9; simp at a0 a1 a2 a3 a4 a5 a6 a7 a8 a9 b0 b1 b2 b3 b4 b5 b6 b7 b8 b9))
  have k1 := blk_set m0 9 (.slice a' n' c')
  have k2 := blk_far m1 (p := ⟨w.heap.size, 9, none⟩) (by simp) (.slice a' n' c')
  obtain ⟨k12, hK, hBf⟩ := set10 k2 (.int .i64 t) (.int .i64 f) (.int .i64 s) (.int .i64 d) (.int .i64 cl) (.int .i64 bd) (.int .i64 ah) (.int .i64 se) (.int .i64 st) (.slice a' n' c')
  have h1 : Below w.heap.size w w1 := HB.out.trans (hb'.mono (by omega))
  have h2 := hBf w.heap.size w (h1.setCell (p := ⟨w.heap.size, 9, none⟩) (Nat.le_refl _) (.slice a' n' c')) (by omega)
  have hr2 := (hr'.kept (Kept.setCell (p := ⟨w.heap.size, 9, none⟩) (Kept.refl w1 (fun k => k = w.heap.size)) (.inl rfl) (.slice a' n' c')) (fun k hk h => by have := hg' k hk; omega)).kept hK (fun k hk h => by have := hg' k hk; omega)
  have e0 := mcell k12 0
  have e1 := mcell k12 1
  have e2 := mcell k12 2
  have e3 := mcell k12 3
  have e4 := mcell k12 4
  have e5 := mcell k12 5
  have e6 := mcell k12 6
  have e7 := mcell k12 7
  have e8 := mcell k12 8
  have e9 := mcell k12 9
  simp at e0 e1 e2 e3 e4 e5 e6 e7 e8 e9
  exact bodyPost_ret (v := .agg #[.int .i64 t, .int .i64 f, .int .i64 s, .int .i64 d, .int .i64 cl, .int .i64 bd, .int .i64 ah, .int .i64 se, .int .i64 st, .slice a' n' c']) (by simp [results, Try.f27, go_sem, e0, e1, e2, e3, e4, e5, e6, e7, e8, e9]) rfl ⟨a', n', c', rfl, hr2, h2, fun k hk => by have := hg' k hk; omega, hn'⟩
end Go.Proofs.Ytemedggbodkhcaa.Past
