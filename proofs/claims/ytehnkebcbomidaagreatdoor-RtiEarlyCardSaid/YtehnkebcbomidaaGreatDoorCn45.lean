/- Part of a proof over the given program: Dz. -/
import Derived.Test.YtehnkebcbomidaaGreatDoorCn41
import Derived.Test.YtehnkebcbomidaaGreatDoorCn44
set_option linter.unusedVariables false
set_option linter.unusedSimpArgs false
namespace Go.Proofs.YtehnkebcbomidaaGreatDoor.Rt
open Go Go.RowKit Go.Proofs Go.Proofs.YtehnkebcbomidaaGreatDoorW.PrintWords Go.Proofs.YtehnkebcbomidaaGreatDoorW.PrintLast
def Cl.cells (o : Cl) : Array Value := #[.int .i64 o.kind, .int .i64 o.f, .int .i64 o.a, .int .i64 o.b, .int .i64 o.t, .bool o.is]
def put7 (W : World) (b : Nat) (v0 v1 v2 v3 v4 v5 v6 : Value) : World := ((((((W.setCell ⟨b, 0, none⟩ v0).setCell ⟨b, 1, none⟩ v1).setCell ⟨b, 2, none⟩ v2).setCell ⟨b, 3, none⟩ v3).setCell ⟨b, 4, none⟩ v4).setCell ⟨b, 5, none⟩ v5).setCell ⟨b, 6, none⟩ v6
theorem put7_blk {W : World} {b : Nat} {a0 a1 a2 a3 a4 a5 a6 : Value} (h : W.heap[b]? = some (.cells #[a0, a1, a2, a3, a4, a5, a6] 71 (0, 0))) (v0 v1 v2 v3 v4 v5 v6 : Value) : (put7 W b v0 v1 v2 v3 v4 v5 v6).heap[b]? = some (.cells #[v0, v1, v2, v3, v4, v5, v6] 71 (0, 0)) := by
 have h0 : (W.setCell ⟨b, 0, none⟩ v0).heap[b]? = some (.cells #[v0, a1, a2, a3, a4, a5, a6] 71 (0, 0)) := heap_setCell_same _ b 0 _ 71 v0 h
 have h1 : ((W.setCell ⟨b, 0, none⟩ v0).setCell ⟨b, 1, none⟩ v1).heap[b]? = some (.cells #[v0, v1, a2, a3, a4, a5, a6] 71 (0, 0)) := heap_setCell_same _ b 1 _ 71 v1 h0
 have h2 : (((W.setCell ⟨b, 0, none⟩ v0).setCell ⟨b, 1, none⟩ v1).setCell ⟨b, 2, none⟩ v2).heap[b]? = some (.cells #[v0, v1, v2, a3, a4, a5, a6] 71 (0, 0)) := heap_setCell_same _ b 2 _ 71 v2 h1
 have h3 : ((((W.setCell ⟨b, 0, none⟩ v0).setCell ⟨b, 1, none⟩ v1).setCell ⟨b, 2, none⟩ v2).setCell ⟨b, 3, none⟩ v3).heap[b]? = some (.cells #[v0, v1, v2, v3, a4, a5, a6] 71 (0, 0)) := heap_setCell_same _ b 3 _ 71 v3 h2
 have h4 : (((((W.setCell ⟨b, 0, none⟩ v0).setCell ⟨b, 1, none⟩ v1).setCell ⟨b, 2, none⟩ v2).setCell ⟨b, 3, none⟩ v3).setCell ⟨b, 4, none⟩ v4).heap[b]? = some (.cells #[v0, v1, v2, v3, v4, a5, a6] 71 (0, 0)) := heap_setCell_same _ b 4 _ 71 v4 h3
 have h5 : ((((((W.setCell ⟨b, 0, none⟩ v0).setCell ⟨b, 1, none⟩ v1).setCell ⟨b, 2, none⟩ v2).setCell ⟨b, 3, none⟩ v3).setCell ⟨b, 4, none⟩ v4).setCell ⟨b, 5, none⟩ v5).heap[b]? = some (.cells #[v0, v1, v2, v3, v4, v5, a6] 71 (0, 0)) := heap_setCell_same _ b 5 _ 71 v5 h4
 have h6 : (((((((W.setCell ⟨b, 0, none⟩ v0).setCell ⟨b, 1, none⟩ v1).setCell ⟨b, 2, none⟩ v2).setCell ⟨b, 3, none⟩ v3).setCell ⟨b, 4, none⟩ v4).setCell ⟨b, 5, none⟩ v5).setCell ⟨b, 6, none⟩ v6).heap[b]? = some (.cells #[v0, v1, v2, v3, v4, v5, v6] 71 (0, 0)) := heap_setCell_same _ b 6 _ 71 v6 h5
 exact h6
theorem put7_tch (W : World) (b : Nat) (v0 v1 v2 v3 v4 v5 v6 : Value) : Tch (fun k => k = b) W (put7 W b v0 v1 v2 v3 v4 v5 v6) := by
 have h0 : Tch (fun k => k = b) W (W.setCell ⟨b, 0, none⟩ v0) := Tch.setCell (P := fun k => k = b) (Tch.refl _ W) (p := ⟨b, 0, none⟩) (.inl rfl) _
 have h1 := h0.setCell (p := ⟨b, 1, none⟩) (.inl rfl) v1
 have h2 := h1.setCell (p := ⟨b, 2, none⟩) (.inl rfl) v2
 have h3 := h2.setCell (p := ⟨b, 3, none⟩) (.inl rfl) v3
 have h4 := h3.setCell (p := ⟨b, 4, none⟩) (.inl rfl) v4
 have h5 := h4.setCell (p := ⟨b, 5, none⟩) (.inl rfl) v5
 exact h5.setCell (p := ⟨b, 6, none⟩) (.inl rfl) v6
theorem t_cells {W : World} {b : Nat} {a0 a1 a2 a3 a4 a5 a6 : Value} (h : W.heap[b]? = some (.cells #[a0, a1, a2, a3, a4, a5, a6] 71 (0, 0))) :
  (W.cell? ⟨b, 0, none⟩ = some a0 ∧ W.cell? ⟨b, 1, none⟩ = some a1 ∧ W.cell? ⟨b, 2, none⟩ = some a2 ∧ W.cell? ⟨b, 3, none⟩ = some a3 ∧ W.cell? ⟨b, 4, none⟩ = some a4 ∧ W.cell? ⟨b, 5, none⟩ = some a5 ∧ W.cell? ⟨b, 6, none⟩ = some a6) ∧
  W.frozen? ⟨b, 0, none⟩ = false ∧ W.frozen? ⟨b, 1, none⟩ = false ∧ W.frozen? ⟨b, 2, none⟩ = false ∧ W.frozen? ⟨b, 3, none⟩ = false ∧ W.frozen? ⟨b, 4, none⟩ = false ∧ W.frozen? ⟨b, 5, none⟩ = false ∧ W.frozen? ⟨b, 6, none⟩ = false := by
 refine ⟨⟨?_, ?_, ?_, ?_, ?_, ?_, ?_⟩, ?_, ?_, ?_, ?_, ?_, ?_, ?_⟩ <;> simp [World.cell?, World.frozen?, h]
theorem ret45 {R : Ending → World → Prop} {a : Act} {W : World} {b4 : Nat} {v0 v1 v2 v3 v4 v5 v6 : Value} (h4 : a.tmps.getD 4 undef = .pointer (some ⟨b4, 0, none⟩)) (hd : a.defers = []) (hblk : W.heap[b4]? = some (.cells #[v0, v1, v2, v3, v4, v5, v6] 71 (0, 0))) (h : R (.returned (.agg #[v0, v1, v2, v3, v4, v5, v6])) W) : bodyPost Tryz.prog Tryz.f45 R .ret a W := by
 obtain ⟨⟨k0, k1, k2, k3, k4, k5, k6⟩, f0, f1, f2, f3, f4, f5, f6⟩ := t_cells hblk
 have hu71 := Tryz.underlying71
 have hu31 := Tryz.underlying31
 refine ⟨hd, _, ?_, h⟩
 have e4 : a.tmps[4]?.getD undef = .pointer (some ⟨b4, 0, none⟩) := by simpa using h4
 simp [results, Tryz.results45, e4]
 go_simp
structure DPost (K : Nat → Prop) (r : Nat) (w : World) (R : Rs) (vp vt : Value) (w' : World) : Prop where
 at_ : Rti K r w' R.S
 tch : Tch (fun k => ¬ K k) w w'
 p : w'.ownsRow 0 41 6 vp R.g.plain.length (flatM R.g.plain)
 t : w'.ownsRow 0 41 6 vt R.g.timed.length (flatM R.g.timed)
def DEnd (K : Nat → Prop) (r : Nat) (w : World) (R : Rs) (e : Ending) (w' : World) : Prop :=
 ∃ vp vt vr, (∃ A n c, vr = .slice A n c) ∧ e = .returned (.agg #[.int .i64 R.e, .int .i64 R.n, vp, vt, .bool R.g.granted, .int .i64 R.g.time, vr]) ∧ DPost K r w R vp vt w'
theorem Rti.side_ {K P : Nat → Prop} {r : Nat} {w w' : World} {S : St} (h : Rti K r w S) (ht : Tch P w w') (hP : ∀ k, P k → K k) (h0 : ¬ P 0) : Rti K r w' S := by
 obtain ⟨H, hR, hr, hK⟩ := h
 exact ⟨H, hR.frame ht (fun k _ e => (hK k (hP k e)).2) h0, hr, fun k hk => ⟨Nat.lt_of_lt_of_le (hK k hk).1 ht.size, (hK k hk).2⟩⟩
def KD (K : Nat → Prop) (w : World) : Nat → Prop := fun k => (K k ∨ k = w.heap.size) ∨ k = w.heap.size + 1
def w2D (w : World) (o : Cl) : World := (w.alloc (.cells o.cells 69)).alloc (.cells #[.int .i64 0, .int .i64 0, .slice none 0 0, .slice none 0 0, .bool false, .int .i64 0, .slice none 0 0] 71)
theorem w2_rti {K : Nat → Prop} {r : Nat} {w : World} {S : St} (h : Rti K r w S) (o : Cl) : Rti (KD K w) r (w2D w o) S := by
 have h1 := (h.keep (.cells o.cells 69)).keep (.cells #[.int .i64 0, .int .i64 0, .slice none 0 0, .slice none 0 0, .bool false, .int .i64 0, .slice none 0 0] 71)
 exact h1.fewer (fun k hk => by
  rcases hk with hk | hk
  ·exact .inl hk
  ·exact .inr (by simpa using hk))
theorem w2_blk (w : World) (o : Cl) : (w2D w o).heap[w.heap.size + 1]? = some (.cells #[.int .i64 0, .int .i64 0, .slice none 0 0, .slice none 0 0, .bool false, .int .i64 0, .slice none 0 0] 71 (0, 0)) := by
 have := heap_alloc_new (w.alloc (.cells o.cells 69)) (.cells #[.int .i64 0, .int .i64 0, .slice none 0 0, .slice none 0 0, .bool false, .int .i64 0, .slice none 0 0] 71)
 rwa [World.size_alloc] at this
theorem w2_below (w : World) (o : Cl) : Below w.heap.size w (w2D w o) := ((Below.refl _ w).alloc (Nat.le_refl _) _).alloc (by simp) _
theorem put_end {K : Nat → Prop} {r : Nat} {w w1 : World} {o : Cl} {R : Rs} {vp vt vr : Value} (hpos : 0 < w.heap.size) (hlt : ∀ k, K k → k < w.heap.size) (h1 : Rti (KD K w) r w1 R.S) (ht : Tch (fun k => ¬ KD K w k) (w2D w o) w1)
  (hp : w1.ownsRow 0 41 6 vp R.g.plain.length (flatM R.g.plain)) (htt : w1.ownsRow 0 41 6 vt R.g.timed.length (flatM R.g.timed)) (np : vp.ownBlock ≠ some (w.heap.size + 1)) (nt : vt.ownBlock ≠ some (w.heap.size + 1)) :
  (put7 w1 (w.heap.size + 1) (.int .i64 R.e) (.int .i64 R.n) vp vt (.bool R.g.granted) (.int .i64 R.g.time) vr).heap[w.heap.size + 1]? = some (.cells #[.int .i64 R.e, .int .i64 R.n, vp, vt, .bool R.g.granted, .int .i64 R.g.time, vr] 71 (0, 0)) ∧
  DPost K r w R vp vt (put7 w1 (w.heap.size + 1) (.int .i64 R.e) (.int .i64 R.n) vp vt (.bool R.g.granted) (.int .i64 R.g.time) vr) := by
 have hb := (ht.block (w.heap.size + 1) (Array.getElem?_eq_some_iff.1 (w2_blk w o)).1 (fun z => z (.inr rfl))).trans (w2_blk w o)
 have htp := put7_tch w1 (w.heap.size + 1) (.int .i64 R.e) (.int .i64 R.n) vp vt (.bool R.g.granted) (.int .i64 R.g.time) vr
 refine ⟨put7_blk hb _ _ _ _ _ _ _, ⟨(h1.side_ htp (fun k e => by rw [e]; exact .inr rfl) (by omega)).fewer (fun k hk => .inl (.inl hk)), ?_, ?_, ?_⟩⟩
 ·refine ((Tch.of_below (w2_below w o) : Tch (fun k => ¬ K k) w _).trans ht (fun k hk e hkk => e (.inl (.inl hkk)))).trans htp (fun k hk e hkk => ?_)
  have := hlt k hkk
  omega
 ·exact own_move hp (fun k hk => htp.block k (own_lt hp k hk) (fun e => np (by rw [← e]; exact hk)))
 ·exact own_move htt (fun k hk => htp.block k (own_lt htt k hk) (fun e => nt (by rw [← e]; exact hk)))
theorem put_err {K : Nat → Prop} {r : Nat} {w w1 : World} {o : Cl} {e : Int} {n : Int} {S' : St} (vr : Value) (hpos : 0 < w.heap.size) (hlt : ∀ k, K k → k < w.heap.size) (h1 : Rti (KD K w) r w1 S') (ht : Tch (fun k => ¬ KD K w k) (w2D w o) w1) :
  (put7 w1 (w.heap.size + 1) (.int .i64 e) (.int .i64 n) (.slice none 0 0) (.slice none 0 0) (.bool false) (.int .i64 0) vr).heap[w.heap.size + 1]? = some (.cells #[.int .i64 e, .int .i64 n, .slice none 0 0, .slice none 0 0, .bool false, .int .i64 0, vr] 71 (0, 0)) ∧
  DPost K r w ⟨e, n, gv0, S'⟩ (.slice none 0 0) (.slice none 0 0) (put7 w1 (w.heap.size + 1) (.int .i64 e) (.int .i64 n) (.slice none 0 0) (.slice none 0 0) (.bool false) (.int .i64 0) vr) :=
 put_end (R := ⟨e, n, gv0, S'⟩) hpos hlt h1 ht (World.ownsRow_nil _ _ _ _) (World.ownsRow_nil _ _ _ _) (by simp [Value.ownBlock]) (by simp [Value.ownBlock])
theorem Rti.lt {K : Nat → Prop} {r : Nat} {w : World} {S : St} (h : Rti K r w S) : ∀ k, K k → k < w.heap.size := by
 obtain ⟨H, _, _, hK⟩ := h
 exact fun k hk => (hK k hk).1
theorem Rti.pos {K : Nat → Prop} {r : Nat} {w : World} {S : St} (h : Rti K r w S) : 0 < w.heap.size := World.block_lt_of_cell? w _ h.env
set_option maxHeartbeats 4000000 in
set_option maxRecDepth 100000 in
theorem does_0 {K : Nat → Prop} {r : Nat} {w : World} {S : St} {N : Int} (h : Rti K r w S) (ok : S.Ok N) (f a b t : Int) (is : Bool) : Calls Tryz.prog 45 #[.pointer (some ⟨r, 0, none⟩), .agg #[.int .i64 0, .int .i64 f, .int .i64 a, .int .i64 b, .int .i64 t, .bool is]] w (DEnd K r w (S.does ⟨0, f, a, b, t, is⟩)) := by
 have hr2 := w2_rti h ⟨0, f, a, b, t, is⟩
 have hlt := h.lt
 have hpos := h.pos
 have hblk := w2_blk w ⟨0, f, a, b, t, is⟩
 have hw2 : w2D w ⟨0, f, a, b, t, is⟩ = (w.alloc (.cells #[.int .i64 0, .int .i64 f, .int .i64 a, .int .i64 b, .int .i64 t, .bool is] 69)).alloc (.cells #[.int .i64 0, .int .i64 0, .slice none 0 0, .slice none 0 0, .bool false, .int .i64 0, .slice none 0 0] 71) := rfl
 have hc := hr2.join ok f
 have HC := Lib.hid hc
 have HW2 := Lib.hid hw2
 have HLT := Lib.hid hlt
 have HPOS := Lib.hid hpos
 have HBLK := Lib.hid hblk
 have hdo : S.does ⟨0, f, a, b, t, is⟩ = ⟨(S.join f).1, 0, gv0, (S.join f).2⟩ := rfl
 rw [hdo]
 have hu69 := Tryz.underlying69
 have hu71 := Tryz.underlying71
 have hu31 := Tryz.underlying31
 clear hr2 hc h ok hw2 hlt hpos hblk hdo
 generalize S.join f = q at HC ⊢
 obtain ⟨e, S'⟩ := q
 go_enter Tryz.func45, Tryz.ntmps45
 go_wp2_with (go_at_call 34; rw [← HW2.out]; (with_reducible refine HC.out.mono ?_); rintro e1 w1 ⟨rfl, hr1, ht1⟩; have hb1 := (ht1.block (w.heap.size + 1) (Array.getElem?_eq_some_iff.1 HBLK.out).1 (fun z => z (.inr rfl))).trans HBLK.out; obtain ⟨⟨k0, k1, k2, k3, k4, k5, k6⟩, f0, f1, f2, f3, f4, f5, f6⟩ := t_cells hb1; have HR1 := Lib.hid hr1; have HT1 := Lib.hid ht1; clear hr1 ht1 hb1)
 try simp only [Exit.inBlock, Exit.then]
 obtain ⟨hb, hd⟩ := put_err (o := ⟨0, f, a, b, t, is⟩) (e := e) (n := 0) (.slice none 0 0) HPOS.out HLT.out HR1.out HT1.out
 unfold put7 at hb hd
 exact ret45 rfl rfl hb ⟨_, _, _, ⟨_, _, _, rfl⟩, rfl, hd⟩
set_option maxHeartbeats 4000000 in
set_option maxRecDepth 100000 in
theorem does_1 {K : Nat → Prop} {r : Nat} {w : World} {S : St} {N : Int} (h : Rti K r w S) (ok : S.Ok N) (f a b t : Int) (is : Bool) : Calls Tryz.prog 45 #[.pointer (some ⟨r, 0, none⟩), .agg #[.int .i64 1, .int .i64 f, .int .i64 a, .int .i64 b, .int .i64 t, .bool is]] w (DEnd K r w (S.does ⟨1, f, a, b, t, is⟩)) := by
 have hr2 := w2_rti h ⟨1, f, a, b, t, is⟩
 have hlt := h.lt
 have hpos := h.pos
 have hblk := w2_blk w ⟨1, f, a, b, t, is⟩
 have hw2 : w2D w ⟨1, f, a, b, t, is⟩ = (w.alloc (.cells #[.int .i64 1, .int .i64 f, .int .i64 a, .int .i64 b, .int .i64 t, .bool is] 69)).alloc (.cells #[.int .i64 0, .int .i64 0, .slice none 0 0, .slice none 0 0, .bool false, .int .i64 0, .slice none 0 0] 71) := rfl
 have hc := hr2.resign ok f
 have HC := Lib.hid hc
 have HW2 := Lib.hid hw2
 have HLT := Lib.hid hlt
 have HPOS := Lib.hid hpos
 have HBLK := Lib.hid hblk
 have hdo : S.does ⟨1, f, a, b, t, is⟩ = ⟨(S.resign f).1, 0, gv0, (S.resign f).2⟩ := rfl
 rw [hdo]
 have hu69 := Tryz.underlying69
 have hu71 := Tryz.underlying71
 have hu31 := Tryz.underlying31
 clear hr2 hc h ok hw2 hlt hpos hblk hdo
 generalize S.resign f = q at HC ⊢
 obtain ⟨e, S'⟩ := q
 go_enter Tryz.func45, Tryz.ntmps45
 go_wp2_with (go_at_call 50; rw [← HW2.out]; (with_reducible refine HC.out.mono ?_); rintro e1 w1 ⟨rfl, hr1, ht1⟩; have hb1 := (ht1.block (w.heap.size + 1) (Array.getElem?_eq_some_iff.1 HBLK.out).1 (fun z => z (.inr rfl))).trans HBLK.out; obtain ⟨⟨k0, k1, k2, k3, k4, k5, k6⟩, f0, f1, f2, f3, f4, f5, f6⟩ := t_cells hb1; have HR1 := Lib.hid hr1; have HT1 := Lib.hid ht1; clear hr1 ht1 hb1)
 try simp only [Exit.inBlock, Exit.then]
 obtain ⟨hb, hd⟩ := put_err (o := ⟨1, f, a, b, t, is⟩) (e := e) (n := 0) (.slice none 0 0) HPOS.out HLT.out HR1.out HT1.out
 unfold put7 at hb hd
 exact ret45 rfl rfl hb ⟨_, _, _, ⟨_, _, _, rfl⟩, rfl, hd⟩
set_option maxHeartbeats 4000000 in
set_option maxRecDepth 100000 in
theorem does_2 {K : Nat → Prop} {r : Nat} {w : World} {S : St} {N : Int} (h : Rti K r w S) (ok : S.Ok N) (f a b t : Int) (is : Bool) : Calls Tryz.prog 45 #[.pointer (some ⟨r, 0, none⟩), .agg #[.int .i64 2, .int .i64 f, .int .i64 a, .int .i64 b, .int .i64 t, .bool is]] w (DEnd K r w (S.does ⟨2, f, a, b, t, is⟩)) := by
 have hr2 := w2_rti h ⟨2, f, a, b, t, is⟩
 have hlt := h.lt
 have hpos := h.pos
 have hblk := w2_blk w ⟨2, f, a, b, t, is⟩
 have hw2 : w2D w ⟨2, f, a, b, t, is⟩ = (w.alloc (.cells #[.int .i64 2, .int .i64 f, .int .i64 a, .int .i64 b, .int .i64 t, .bool is] 69)).alloc (.cells #[.int .i64 0, .int .i64 0, .slice none 0 0, .slice none 0 0, .bool false, .int .i64 0, .slice none 0 0] 71) := rfl
 have hc := hr2.publish ok f a is
 have HC := Lib.hid hc
 have HW2 := Lib.hid hw2
 have HLT := Lib.hid hlt
 have HPOS := Lib.hid hpos
 have HBLK := Lib.hid hblk
 have hdo : S.does ⟨2, f, a, b, t, is⟩ = ⟨(S.publish f a is).1, 0, gv0, (S.publish f a is).2⟩ := rfl
 rw [hdo]
 have hu69 := Tryz.underlying69
 have hu71 := Tryz.underlying71
 have hu31 := Tryz.underlying31
 clear hr2 hc h ok hw2 hlt hpos hblk hdo
 generalize S.publish f a is = q at HC ⊢
 obtain ⟨e, S'⟩ := q
 go_enter Tryz.func45, Tryz.ntmps45
 go_wp2_with (go_at_call 35; rw [← HW2.out]; (with_reducible refine HC.out.mono ?_); rintro e1 w1 ⟨rfl, hr1, ht1⟩; have hb1 := (ht1.block (w.heap.size + 1) (Array.getElem?_eq_some_iff.1 HBLK.out).1 (fun z => z (.inr rfl))).trans HBLK.out; obtain ⟨⟨k0, k1, k2, k3, k4, k5, k6⟩, f0, f1, f2, f3, f4, f5, f6⟩ := t_cells hb1; have HR1 := Lib.hid hr1; have HT1 := Lib.hid ht1; clear hr1 ht1 hb1)
 try simp only [Exit.inBlock, Exit.then]
 obtain ⟨hb, hd⟩ := put_err (o := ⟨2, f, a, b, t, is⟩) (e := e) (n := 0) (.slice none 0 0) HPOS.out HLT.out HR1.out HT1.out
 unfold put7 at hb hd
 exact ret45 rfl rfl hb ⟨_, _, _, ⟨_, _, _, rfl⟩, rfl, hd⟩
set_option maxHeartbeats 4000000 in
set_option maxRecDepth 100000 in
theorem does_3 {K : Nat → Prop} {r : Nat} {w : World} {S : St} {N : Int} (h : Rti K r w S) (ok : S.Ok N) (f a b t : Int) (is : Bool) : Calls Tryz.prog 45 #[.pointer (some ⟨r, 0, none⟩), .agg #[.int .i64 3, .int .i64 f, .int .i64 a, .int .i64 b, .int .i64 t, .bool is]] w (DEnd K r w (S.does ⟨3, f, a, b, t, is⟩)) := by
 have hr2 := w2_rti h ⟨3, f, a, b, t, is⟩
 have hlt := h.lt
 have hpos := h.pos
 have hblk := w2_blk w ⟨3, f, a, b, t, is⟩
 have hw2 : w2D w ⟨3, f, a, b, t, is⟩ = (w.alloc (.cells #[.int .i64 3, .int .i64 f, .int .i64 a, .int .i64 b, .int .i64 t, .bool is] 69)).alloc (.cells #[.int .i64 0, .int .i64 0, .slice none 0 0, .slice none 0 0, .bool false, .int .i64 0, .slice none 0 0] 71) := rfl
 have hc := hr2.subscribe ok f a is
 have HC := Lib.hid hc
 have HW2 := Lib.hid hw2
 have HLT := Lib.hid hlt
 have HPOS := Lib.hid hpos
 have HBLK := Lib.hid hblk
 have hdo : S.does ⟨3, f, a, b, t, is⟩ = ⟨(S.subscribe f a is).1, 0, gv0, (S.subscribe f a is).2⟩ := rfl
 rw [hdo]
 have hu69 := Tryz.underlying69
 have hu71 := Tryz.underlying71
 have hu31 := Tryz.underlying31
 clear hr2 hc h ok hw2 hlt hpos hblk hdo
 generalize S.subscribe f a is = q at HC ⊢
 obtain ⟨e, S'⟩ := q
 go_enter Tryz.func45, Tryz.ntmps45
 go_wp2_with (go_at_call 36; rw [← HW2.out]; (with_reducible refine HC.out.mono ?_); rintro e1 w1 ⟨rfl, hr1, ht1⟩; have hb1 := (ht1.block (w.heap.size + 1) (Array.getElem?_eq_some_iff.1 HBLK.out).1 (fun z => z (.inr rfl))).trans HBLK.out; obtain ⟨⟨k0, k1, k2, k3, k4, k5, k6⟩, f0, f1, f2, f3, f4, f5, f6⟩ := t_cells hb1; have HR1 := Lib.hid hr1; have HT1 := Lib.hid ht1; clear hr1 ht1 hb1)
 try simp only [Exit.inBlock, Exit.then]
 obtain ⟨hb, hd⟩ := put_err (o := ⟨3, f, a, b, t, is⟩) (e := e) (n := 0) (.slice none 0 0) HPOS.out HLT.out HR1.out HT1.out
 unfold put7 at hb hd
 exact ret45 rfl rfl hb ⟨_, _, _, ⟨_, _, _, rfl⟩, rfl, hd⟩
set_option maxHeartbeats 4000000 in
set_option maxRecDepth 100000 in
theorem does_4 {K : Nat → Prop} {r : Nat} {w : World} {S : St} {N : Int} (h : Rti K r w S) (ok : S.Ok N) (f a b t : Int) (is : Bool) : Calls Tryz.prog 45 #[.pointer (some ⟨r, 0, none⟩), .agg #[.int .i64 4, .int .i64 f, .int .i64 a, .int .i64 b, .int .i64 t, .bool is]] w (DEnd K r w (S.does ⟨4, f, a, b, t, is⟩)) := by
 have hr2 := w2_rti h ⟨4, f, a, b, t, is⟩
 have hlt := h.lt
 have hpos := h.pos
 have hblk := w2_blk w ⟨4, f, a, b, t, is⟩
 have hw2 : w2D w ⟨4, f, a, b, t, is⟩ = (w.alloc (.cells #[.int .i64 4, .int .i64 f, .int .i64 a, .int .i64 b, .int .i64 t, .bool is] 69)).alloc (.cells #[.int .i64 0, .int .i64 0, .slice none 0 0, .slice none 0 0, .bool false, .int .i64 0, .slice none 0 0] 71) := rfl
 have hc := hr2.regulate ok f a
 have HC := Lib.hid hc
 have HW2 := Lib.hid hw2
 have HLT := Lib.hid hlt
 have HPOS := Lib.hid hpos
 have HBLK := Lib.hid hblk
 have hdo : S.does ⟨4, f, a, b, t, is⟩ = ⟨(S.regulate f a).1, 0, gv0, (S.regulate f a).2⟩ := rfl
 rw [hdo]
 have hu69 := Tryz.underlying69
 have hu71 := Tryz.underlying71
 have hu31 := Tryz.underlying31
 clear hr2 hc h ok hw2 hlt hpos hblk hdo
 generalize S.regulate f a = q at HC ⊢
 obtain ⟨e, S'⟩ := q
 go_enter Tryz.func45, Tryz.ntmps45
 go_wp2_with (go_at_call 37; rw [← HW2.out]; (with_reducible refine HC.out.mono ?_); rintro e1 w1 ⟨rfl, hr1, ht1⟩; have hb1 := (ht1.block (w.heap.size + 1) (Array.getElem?_eq_some_iff.1 HBLK.out).1 (fun z => z (.inr rfl))).trans HBLK.out; obtain ⟨⟨k0, k1, k2, k3, k4, k5, k6⟩, f0, f1, f2, f3, f4, f5, f6⟩ := t_cells hb1; have HR1 := Lib.hid hr1; have HT1 := Lib.hid ht1; clear hr1 ht1 hb1)
 try simp only [Exit.inBlock, Exit.then]
 obtain ⟨hb, hd⟩ := put_err (o := ⟨4, f, a, b, t, is⟩) (e := e) (n := 0) (.slice none 0 0) HPOS.out HLT.out HR1.out HT1.out
 unfold put7 at hb hd
 exact ret45 rfl rfl hb ⟨_, _, _, ⟨_, _, _, rfl⟩, rfl, hd⟩
set_option maxHeartbeats 4000000 in
set_option maxRecDepth 100000 in
theorem does_5 {K : Nat → Prop} {r : Nat} {w : World} {S : St} {N : Int} (h : Rti K r w S) (ok : S.Ok N) (f a b t : Int) (is : Bool) : Calls Tryz.prog 45 #[.pointer (some ⟨r, 0, none⟩), .agg #[.int .i64 5, .int .i64 f, .int .i64 a, .int .i64 b, .int .i64 t, .bool is]] w (DEnd K r w (S.does ⟨5, f, a, b, t, is⟩)) := by
 have hr2 := w2_rti h ⟨5, f, a, b, t, is⟩
 have hlt := h.lt
 have hpos := h.pos
 have hblk := w2_blk w ⟨5, f, a, b, t, is⟩
 have hw2 : w2D w ⟨5, f, a, b, t, is⟩ = (w.alloc (.cells #[.int .i64 5, .int .i64 f, .int .i64 a, .int .i64 b, .int .i64 t, .bool is] 69)).alloc (.cells #[.int .i64 0, .int .i64 0, .slice none 0 0, .slice none 0 0, .bool false, .int .i64 0, .slice none 0 0] 71) := rfl
 have hc := hr2.unregulate ok f
 have HC := Lib.hid hc
 have HW2 := Lib.hid hw2
 have HLT := Lib.hid hlt
 have HPOS := Lib.hid hpos
 have HBLK := Lib.hid hblk
 have hdo : S.does ⟨5, f, a, b, t, is⟩ = ⟨(S.unregulate f).1, 0, gv0, (S.unregulate f).2⟩ := rfl
 rw [hdo]
 have hu69 := Tryz.underlying69
 have hu71 := Tryz.underlying71
 have hu31 := Tryz.underlying31
 clear hr2 hc h ok hw2 hlt hpos hblk hdo
 generalize S.unregulate f = q at HC ⊢
 obtain ⟨e, S'⟩ := q
 go_enter Tryz.func45, Tryz.ntmps45
 go_wp2_with (go_at_call 104; rw [← HW2.out]; (with_reducible refine HC.out.mono ?_); rintro e1 w1 ⟨rfl, hr1, ht1⟩; have hb1 := (ht1.block (w.heap.size + 1) (Array.getElem?_eq_some_iff.1 HBLK.out).1 (fun z => z (.inr rfl))).trans HBLK.out; obtain ⟨⟨k0, k1, k2, k3, k4, k5, k6⟩, f0, f1, f2, f3, f4, f5, f6⟩ := t_cells hb1; have HR1 := Lib.hid hr1; have HT1 := Lib.hid ht1; clear hr1 ht1 hb1)
 try simp only [Exit.inBlock, Exit.then]
 obtain ⟨hb, hd⟩ := put_err (o := ⟨5, f, a, b, t, is⟩) (e := e) (n := 0) (.slice none 0 0) HPOS.out HLT.out HR1.out HT1.out
 unfold put7 at hb hd
 exact ret45 rfl rfl hb ⟨_, _, _, ⟨_, _, _, rfl⟩, rfl, hd⟩
set_option maxHeartbeats 4000000 in
set_option maxRecDepth 100000 in
theorem does_6 {K : Nat → Prop} {r : Nat} {w : World} {S : St} {N : Int} (h : Rti K r w S) (ok : S.Ok N) (f a b t : Int) (is : Bool) : Calls Tryz.prog 45 #[.pointer (some ⟨r, 0, none⟩), .agg #[.int .i64 6, .int .i64 f, .int .i64 a, .int .i64 b, .int .i64 t, .bool is]] w (DEnd K r w (S.does ⟨6, f, a, b, t, is⟩)) := by
 have hr2 := w2_rti h ⟨6, f, a, b, t, is⟩
 have hlt := h.lt
 have hpos := h.pos
 have hblk := w2_blk w ⟨6, f, a, b, t, is⟩
 have hw2 : w2D w ⟨6, f, a, b, t, is⟩ = (w.alloc (.cells #[.int .i64 6, .int .i64 f, .int .i64 a, .int .i64 b, .int .i64 t, .bool is] 69)).alloc (.cells #[.int .i64 0, .int .i64 0, .slice none 0 0, .slice none 0 0, .bool false, .int .i64 0, .slice none 0 0] 71) := rfl
 have hc := hr2.constrain ok f
 have HC := Lib.hid hc
 have HW2 := Lib.hid hw2
 have HLT := Lib.hid hlt
 have HPOS := Lib.hid hpos
 have HBLK := Lib.hid hblk
 have hdo : S.does ⟨6, f, a, b, t, is⟩ = ⟨(S.constrain f).1, 0, gv0, (S.constrain f).2⟩ := rfl
 rw [hdo]
 have hu69 := Tryz.underlying69
 have hu71 := Tryz.underlying71
 have hu31 := Tryz.underlying31
 clear hr2 hc h ok hw2 hlt hpos hblk hdo
 generalize S.constrain f = q at HC ⊢
 obtain ⟨e, S'⟩ := q
 go_enter Tryz.func45, Tryz.ntmps45
 go_wp2_with (go_at_call 38; rw [← HW2.out]; (with_reducible refine HC.out.mono ?_); rintro e1 w1 ⟨rfl, hr1, ht1⟩; have hb1 := (ht1.block (w.heap.size + 1) (Array.getElem?_eq_some_iff.1 HBLK.out).1 (fun z => z (.inr rfl))).trans HBLK.out; obtain ⟨⟨k0, k1, k2, k3, k4, k5, k6⟩, f0, f1, f2, f3, f4, f5, f6⟩ := t_cells hb1; have HR1 := Lib.hid hr1; have HT1 := Lib.hid ht1; clear hr1 ht1 hb1)
 try simp only [Exit.inBlock, Exit.then]
 obtain ⟨hb, hd⟩ := put_err (o := ⟨6, f, a, b, t, is⟩) (e := e) (n := 0) (.slice none 0 0) HPOS.out HLT.out HR1.out HT1.out
 unfold put7 at hb hd
 exact ret45 rfl rfl hb ⟨_, _, _, ⟨_, _, _, rfl⟩, rfl, hd⟩
set_option maxHeartbeats 4000000 in
set_option maxRecDepth 100000 in
theorem does_7 {K : Nat → Prop} {r : Nat} {w : World} {S : St} {N : Int} (h : Rti K r w S) (ok : S.Ok N) (f a b t : Int) (is : Bool) : Calls Tryz.prog 45 #[.pointer (some ⟨r, 0, none⟩), .agg #[.int .i64 7, .int .i64 f, .int .i64 a, .int .i64 b, .int .i64 t, .bool is]] w (DEnd K r w (S.does ⟨7, f, a, b, t, is⟩)) := by
 have hr2 := w2_rti h ⟨7, f, a, b, t, is⟩
 have hlt := h.lt
 have hpos := h.pos
 have hblk := w2_blk w ⟨7, f, a, b, t, is⟩
 have hw2 : w2D w ⟨7, f, a, b, t, is⟩ = (w.alloc (.cells #[.int .i64 7, .int .i64 f, .int .i64 a, .int .i64 b, .int .i64 t, .bool is] 69)).alloc (.cells #[.int .i64 0, .int .i64 0, .slice none 0 0, .slice none 0 0, .bool false, .int .i64 0, .slice none 0 0] 71) := rfl
 have hc := hr2.unconstrain ok f
 have HC := Lib.hid hc
 have HW2 := Lib.hid hw2
 have HLT := Lib.hid hlt
 have HPOS := Lib.hid hpos
 have HBLK := Lib.hid hblk
 have hdo : S.does ⟨7, f, a, b, t, is⟩ = ⟨(S.unconstrain f).1, 0, gv0, (S.unconstrain f).2⟩ := rfl
 rw [hdo]
 have hu69 := Tryz.underlying69
 have hu71 := Tryz.underlying71
 have hu31 := Tryz.underlying31
 clear hr2 hc h ok hw2 hlt hpos hblk hdo
 generalize S.unconstrain f = q at HC ⊢
 obtain ⟨e, S'⟩ := q
 go_enter Tryz.func45, Tryz.ntmps45
 go_wp2_with (go_at_call 105; rw [← HW2.out]; (with_reducible refine HC.out.mono ?_); rintro e1 w1 ⟨rfl, hr1, ht1⟩; have hb1 := (ht1.block (w.heap.size + 1) (Array.getElem?_eq_some_iff.1 HBLK.out).1 (fun z => z (.inr rfl))).trans HBLK.out; obtain ⟨⟨k0, k1, k2, k3, k4, k5, k6⟩, f0, f1, f2, f3, f4, f5, f6⟩ := t_cells hb1; have HR1 := Lib.hid hr1; have HT1 := Lib.hid ht1; clear hr1 ht1 hb1)
 try simp only [Exit.inBlock, Exit.then]
 obtain ⟨hb, hd⟩ := put_err (o := ⟨7, f, a, b, t, is⟩) (e := e) (n := 0) (.slice none 0 0) HPOS.out HLT.out HR1.out HT1.out
 unfold put7 at hb hd
 exact ret45 rfl rfl hb ⟨_, _, _, ⟨_, _, _, rfl⟩, rfl, hd⟩
set_option maxHeartbeats 4000000 in
set_option maxRecDepth 100000 in
theorem does_9 {K : Nat → Prop} {r : Nat} {w : World} {S : St} {N : Int} (h : Rti K r w S) (ok : S.Ok N) (f a b t : Int) (is : Bool) : Calls Tryz.prog 45 #[.pointer (some ⟨r, 0, none⟩), .agg #[.int .i64 9, .int .i64 f, .int .i64 a, .int .i64 b, .int .i64 t, .bool is]] w (DEnd K r w (S.does ⟨9, f, a, b, t, is⟩)) := by
 have hr2 := w2_rti h ⟨9, f, a, b, t, is⟩
 have hlt := h.lt
 have hpos := h.pos
 have hblk := w2_blk w ⟨9, f, a, b, t, is⟩
 have hw2 : w2D w ⟨9, f, a, b, t, is⟩ = (w.alloc (.cells #[.int .i64 9, .int .i64 f, .int .i64 a, .int .i64 b, .int .i64 t, .bool is] 69)).alloc (.cells #[.int .i64 0, .int .i64 0, .slice none 0 0, .slice none 0 0, .bool false, .int .i64 0, .slice none 0 0] 71) := rfl
 have hc := hr2.retract ok f a
 have HC := Lib.hid hc
 have HW2 := Lib.hid hw2
 have HLT := Lib.hid hlt
 have HPOS := Lib.hid hpos
 have HBLK := Lib.hid hblk
 have hdo : S.does ⟨9, f, a, b, t, is⟩ = ⟨(S.retract f a).1, 0, gv0, (S.retract f a).2⟩ := rfl
 rw [hdo]
 have hu69 := Tryz.underlying69
 have hu71 := Tryz.underlying71
 have hu31 := Tryz.underlying31
 clear hr2 hc h ok hw2 hlt hpos hblk hdo
 generalize S.retract f a = q at HC ⊢
 obtain ⟨e, S'⟩ := q
 go_enter Tryz.func45, Tryz.ntmps45
 go_wp2_with (go_at_call 28; rw [← HW2.out]; (with_reducible refine HC.out.mono ?_); rintro e1 w1 ⟨rfl, hr1, ht1⟩; have hb1 := (ht1.block (w.heap.size + 1) (Array.getElem?_eq_some_iff.1 HBLK.out).1 (fun z => z (.inr rfl))).trans HBLK.out; obtain ⟨⟨k0, k1, k2, k3, k4, k5, k6⟩, f0, f1, f2, f3, f4, f5, f6⟩ := t_cells hb1; have HR1 := Lib.hid hr1; have HT1 := Lib.hid ht1; clear hr1 ht1 hb1)
 try simp only [Exit.inBlock, Exit.then]
 obtain ⟨hb, hd⟩ := put_err (o := ⟨9, f, a, b, t, is⟩) (e := e) (n := 0) (.slice none 0 0) HPOS.out HLT.out HR1.out HT1.out
 unfold put7 at hb hd
 exact ret45 rfl rfl hb ⟨_, _, _, ⟨_, _, _, rfl⟩, rfl, hd⟩
set_option maxHeartbeats 4000000 in
set_option maxRecDepth 100000 in
theorem does_10 {K : Nat → Prop} {r : Nat} {w : World} {S : St} {N : Int} (h : Rti K r w S) (ok : S.Ok N) (f a b t : Int) (is : Bool) : Calls Tryz.prog 45 #[.pointer (some ⟨r, 0, none⟩), .agg #[.int .i64 10, .int .i64 f, .int .i64 a, .int .i64 b, .int .i64 t, .bool is]] w (DEnd K r w (S.does ⟨10, f, a, b, t, is⟩)) := by
 have hr2 := w2_rti h ⟨10, f, a, b, t, is⟩
 have hlt := h.lt
 have hpos := h.pos
 have hblk := w2_blk w ⟨10, f, a, b, t, is⟩
 have hw2 : w2D w ⟨10, f, a, b, t, is⟩ = (w.alloc (.cells #[.int .i64 10, .int .i64 f, .int .i64 a, .int .i64 b, .int .i64 t, .bool is] 69)).alloc (.cells #[.int .i64 0, .int .i64 0, .slice none 0 0, .slice none 0 0, .bool false, .int .i64 0, .slice none 0 0] 71) := rfl
 have hc := hr2.ask ok f a t
 have HC := Lib.hid hc
 have HW2 := Lib.hid hw2
 have HLT := Lib.hid hlt
 have HPOS := Lib.hid hpos
 have HBLK := Lib.hid hblk
 have hdo : S.does ⟨10, f, a, b, t, is⟩ = ⟨(S.ask f a t).1, 0, gv0, (S.ask f a t).2⟩ := rfl
 rw [hdo]
 have hu69 := Tryz.underlying69
 have hu71 := Tryz.underlying71
 have hu31 := Tryz.underlying31
 clear hr2 hc h ok hw2 hlt hpos hblk hdo
 generalize S.ask f a t = q at HC ⊢
 obtain ⟨e, S'⟩ := q
 go_enter Tryz.func45, Tryz.ntmps45
 go_wp2_with (go_at_call 25; rw [← HW2.out]; (with_reducible refine HC.out.mono ?_); rintro e1 w1 ⟨rfl, hr1, ht1⟩; have hb1 := (ht1.block (w.heap.size + 1) (Array.getElem?_eq_some_iff.1 HBLK.out).1 (fun z => z (.inr rfl))).trans HBLK.out; obtain ⟨⟨k0, k1, k2, k3, k4, k5, k6⟩, f0, f1, f2, f3, f4, f5, f6⟩ := t_cells hb1; have HR1 := Lib.hid hr1; have HT1 := Lib.hid ht1; clear hr1 ht1 hb1)
 try simp only [Exit.inBlock, Exit.then]
 obtain ⟨hb, hd⟩ := put_err (o := ⟨10, f, a, b, t, is⟩) (e := e) (n := 0) (.slice none 0 0) HPOS.out HLT.out HR1.out HT1.out
 unfold put7 at hb hd
 exact ret45 rfl rfl hb ⟨_, _, _, ⟨_, _, _, rfl⟩, rfl, hd⟩
set_option maxHeartbeats 4000000 in
set_option maxRecDepth 100000 in
theorem does_12 {K : Nat → Prop} {r : Nat} {w : World} {S : St} {N : Int} (h : Rti K r w S) (ok : S.Ok N) (f a b t : Int) (is : Bool) : Calls Tryz.prog 45 #[.pointer (some ⟨r, 0, none⟩), .agg #[.int .i64 12, .int .i64 f, .int .i64 a, .int .i64 b, .int .i64 t, .bool is]] w (DEnd K r w (S.does ⟨12, f, a, b, t, is⟩)) := by
 have hr2 := w2_rti h ⟨12, f, a, b, t, is⟩
 have hlt := h.lt
 have hpos := h.pos
 have hblk := w2_blk w ⟨12, f, a, b, t, is⟩
 have hw2 : w2D w ⟨12, f, a, b, t, is⟩ = (w.alloc (.cells #[.int .i64 12, .int .i64 f, .int .i64 a, .int .i64 b, .int .i64 t, .bool is] 69)).alloc (.cells #[.int .i64 0, .int .i64 0, .slice none 0 0, .slice none 0 0, .bool false, .int .i64 0, .slice none 0 0] 71) := rfl
 have hc := hr2.begin ok
 have HC := Lib.hid hc
 have HW2 := Lib.hid hw2
 have HLT := Lib.hid hlt
 have HPOS := Lib.hid hpos
 have HBLK := Lib.hid hblk
 have hdo : S.does ⟨12, f, a, b, t, is⟩ = ⟨(S.begin).1, 0, gv0, (S.begin).2⟩ := rfl
 rw [hdo]
 have hu69 := Tryz.underlying69
 have hu71 := Tryz.underlying71
 have hu31 := Tryz.underlying31
 clear hr2 hc h ok hw2 hlt hpos hblk hdo
 generalize S.begin = q at HC ⊢
 obtain ⟨e, S'⟩ := q
 go_enter Tryz.func45, Tryz.ntmps45
 go_wp2_with (go_at_call 47; rw [← HW2.out]; (with_reducible refine HC.out.mono ?_); rintro e1 w1 ⟨rfl, hr1, ht1⟩; have hb1 := (ht1.block (w.heap.size + 1) (Array.getElem?_eq_some_iff.1 HBLK.out).1 (fun z => z (.inr rfl))).trans HBLK.out; obtain ⟨⟨k0, k1, k2, k3, k4, k5, k6⟩, f0, f1, f2, f3, f4, f5, f6⟩ := t_cells hb1; have HR1 := Lib.hid hr1; have HT1 := Lib.hid ht1; clear hr1 ht1 hb1)
 try simp only [Exit.inBlock, Exit.then]
 obtain ⟨hb, hd⟩ := put_err (o := ⟨12, f, a, b, t, is⟩) (e := e) (n := 0) (.slice none 0 0) HPOS.out HLT.out HR1.out HT1.out
 unfold put7 at hb hd
 exact ret45 rfl rfl hb ⟨_, _, _, ⟨_, _, _, rfl⟩, rfl, hd⟩
set_option maxHeartbeats 4000000 in
set_option maxRecDepth 100000 in
theorem does_8 {K : Nat → Prop} {r : Nat} {w : World} {S : St} {N : Int} (h : Rti K r w S) (ok : S.Ok N) (hN : N + 1 < 9223372036854775808) (f a b t : Int) (is : Bool) : Calls Tryz.prog 45 #[.pointer (some ⟨r, 0, none⟩), .agg #[.int .i64 8, .int .i64 f, .int .i64 a, .int .i64 b, .int .i64 t, .bool is]] w (DEnd K r w (S.does ⟨8, f, a, b, t, is⟩)) := by
 have hr2 := w2_rti h ⟨8, f, a, b, t, is⟩
 have hlt := h.lt
 have hpos := h.pos
 have hblk := w2_blk w ⟨8, f, a, b, t, is⟩
 have hw2 : w2D w ⟨8, f, a, b, t, is⟩ = (w.alloc (.cells #[.int .i64 8, .int .i64 f, .int .i64 a, .int .i64 b, .int .i64 t, .bool is] 69)).alloc (.cells #[.int .i64 0, .int .i64 0, .slice none 0 0, .slice none 0 0, .bool false, .int .i64 0, .slice none 0 0] 71) := rfl
 have hc := hr2.send ok hN f a b t is
 have HC := Lib.hid hc
 have HW2 := Lib.hid hw2
 have HLT := Lib.hid hlt
 have HPOS := Lib.hid hpos
 have HBLK := Lib.hid hblk
 have hu69 := Tryz.underlying69
 have hu71 := Tryz.underlying71
 have hu31 := Tryz.underlying31
 have hdo : S.does ⟨8, f, a, b, t, is⟩ = ⟨(S.send f a b t is).2.1, (S.send f a b t is).1, gv0, (S.send f a b t is).2.2⟩ := rfl
 rw [hdo]
 clear hr2 hc h ok hw2 hlt hpos hblk hdo hN
 generalize S.send f a b t is = q at HC ⊢
 obtain ⟨n, e, S'⟩ := q
 go_enter Tryz.func45, Tryz.ntmps45
 go_wp2_with (go_at_call 24; rw [← HW2.out]; (with_reducible refine HC.out.mono ?_); rintro e1 w1 ⟨rfl, hr1, ht1⟩; have hb1 := (ht1.block (w.heap.size + 1) (Array.getElem?_eq_some_iff.1 HBLK.out).1 (fun z => z (.inr rfl))).trans HBLK.out; obtain ⟨⟨k0, k1, k2, k3, k4, k5, k6⟩, f0, f1, f2, f3, f4, f5, f6⟩ := t_cells hb1; have HR1 := Lib.hid hr1; have HT1 := Lib.hid ht1; clear hr1 ht1 hb1)
 try simp only [Exit.inBlock, Exit.then]
 obtain ⟨hb, hd⟩ := put_err (o := ⟨8, f, a, b, t, is⟩) (e := e) (n := n) (.slice none 0 0) HPOS.out HLT.out HR1.out HT1.out
 unfold put7 at hb hd
 exact ret45 rfl rfl hb ⟨_, _, _, ⟨_, _, _, rfl⟩, rfl, hd⟩
end Go.Proofs.YtehnkebcbomidaaGreatDoor.Rt
