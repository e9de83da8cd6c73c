/- Part of a proof over the given program: Tn, Li, Lj, Lk. -/
import Derived.Test.YtehnkebcbomidaaGreatDoorCn22
import Derived.Sort.Grow
import Derived.Shelf.SlSortCmp.NoneTotal
set_option linter.unusedVariables false
set_option linter.unusedSimpArgs false
namespace Go.Proofs.YtehnkebcbomidaaGreatDoor.Rt
open Go Go.RowKit Go.Proofs Go.Proofs.YtehnkebcbomidaaGreatDoorW.PrintWords Go.Proofs.YtehnkebcbomidaaGreatDoorW.PrintLast
structure Turn (H : Sh) (w : World) (S' : St) (H' : Sh) (w' : World) : Prop where
 at_ : RAt H' w' S'
 r : H'.r = H.r
 own : ∀ k, k < w.heap.size → H.own k = 0 → H'.own k = 0
 tch : Tch (fun k => H.own k ≠ 0) w w'
theorem Turn.refl {H : Sh} {w : World} {S : St} (h : RAt H w S) : Turn H w S H w := ⟨h, rfl, fun _ _ h => h, Tch.refl _ _⟩
theorem Turn.trans {H H1 H2 : Sh} {w w1 w2 : World} {S1 S2 : St} (h : Turn H w S1 H1 w1) (g : Turn H1 w1 S2 H2 w2) : Turn H w S2 H2 w2 :=
 ⟨g.at_, g.r.trans h.r, fun k hk h0 => g.own k (Nat.lt_of_lt_of_le hk h.tch.size) (h.own k hk h0), h.tch.trans g.tch (fun k hk e h0 => e (h.own k hk h0))⟩
theorem Turn.below {H H1 : Sh} {w w1 w2 : World} {S1 : St} (h : Turn H w S1 H1 w1) (g : Below w1.heap.size w1 w2) : Turn H w S1 H1 w2 :=
 ⟨h.at_.below g, h.r, h.own, h.tch.trans (Q := fun _ => False) (Tch.of_below g) (fun _ _ e => e.elim)⟩
theorem Turn.after {H H1 : Sh} {w w1 w2 : World} {S1 : St} (g : Below w.heap.size w w1) (h : Turn H w1 S1 H1 w2) : Turn H w S1 H1 w2 :=
 ⟨h.at_, h.r, fun k hk h0 => h.own k (Nat.lt_of_lt_of_le hk g.size) h0, (Tch.of_below g).trans h.tch (fun _ _ e => e)⟩
theorem Turn.mpost {H H1 : Sh} {w w2 : World} {S1 : St} (h : Turn H w S1 H1 w2) (r : Value) : MPost H w r S1 (.returned r) w2 := ⟨H1, rfl, h.at_, h.r, h.own, h.tch⟩
theorem MPost.turn_ {H : Sh} {w w' : World} {r : Value} {S' : St} {e : Ending} (h : MPost H w r S' e w') : e = .returned r ∧ ∃ H', Turn H w S' H' w' := by
 obtain ⟨H', h1, h2, h3, h4, h5⟩ := h
 exact ⟨h1, H', h2, h3, h4, h5⟩
theorem Turn.keeps {H H1 : Sh} {w w2 : World} {S1 : St} (h : Turn H w S1 H1 w2) {k : Nat} (hk : k < w.heap.size) (h0 : H.own k = 0) : w2.heap[k]? = w.heap[k]? := h.tch.block k hk (fun e => e h0)
theorem RAt.fresh {H : Sh} {w : World} {S : St} (h : RAt H w S) {k : Nat} (hk : w.heap.size ≤ k) : H.own k = 0 := by
 by_cases e : H.own k = 0
 ·exact e
 ·have := h.lt k e; omega
theorem QIn.lt {W : World} {q b : Nat} {v : Value} {Q : List Mg} (h : QIn W q b v Q) {k : Nat} (hk : QFp q b v k) : k < W.heap.size := by
 obtain ⟨L, h, _⟩ := h
 rcases hk with e | e | e
 ·subst e; exact (Array.getElem?_eq_some_iff.1 h.blk).1
 ·subst e
  obtain ⟨D, ⟨es, clock, h1, h2⟩, h3⟩ := h.map
  exact (Array.getElem?_eq_some_iff.1 h1).1
 ·exact own_lt h.row k e
theorem Sh.put_q (H : Sh) (n b : Nat) (v p : Value) (k : Nat) : (H.put n (H.q n) b v p).q k = H.q k := by
 unfold Sh.put
 simp only
 split
 ·rename_i e; rw [e]
 ·rfl
theorem subsOf_same (S : St) (h8 : S.l.length = 8) (n : Nat) (hn : n < 8) (m : Mem) (hm : m.subs = (S.get n).subs) : subsOf (S.put n m) = subsOf S := by
 unfold subsOf
 refine List.map_congr_left fun k hk => ?_
 rw [St.get_put S h8 n k hn]
 split
 ·rename_i e; subst e; exact hm
 ·rfl
theorem rcA_at {H : Sh} {S : St} {n : Nat} (hn : n < 8) {A : List Value} (hA : A.length = 10) (j : Nat) (hj : j < 10) {u : Value} (h : A[j]? = some u) : (rcA H S n A)[2 + n * 10 + j]? = some u := by
 have hl : ∀ k, (if k = n then A else mcells H k (S.get k)).length = 10 := fun k => by
  split
  ·exact hA
  ·rfl
 unfold rcA
 rw [show 2 + n * 10 + j = (n * 10 + j) + 1 + 1 by omega, List.getElem?_cons_succ, List.getElem?_cons_succ, List.getElem?_append_left (by rw [flat8_length _ hl]; omega), flatR_get _ 8 10 hl n j hn hj, if_pos rfl]
 exact h
theorem Turn.of {H : Sh} {w w' : World} {S : St} (hR : RAt H w S) (h8 : S.l.length = 8) {n : Nat} (hn : n < 8) (m : Mem) (q b : Nat) (v p : Value) (hsub : m.subs = (S.get n).subs)
  (ht : Tch (fun k => H.own k = 1 ∨ H.own k = 8 + n ∨ H.own k = 16 + n) w w') (hblk : w'.heap[H.r]? = some (.cells (rcA H S n (mcells (H.put n q b v p) n m)).toArray 115 (0, 0)))
  (hq : QIn w' q b v m.Q) (hqf : ∀ k, QFp q b v k → H.own k = 8 + n ∨ w.heap.size ≤ k) (hp : w'.ownsRow 0 41 6 p m.P.length (flatM m.P)) (hpf : ∀ k, p.ownBlock = some k → H.own k = 16 + n ∨ w.heap.size ≤ k) (hd : ∀ k, QFp q b v k → p.ownBlock ≠ some k) :
  Turn H w (S.put n m) (H.put n q b v p) w' := by
 have hfoot : Tch (Foot H n) w w' := ht.mono (fun k hk e => by unfold Foot; omega)
 refine ⟨hR.member h8 hn m q b v p rfl rfl rfl hfoot ?_ ?_ hR.tab.p8 hq (fun k hk => ⟨hq.lt hk, hqf k hk⟩) hp hpf hd, rfl, fun k hk h0 => Sh.put_own hR hqf hpf k hk h0, hfoot.mono (fun k hk e => e.own)⟩
 ·rw [hblk, rcA_put H S h8 n hn q b v p m]
 ·rw [subsOf_same S h8 n hn m hsub]
  exact (ht.block H.tb (Array.getElem?_eq_some_iff.1 hR.tab.blk).1 (by rw [hR.o2]; omega)).trans hR.tab.blk
theorem pl_ne_q {H : Sh} {w : World} {S : St} (hR : RAt H w S) {n : Nat} (hn : n < 8) {q b : Nat} {v : Value} (hqf : ∀ k, QFp q b v k → H.own k = 8 + n ∨ w.heap.size ≤ k) (k : Nat) (hk : QFp q b v k) : (H.pl n).ownBlock ≠ some k := by
 intro e
 have h1 := hR.op n hn k e
 have h2 := hR.lt k (by omega)
 rcases hqf k hk with z | z <;> omega
theorem Turn.queue {H : Sh} {w w' : World} {S : St} (hR : RAt H w S) (h8 : S.l.length = 8) {n : Nat} (hn : n < 8) {Q' : List Mg} {r : Value} {e : Ending} (h : QInPost w (H.q n) (H.b n) (H.v n) Q' r e w') :
  e = .returned r ∧ ∃ v', Turn H w (S.put n { S.get n with Q := Q' }) (H.put n (H.q n) (H.b n) v' (H.pl n)) w' := by
 obtain ⟨v', rfl, hq, hv, ht⟩ := h
 have hqf : ∀ k, QFp (H.q n) (H.b n) v' k → H.own k = 8 + n ∨ w.heap.size ≤ k := by
  intro k hk
  rcases hk with z | z | z
  ·exact .inl (hR.oq n hn k (.inl z))
  ·exact .inl (hR.oq n hn k (.inr (.inl z)))
  ·rcases hv k z with y | y
   ·exact .inl (hR.oq n hn k (.inr (.inr y)))
   ·exact .inr y
 refine ⟨rfl, v', Turn.of hR h8 hn _ _ _ _ _ rfl (ht.mono (fun k _ z => .inr (.inl (hR.oq n hn k z)))) ?_ hq hqf ?_ (fun k hk => .inl (hR.op n hn k hk)) (pl_ne_q hR hn hqf)⟩
 ·rw [ht.block H.r (Array.getElem?_eq_some_iff.1 hR.blk).1 (fun z => by have := hR.oq n hn _ z; rw [hR.o1] at this; omega), hR.blk]
  rw [mcells_put, ← rcA_self H S n]
  rfl
 ·exact own_move (hR.pla n hn) (fun k hk => ht.block k (own_lt (hR.pla n hn) k hk) (fun z => by have := hR.oq n hn _ z; rw [hR.op n hn k hk] at this; omega))
theorem Turn.row {H : Sh} {w w1 w' : World} {S : St} (hR : RAt H w S) (h8 : S.l.length = 8) {n : Nat} (hn : n < 8) {P' : List Mg} {p : Value} (ht : Tch (fun k => H.own k = 16 + n) w w1) (hp : w1.ownsRow 0 41 6 p P'.length (flatM P')) (hpf : ∀ k, p.ownBlock = some k → H.own k = 16 + n ∨ w.heap.size ≤ k)
  (hw : w' = w1.setCell ⟨H.r, 2 + n * 10 + 8, none⟩ p) : Turn H w (S.put n { S.get n with P := P' }) (H.put n (H.q n) (H.b n) (H.v n) p) w' := by
 have hrl := (Array.getElem?_eq_some_iff.1 hR.blk).1
 have hb1 : w1.heap[H.r]? = some (.cells (rcA H S n (mcells H n (S.get n))).toArray 115 (0, 0)) := by
  rw [rcA_self, ht.block H.r hrl (by rw [hR.o1]; omega)]
  exact hR.blk
 have hb2 := rcA_cell hb1 hn (mcells_length H n _) 8 (by decide) p
 have hs : Tch (fun k => k = H.r) w1 w' := by rw [hw]; exact Tch.setCell (P := fun k => k = H.r) (Tch.refl _ _) (p := ⟨H.r, 2 + n * 10 + 8, none⟩) (.inl rfl) _
 have ht2 : Tch (fun k => H.own k = 1 ∨ H.own k = 8 + n ∨ H.own k = 16 + n) w w' := (ht.mono (fun k _ e => .inr (.inr e))).trans hs (fun k _ e => by rw [e]; exact .inl hR.o1)
 have hqf : ∀ k, QFp (H.q n) (H.b n) (H.v n) k → H.own k = 8 + n ∨ w.heap.size ≤ k := fun k hk => .inl (hR.oq n hn k hk)
 refine Turn.of hR h8 hn { S.get n with P := P' } _ _ _ _ rfl ht2 ?_ ?_ hqf ?_ hpf ?_
 ·rw [hw, hb2, mcells_put]
  rfl
 ·exact (hR.que n hn).frame (fun k hk z => by
   have h1 := hR.oq n hn k z
   rw [hs.block k (Nat.lt_of_lt_of_le hk ht.size) (fun e => by rw [e, hR.o1] at h1; omega), ht.block k hk (by omega)])
 ·exact own_move hp (fun k hk => hs.block k (own_lt hp k hk) (fun e => by
   rcases hpf k hk with z | z
   ·rw [e, hR.o1] at z; omega
   ·omega))
 ·intro k hk e
  have h1 := hR.oq n hn k hk
  have h2 := hR.lt k (by omega)
  rcases hpf k e with z | z <;> omega
theorem flatM_one (L : List Mg) : ∀ u ∈ flatM L, u.oneCell' = true := by
 intro u hu
 obtain ⟨m, _, hm⟩ := List.mem_flatMap.1 hu
 exact mcells_one m u hm
set_option maxHeartbeats 2000000 in
set_option maxRecDepth 100000 in
theorem clone_call (w : World) (v : Value) (L : List Mg) (hl : L.length ≤ 64) (hv : w.ownsRow 0 41 6 v L.length (flatM L)) :
  Calls Tryz.prog 142 #[v] w fun e w' => ∃ A c, e = .returned (.slice A L.length c) ∧ w'.ownsRow w.heap.size 41 6 (.slice A L.length c) L.length (flatM L) ∧ Below w.heap.size w w' := by
 have hu29 := Tryz.underlying29
 have q29 : ∀ (W : World) (a : Option Addr) (n c : Nat), (binOp .eql 29 (.slice a n c) (.slice none 0 0)).run Tryz.prog W = .ok (.bool a.isNone) W := fun W a n c => Go.run_eql_slice_nil W _ _ a n c Tryz.underlying29
 obtain ⟨i0, hi, hz0, hz1, hz2⟩ := info_parts inf41
 rcases hv.2 with ⟨e, h0⟩ | ⟨g, cap, cur, e, _⟩
 ·subst e
  obtain rfl : L = [] := List.eq_nil_of_length_eq_zero h0
  clear hv
  go_enter Tryz.func142, Tryz.ntmps142
  go_wp2
  go_ret
  exact ⟨none, 0, rfl, World.ownsRow_nil _ _ _ _, Below.refl _ _⟩
 ·subst e
  have hb := (Below.refl w.heap.size w).alloc (Nat.le_refl _) (.cells #[] 41)
  have ho := World.ownsRow_lit (base := w.heap.size) (e := 41) (size := 6) w #[] 0 (Nat.le_refl _) (by unfold maxLen; omega) rfl
  have hnw : ∀ j u, (flatM L)[j]? = some u → (w.alloc (.cells #[] 41)).cell? ((⟨g, 0, none⟩ : Addr).add j) = some u := (hv.alloc _).cells (g := g) rfl
  have HB := Lib.hid hb
  have HO := Lib.hid ho
  have HN := Lib.hid hnw
  have HI := Lib.hid hi
  have HZ0 := Lib.hid hz0
  have HZ1 := Lib.hid hz1
  have HZ2 := Lib.hid hz2
  clear hb ho hnw hv hi hz0 hz1 hz2
  go_enter Tryz.func142, Tryz.ntmps142
  go_wp2_with (at_builtin; go_loud (refine wpList_append_own _ rfl (.tmp 5) (.tmp 6) 29 rfl w.heap.size 41 i0 _ 6 48 hu29 HI.out HZ0.out HZ1.out HZ2.out rfl (by decide) (.slice (some ⟨w.heap.size, 0, none⟩) 0 0) 0 [] rfl HO.out ⟨g, 0, none⟩ L.length cap (flatM L) (by rfl) (flatM_length L) HN.out (flatM_one L) (by unfold maxLen; omega) (by omega) HB.out.size ?_); go_loud (intro v1 w1 hown hg hnn))
  go_ret
  have hown2 : w1.ownsRow w.heap.size 41 6 v1 L.length (flatM L) := by simpa using hown
  have hf : ∃ A' c', v1 = .slice A' L.length c' := own_slice hown2
  obtain ⟨A', c', rfl⟩ := hf
  exact ⟨A', c', rfl, hown2, HB.out.grown hg HB.out.size (fun q hq => own_base HO.out q hq)⟩
end Go.Proofs.YtehnkebcbomidaaGreatDoor.Rt
namespace Go.Proofs.YtehnkebcbomidaaGreatDoor.Rt
open Go Go.RowKit Go.Proofs Go.Proofs.YtehnkebcbomidaaGreatDoorW.PrintWords Go.Proofs.YtehnkebcbomidaaGreatDoorW.PrintLast Go.Proofs.YtehnkebcbomidaaGreatDoor.XCmp
theorem kdC3 (W : World) (g : Nat) (x y z : Int) (h : W.heap[g]? = some (.cells #[.int .i64 x, .int .i64 y, .int .i64 z] 3 (0, 0))) : Kd.C (Kd.int .i64) W (some ⟨g, 0, none⟩) ([x, y, z] : List Int).length [x, y, z] := by
 refine ⟨rfl, by simp, fun _ => ⟨_, rfl, fun j p hj => ⟨[.int .i64 p], rfl, rfl, fun i u hi => ?_⟩⟩⟩
 have hi0 : i = 0 := by
  cases i with
  | zero => rfl
  | succ i => simp at hi
 subst hi0
 have hu : u = .int .i64 p := by simpa using hi.symm
 subst hu
 have e : (⟨g, 0, none⟩ : Addr).add (j * (Kd.int .i64).sz + 0) = ⟨g, j, none⟩ := by
  show (⟨g, 0, none⟩ : Addr).add (j * 1 + 0) = _
  rw [show j * 1 + 0 = j by omega]
  exact add_plain _ _
 rw [e, cell_of_row W g j _ 3 (0, 0) h]
 match j, hj with
 | 0, hj => simp at hj; subst hj; rfl
 | 1, hj => simp at hj; subst hj; rfl
 | 2, hj => simp at hj; subst hj; rfl
 | n + 3, hj => simp at hj
set_option maxHeartbeats 4000000 in
set_option maxRecDepth 100000 in
theorem cmp_world (a0 a1 a2 b0 b1 b2 : Int) (w : World) : Calls Tryz.prog 145 #[.agg #[.int .i64 a0, .int .i64 a1, .int .i64 a2], .agg #[.int .i64 b0, .int .i64 b1, .int .i64 b2]] w fun e w' => e = .returned (.int .i64 (if cmp3 a0 b0 ≠ 0 then cmp3 a0 b0 else if cmp3 a1 b1 ≠ 0 then cmp3 a1 b1 else cmp3 a2 b2)) ∧ ∃ q os', w' = Go.Sort.grow (w.drewN q) os' := by
 have hu39 := Tryz.underlying39
 have hu52 := Tryz.underlying52
 have h3 := fun (x y : Int) (W : World) => cmp_Compare_int.calls x y (cmp3 x y) W (cmp3_eq x y)
 have H3 := Lib.hid h3
 obtain ⟨r, hr⟩ : ∃ r, r = if cmp3 a0 b0 ≠ 0 then cmp3 a0 b0 else if cmp3 a1 b1 ≠ 0 then cmp3 a1 b1 else cmp3 a2 b2 := ⟨_, rfl⟩
 rw [← hr]
 have hor := fun (g : Nat) (W : World) (hk : Kd.C (Kd.int .i64) W (some ⟨g, 0, none⟩) ([cmp3 a0 b0, cmp3 a1 b1, cmp3 a2 b2] : List Int).length [cmp3 a0 b0, cmp3 a1 b1, cmp3 a2 b2]) => cmp_Or_int.calls 5 (some ⟨g, 0, none⟩) 3 [cmp3 a0 b0, cmp3 a1 b1, cmp3 a2 b2] r W hk (Nat.le_refl _) (by rw [hr]; exact or3 _ _ _)
 have HOR := Lib.hid hor
 clear h3 hor hr
 go_enter Tryz.func145, Tryz.ntmps145
 have hmix : Tryz.prog.follows .mixedOrders = true := by kernel_rfl
 go_wp2_with fail
 obtain ⟨W, hW⟩ : ∃ W, W = (w.alloc (.cells #[.int .i64 a0, .int .i64 a1, .int .i64 a2] 39)).alloc (.cells #[.int .i64 b0, .int .i64 b1, .int .i64 b2] 39) := ⟨_, rfl⟩
 rw [← hW]
 obtain ⟨g, hg⟩ : ∃ g, g = w.heap.size := ⟨_, rfl⟩
 rw [← hg]
 have q0 := heap_alloc_new w (.cells #[.int .i64 a0, .int .i64 a1, .int .i64 a2] 39)
 have q1 := heap_alloc_new (w.alloc (.cells #[.int .i64 a0, .int .i64 a1, .int .i64 a2] 39)) (.cells #[.int .i64 b0, .int .i64 b1, .int .i64 b2] 39)
 have q2 := Below.heap_alloc (w.alloc (.cells #[.int .i64 a0, .int .i64 a1, .int .i64 a2] 39)) (.cells #[.int .i64 b0, .int .i64 b1, .int .i64 b2] 39) w.heap.size (by simp)
 rw [← hW, q0] at q2
 rw [← hW, World.size_alloc] at q1
 rw [← hg] at q1 q2
 have x0 := cell_of_row W g 0 _ 39 (0, 0) q2
 have x1 := cell_of_row W g 1 _ 39 (0, 0) q2
 have x2 := cell_of_row W g 2 _ 39 (0, 0) q2
 have y0 := cell_of_row W (g + 1) 0 _ 39 (0, 0) q1
 have y1 := cell_of_row W (g + 1) 1 _ 39 (0, 0) q1
 have y2 := cell_of_row W (g + 1) 2 _ 39 (0, 0) q1
 have HW := Lib.hid hW
 clear hW hg q0 q1 q2
 refine st_ (n := 18) (S := fun w' => w'.cell? ⟨g, 0, none⟩ = some (.int .i64 a0) ∧ w'.cell? ⟨g, 1, none⟩ = some (.int .i64 a1) ∧ w'.cell? ⟨g, 2, none⟩ = some (.int .i64 a2) ∧ w'.cell? ⟨g + 1, 0, none⟩ = some (.int .i64 b0) ∧ w'.cell? ⟨g + 1, 1, none⟩ = some (.int .i64 b1) ∧ w'.cell? ⟨g + 1, 2, none⟩ = some (.int .i64 b2)) (ds := [15, 16]) hmix rfl ⟨x0, x1, x2, y0, y1, y2⟩ (fun hHeld => ?_)
 refine pu_ (i := 0) (N := (some 5)) (v := ?_) (a' := ?_) rfl rfl (by kernel_rfl) (fun _ _ _ h => h) (Or.inl ⟨by rfl, ?_⟩) ?_ ?_
 rotate_left
 ·intro w'
  go_simp
  try with_reducible rfl
 rotate_left
 ·simp only [Act.put, qa, qb, qc]
  rfl
 refine tk_ (i := 1) (N := (some 6)) (v := ?_) (a' := ?_) rfl rfl (by kernel_rfl) (fun _ _ _ h => h) (Or.inl ⟨by rfl, ?_⟩) hHeld ?_ ?_
 rotate_left
 ·intro w' hS_
  obtain ⟨zz0, zz1, zz2, zz3, zz4, zz5⟩ := hS_
  go_simp
  try with_reducible rfl
 rotate_left
 ·simp only [Act.put, qa, qb, qc]
  rfl
 refine pu_ (i := 2) (N := (some 7)) (v := ?_) (a' := ?_) rfl rfl (by kernel_rfl) (fun _ _ _ h => h) (Or.inl ⟨by rfl, ?_⟩) ?_ ?_
 rotate_left
 ·intro w'
  go_simp
  try with_reducible rfl
 rotate_left
 ·simp only [Act.put, qa, qb, qc]
  rfl
 refine tk_ (i := 3) (N := (some 8)) (v := ?_) (a' := ?_) rfl rfl (by kernel_rfl) (fun _ _ _ h => h) (Or.inl ⟨by rfl, ?_⟩) hHeld ?_ ?_
 rotate_left
 ·intro w' hS_
  obtain ⟨zz0, zz1, zz2, zz3, zz4, zz5⟩ := hS_
  go_simp
  try with_reducible rfl
 rotate_left
 ·simp only [Act.put, qa, qb, qc]
  rfl
 refine pu_ (i := 5) (N := (some 10)) (v := ?_) (a' := ?_) rfl rfl (by kernel_rfl) (fun _ _ _ h => h) (Or.inl ⟨by rfl, ?_⟩) ?_ ?_
 rotate_left
 ·intro w'
  go_simp
  try with_reducible rfl
 rotate_left
 ·simp only [Act.put, qa, qb, qc]
  rfl
 refine tk_ (i := 6) (N := (some 11)) (v := ?_) (a' := ?_) rfl rfl (by kernel_rfl) (fun _ _ _ h => h) (Or.inl ⟨by rfl, ?_⟩) hHeld ?_ ?_
 rotate_left
 ·intro w' hS_
  obtain ⟨zz0, zz1, zz2, zz3, zz4, zz5⟩ := hS_
  go_simp
  try with_reducible rfl
 rotate_left
 ·simp only [Act.put, qa, qb, qc]
  rfl
 refine pu_ (i := 7) (N := (some 12)) (v := ?_) (a' := ?_) rfl rfl (by kernel_rfl) (fun _ _ _ h => h) (Or.inl ⟨by rfl, ?_⟩) ?_ ?_
 rotate_left
 ·intro w'
  go_simp
  try with_reducible rfl
 rotate_left
 ·simp only [Act.put, qa, qb, qc]
  rfl
 refine tk_ (i := 8) (N := (some 13)) (v := ?_) (a' := ?_) rfl rfl (by kernel_rfl) (fun _ _ _ h => h) (Or.inl ⟨by rfl, ?_⟩) hHeld ?_ ?_
 rotate_left
 ·intro w' hS_
  obtain ⟨zz0, zz1, zz2, zz3, zz4, zz5⟩ := hS_
  go_simp
  try with_reducible rfl
 rotate_left
 ·simp only [Act.put, qa, qb, qc]
  rfl
 refine pu_ (i := 10) (N := (some 15)) (v := ?_) (a' := ?_) rfl rfl (by kernel_rfl) (fun _ _ _ h => h) (Or.inl ⟨by rfl, ?_⟩) ?_ ?_
 rotate_left
 ·intro w'
  go_simp
  try with_reducible rfl
 rotate_left
 ·simp only [Act.put, qa, qb, qc]
  rfl
 refine tk_ (i := 11) (N := (some 16)) (v := ?_) (a' := ?_) rfl rfl (by kernel_rfl) (fun _ _ _ h => h) (Or.inl ⟨by rfl, ?_⟩) hHeld ?_ ?_
 rotate_left
 ·intro w' hS_
  obtain ⟨zz0, zz1, zz2, zz3, zz4, zz5⟩ := hS_
  go_simp
  try with_reducible rfl
 rotate_left
 ·simp only [Act.put, qa, qb, qc]
  rfl
 refine pu_ (i := 12) (N := (some 17)) (v := ?_) (a' := ?_) rfl rfl (by kernel_rfl) (fun _ _ _ h => h) (Or.inl ⟨by rfl, ?_⟩) ?_ ?_
 rotate_left
 ·intro w'
  go_simp
  try with_reducible rfl
 rotate_left
 ·simp only [Act.put, qa, qb, qc]
  rfl
 refine tk_ (i := 13) (N := (some 18)) (v := ?_) (a' := ?_) rfl rfl (by kernel_rfl) (fun _ _ _ h => h) (Or.inl ⟨by rfl, ?_⟩) hHeld ?_ ?_
 rotate_left
 ·intro w' hS_
  obtain ⟨zz0, zz1, zz2, zz3, zz4, zz5⟩ := hS_
  go_simp
  try with_reducible rfl
 rotate_left
 ·simp only [Act.put, qa, qb, qc]
  rfl
 refine on_ (i := 4) (N := (some 9)) rfl rfl (by kernel_rfl) (by decide) (fun K hK => ?_)
 refine goes_ Tryz.func208 (by kernel_rfl) rfl #[.int .i64 a0, .int .i64 b0] (by rfl) rfl rfl (by simp only [List.map_toArray, List.map_cons, List.map_nil]; rfl) ?_
 refine (H3.out _ _ _).mono ?_
 rintro x w5 ⟨rfl, ⟨m5, rfl⟩⟩
 refine ⟨_, rfl, hK.out _ _ (by exact hHeld) (fun hHeld => ?_)⟩
 clear hK K
 refine norm_ (a' := ?_) ?_ ?_
 rotate_left
 ·show Act.put _ (some 9) _ = _
  simp only [Act.put, qa, qb, qc]
  rfl
 refine on_ (i := 9) (N := (some 14)) rfl rfl (by kernel_rfl) (by decide) (fun K hK => ?_)
 refine goes_ Tryz.func208 (by kernel_rfl) rfl #[.int .i64 a1, .int .i64 b1] (by rfl) rfl rfl (by simp only [List.map_toArray, List.map_cons, List.map_nil]; rfl) ?_
 refine (H3.out _ _ _).mono ?_
 rintro x w6 ⟨rfl, ⟨m6, rfl⟩⟩
 refine ⟨_, rfl, hK.out _ _ (by exact hHeld) (fun hHeld => ?_)⟩
 clear hK K
 refine norm_ (a' := ?_) ?_ ?_
 rotate_left
 ·show Act.put _ (some 14) _ = _
  simp only [Act.put, qa, qb, qc]
  rfl
 refine on_ (i := 14) (N := (some 19)) rfl rfl (by kernel_rfl) (by decide) (fun K hK => ?_)
 refine goes_ Tryz.func208 (by kernel_rfl) rfl #[.int .i64 a2, .int .i64 b2] (by rfl) rfl rfl (by simp only [List.map_toArray, List.map_cons, List.map_nil]; rfl) ?_
 refine (H3.out _ _ _).mono ?_
 rintro x w7 ⟨rfl, ⟨m7, rfl⟩⟩
 refine ⟨_, rfl, hK.out _ _ (by exact hHeld) (fun hHeld => ?_)⟩
 clear hK K
 refine norm_ (a' := ?_) ?_ ?_
 rotate_left
 ·show Act.put _ (some 19) _ = _
  simp only [Act.put, qa, qb, qc]
  rfl
 refine la_ (i := 15) (N := (some 20)) rfl rfl (by kernel_rfl) (by decide) (fun K hK => ?_)
 refine value_ (w1 := ?_) (v := ?_) (by rfl) rfl ?_ ?_
 rotate_left 2
 ·go_simp
  constructor
  ·rfl
  ·rfl
 refine hK.out _ _ ?_
 clear hK K
 refine norm_ (a' := ?_) ?_ ?_
 rotate_left
 ·show Act.put _ (some 20) _ = _
  simp only [Act.put, qa, qb, qc]
  rfl
 refine la_ (i := 16) (N := (some 21)) rfl rfl (by kernel_rfl) (by decide) (fun K hK => ?_)
 refine goes_ Tryz.func207 (by kernel_rfl) rfl #[.slice (some ⟨W.heap.size, 0, none⟩) 3 3] (by rfl) rfl rfl (by simp only [List.map_toArray, List.map_cons, List.map_nil]; rfl) ?_
 refine (HOR.out W.heap.size _ ?hk).mono ?_
 case hk => exact kdC3 _ _ _ _ _ (heap_alloc_new _ _)
 rintro x w8 ⟨rfl, ⟨m8, rfl⟩⟩
 refine ⟨_, rfl, hK.out _ _ ?_⟩
 clear hK K
 refine norm_ (a' := ?_) ?_ ?_
 rotate_left
 ·show Act.put _ (some 21) _ = _
  simp only [Act.put, qa, qb, qc]
  rfl
 refine pu_ (i := 17) (N := (some 4)) (v := ?_) (a' := ?_) rfl rfl (by kernel_rfl) (fun _ _ _ h => h) (Or.inl ⟨by rfl, ?_⟩) ?_ ?_
 rotate_left
 ·intro w'
  go_simp
  try with_reducible rfl
 rotate_left
 ·simp only [Act.put, qa, qb, qc]
  rfl
 refine done_ (by kernel_rfl) ?_
 go_wp2
 go_ret
 refine ⟨rfl, 1 + m5 + m6 + m7 + m8, #[.cells #[.int .i64 a0, .int .i64 a1, .int .i64 a2] 39] ++ (#[.cells #[.int .i64 b0, .int .i64 b1, .int .i64 b2] 39] ++ #[.cells #[.int .i64 (cmp3 a0 b0), .int .i64 (cmp3 a1 b1), .int .i64 (cmp3 a2 b2)] 3]), ?_⟩
 rw [HW.out]
 simp only [Go.Sort.alloc_eq_grow, World.drewN, World.drew, Go.Sort.grow, Array.append_assoc, Nat.add_assoc]
set_option maxHeartbeats 2000000 in
theorem order_world (a b : Mg) (w : World) : Calls Tryz.prog 144 #[.agg a.cells.toArray, .agg b.cells.toArray] w fun e w' => e = .returned (.int .i64 (cmpK a.k b.k)) ∧ ∃ q os', w' = Go.Sort.grow (w.drewN q) os' := by
 have hu41 := Tryz.underlying41
 have hu39 := Tryz.underlying39
 have hc := fun W => cmp_world a.k.t a.k.f a.k.s b.k.t b.k.f b.k.s W
 have hr : cmpK a.k b.k = if cmp3 a.k.t b.k.t ≠ 0 then cmp3 a.k.t b.k.t else if cmp3 a.k.f b.k.f ≠ 0 then cmp3 a.k.f b.k.f else cmp3 a.k.s b.k.s := rfl
 rw [hr]
 generalize (if cmp3 a.k.t b.k.t ≠ 0 then cmp3 a.k.t b.k.t else if cmp3 a.k.f b.k.f ≠ 0 then cmp3 a.k.f b.k.f else cmp3 a.k.s b.k.s) = r at hc ⊢
 have HC := Lib.hid hc
 clear hc hr
 unfold Mg.cells
 go_enter Tryz.func144, Tryz.ntmps144
 go_wp2_with fail
 refine (HC.out _).mono ?_
 rintro e w5 ⟨rfl, q, os', rfl⟩
 go_wp2
 go_ret
 refine ⟨rfl, q, #[.cells #[.int .i64 a.k.t, .int .i64 a.k.f, .int .i64 a.k.s, .int .i64 a.d, .int .i64 a.cl, .int .i64 a.bd] 41] ++ (#[.cells #[.int .i64 b.k.t, .int .i64 b.k.f, .int .i64 b.k.s, .int .i64 b.d, .int .i64 b.cl, .int .i64 b.bd] 41] ++ os'), ?_⟩
 simp only [Go.Sort.alloc_eq_grow, World.drewN, World.drew, Go.Sort.grow, Array.append_assoc, Nat.add_assoc]
end Go.Proofs.YtehnkebcbomidaaGreatDoor.Rt
namespace Go.Proofs
open Go.Shelf Go.RowKit Go.Lib Go.Sort
def Tryz.sortMsg_ren : Go.Shelf.Ren := ⟨fun | 6 => 143 | 15 => 206 | 14 => 205 | 28 => 248 | 29 => 249 | 20 => 240 | 21 => 241 | 22 => 242 | 23 => 243 | 24 => 244 | 25 => 245 | 26 => 246 | 27 => 247 | 46 => 269 | 47 => 270 | 48 => 271 | 49 => 272 | 50 => 273 | 57 => 289 | n => n, fun | 22 => 29 | 24 => 41 | 25 => 204 | 39 => 157 | 53 => 110 | 55 => 315 | 46 => 308 | 45 => 307 | 50 => 196 | 66 => 327 | 70 => 331 | 76 => 345 | 77 => 346 | n => n, fun n => n⟩
theorem Tryz.sortMsg : Go.Proofs.SlLaysF0.n6 Tryz.prog Tryz.sortMsg_ren := {
 mixed := by kernel_rfl
 f6 := ⟨Tryz.f143.name, by decide, Tryz.func143.trans (congrArg some (by kernel_rfl))⟩
 f14 := ⟨Tryz.f205.name, by decide, Tryz.func205.trans (congrArg some (by kernel_rfl))⟩
 f15 := Tryz.func206.trans (congrArg some (by kernel_rfl))
 f20 := ⟨Tryz.f240.name, by decide, Tryz.func240.trans (congrArg some (by kernel_rfl))⟩
 f21 := ⟨Tryz.f241.name, by decide, Tryz.func241.trans (congrArg some (by kernel_rfl))⟩
 f22 := ⟨Tryz.f242.name, by decide, Tryz.func242.trans (congrArg some (by kernel_rfl))⟩
 f23 := ⟨Tryz.f243.name, by decide, Tryz.func243.trans (congrArg some (by kernel_rfl))⟩
 f24 := ⟨Tryz.f244.name, by decide, Tryz.func244.trans (congrArg some (by kernel_rfl))⟩
 f25 := ⟨Tryz.f245.name, by decide, Tryz.func245.trans (congrArg some (by kernel_rfl))⟩
 f26 := ⟨Tryz.f246.name, by decide, Tryz.func246.trans (congrArg some (by kernel_rfl))⟩
 f27 := ⟨Tryz.f247.name, by decide, Tryz.func247.trans (congrArg some (by kernel_rfl))⟩
 f28 := Tryz.func248.trans (congrArg some (by kernel_rfl))
 f29 := Tryz.func249.trans (congrArg some (by kernel_rfl))
 f46 := ⟨Tryz.f269.name, by decide, Tryz.func269.trans (congrArg some (by kernel_rfl))⟩
 f47 := Tryz.func270.trans (congrArg some (by kernel_rfl))
 f48 := Tryz.func271.trans (congrArg some (by kernel_rfl))
 f49 := ⟨Tryz.f272.name, by decide, Tryz.func272.trans (congrArg some (by kernel_rfl))⟩
 f50 := ⟨Tryz.f273.name, by decide, Tryz.func273.trans (congrArg some (by kernel_rfl))⟩
 f57 := ⟨Tryz.f289.name, by decide, Tryz.func289.trans (congrArg some (by kernel_rfl))⟩
 t0 := Tryz.underlying0
 a0 := Tryz.isAgg0
 z0 := Tryz.sizeOf0
 v0 := Tryz.zeroValue0
 t3 := Tryz.underlying3
 a3 := Tryz.isAgg3
 z3 := Tryz.sizeOf3
 v3 := Tryz.zeroValue3
 t4 := Tryz.underlying4
 a4 := Tryz.isAgg4
 z4 := Tryz.sizeOf4
 v4 := Tryz.zeroValue4
 t5 := Tryz.underlying5
 a5 := Tryz.isAgg5
 z5 := Tryz.sizeOf5
 v5 := Tryz.zeroValue5
 t9 := Tryz.underlying9
 a9 := Tryz.isAgg9
 z9 := Tryz.sizeOf9
 v9 := Tryz.zeroValue9
 t22 := Tryz.underlying29
 a22 := Tryz.isAgg29
 z22 := Tryz.sizeOf29
 v22 := Tryz.zeroValue29
 t25 := Tryz.underlying204
 a25 := Tryz.isAgg204
 z25 := Tryz.sizeOf204
 v25 := Tryz.zeroValue204
 t39 := Tryz.underlying157
 a39 := Tryz.isAgg157
 z39 := Tryz.sizeOf157
 v39 := Tryz.zeroValue157
 t45 := Tryz.underlying307
 a45 := Tryz.isAgg307
 z45 := Tryz.sizeOf307
 v45 := Tryz.zeroValue307
 t46 := Tryz.underlying308
 a46 := Tryz.isAgg308
 z46 := Tryz.sizeOf308
 v46 := Tryz.zeroValue308
 t50 := Tryz.underlying196
 a50 := Tryz.isAgg196
 z50 := Tryz.sizeOf196
 v50 := Tryz.zeroValue196
 t53 := Tryz.underlying110
 a53 := Tryz.isAgg110
 z53 := Tryz.sizeOf110
 v53 := Tryz.zeroValue110
 t55 := Tryz.underlying315
 a55 := Tryz.isAgg315
 z55 := Tryz.sizeOf315
 v55 := Tryz.zeroValue315
 t66 := Tryz.underlying327
 a66 := Tryz.isAgg327
 z66 := Tryz.sizeOf327
 v66 := Tryz.zeroValue327
 t70 := Tryz.underlying331
 a70 := Tryz.isAgg331
 z70 := Tryz.sizeOf331
 v70 := Tryz.zeroValue331
 t76 := Tryz.underlying345
 a76 := Tryz.isAgg345
 z76 := Tryz.sizeOf345
 v76 := Tryz.zeroValue345
 t77 := Tryz.underlying346
 a77 := Tryz.isAgg346
 z77 := Tryz.sizeOf346
 v77 := Tryz.zeroValue346 }
end Go.Proofs
