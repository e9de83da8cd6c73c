/- Part of a proof over the given program: Lw, It, Ir. -/
import Derived.Test.YtehnkebcbomidaaGreatDoorCn29
import Derived.Shelf.Strconv.Itoa3
import Derived.Shelf.LaysM
set_option linter.unusedVariables false
set_option linter.unusedSimpArgs false
namespace Go.Proofs.YtehnkebcbomidaaGreatDoor.Rt
open Go Go.RowKit Go.Proofs Go.Proofs.YtehnkebcbomidaaGreatDoorW.PrintWords Go.Proofs.YtehnkebcbomidaaGreatDoorW.PrintLast
theorem Turn.put4 {H H1 : Sh} {w w1 : World} {S1 : St} (h : Turn H w S1 H1 w1) (h00 : 0 < w.heap.size) {b : Nat} (hb : w.heap.size ≤ b) (h0 : H1.own b = 0) (v0 v1 v2 v3 : Value) : Turn H w S1 H1 (put4 w1 b v0 v1 v2 v3) :=
 (((h.side h00 hb h0 0 v0).side h00 hb h0 1 v1).side h00 hb h0 2 v2).side h00 hb h0 3 v3
theorem Turn.grown {H H1 : Sh} {w w1 w2 : World} {S1 : St} (h : Turn H w S1 H1 w1) (h00 : 0 < w.heap.size) {v : Value} (hg : w1.grownBy w2 v.ownBlock) (hv : ∀ k, v.ownBlock = some k → H1.own k = 0 ∧ w.heap.size ≤ k) : Turn H w S1 H1 w2 := by
 have ht : Tch (fun k => v.ownBlock = some k) w1 w2 := (Tch.refl _ w1).grown hg (fun k hk => .inl hk)
 exact ⟨h.at_.frame ht (fun k hk e => (hv k e).1) (fun e => by have := (hv 0 e).2; omega), h.r, h.own, h.tch.trans ht (fun k hk e => by have := (hv k e).2; omega)⟩
theorem bound_P (S : St) (h8 : S.l.length = 8) (n : Nat) (hn : n < 8) (P : List Mg) (f : Int) : (S.put n { S.get n with P := P }).bound f = S.bound f := by
 have e : (S.put n { S.get n with P := P }).members = S.members := by
  unfold St.members St.put
  rw [List.map_set]
  have hl : n < S.l.length := by omega
  have hg : S.get n = S.l[n] := get_el S n hl ▸ rfl
  have : ({ S.get n with P := P } : Mem).lm = (S.l.map Mem.lm)[n]'(by simpa using hl) := by rw [List.getElem_map, ← hg]; rfl
  rw [this]
  exact List.set_getElem_self _
 unfold St.bound
 rw [e]
def kts (Q : List Mg) : List Int := Q.map fun m => m.k.t
theorem row_m {W : World} {base c : Nat} {A : Option Addr} {Q : List Mg} (h : W.ownsRow base 41 6 (.slice A Q.length c) Q.length (flatM Q)) (j : Nat) (hj : j < Q.length) :
  ∃ g, A = some ⟨g, 0, none⟩ ∧ W.cell? ⟨g, j * 6, none⟩ = some (.int .i64 Q[j].k.t) ∧ W.cell? ⟨g, j * 6 + 1, none⟩ = some (.int .i64 Q[j].k.f) ∧ W.cell? ⟨g, j * 6 + 2, none⟩ = some (.int .i64 Q[j].k.s) ∧ W.cell? ⟨g, j * 6 + 3, none⟩ = some (.int .i64 Q[j].d) ∧ W.cell? ⟨g, j * 6 + 4, none⟩ = some (.int .i64 Q[j].cl) ∧ W.cell? ⟨g, j * 6 + 5, none⟩ = some (.int .i64 Q[j].bd) := by
 rcases h.2 with ⟨e, h1⟩ | ⟨g, cap, cur, e, _⟩
 ·omega
 ·simp only [Value.slice.injEq] at e
  obtain ⟨e1, e2, e3⟩ := e
  have hc : ∀ i v, i < 6 → Q[j].cells[i]? = some v → W.cell? ⟨g, j * 6 + i, none⟩ = some v := fun i v hi hv => by
   have := h.cells (g := g) (by rw [e1]; rfl) (j * 6 + i) v (by
    rw [show flatM Q = Q.flatMap Mg.cells from rfl, flat_get Mg.cells 6 (fun _ => rfl) Q j i hj hi]
    exact hv)
   rwa [add_plain] at this
  exact ⟨g, e1, hc 0 _ (by decide) rfl, hc 1 _ (by decide) rfl, hc 2 _ (by decide) rfl, hc 3 _ (by decide) rfl, hc 4 _ (by decide) rfl, hc 5 _ (by decide) rfl⟩
theorem dec_n_le (k a t b : Int) (q : List Int) : (dec k a t b q).2.2 ≤ q.length := by
 have h := fun t => upN_le q t
 unfold dec
 repeat' split
 all_goals first | exact h _ | exact Nat.zero_le _ | exact Nat.le_refl _
theorem kts_snoc (Q : List Mg) (j : Nat) (hj : j < Q.length) : kts (Q.take (j + 1)) = kts (Q.take j) ++ [Q[j].k.t] := by
 unfold kts
 rw [List.take_succ_eq_append_getElem hj, List.map_append]
 rfl
structure PopInv (H : Sh) (w : World) (S1 : St) (n b4 b8 B : Nat) (P Q : List Mg) (vp : Value) (tm : Int) (j : Nat) (H' : Sh) (vt : Value) (wr : World) : Prop where
 turn : Turn H w (S1.put n { S1.get n with Q := Q.drop j }) H' wr
 o4 : H'.own b4 = 0
 o8 : H'.own b8 = 0
 blk4 : wr.heap[b4]? = some (.cells #[.slice none 0 0, .slice none 0 0, .bool false, .int .i64 0] 31 (0, 0))
 blk8 : wr.heap[b8]? = some (.cells #[vp, vt, .bool false, .int .i64 tm] 31 (0, 0))
 p : wr.ownsRow 0 41 6 vp P.length (flatM P)
 pow : ∀ k, vp.ownBlock = some k → H'.own k = 0
 pB : ∀ k, vp.ownBlock = some k → k < w.heap.size
 t : wr.ownsRow B 41 6 vt j (flatM (Q.take j))
 tow : ∀ k, vt.ownBlock = some k → H'.own k = 0
 sz : B ≤ wr.heap.size
theorem PopInv.step {H : Sh} {w : World} {S1 : St} {n b4 b8 B : Nat} {P Q : List Mg} {vp : Value} {tm : Int} {j : Nat} {H' H2 : Sh} {vt v11 : Value} {wr w9 w10 w11 : World} (h : PopInv H w S1 n b4 b8 B P Q vp tm j H' vt wr)
  (hT9 : Turn H' wr (S1.put n { S1.get n with Q := Q.drop (j + 1) }) H2 w9) (hw : Below w9.heap.size w9 w10) (hg : w10.grownBy w11 vt.ownBlock) (hl : ∀ k, v11.ownBlock = some k → vt.ownBlock = some k ∨ w10.heap.size ≤ k)
  (hown : w11.ownsRow B 41 6 v11 (j + 1) (flatM (Q.take (j + 1)))) (h4B : b4 < B) (h8B : b8 < B) (h4w : w.heap.size ≤ b4) (h8w : w.heap.size ≤ b8) (h48 : b4 ≠ b8) (hBw : w.heap.size ≤ B) (h00 : 0 < w.heap.size) :
  PopInv H w S1 n b4 b8 B P Q vp tm (j + 1) H2 v11 (w11.setCell ⟨b8, 1, none⟩ v11) := by
 have l4 : b4 < wr.heap.size := (Array.getElem?_eq_some_iff.1 h.blk4).1
 have l8 : b8 < wr.heap.size := (Array.getElem?_eq_some_iff.1 h.blk8).1
 have s9 := hT9.tch.size
 have s10 := hw.size
 have hvt : ∀ k, vt.ownBlock = some k → H2.own k = 0 ∧ B ≤ k ∧ k < wr.heap.size := fun k hk => ⟨hT9.own k (own_lt h.t k hk) (h.tow k hk), own_base h.t k hk, own_lt h.t k hk⟩
 have o4 := hT9.own b4 l4 h.o4
 have o8 := hT9.own b8 l8 h.o8
 have ht : Tch (fun k => vt.ownBlock = some k) w10 w11 := (Tch.refl _ w10).grown hg (fun k hk => .inl hk)
 have hkeep : ∀ k, k < wr.heap.size → H'.own k = 0 → ¬ vt.ownBlock = some k → k ≠ b8 → (w11.setCell ⟨b8, 1, none⟩ v11).heap[k]? = wr.heap[k]? := fun k hk h0 hv hb => by
  rw [heap_setCell_other w11 ⟨b8, 1, none⟩ k v11 hb, ht.block k (by omega) hv, hw.block k (by omega), hT9.keeps hk h0]
 have hn4 : ¬ vt.ownBlock = some b4 := fun e => by have := (hvt b4 e).2.1; omega
 have hn8 : ¬ vt.ownBlock = some b8 := fun e => by have := (hvt b8 e).2.1; omega
 refine ⟨(((h.turn.trans hT9).below hw).grown h00 hg (fun k hk => ⟨(hvt k hk).1, by have := (hvt k hk).2.1; omega⟩)).side h00 h8w o8 1 v11, o4, o8, ?_, ?_, ?_, fun k hk => ?_, h.pB, ?_, fun k hk => ?_, ?_⟩
 ·rw [hkeep b4 l4 h.o4 hn4 h48]
  exact h.blk4
 ·have hb : w11.heap[b8]? = some (.cells #[vp, vt, .bool false, .int .i64 tm] 31 (0, 0)) := by
   rw [ht.block b8 (by omega) hn8, hw.block b8 (by omega), hT9.keeps l8 h.o8]
   exact h.blk8
  rw [heap_setCell_same w11 b8 1 _ 31 v11 hb]
  rfl
 ·exact own_move h.p (fun k hk => hkeep k (own_lt h.p k hk) (h.pow k hk) (fun e => by have h1 := (hvt k e).2.1; have h2 := h.pB k hk; omega) (fun e => by have h2 := h.pB k hk; omega))
 ·exact hT9.own k (own_lt h.p k hk) (h.pow k hk)
 ·refine own_move hown (fun k hk => heap_setCell_other w11 ⟨b8, 1, none⟩ k v11 (fun e => ?_))
  have e : k = b8 := e
  rcases hl k hk with z | z
  ·have := (hvt k z).2.1; omega
  ·omega
 ·rcases hl k hk with z | z
  ·exact (hvt k z).1
  ·exact hT9.at_.fresh (by omega)
 ·have h1 := h.sz
  have h2 := hg.size
  show B ≤ (w11.setCell _ _).heap.size
  simp [World.setCell]
  omega
theorem Turn.ask3 {H H1 : Sh} {w wr : World} {S1 : St} (h : Turn H w S1 H1 wr) (h8 : S1.l.length = 8) {n : Nat} (hn : n < 8) (t : Int) :
  Turn H w (S1.put n { S1.get n with time := t, kind := 0, ask := 0 }) H1 (((wr.setCell ⟨H.r, 2 + n * 10 + 2, none⟩ (.int .i64 t)).setCell ⟨H.r, 2 + n * 10 + 4, none⟩ (.int .i64 0)).setCell ⟨H.r, 2 + n * 10 + 5, none⟩ (.int .i64 0)) := by
 have hr := h.r
 have hb1 := blk_put h.at_.blk h8 n 2 hn (by decide) (.int .i64 t) { S1.get n with time := t } rfl
 have g1 := gput_eq S1 h8 hn { S1.get n with time := t }
 have l1 : (S1.put n { S1.get n with time := t }).l.length = 8 := by rw [St.put_l]; exact h8
 have hb2 := blk_put hb1 l1 n 4 hn (by decide) (.int .i64 0) { S1.get n with time := t, kind := 0 } (by rw [g1]; rfl)
 rw [put_put] at hb2
 have g2 := gput_eq S1 h8 hn { S1.get n with time := t, kind := 0 }
 have l2 : (S1.put n { S1.get n with time := t, kind := 0 }).l.length = 8 := by rw [St.put_l]; exact h8
 have hb3 := blk_put hb2 l2 n 5 hn (by decide) (.int .i64 0) { S1.get n with time := t, kind := 0, ask := 0 } (by rw [g2]; rfl)
 rw [put_put] at hb3
 have ht : Tch (fun k => k = H1.r) wr (((wr.setCell ⟨H1.r, 2 + n * 10 + 2, none⟩ (.int .i64 t)).setCell ⟨H1.r, 2 + n * 10 + 4, none⟩ (.int .i64 0)).setCell ⟨H1.r, 2 + n * 10 + 5, none⟩ (.int .i64 0)) :=
  ((Tch.setCell (P := fun k => k = H1.r) (Tch.refl _ wr) (p := ⟨H1.r, 2 + n * 10 + 2, none⟩) (.inl rfl) _).setCell (p := ⟨H1.r, 2 + n * 10 + 4, none⟩) (.inl rfl) _).setCell (p := ⟨H1.r, 2 + n * 10 + 5, none⟩) (.inl rfl) _
 rw [← hr]
 refine h.trans ⟨h.at_.turn ht hb3 rfl rfl rfl (put_keeps S1 h8 hn _ ⟨rfl, rfl, rfl⟩), rfl, fun _ _ e => e, ht.mono (fun k _ e => by rw [e, h.at_.o1]; decide)⟩
end Go.Proofs.YtehnkebcbomidaaGreatDoor.Rt
namespace Go.Proofs
open Go.Shelf
def Tryz.laysM171_ren : Go.Shelf.Ren := ⟨fun | 171 => 131 | 243 => 197 | 246 => 237 | 283 => 265 | 284 => 266 | 285 => 267 | 286 => 268 | 129 => 249 | 317 => 285 | 318 => 286 | 319 => 287 | 320 => 288 | 337 => 298 | 338 => 299 | n => n, fun | 171 => 323 | 53 => 315 | 37 => 22 | 173 => 325 | 212 => 343 | 51 => 110 | 213 => 344 | 46 => 157 | 232 => 364 | 233 => 365 | n => n, fun | 17 => 2 | 18 => 7 | 19 => 8 | n => n⟩
theorem Tryz.laysM171 : Go.Proofs.LaysM.n171 Tryz.prog Tryz.laysM171_ren := {
 mixed := by kernel_rfl
 f129 := Tryz.func249.trans (congrArg some (by kernel_rfl))
 f171 := Tryz.func131.trans (congrArg some (by kernel_rfl))
 f243 := Tryz.func197.trans (congrArg some (by kernel_rfl))
 f246 := Tryz.func237.trans (congrArg some (by kernel_rfl))
 f283 := Tryz.func265.trans (congrArg some (by kernel_rfl))
 f284 := Tryz.func266.trans (congrArg some (by kernel_rfl))
 f285 := Tryz.func267.trans (congrArg some (by kernel_rfl))
 f286 := Tryz.func268.trans (congrArg some (by kernel_rfl))
 f317 := Tryz.func285.trans (congrArg some (by kernel_rfl))
 f318 := Tryz.func286.trans (congrArg some (by kernel_rfl))
 f319 := Tryz.func287.trans (congrArg some (by kernel_rfl))
 f320 := Tryz.func288.trans (congrArg some (by kernel_rfl))
 f337 := Tryz.func298.trans (congrArg some (by kernel_rfl))
 f338 := Tryz.func299.trans (congrArg some (by kernel_rfl))
 t0 := Tryz.underlying0
 a0 := Tryz.isAgg0
 z0 := Tryz.sizeOf0
 v0 := Tryz.zeroValue0
 t2 := Tryz.underlying2
 a2 := Tryz.isAgg2
 z2 := Tryz.sizeOf2
 v2 := Tryz.zeroValue2
 t3 := Tryz.underlying3
 a3 := Tryz.isAgg3
 z3 := Tryz.sizeOf3
 v3 := Tryz.zeroValue3
 t4 := Tryz.underlying4
 a4 := Tryz.isAgg4
 z4 := Tryz.sizeOf4
 v4 := Tryz.zeroValue4
 t5 := Tryz.underlying5
 a5 := Tryz.isAgg5
 z5 := Tryz.sizeOf5
 v5 := Tryz.zeroValue5
 t9 := Tryz.underlying9
 a9 := Tryz.isAgg9
 z9 := Tryz.sizeOf9
 v9 := Tryz.zeroValue9
 t20 := Tryz.underlying20
 a20 := Tryz.isAgg20
 z20 := Tryz.sizeOf20
 v20 := Tryz.zeroValue20
 t37 := Tryz.underlying22
 a37 := Tryz.isAgg22
 z37 := Tryz.sizeOf22
 v37 := Tryz.zeroValue22
 t46 := Tryz.underlying157
 a46 := Tryz.isAgg157
 z46 := Tryz.sizeOf157
 v46 := Tryz.zeroValue157
 t51 := Tryz.underlying110
 a51 := Tryz.isAgg110
 z51 := Tryz.sizeOf110
 v51 := Tryz.zeroValue110
 t53 := Tryz.underlying315
 a53 := Tryz.isAgg315
 z53 := Tryz.sizeOf315
 v53 := Tryz.zeroValue315
 t171 := Tryz.underlying323
 a171 := Tryz.isAgg323
 z171 := Tryz.sizeOf323
 v171 := Tryz.zeroValue323
 t173 := Tryz.underlying325
 a173 := Tryz.isAgg325
 z173 := Tryz.sizeOf325
 v173 := Tryz.zeroValue325
 t212 := Tryz.underlying343
 a212 := Tryz.isAgg343
 z212 := Tryz.sizeOf343
 v212 := Tryz.zeroValue343
 t213 := Tryz.underlying344
 a213 := Tryz.isAgg344
 z213 := Tryz.sizeOf344
 t232 := Tryz.underlying364
 a232 := Tryz.isAgg364
 z232 := Tryz.sizeOf364
 v232 := Tryz.zeroValue364
 t233 := Tryz.underlying365
 a233 := Tryz.isAgg365
 z233 := Tryz.sizeOf365
 v233 := Tryz.zeroValue365
 g17 := by kernel_rfl
 g18 := by kernel_rfl
 g19 := by kernel_rfl
 i0 := by kernel_rfl
 i2 := by kernel_rfl
 i3 := by kernel_rfl
 i4 := by kernel_rfl
 i5 := by kernel_rfl
 i9 := by kernel_rfl
 i20 := by kernel_rfl
 i37 := by kernel_rfl
 i46 := by kernel_rfl
 i51 := by kernel_rfl
 i53 := by kernel_rfl
 i171 := by kernel_rfl
 i173 := by kernel_rfl
 i212 := by kernel_rfl
 i232 := by kernel_rfl
 i233 := by kernel_rfl
 m17 := by kernel_rfl
 m18 := by kernel_rfl
 m19 := by kernel_rfl }
open Go.RowKit Go.Sort Go.Lib in
theorem Tryz.strconv_Itoa (n : Int) (h0 : -9223372036854775808 ≤ n) (h1 : n ≤ 9223372036854775807) (w : World) (htab : Lib.TabIs Tryz.prog w "internal/strconv.uint64pow10" .u64 Lib.pow10Tab) :
  Calls Tryz.prog 131 #[.int .i64 n] w fun e w' => e = .returned (.string ⟨(Lib.itoa n).toArray⟩) ∧ ∃ k os, w' = grow (w.drewN k) os := Any.strconv_Itoa Tryz.laysM171 n h0 h1 w htab
end Go.Proofs
namespace Go.Proofs.YtehnkebcbomidaaGreatDoor.Rt
open Go Go.RowKit Go.Proofs Go.Proofs.YtehnkebcbomidaaGreatDoorW.PrintWords Go.Proofs.YtehnkebcbomidaaGreatDoorW.PrintLast
def TabZ (w : World) : Prop := Lib.TabIs Tryz.prog w "internal/strconv.uint64pow10" .u64 Lib.pow10Tab
theorem TabZ.lt {w : World} (h : TabZ w) : 2 < w.heap.size := by
 have hg : Tryz.prog.globalNamed "internal/strconv.uint64pow10" = some 2 := by kernel_rfl
 unfold TabZ Lib.TabIs World.var? at h
 rw [hg] at h
 simp only [Option.bind_some] at h
 rcases Nat.lt_or_ge 2 w.heap.size with h' | h'
 ·exact h'
 ·simp [Array.getElem?_eq_none h'] at h
theorem TabZ.same {w w' : World} (h : TabZ w) (hb : w'.heap[2]? = w.heap[2]?) : TabZ w' := by
 have hg : Tryz.prog.globalNamed "internal/strconv.uint64pow10" = some 2 := by kernel_rfl
 unfold TabZ Lib.TabIs World.var? at h ⊢
 rw [hg] at h ⊢
 simp only [Option.bind_some] at h ⊢
 rw [hb]
 exact h
theorem TabZ.below {w w' : World} (h : TabZ w) (hb : Below w.heap.size w w') : TabZ w' := h.same (hb.block 2 h.lt)
theorem TabZ.tch {P : Nat → Prop} {w w' : World} (h : TabZ w) (ht : Tch P w w') (hP : ¬ P 2) : TabZ w' := h.same (ht.block 2 h.lt hP)
def itoaB (n : Int) : ByteArray := ⟨(Lib.itoa n).toArray⟩
def I63 (n : Int) : Prop := -9223372036854775808 ≤ n ∧ n ≤ 9223372036854775807
open Go.Sort Go.Lib in
theorem below_grow_ {B : Nat} (w : World) (k : Nat) (os : Array Obj) (h : B ≤ w.heap.size) : Below B w (grow (w.drewN k) os) := by
 refine ⟨rfl, rfl, rfl, ?_, ?_⟩
 ·simp [grow, World.drewN]
 ·intro i hi
  simp only [grow, World.drewN]
  rw [Array.getElem?_append_left (by omega)]
theorem int_call (n : Int) (hn : I63 n) (w : World) (h : TabZ w) : Calls Tryz.prog 62 #[.int .i64 n] w fun e w' => e = .returned (.string (itoaB n)) ∧ Below w.heap.size w w' := by
 have hc := Tryz.strconv_Itoa n hn.1 hn.2 w h
 have HC := Lib.hid hc
 clear hc h hn
 go_enter Tryz.func62, Tryz.ntmps62
 go_wp2_with (go_at_call 131; refine HC.out.mono ?_; rintro e w'' ⟨rfl, k, os, rfl⟩)
 go_ret
 exact ⟨rfl, below_grow_ w k os (Nat.le_refl _)⟩
theorem bit_call (is : Bool) (w : World) : Calls Tryz.prog 98 #[.bool is] w fun e w' => e = .returned (.int .i64 (if is then 1 else 0)) ∧ w' = w := by
 cases is
 all_goals
  go_enter Tryz.func98, Tryz.ntmps98
  go_wp2
  go_ret
  exact ⟨rfl, rfl⟩
theorem inf9 : (Tryz.prog.info? 9).map (fun i => (i.zero, i.size, i.bytes)) = some (some (.string { data := #[] }), 1, 16) := by kernel_rfl
theorem infI3 : (Tryz.prog.info? 3).map (fun i => (i.zero, i.size, i.bytes)) = some (some (.int .i64 0), 1, 8) := by kernel_rfl
def strs (l : List Int) : List Value := l.map fun n => .string (itoaB n)
theorem strs_succ (l : List Int) (j : Nat) (hj : j < l.length) : strs (l.take (j + 1)) = strs (l.take j) ++ [.string (itoaB l[j])] := by
 unfold strs
 rw [List.take_succ_eq_append_getElem hj, List.map_append]
 rfl
def RowPost (w : World) (l : List Int) (e : Ending) (w' : World) : Prop := ∃ B c, e = .returned (.slice B l.length c) ∧ w'.ownsRow w.heap.size 9 1 (.slice B l.length c) l.length (strs l) ∧ Below w.heap.size w w'
set_option maxHeartbeats 4000000 in
set_option maxRecDepth 100000 in
theorem row_call (w : World) (A : Option Addr) (c : Nat) (l : List Int) (hl : l.length ≤ 1000) (hr : IntsAt w A l) (hb : ∀ n ∈ l, I63 n) (ht : TabZ w) : Calls Tryz.prog 96 #[.slice A l.length c] w (RowPost w l) := by
 obtain ⟨i0, hi, hz0, hz1, hz2⟩ := info_parts inf9
 have hu52 := Tryz.underlying52
 have hu58 := Tryz.underlying58
 have hu9 := Tryz.underlying9
 have HI := Lib.hid hi
 have HZ0 := Lib.hid hz0
 have HZ1 := Lib.hid hz1
 have HZ2 := Lib.hid hz2
 have HR := Lib.hid hr
 have HB := Lib.hid hb
 have HT := Lib.hid ht
 clear hi hz0 hz1 hz2 hr hb ht
 go_enter Tryz.func96, Tryz.ntmps96
 go_wp2
 go_loopw [3, 8] (fun v i wr => ∃ (B : Option Addr) (cc j : Nat), j ≤ l.length ∧ i = .int .i64 j ∧ v = .slice B j cc ∧ wr.ownsRow w.heap.size 9 1 (.slice B j cc) j (strs (l.take j)) ∧ Below w.heap.size w wr) (fun _ i _ => l.length - (RowKit.intOf i).toNat)
 case atStart => exact ⟨none, 0, 0, Nat.zero_le _, rfl, rfl, World.ownsRow_nil _ _ _ _, Below.refl _ _⟩
 case round =>
  obtain ⟨B, cc, j, hj, rfl, rfl, ho, hbr⟩ := hrel
  by_cases hjl : j < l.length
  ·have hji : (j : Int) < (l.length : Int) := by omega
   have hj0 : (0 : Int) ≤ (j : Int) := by omega
   obtain ⟨x, rfl, hx⟩ := HR.out (by omega)
   have hx := pw_cell_below hbr (hx j hjl)
   rw [List.getD_eq_getElem?_getD, List.getElem?_eq_getElem hjl, Option.getD_some] at hx
   have hc := int_call l[j] (HB.out _ (List.getElem_mem hjl)) wr (HT.out.below hbr)
   have hss := strs_succ l j hjl
   generalize l[j] = n at hx hc hss
   generalize itoaB n = s at hc hss
   have HC := Lib.hid hc
   have HO := Lib.hid ho
   have HBR := Lib.hid hbr
   have HSS := Lib.hid hss
   clear hc ho hbr hss
   go_wp2_with (first | (go_at_call 62; (with_reducible refine HC.out.mono ?_); rintro e w5 ⟨rfl, hb5⟩; have ho5 := own_move HO.out (fun k hk => hb5.block k (own_lt HO.out k hk)); have HO5 := Lib.hid ho5; have HB5 := Lib.hid hb5; have HNW := Lib.hid (World.ownsRow_lit (base := 0) (e := 9) (size := 1) w5 #[.string s] 1 (Nat.zero_le _) (by unfold maxLen; omega) rfl); clear hb5 ho5) | (at_builtin; go_loud (refine wpList_app rfl (.tmp 12) (.tmp 15) 58 rfl w.heap.size 0 9 i0 _ 1 16 hu58 HI.out HZ0.out HZ1.out HZ2.out rfl (by decide) (.slice B j cc) j (strs (l.take j)) rfl (HO5.out.alloc _) (.slice (some ⟨w5.heap.size, 0, none⟩) 1 1) 1 [.string s] (by rfl) HNW.out (by simp [Value.oneCell']) (by unfold maxLen; omega) (by omega) (by have := HBR.out.size; have := HB5.out.size; simp; omega) ?_); go_loud (intro v9 w9 hown hg hl9)))
   obtain ⟨B9, c9, rfl⟩ := own_slice hown
   refine ⟨⟨B9, c9, j + 1, hjl, by go_num, rfl, by rw [HSS.out]; exact hown, ?_⟩, by simp [RowKit.intOf]; omega⟩
   exact ((HBR.out.trans (HB5.out.mono HBR.out.size)).alloc (by have := HBR.out.size; have := HB5.out.size; omega) _).grown hg (by have := HBR.out.size; have := HB5.out.size; simp; omega) (fun q hq => own_base HO.out q hq)
  ·obtain rfl : j = l.length := by omega
   have hji : ¬ (l.length : Int) < (l.length : Int) := by omega
   rw [List.take_length] at ho
   have HO := Lib.hid ho
   have HBR := Lib.hid hbr
   clear ho hbr
   go_wp2
   go_ret
   exact ⟨B, cc, rfl, HO.out, HBR.out⟩
end Go.Proofs.YtehnkebcbomidaaGreatDoor.Rt
