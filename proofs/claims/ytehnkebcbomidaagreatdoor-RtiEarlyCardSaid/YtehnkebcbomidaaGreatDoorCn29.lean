/- Part of a proof over the given program: Lb, Sd, Lu. -/
import Derived.Test.YtehnkebcbomidaaGreatDoorCn28
set_option linter.unusedVariables false
set_option linter.unusedSimpArgs false
section
namespace Go.Proofs.YtehnkebcbomidaaGreatDoor.Rt
open Go Go.RowKit Go.Proofs Go.Proofs.YtehnkebcbomidaaGreatDoorW.PrintWords Go.Proofs.YtehnkebcbomidaaGreatDoorW.PrintLast Go.Proofs.YtehnkebcbomidaaGreatDoorW.PrintMore
attribute [local go_sem] max2_int min2_int max_two min_two
theorem row_cells {W : World} {L : List LM} {A : Option Addr} {c : Nat} (h : W.ownsRow 0 195 7 (.slice A L.length c) L.length (lmF L)) (j : Nat) (hj : j < L.length) : ∃ g, A = some ⟨g, 0, none⟩ ∧ g < W.heap.size ∧ ∀ i v, i < 7 → L[j].cells[i]? = some v → W.cell? ⟨g, j * 7 + i, none⟩ = some v := by
 rcases h.2 with ⟨e, h0⟩ | ⟨g, cap, cur, e, _⟩
 ·simp only [Value.slice.injEq] at e
  omega
 ·simp only [Value.slice.injEq] at e
  obtain ⟨e1, e2, e3⟩ := e
  subst e1
  refine ⟨g, rfl, own_lt h g rfl, fun i v hi hv => ?_⟩
  have := h.cells (g := g) rfl (j * 7 + i) v (by
   unfold lmF
   rw [flat_get LM.cells 7 (fun _ => rfl) L j i hj hi]
   exact hv)
  rwa [add_plain] at this
theorem lbtsGo_succ (l : List LM) (out : List Int) (i : Int) (n : Nat) (hn : n < l.length) : lbtsGo l out i (n + 1) = if (n : Int) = i then lbtsGo l out i n else if l[n].reg = true then (if out.getD n 0 < lbtsGo l out i n then out.getD n 0 else lbtsGo l out i n) else lbtsGo l out i n := by
 have e : l.getD n default = l[n] := by rw [List.getD_eq_getElem?_getD, List.getElem?_eq_getElem hn]; rfl
 rw [lbtsGo, e]
 by_cases h : (n : Int) = i
 ·rw [if_pos h, if_neg (fun z => z.1 h)]
 ·rw [if_neg h]
  by_cases r : l[n].reg = true
  ·rw [if_pos ⟨h, r⟩, if_pos r]
   omega
  ·rw [if_neg (fun z => r z.2), if_neg r]
theorem out_cells {w1 : World} {g : Nat} {l : List Int} {n : Nat} (hcells : w1.heap[g]? = some (.cells (iC l) 3 (0, 0))) (hol : l.length = n) : ∀ j, j < n → w1.cell? ⟨g, j, none⟩ = some (.int .i64 (l.getD j 0)) := fun j hj => by
 have hl : j < l.length := by rw [hol]; exact hj
 simp [World.cell?, hcells, iC, List.getD_eq_getElem?_getD, List.getElem?_eq_getElem hl]
set_option maxHeartbeats 8000000 in
set_option maxRecDepth 100000 in
theorem lbts_call (w : World) (L : List LM) (A : Option Addr) (c : Nat) (hn : L.length ≤ 1000) (hrow : w.ownsRow 0 195 7 (.slice A L.length c) L.length (lmF L)) (hol : (outs L).length = L.length) (i : Int) :
  Calls Tryz.prog 141 #[.slice A L.length c, .int .i64 i] w fun e w' => e = .returned (.int .i64 (lbts L i)) ∧ Below w.heap.size w w' := by
 have hu123 := Tryz.underlying123
 have hu195 := Tryz.underlying195
 have hu52 := Tryz.underlying52
 have hcall := outputs_call w L A c hn hrow
 have HC := Lib.hid hcall
 have HROW := Lib.hid hrow
 clear hcall hrow
 go_enter Tryz.func141, Tryz.ntmps141
 go_wp2_with (go_at_call 68; (with_reducible refine HC.out.mono ?_); rintro e w1 ⟨g, rfl, hg, hcells, hb1⟩; have hgl : g < w1.heap.size := (Array.getElem?_eq_some_iff.1 hcells).1; have HOC := Lib.hid (out_cells hcells hol); have HR1 := Lib.hid (own_move HROW.out (fun k hk => hb1.block k (own_lt HROW.out k hk))); have HB1 := Lib.hid hb1; clear hcells hb1 hg)
 go_loopw [5, 11] (fun t jv wr => ∃ j : Nat, j ≤ L.length ∧ jv = .int .i64 j ∧ t = .int .i64 (lbtsGo L (outs L) i j) ∧ wr = w1) (fun _ jv _ => L.length - (RowKit.intOf jv).toNat)
 case atStart => exact ⟨0, Nat.zero_le _, rfl, rfl, rfl⟩
 case round =>
  obtain ⟨j, hj, rfl, rfl, rfl⟩ := hrel
  by_cases hjn : j < L.length
  ·have hjl : (j : Int) < (L.length : Int) := by omega
   have hj0 : (0 : Int) ≤ (j : Int) := by omega
   obtain ⟨ga, hga, hgl2, hgc⟩ := row_cells HR1.out j hjn
   have hs := lbtsGo_succ L (outs L) i j hjn
   have e1 := HOC.out j hjn
   generalize (outs L).getD j 0 = oj at e1 hs
   have d0 : wr.cell? ⟨ga, j * 7, none⟩ = some (.bool L[j].reg) := hgc 0 _ (by decide) rfl
   generalize L[j].reg = reg at d0 hs
   subst hga
   generalize lbtsGo L (outs L) i j = tt at hs ⊢
   by_cases hji : (j : Int) = i
   ·rw [if_pos hji] at hs
    subst hji
    have HS := Lib.hid hs
    clear hs hgc
    go_wp2
    exact ⟨⟨j + 1, hjn, by simp, by rw [HS.out], (by first | rfl | trivial)⟩, by simp [RowKit.intOf]; omega⟩
   ·rw [if_neg hji] at hs
    cases reg with
    | false =>
     have HS := Lib.hid (hs.trans (if_neg (by decide)))
     clear hs hgc
     go_wp2
     exact ⟨⟨j + 1, hjn, by simp, by rw [HS.out], (by first | rfl | trivial)⟩, by simp [RowKit.intOf]; omega⟩
    | true =>
     have HS := Lib.hid (hs.trans (if_pos rfl))
     clear hs hgc
     go_wp2
     exact ⟨⟨j + 1, hjn, by simp, by rw [HS.out], (by first | rfl | trivial)⟩, by simp [RowKit.intOf]; omega⟩
  ·obtain rfl : j = L.length := by omega
   have hji : ¬ (L.length : Int) < (L.length : Int) := by omega
   go_wp2
   go_ret
   exact ⟨rfl, HB1.out⟩
theorem own_zero {W : World} {base e sz n : Nat} {v : Value} {xs : List Value} (h : W.ownsRow base e sz v n xs) : W.ownsRow 0 e sz v n xs := by
 refine ⟨h.1, ?_⟩
 rcases h.2 with h2 | ⟨g, cap, cur, e1, hb, r⟩
 ·exact .inl h2
 ·exact .inr ⟨g, cap, cur, e1, Nat.zero_le _, r⟩
theorem members_length (S : St) (h8 : S.l.length = 8) : S.members.length = 8 := by unfold St.members; rw [List.length_map]; exact h8
set_option maxHeartbeats 4000000 in
theorem bound_call (w : World) (H : Sh) (S : St) (hR : RAt H w S) (h8 : S.l.length = 8) (f : Int) :
  Calls Tryz.prog 71 #[.pointer (some ⟨H.r, 0, none⟩), .int .i64 f] w fun e w' => e = .returned (.int .i64 (S.bound f)) ∧ Below w.heap.size w w' := by
 have hm := members_call w H S hR h8
 have hl := fun w1 A c (h : World.ownsRow w1 0 195 7 (.slice A S.members.length c) S.members.length (lmF S.members)) => lbts_call w1 S.members A c (by rw [members_length S h8]; omega) h (outs_spec S.members).2 f
 rw [members_length S h8] at hl
 have HM := Lib.hid hm
 have HL := Lib.hid hl
 clear hm hl hR h8
 go_enter Tryz.func71, Tryz.ntmps71
 go_wp2_with (first | (go_at_call 69; (with_reducible refine HM.out.mono ?_); rintro e w1 ⟨A, c, rfl, hr1, hb1⟩; have HL1 := Lib.hid (HL.out w1 A c (own_zero hr1)); have HB1 := Lib.hid hb1; clear hr1 hb1) | (go_at_call 141; (with_reducible refine HL1.out.mono ?_); rintro e w2 ⟨rfl, hb2⟩))
 go_ret
 exact ⟨rfl, HB1.out.trans (hb2.mono HB1.out.size)⟩
end Go.Proofs.YtehnkebcbomidaaGreatDoor.Rt
end
namespace Go.Proofs.YtehnkebcbomidaaGreatDoor.Rt
open Go Go.RowKit Go.Proofs Go.Proofs.YtehnkebcbomidaaGreatDoorW.PrintWords Go.Proofs.YtehnkebcbomidaaGreatDoorW.PrintLast
def sdChk (S : St) (n : Nat) (c body t : Int) (timed reg : Bool) : List (Bool × Int) :=
 [(decide (0 ≤ body) && decide (body < 1000), 1), (!timed || (decide (0 ≤ t) && decide (t ≤ 1099511627776)), 208), (!reg || decide ((outs S.members).getD n 0 ≤ t), 110), (!(S.route n c).any (S.fullAt reg), 2)]
theorem firstNo_cons (b : Bool) (c : Int) (l : List (Bool × Int)) : firstNo ((b, c) :: l) = if b then firstNo l else some c := rfl
theorem sendE_eq {S : St} {n : Nat} (he : S.byE n = 0) (c body t : Int) (timed : Bool) (h0 : rtE S n c = 0) : S.sendE n c body t timed = (firstNo (sdChk S n c body t timed (S.reg n timed))).getD 0 := by
 unfold rtE at h0
 have a : ¬ S.noClass c := fun z => by rw [if_pos z] at h0; omega
 rw [if_neg a] at h0
 have b : ¬ (S.pubs.getD n 0).testBit c.toNat = false := fun z => by rw [if_pos z] at h0; omega
 unfold St.sendE sdChk
 rw [if_neg (fun z => z he), if_neg a, Int.toNat_natCast, if_neg b]
 simp only [firstNo_cons]
 generalize (outs S.members).getD n 0 = out
 generalize S.reg n timed = reg
 generalize (S.route n c).any (S.fullAt reg) = full
 by_cases h1 : body < 0 ∨ 1000 ≤ body
 ·have e1 : (decide (0 ≤ body) && decide (body < 1000)) = false := by simp; omega
  rw [if_pos h1, e1]; rfl
 ·have e1 : (decide (0 ≤ body) && decide (body < 1000)) = true := by simp; omega
  rw [if_neg h1, e1, if_pos rfl]
  by_cases h2 : timed = true ∧ (t < 0 ∨ 1099511627776 < t)
  ·have e2 : (!timed || (decide (0 ≤ t) && decide (t ≤ 1099511627776))) = false := by
    rw [h2.1]; simp; omega
   rw [if_pos h2, e2]; rfl
  ·have e2 : (!timed || (decide (0 ≤ t) && decide (t ≤ 1099511627776))) = true := by
    cases timed
    ·rfl
    ·simp at h2 ⊢; omega
   rw [if_neg h2, e2, if_pos rfl]
   by_cases h3 : reg = true ∧ t < out
   ·have e3 : (!reg || decide (out ≤ t)) = false := by rw [h3.1]; simp; omega
    rw [if_pos h3, e3]; rfl
   ·have e3 : (!reg || decide (out ≤ t)) = true := by
     cases reg
     ·rfl
     ·simp at h3 ⊢; omega
    rw [if_neg h3, e3, if_pos rfl]
    cases full <;> rfl
theorem sdChk_lt (S : St) (n : Nat) (c body t : Int) (timed reg : Bool) : ∀ e, firstNo (sdChk S n c body t timed reg) = some e → 0 < e ∧ e < 220 := by
 intro e
 unfold sdChk
 simp only [firstNo_cons]
 repeat' split
 all_goals (intro h; cases h; try omega)
theorem send_err {S : St} {n : Nat} (c body t : Int) (timed : Bool) {e : Int} (h : S.sendE n c body t timed = e) (he : e ≠ 0) : S.send n c body t timed = (0, e, S) := by
 unfold St.send
 rw [if_pos (by rw [h]; exact he), h]
theorem sendE_rt {S : St} {n : Nat} (he : S.byE n = 0) (c body t : Int) (timed : Bool) (h0 : rtE S n c ≠ 0) : S.sendE n c body t timed = rtE S n c := by
 unfold rtE at h0 ⊢
 unfold St.sendE
 rw [if_neg (fun z => z he), Int.toNat_natCast]
 split
 ·rfl
 ·rename_i a
  rw [if_neg a] at h0
  split
  ·rfl
  ·rename_i b
   rw [if_neg b] at h0
   exact absurd rfl h0
set_option maxHeartbeats 8000000 in
set_option maxRecDepth 100000 in
theorem send_no (w : World) (H : Sh) (S : St) (hR : RAt H w S) (f : Int) (c body t : Int) (timed : Bool) (he : S.byE f ≠ 0) :
  Calls Tryz.prog 24 #[.pointer (some ⟨H.r, 0, none⟩), .int .i64 f, .int .i64 c, .int .i64 body, .int .i64 t, .bool timed] w fun e w' => e = .returned (.tuple #[.int .i64 0, .int .i64 (S.byE f)]) ∧ Below w.heap.size w w' := by
 have hb := by_no w H S hR f he
 have HB := Lib.hid hb
 clear hb hR he
 go_enter Tryz.func24, Tryz.ntmps24
 go_wp2_with (go_at_call 63; (with_reducible refine HB.out.mono ?_); rintro e w1 ⟨g, rfl, hb1, hc1⟩)
 have HB1 := Lib.hid hb1
 have HC1 := Lib.hid hc1
 clear hb1 hc1
 go_wp2_with (go_at_call 64; (with_reducible refine HC1.out.mono ?_); rintro e w2 ⟨rfl, hb2⟩)
 go_ret2
 exact ⟨rfl, HB1.out.trans (hb2.mono HB1.out.size)⟩
set_option maxHeartbeats 8000000 in
set_option maxRecDepth 100000 in
theorem send_rt (w : World) (H : Sh) (S : St) {N : Int} (hR : RAt H w S) (ok : S.Ok N) (n : Nat) (hn : n < 8) (c body t : Int) (timed : Bool) (he : S.byE n = 0) (h0 : rtE S n c ≠ 0) :
  Calls Tryz.prog 24 #[.pointer (some ⟨H.r, 0, none⟩), .int .i64 n, .int .i64 c, .int .i64 body, .int .i64 t, .bool timed] w fun e w' => e = .returned (.tuple #[.int .i64 0, .int .i64 (rtE S n c)]) ∧ Below w.heap.size w w' := by
 have hby := by_yes w H S hR n he
 have hrt : ∀ w1, Below w.heap.size w w1 → Calls Tryz.prog 65 #[.pointer (some ⟨H.tb, 0, none⟩), .int .i64 n, .int .i64 c] w1 fun e w' => e = .returned (.tuple #[.slice none 0 0, .int .i64 (rtE S n c)]) ∧ Below w1.heap.size w1 w' := fun w1 hb => (routeR w1 H S (hR.below hb) ok n hn c).mono (by
  rintro e w' ⟨h1, h2 | h2⟩
  ·exact ⟨h2.2, h1⟩
  ·exact absurd h2.1 h0)
 have hR1 := fun w1 (hb1 : Below w.heap.size w w1) => (hR.below (W' := w1) hb1).c_tb
 have HBY := Lib.hid hby
 have HR1 := Lib.hid hR1
 have HRT := Lib.hid hrt
 have hu115 := Tryz.underlying115
 generalize rtE S n c = z at h0 HRT ⊢
 clear hby hR1 hrt hR ok he
 go_enter Tryz.func24, Tryz.ntmps24
 go_wp2_with (first | (go_at_call 63; (with_reducible refine HBY.out.mono ?_); rintro e w1 ⟨rfl, hb1⟩; have c1 := HR1.out w1 hb1; have HRT1 := Lib.hid (HRT.out w1 hb1); have HB1 := Lib.hid hb1; clear hb1) | (go_at_call 65; (with_reducible refine HRT1.out.mono ?_); rintro e w2 ⟨rfl, hb2⟩))
 go_ret2
 exact ⟨rfl, HB1.out.trans (hb2.mono HB1.out.size)⟩
def Pause (p : Prop) : Prop := p
theorem Pause.go {p : Prop} (h : Pause p) : p := h
theorem Pause.mk {p : Prop} (h : p) : Pause p := h
theorem allres_cases {w : World} {f : Int} {o : Option Int} {v : Value} {w' : World} (h : AllRes w f o (.returned v) w') :
  (v = .nilIface ∧ o = none) ∨ ∃ c g, v = .iface 180 (.pointer (some ⟨g, 0, none⟩)) ∧ o = some c ∧ w'.heap[g]? = some (.cells #[.int .i64 f, .iface 25 (.int .i64 c)] 182 (0, 0)) := by
 cases o with
 | none => exact .inl ⟨by cases h; rfl, rfl⟩
 | some c =>
  obtain ⟨g, _, h2, h3⟩ := h
  exact .inr ⟨c, g, by cases h2; rfl, rfl, h3⟩
theorem outR (w : World) (S : St) (h8 : S.l.length = 8) (b : Nat) (A : Option Addr) (c : Nat) (hrow : w.ownsRow b 195 7 (.slice A 8 c) 8 (lmF S.members)) :
  Calls Tryz.prog 68 #[.slice A 8 c] w fun e w' => ∃ g, e = .returned (.slice (some ⟨g, 0, none⟩) 8 8) ∧ (∀ j, j < 8 → w'.cell? ⟨g, j, none⟩ = some (.int .i64 ((outs S.members).getD j 0))) ∧ Below w.heap.size w w' := by
 have h := outputs_call w S.members A c (by rw [members_length S h8]; omega) (by rw [members_length S h8]; exact own_zero hrow)
 rw [members_length S h8] at h
 refine h.mono ?_
 rintro e w' ⟨g, rfl, _, h2, h3⟩
 exact ⟨g, rfl, out_cells h2 (by rw [(outs_spec S.members).2, members_length S h8]), h3⟩
theorem nat_row {W : World} {base c : Nat} {A : Option Addr} {l : List Nat} (h : W.ownsRow base 3 1 (.slice A l.length c) l.length (natC l)) (j : Nat) (hj : j < l.length) : ∃ g, A = some ⟨g, 0, none⟩ ∧ g < W.heap.size ∧ base ≤ g ∧ W.cell? ⟨g, j, none⟩ = some (.int .i64 (l[j] : Nat)) := by
 rcases h.2 with ⟨e, h1⟩ | ⟨g, cap, cur, e, hb, _⟩
 ·omega
 ·simp only [Value.slice.injEq] at e
  obtain ⟨e1, e2, e3⟩ := e
  have hc := h.cells (g := g) (by rw [e1]; rfl) j (.int .i64 (l[j] : Nat)) (by
   unfold natC
   rw [List.getElem?_map, List.getElem?_eq_getElem hj]
   rfl)
  rw [add_plain] at hc
  exact ⟨g, e1, World.block_lt_of_cell? W _ hc, hb, hc⟩
theorem Turn.side {H H1 : Sh} {w w1 : World} {S1 : St} (h : Turn H w S1 H1 w1) (h00 : 0 < w.heap.size) {b : Nat} (hb : w.heap.size ≤ b) (h0 : H1.own b = 0) (j : Nat) (u : Value) : Turn H w S1 H1 (w1.setCell ⟨b, j, none⟩ u) := by
 have ht : Tch (fun k => k = b) w1 (w1.setCell ⟨b, j, none⟩ u) := Tch.setCell (P := fun k => k = b) (Tch.refl _ _) (p := ⟨b, j, none⟩) (.inl rfl) _
 exact ⟨h.at_.frame ht (fun k hk e => by rw [e]; exact h0) (by omega), h.r, h.own, h.tch.trans ht (fun k hk e => by omega)⟩
theorem sendS {S : St} {N : Int} (ok : S.Ok N) {n : Nat} (hn : n < 8) (c body t : Int) (timed : Bool) (h : S.sendE n c body t timed = 0) :
  S.send n c body t timed = (if timed then (S.get n).sent else 0, 0, if timed then (S.give (S.reg n timed) (S.msg n c body t timed) (S.route n c)).put n { S.get n with sent := (S.get n).sent + 1 } else S.give (S.reg n timed) (S.msg n c body t timed) (S.route n c)) ∧
  (S.give (S.reg n timed) (S.msg n c body t timed) (S.route n c)).get n = S.get n := by
 have hfr : n ∉ S.route n c := fun k => (route_mem k).2.1 rfl
 have hg : (S.give (S.reg n timed) (S.msg n c body t timed) (S.route n c)).get n = S.get n := by
  rw [give_get _ _ _ _ ok.l8 (route_nodup S n c) (fun g hg => (route_mem hg).1), if_neg hfr]
 refine ⟨?_, hg⟩
 unfold St.send
 rw [if_neg (fun z => z h)]
 cases timed
 ·rfl
 ·simp only [if_true, Int.toNat_natCast]
  rw [hg]
theorem i64_of (x : Int) (h0 : -9223372036854775808 ≤ x) (h1 : x < 9223372036854775808) : I64 x := by
 have e1 : IntKind.i64.min = -9223372036854775808 := by decide
 have e2 : IntKind.i64.max = 9223372036854775807 := by decide
 unfold I64 Lit.wf
 simp only [Bool.and_eq_true, decide_eq_true_eq, e1, e2]
 omega
structure SdInv (H : Sh) (w7 : World) (S : St) (reg : Bool) (mg : Mg) (RO : List Nat) (mb j : Nat) (H' : Sh) (dd : Int) (wr : World) : Prop where
 turn : Turn H w7 (S.give reg mg (RO.take j)) H' wr
 own : H'.own mb = 0
 blk : wr.heap[mb]? = some (.cells #[.int .i64 mg.k.t, .int .i64 mg.k.f, .int .i64 mg.k.s, .int .i64 dd, .int .i64 mg.cl, .int .i64 mg.bd] 41 (0, 0))
theorem m_cells {W : World} {mb : Nat} {a0 a1 a2 a3 a4 a5 : Value} (h : W.heap[mb]? = some (.cells #[a0, a1, a2, a3, a4, a5] 41 (0, 0))) :
  W.cell? ⟨mb, 0, none⟩ = some a0 ∧ W.cell? ⟨mb, 1, none⟩ = some a1 ∧ W.cell? ⟨mb, 2, none⟩ = some a2 ∧ W.cell? ⟨mb, 3, none⟩ = some a3 ∧ W.cell? ⟨mb, 4, none⟩ = some a4 ∧ W.cell? ⟨mb, 5, none⟩ = some a5 ∧ W.frozen? ⟨mb, 3, none⟩ = false := by
 refine ⟨?_, ?_, ?_, ?_, ?_, ?_, ?_⟩ <;> simp [World.cell?, World.frozen?, h]
theorem m_put {W : World} {mb : Nat} {a0 a1 a2 a3 a4 a5 : Value} (h : W.heap[mb]? = some (.cells #[a0, a1, a2, a3, a4, a5] 41 (0, 0))) (u : Value) :
  (W.setCell ⟨mb, 3, none⟩ u).heap[mb]? = some (.cells #[a0, a1, a2, u, a4, a5] 41 (0, 0)) := by
 rw [heap_setCell_same W mb 3 _ 41 u h]
 rfl
theorem take_plain (m : Mem) (reg : Bool) (x : Mg) (h : (reg && m.con) = false) : m.take reg x = { m with P := m.P ++ [x] } := by unfold Mem.take; rw [h]; rfl
theorem take_timed (m : Mem) (reg : Bool) (x : Mg) (h : (reg && m.con) = true) : m.take reg x = { m with Q := ins x m.Q } := by unfold Mem.take; rw [h]; rfl
structure LookAt (H : Sh) (w : World) (G : Gv) (S' : St) (H' : Sh) (vp vt : Value) (w' : World) : Prop where
 turn : Turn H w S' H' w'
 p : w'.ownsRow 0 41 6 vp G.plain.length (flatM G.plain)
 t : w'.ownsRow 0 41 6 vt G.timed.length (flatM G.timed)
 pow : ∀ k, vp.ownBlock = some k → H'.own k = 0
 tow : ∀ k, vt.ownBlock = some k → H'.own k = 0
def LPost (H : Sh) (w : World) (G : Gv) (E : Int) (S' : St) (e : Ending) (w' : World) : Prop :=
 ∃ H' vp vt, e = .returned (.tuple #[.agg #[vp, vt, .bool G.granted, .int .i64 G.time], .int .i64 E]) ∧ LookAt H w G S' H' vp vt w'
def Sh.release (H : Sh) (n : Nat) : Sh := { H with own := fun k => if H.own k = 16 + n then 0 else H.own k }
theorem RAt.release {H : Sh} {W : World} {S : St} (h : RAt H W S) {n : Nat} (hn : n < 8) (hp : H.pl n = .slice none 0 0) : RAt (H.release n) W S := by
 have hne : ∀ k j, H.own k = j → j ≠ 16 + n → (H.release n).own k = j := fun k j e hj => by
  show (if H.own k = 16 + n then 0 else H.own k) = j
  rw [if_neg (by omega)]
  exact e
 refine ⟨h.env, hne 0 0 h.o0 (by omega), h.blk, h.tab, h.par, h.que, h.pla, hne _ 1 h.o1 (by omega), hne _ 2 h.o2 (by omega), fun k hk => hne k 3 (h.o3 k hk) (by omega), fun k hk => hne k 4 (h.o4 k hk) (by omega), fun m hm k hk => hne k _ (h.oq m hm k hk) (by omega), fun m hm k hk => ?_, fun k hk => h.lt k (fun e => hk ?_)⟩
 ·by_cases e : m = n
  ·subst e
   have hk : (H.pl m).ownBlock = some k := hk
   rw [hp] at hk
   cases hk
  ·exact hne k _ (h.op m hm k hk) (by omega)
 ·show (if H.own k = 16 + n then 0 else H.own k) = 0
  split
  ·rfl
  ·exact e
theorem Turn.release {H H1 : Sh} {w w1 : World} {S1 : St} (h : Turn H w S1 H1 w1) {n : Nat} (hn : n < 8) (hp : H1.pl n = .slice none 0 0) : Turn H w S1 (H1.release n) w1 :=
 ⟨h.at_.release hn hp, h.r, fun k hk h0 => by
  show (if H1.own k = 16 + n then 0 else H1.own k) = 0
  split
  ·rfl
  ·exact h.own k hk h0, h.tch⟩
theorem Sh.release_own (H : Sh) (n k : Nat) (h : H.own k = 0 ∨ H.own k = 16 + n) : (H.release n).own k = 0 := by
 show (if H.own k = 16 + n then 0 else H.own k) = 0
 split
 ·rfl
 ·rcases h with h | h
  ·exact h
  ·rename_i c; exact absurd h c
def put4 (W : World) (b : Nat) (v0 v1 v2 v3 : Value) : World := (((W.setCell ⟨b, 0, none⟩ v0).setCell ⟨b, 1, none⟩ v1).setCell ⟨b, 2, none⟩ v2).setCell ⟨b, 3, none⟩ v3
theorem put4_blk {W : World} {b : Nat} {a0 a1 a2 a3 : Value} (h : W.heap[b]? = some (.cells #[a0, a1, a2, a3] 31 (0, 0))) (v0 v1 v2 v3 : Value) : (put4 W b v0 v1 v2 v3).heap[b]? = some (.cells #[v0, v1, v2, v3] 31 (0, 0)) := by
 have h0 := heap_setCell_same W b 0 _ 31 v0 h
 have h1 := heap_setCell_same _ b 1 _ 31 v1 h0
 have h2 := heap_setCell_same _ b 2 _ 31 v2 h1
 exact heap_setCell_same _ b 3 _ 31 v3 h2
theorem put4_tch (W : World) (b : Nat) (v0 v1 v2 v3 : Value) : Tch (fun k => k = b) W (put4 W b v0 v1 v2 v3) :=
 (((Tch.setCell (P := fun k => k = b) (Tch.refl _ W) (p := ⟨b, 0, none⟩) (.inl rfl) _).setCell (p := ⟨b, 1, none⟩) (.inl rfl) _).setCell (p := ⟨b, 2, none⟩) (.inl rfl) _).setCell (p := ⟨b, 3, none⟩) (.inl rfl) _
theorem g_cells {W : World} {b : Nat} {a0 a1 a2 a3 : Value} (h : W.heap[b]? = some (.cells #[a0, a1, a2, a3] 31 (0, 0))) :
  W.cell? ⟨b, 0, none⟩ = some a0 ∧ W.cell? ⟨b, 1, none⟩ = some a1 ∧ W.cell? ⟨b, 2, none⟩ = some a2 ∧ W.cell? ⟨b, 3, none⟩ = some a3 ∧ W.frozen? ⟨b, 0, none⟩ = false ∧ W.frozen? ⟨b, 1, none⟩ = false ∧ W.frozen? ⟨b, 2, none⟩ = false ∧ W.frozen? ⟨b, 3, none⟩ = false := by
 refine ⟨?_, ?_, ?_, ?_, ?_, ?_, ?_, ?_⟩ <;> simp [World.cell?, World.frozen?, h]
theorem ret26 {R : Ending → World → Prop} {a : Act} {W : World} {b4 : Nat} {v0 v1 v2 v3 u : Value} (h4 : a.tmps.getD 4 undef = .pointer (some ⟨b4, 0, none⟩)) (h5 : a.tmps.getD 5 undef = u) (hd : a.defers = []) (hblk : W.heap[b4]? = some (.cells #[v0, v1, v2, v3] 31 (0, 0))) (h : R (.returned (.tuple #[.agg #[v0, v1, v2, v3], u])) W) : bodyPost Tryz.prog Tryz.f26 R .ret a W := by
 obtain ⟨k0, k1, k2, k3, f0, f1, f2, f3⟩ := g_cells hblk
 have hu31 := Tryz.underlying31
 refine ⟨hd, _, ?_, h⟩
 have e4 : a.tmps[4]?.getD undef = .pointer (some ⟨b4, 0, none⟩) := by simpa using h4
 have e5 : a.tmps[5]?.getD undef = u := by simpa using h5
 simp [results, Tryz.results26, e4, e5]
 go_simp
set_option maxHeartbeats 8000000 in
set_option maxRecDepth 100000 in
theorem look_no (w : World) (H : Sh) (S : St) (hR : RAt H w S) (f : Int) (he : S.byE f ≠ 0) :
  Calls Tryz.prog 26 #[.pointer (some ⟨H.r, 0, none⟩), .int .i64 f] w (LPost H w ⟨[], [], false, 0⟩ (S.byE f) S) := by
 have hba : Below w.heap.size w (w.alloc (.cells #[.slice none 0 0, .slice none 0 0, .bool false, .int .i64 0] 31)) := (Below.refl _ w).alloc (Nat.le_refl _) _
 have hb := by_no (w.alloc (.cells #[.slice none 0 0, .slice none 0 0, .bool false, .int .i64 0] 31)) H S (hR.below hba) f he
 have HB := Lib.hid hb
 have HR := Lib.hid hR
 have HBA := Lib.hid hba
 have hu31 := Tryz.underlying31
 clear hb hR he hba
 go_enter Tryz.func26, Tryz.ntmps26
 go_wp2_with (go_at_call 63; (with_reducible refine HB.out.mono ?_); rintro e w1 ⟨g, rfl, hb1, hc1⟩)
 have HB1 := Lib.hid hb1
 have HC1 := Lib.hid hc1
 clear hb1 hc1
 have hblk0 := heap_alloc_new w (.cells #[.slice none 0 0, .slice none 0 0, .bool false, .int .i64 0] 31)
 have hblk1 := (HB1.out.block w.heap.size (by simp)).trans hblk0
 have HBLK1 := Lib.hid hblk1
 clear hblk0 hblk1
 go_wp2_with (go_at_call 64; (with_reducible refine HC1.out.mono ?_); rintro e w2 ⟨rfl, hb2⟩; have hblk2 := (hb2.block w.heap.size (by have := HB1.out.size; simp at this; omega)).trans HBLK1.out; obtain ⟨k0, k1, k2, k3, f0, f1, f2, f3⟩ := g_cells hblk2; have HBLK2 := Lib.hid hblk2; have HB2 := Lib.hid hb2; clear hblk2 hb2)
 have hb4 := put4_blk HBLK2.out (.slice none 0 0) (.slice none 0 0) (.bool false) (.int .i64 0)
 have ht4 := put4_tch w2 w.heap.size (.slice none 0 0) (.slice none 0 0) (.bool false) (.int .i64 0)
 unfold put4 at hb4 ht4
 try simp only [Exit.inBlock, Exit.then]
 refine ret26 rfl rfl rfl hb4 ?_
 have hba := HBA.out
 have hb1 := hba.trans (HB1.out.mono hba.size)
 have hb2 := hb1.trans (HB2.out.mono hb1.size)
 have hb5 : Below w.heap.size w _ := hb2.trans (ht4.below hb2.size (fun k hk e => by omega))
 exact ⟨H, _, _, rfl, ⟨(Turn.refl HR.out).below hb5, World.ownsRow_nil _ _ _ _, World.ownsRow_nil _ _ _ _, fun k hk => (by cases hk), fun k hk => (by cases hk)⟩⟩
end Go.Proofs.YtehnkebcbomidaaGreatDoor.Rt
