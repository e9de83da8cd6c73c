/- Part of a proof over the given program: Rn, Rq, Rr, Rv. -/
import Derived.Test.YtehnkebcbomidaaGreatDoorCn32
import Derived.Test.YtehnkebcbomidaaGreatDoorCn40
set_option linter.unusedVariables false
set_option linter.unusedSimpArgs false
namespace Go.Proofs.YtehnkebcbomidaaGreatDoor.Rt
open Go Go.RowKit Go.Proofs Go.Proofs.YtehnkebcbomidaaGreatDoorW.PrintWords Go.Proofs.YtehnkebcbomidaaGreatDoorW.PrintLast
theorem Ok.calm {N : Int} {S : St} (h : S.Ok N) (b : Bool) : St.Ok N { S with saving := b } := ⟨h.n1, h.l8, h.p8, h.al, h.a0, h.a1, h.ab, h.pb, h.m, h.q1, h.p1, h.pno⟩
theorem Rti.since {K : Nat → Prop} {r : Nat} {w w' : World} {S : St} (h : Rti K r w S) (hb : Below w.heap.size w w') : Rti (fun k => K k ∨ (w.heap.size ≤ k ∧ k < w'.heap.size)) r w' S := by
 obtain ⟨H, hR, hr, hK⟩ := h
 refine ⟨H, hR.below hb, hr, fun k hk => ?_⟩
 rcases hk with hk | hk
 ·exact ⟨Nat.lt_of_lt_of_le (hK k hk).1 hb.size, (hK k hk).2⟩
 ·exact ⟨hk.2, hR.fresh hk.1⟩
structure EPost (K : Nat → Prop) (r : Nat) (w : World) (S : St) (v : Value) (w' : World) : Prop where
 at_ : Rti (fun k => K k ∨ (w.heap.size ≤ k ∧ k < w'.heap.size)) r w' { S with saving := false }
 tch : Tch (fun k => ¬ K k) w w'
 rows : S.saving = true → RwsI w.heap.size w' v (rowsTo S 8)
 form : ∃ A n c, v = .slice A n c
def EEnd (K : Nat → Prop) (r : Nat) (w : World) (S : St) (e : Ending) (w' : World) : Prop := ∃ v, e = .returned (.tuple #[v, .int .i64 (if S.saving then 0 else 213)]) ∧ EPost K r w S v w'
set_option maxHeartbeats 4000000 in
set_option maxRecDepth 100000 in
theorem Rti.end_ {K : Nat → Prop} {r : Nat} {w : World} {S : St} {N : Int} (h : Rti K r w S) (ok : S.Ok N) (hp : ∀ n ∈ S.par, I63 n) (hT : TabZ w) (hK2 : K 2) : Calls Tryz.prog 48 #[.pointer (some ⟨r, 0, none⟩)] w (EEnd K r w S) := by
 have h0 := h
 obtain ⟨H, hR, rfl, hK⟩ := h
 have hu115 := Tryz.underlying115
 have c82 := hR.c_sv
 have f82 := hR.free 82
 cases hs : S.saving with
 | false =>
  rw [hs] at c82
  have HR := Lib.hid h0
  have HS := Lib.hid hs
  clear h0 hR hK ok hp hT
  go_enter Tryz.func48, Tryz.ntmps48
  go_wp2
  go_ret2
  refine ⟨.slice none 0 0, by rw [HS.out]; rfl, ?_, Tch.refl _ _, fun z => (by rw [HS.out] at z; cases z), ⟨none, 0, 0, rfl⟩⟩
  have e : ({ S with saving := false } : St) = S := by rw [← HS.out]
  rw [e]
  exact HR.out.since (Below.refl _ _)
 | true =>
  rw [hs] at c82
  have ht : Tch (fun k => k = H.r) w (w.setCell ⟨H.r, 82, none⟩ (.bool false)) := Tch.setCell (P := fun k => k = H.r) (Tch.refl _ _) (p := ⟨H.r, 82, none⟩) (.inl rfl) _
  have hR1 : RAt H (w.setCell ⟨H.r, 82, none⟩ (.bool false)) { S with saving := false } := hR.turn ht (blk_sv hR.blk false) rfl rfl rfl (fun _ _ => ⟨rfl, rfl, rfl⟩)
  have hne : H.r ≠ 2 := fun e => by have := (hK 2 hK2).2; rw [← e, hR.o1] at this; cases this
  have hT1 := hT.tch ht (fun e => hne e.symm)
  have hrw := rows_call _ H _ hR1 (Ok.calm ok false) hp hT1
  obtain ⟨w1, hw1⟩ : ∃ w1, w1 = w.setCell ⟨H.r, 82, none⟩ (.bool false) := ⟨_, rfl⟩
  have hK1 : Rti K H.r w1 { S with saving := false } := by rw [hw1]; exact ⟨H, hR1, rfl, fun k hk => ⟨Nat.lt_of_lt_of_le (hK k hk).1 ht.size, (hK k hk).2⟩⟩
  have htk : Tch (fun k => ¬ K k) w w1 := by rw [hw1]; exact ht.mono (fun k _ e hk => by have := (hK k hk).2; rw [e, hR.o1] at this; cases this)
  have hsz : w1.heap.size = w.heap.size := by rw [hw1]; simp [World.setCell]
  have HRW := Lib.hid hrw
  have HW1 := Lib.hid hw1
  have HK1 := Lib.hid hK1
  have HTK := Lib.hid htk
  have HSZ := Lib.hid hsz
  have HS := Lib.hid hs
  clear h0 hR hK ok hp hT ht hR1 hne hT1 hrw hK1 htk hw1 hsz hs
  go_enter Tryz.func48, Tryz.ntmps48
  go_wp2_with (go_at_call 43; (with_reducible refine HRW.out.mono ?_); rintro e w2 ⟨v, rfl, hv, hb2⟩)
  go_ret2
  rw [← HW1.out, HSZ.out] at hv hb2
  have hb3 : Below w1.heap.size w1 w2 := by rw [HSZ.out]; exact hb2
  have hat := HK1.out.since hb3
  rw [HSZ.out] at hat
  exact ⟨v, by rw [HS.out]; rfl, hat, HTK.out.trans (Q := fun _ => False) (Tch.of_below hb3) (fun _ _ e => e.elim), fun _ => hv, by obtain ⟨A, c, e⟩ := hv.form; exact ⟨A, _, c, e⟩⟩
def fnd (S : St) (p : Mg → Bool) (k : Nat) : Bool := (List.range k).any fun g => (S.get g).Q.any p
theorem fnd_succ (S : St) (p : Mg → Bool) (k : Nat) : fnd S p (k + 1) = (fnd S p k || (S.get k).Q.any p) := by
 unfold fnd
 rw [List.range_succ, List.any_append]
 simp
def fndQ (p : Mg → Bool) (Q : List Mg) (j : Nat) : Bool := (Q.take j).any p
theorem fndQ_succ (p : Mg → Bool) (Q : List Mg) (j : Nat) (hj : j < Q.length) : fndQ p Q (j + 1) = (fndQ p Q j || p Q[j]) := by
 unfold fndQ
 rw [List.take_succ_eq_append_getElem hj, List.any_append]
 simp
theorem fndQ_all (p : Mg → Bool) (Q : List Mg) : fndQ p Q Q.length = Q.any p := by unfold fndQ; rw [List.take_length]
structure Behind (H : Sh) (w : World) (S' : St) (H' : Sh) (w' : World) : Prop where
 turn : Turn H w S' H' w'
 q : ∀ g, H'.q g = H.q g
theorem Behind.below {H H1 : Sh} {w w1 w2 : World} {S1 : St} (h : Behind H w S1 H1 w1) (g : Below w1.heap.size w1 w2) : Behind H w S1 H1 w2 := ⟨h.turn.below g, h.q⟩
theorem Behind.trans {H H1 H2 : Sh} {w w1 w2 : World} {S1 S2 : St} (h : Behind H w S1 H1 w1) (g : Behind H1 w1 S2 H2 w2) : Behind H w S2 H2 w2 := ⟨h.turn.trans g.turn, fun k => (g.q k).trans (h.q k)⟩
def RemAt (H : Sh) (w : World) (S' : St) (e : Ending) (w' : World) : Prop := ∃ v, e = .returned v ∧ ∃ H', Behind H w S' H' w'
theorem rem_at {H1 H' : Sh} {w1 wm : World} {S1 : St} {k : Nat} (hk : k < 8) {m : Mem} {Q' : List Mg} (hb : Behind H1 w1 (S1.put k { m with Q := Q' }) H' wm) (h8 : S1.l.length = 8) (x : Mg) (hx : x ∈ Q') (hok : x.k.ok) :
  Calls Tryz.prog 75 #[.pointer (some ⟨H1.q k, 0, none⟩), .agg #[.int .i64 x.k.t, .int .i64 x.k.f, .int .i64 x.k.s]] wm (RemAt H1 w1 (S1.put k { m with Q := rmQ Q' x.k })) := by
 have hg : (S1.put k { m with Q := Q' }).get k = { m with Q := Q' } := by rw [St.get_put S1 h8 k k hk, if_pos rfl]
 have hq := hb.turn.at_.que k hk
 rw [hg] at hq
 have hc := remove_call wm _ _ _ Q' hq x.k hok ⟨x, hx, rfl⟩
 rw [hb.q k] at hc
 refine hc.mono (fun e w' hp => ?_)
 obtain ⟨mm, hp⟩ := hp
 rw [← hb.q k] at hp
 obtain ⟨he, v', ht⟩ := Turn.queue hb.turn.at_ (by rw [St.put_l]; exact h8) hk hp
 rw [hg, put_put] at ht
 exact ⟨_, he, _, hb.turn.trans ht, fun g => (Sh.put_q H' k _ _ _ g).trans (hb.q g)⟩
theorem half_put0 (S : St) (p : Mg → Bool) (k : Nat) (hk : k < 8) : (S.backTo p k).put k { S.get k with Q := half p (S.get k).Q 0 } = S.backTo p k := by
 have hbg : (S.backTo p k).get k = S.get k := by rw [backTo_get S p k k hk, if_neg (by omega)]
 rw [half_zero, show ({ S.get k with Q := (S.get k).Q } : Mem) = (S.backTo p k).get k from hbg.symm, put_self _ (backTo_l8 S p k) k hk]
theorem half_putN (S : St) (p : Mg → Bool) (k : Nat) (hk : k < 8) : (S.backTo p k).put k { S.get k with Q := half p (S.get k).Q (S.get k).Q.length } = S.backTo p (k + 1) := by
 rw [half_all, backTo_put S p k hk]
theorem mg_ok {n : Nat} {m : Mg} (h : MgOk n m) : m.k.ok := by
 obtain ⟨h1, h2, h3, h4, h5, h6, _⟩ := h
 exact ⟨i64_of _ (by omega) (by omega), i64_of _ (by omega) (by omega), i64_of _ (by omega) (by omega)⟩
theorem all1 (w : World) (f : Int) (s : Nat) (b1 : Bool) (e1 : Int) (h : w.heap[s]? = some (.cells #[.bool b1, .int .i64 e1] 121 (0, 0))) :
  Calls Tryz.prog 67 #[.int .i64 f, .slice (some ⟨s, 0, none⟩) 1 1] w fun e w' => AllRes w f (firstNo [(b1, e1)]) e w' ∧ Below w.heap.size w w' :=
 all_call w f s 1 [(b1, e1)] (by simp) (by simp) (fun j hj => by
  obtain rfl : j = 0 := by simpa using hj
  simp [World.cell?, h])
theorem Below.refl_al (w : World) (o : Obj) : Below w.heap.size w (w.alloc o) := (Below.refl _ w).alloc (Nat.le_refl _) o
set_option maxHeartbeats 16000000 in
set_option maxRecDepth 100000 in
theorem retract_yes (w : World) (H : Sh) (S : St) {N : Int} (hR : RAt H w S) (ok : S.Ok N) (n : Nat) (hn : n < 8) (he : S.byE n = 0) (h : Int) :
  Calls Tryz.prog 28 #[.pointer (some ⟨H.r, 0, none⟩), .int .i64 n, .int .i64 h] w (MPost H w (.int .i64 (S.retract n h).1) (S.retract n h).2) := by
 have hre : S.retract n h = ((if fnd S (hasMsg n h) 8 then 0 else 209), S.backTo (hasMsg n h) 8) := by
  unfold St.retract
  rw [if_neg (fun z => z he), backTo_all S ok.l8]
  rfl
 have hby := by_yes w H S hR n he
 have hld := fun w1 (hb : Below w.heap.size w w1) => (hR.below hb).ld
 have hb0 := backTo_zero S ok.l8 (hasMsg n h)
 have hix := fun j hj => idx113 H S j hj
 have hpl : ∀ j, j < 8 → ∃ A c, H.pl j = .slice A (S.get j).P.length c := fun j hj => by
  obtain ⟨A, c, e⟩ := own_slice (hR.pla j hj)
  exact ⟨A, c, e⟩
 have HRE := Lib.hid hre
 have HBY := Lib.hid hby
 have HLD := Lib.hid hld
 have HB0 := Lib.hid hb0
 have HPL := Lib.hid hpl
 have HR := Lib.hid hR
 have OK := Lib.hid ok
 clear hre hby hld hb0 hR ok he hpl
 generalize hCC : allCells H S = CC at HLD hix
 have HIX := Lib.hid hix
 clear hCC hix
 have hu115 := Tryz.underlying115
 have hu112 := Tryz.underlying112
 have hu113 := Tryz.underlying113
 have hu41 := Tryz.underlying41
 have hu39 := Tryz.underlying39
 have hu29 := Tryz.underlying29
 have hu121 := Tryz.underlying121
 have hu193 := Tryz.underlying193
 go_enter Tryz.func28, Tryz.ntmps28
 have hmix : Tryz.prog.follows .mixedOrders = true := by kernel_rfl
 go_wp2_with (go_at_call 63; (with_reducible refine HBY.out.mono ?_); rintro e w1 ⟨rfl, hb1⟩; have HB1 := Lib.hid hb1; clear hb1)
 have aE := agg113
 obtain ⟨n80, hn80⟩ : ∃ n, n = 80 := ⟨80, rfl⟩
 have zE : ∀ w, (Go.sizeOf 113).run Tryz.prog w = .ok n80 w := fun w => by rw [hn80]; exact size113 w
 have ldE := HLD.out w1 HB1.out
 rw [← hn80] at ldE
 clear hn80
 rename_i K aK
 refine opwp_value (v := .agg CC.toArray) (w1 := w1) ?_ ?_
 ·go_simp
 refine aK _ _ ?_
 simp only [Act.put, qa, qb, qc]
 clear aK K aE zE ldE
 go_wp2
 go_loopw [8, 24] (fun v i wr => ∃ k : Nat, k ≤ 8 ∧ i = .int .i64 k ∧ v = .bool (fnd S (hasMsg n h) k) ∧ ∃ H', Behind H w (S.backTo (hasMsg n h) k) H' wr) (fun _ i _ => 8 - (RowKit.intOf i).toNat)
 case atStart => exact ⟨0, by omega, rfl, rfl, H, ⟨by rw [HB0.out]; exact (Turn.refl HR.out).below HB1.out, fun _ => rfl⟩⟩
 case round =>
  obtain ⟨k, hk, rfl, rfl, Hk, hbk⟩ := hrel
  by_cases hlt : k < 8
  ·have hka : (k : Int) < 8 := by omega
   obtain ⟨PA, pc, hpl⟩ := HPL.out k hlt
   have hix := HIX.out k hlt
   unfold mcells at hix
   rw [hpl] at hix
   have hbg : (S.backTo (hasMsg n h) k).get k = S.get k := by rw [backTo_get S _ k k hlt, if_neg (by omega)]
   obtain ⟨W0, hW0⟩ : ∃ W0, W0 = wr.alloc (.cells #[.bool (S.get k).is, .bool (S.get k).con, .int .i64 (S.get k).time, .int .i64 (S.get k).look, .int .i64 (S.get k).kind, .int .i64 (S.get k).ask, .int .i64 (S.get k).sent, .pointer (some ⟨H.q k, 0, none⟩), .slice PA (S.get k).P.length pc, .int .u32 ((S.get k).subs : Nat)] 112) := ⟨_, rfl⟩
   have hb0 : Below wr.heap.size wr W0 := by rw [hW0]; exact (Below.refl _ _).alloc (Nat.le_refl _) _
   have hx := heap_alloc_new wr (.cells #[.bool (S.get k).is, .bool (S.get k).con, .int .i64 (S.get k).time, .int .i64 (S.get k).look, .int .i64 (S.get k).kind, .int .i64 (S.get k).ask, .int .i64 (S.get k).sent, .pointer (some ⟨H.q k, 0, none⟩), .slice PA (S.get k).P.length pc, .int .u32 ((S.get k).subs : Nat)] 112)
   rw [← hW0] at hx
   have hs0 : W0.heap.size = wr.heap.size + 1 := by rw [hW0]; simp
   have hbk0 := hbk.below hb0
   have hlc := list_call W0 (Hk.q k) (Hk.b k) (Hk.v k) _ (hbk0.turn.at_.que k hlt)
   rw [hbg, hbk.q k] at hlc
   have HQK := Lib.hid (hbk.q k)
   have hfr : ∀ g, wr.heap.size ≤ g → Hk.own g = 0 := fun g hg => hbk.turn.at_.fresh hg
   obtain ⟨bb, hbb⟩ : ∃ bb, bb = wr.heap.size := ⟨_, rfl⟩
   rw [← hbb] at hx
   have HW0 := Lib.hid hW0
   have HLC := Lib.hid hlc
   have HX := Lib.hid hx
   have HS0 := Lib.hid hs0
   have HBB := Lib.hid hbb
   have HBK0 := Lib.hid hbk0
   have HFR := Lib.hid hfr
   have HBG := Lib.hid hbg
   clear hW0 hlc hx hs0 hbb hb0 hbk hbk0 hfr hbg hpl
   go_wp2_with fail
   rw [← HW0.out, ← HBB.out]
   refine HLC.out.mono ?_
   rintro e w5 ⟨LA, lc, rfl, hl5, hb5⟩
   have hb5k := HBK0.out.below hb5
   have hx5 := (hb5.block bb (by have := HBB.out; have := HS0.out; omega)).trans HX.out
   have hown : ∀ g, (Value.slice LA (S.get k).Q.length lc).ownBlock = some g → Hk.own g = 0 := fun g hg => HFR.out g (by
    have h1 := own_base hl5 g hg
    have := HS0.out
    omega)
   have hbb0 : Hk.own bb = 0 := HFR.out bb (by have := HBB.out; omega)
   have HL5 := Lib.hid hl5
   have HB5K := Lib.hid hb5k
   have HX5 := Lib.hid hx5
   have HOWN := Lib.hid hown
   have HBB0 := Lib.hid hbb0
   have hql := (OK.out.m k).ql
   clear hix hl5 hb5 hb5k hx5 hown hbb0
   go_wp2
   obtain ⟨wo, hwo⟩ : ∃ wo, wo = wr := ⟨_, rfl⟩
   subst hwo
   go_loopw [8, 31] (fun v i wr => ∃ j : Nat, j ≤ (S.get k).Q.length ∧ i = .int .i64 j ∧ v = .bool (fnd S (hasMsg n h) k || fndQ (hasMsg n h) (S.get k).Q j) ∧ ∃ H', Behind Hk w5 ((S.backTo (hasMsg n h) k).put k { S.get k with Q := half (hasMsg n h) (S.get k).Q j }) H' wr) (fun _ i _ => (S.get k).Q.length - (RowKit.intOf i).toNat)
   case atStart => exact ⟨0, Nat.zero_le _, rfl, by simp [fndQ], Hk, ⟨by rw [half_put0 S _ k hlt]; exact Turn.refl HB5K.out.turn.at_, fun _ => rfl⟩⟩
   case round =>
    obtain ⟨j, hj, rfl, rfl, H', hbj⟩ := hrel
    by_cases hjl : j < (S.get k).Q.length
    ·have hji : (j : Int) < ((S.get k).Q.length : Int) := by omega
     have hj0 : (0 : Int) ≤ (j : Int) := by omega
     obtain ⟨g, hg, e0, e1, e2, e3, e4, e5⟩ := row_m HL5.out j hjl
     subst hg
     have hg0 := HOWN.out g rfl
     have e0 := hbj.turn.tch.cell e0 (fun e => e hg0)
     have e1 := hbj.turn.tch.cell e1 (fun e => e hg0)
     have e2 := hbj.turn.tch.cell e2 (fun e => e hg0)
     have e3 := hbj.turn.tch.cell e3 (fun e => e hg0)
     have e4 := hbj.turn.tch.cell e4 (fun e => e hg0)
     have e5 := hbj.turn.tch.cell e5 (fun e => e hg0)
     have y7 : w5.cell? ⟨bb, 7, none⟩ = some (.pointer (some ⟨H.q k, 0, none⟩)) := by simp [World.cell?, HX5.out]
     have y7 := hbj.turn.tch.cell y7 (fun e => e HBB0.out)
     have hfq := fndQ_succ (hasMsg n h) (S.get k).Q j hjl
     have hkp := half_keep (hasMsg n h) (S.get k).Q j hjl
     have htk := half_take (OK.out.m k).srt j hjl (p := hasMsg n h)
     have hmm := half_mem (hasMsg n h) (S.get k).Q j hjl
     have hok := mg_ok ((OK.out.m k).q _ (List.getElem_mem hjl)).1
     obtain ⟨m, hm⟩ : ∃ m, m = (S.get k).Q[j] := ⟨_, rfl⟩
     rw [← hm] at e0 e1 e2 e3 e4 e5 hfq hkp htk hmm hok
     clear hm hg0
     have hrm := rem_at hlt (hbj.below (Below.refl_al wr (.cells #[.int .i64 m.k.t, .int .i64 m.k.f, .int .i64 m.k.s, .int .i64 m.d, .int .i64 m.cl, .int .i64 m.bd] 41))) (backTo_l8 S _ k) m hmm hok
     rw [HQK.out] at hrm
     have y7a := cell_al y7 (.cells #[.int .i64 m.k.t, .int .i64 m.k.f, .int .i64 m.k.s, .int .i64 m.d, .int .i64 m.cl, .int .i64 m.bd] 41)
     have hbj2 := hbj.below (Below.refl_al wr (.cells #[.int .i64 m.k.t, .int .i64 m.k.f, .int .i64 m.k.s, .int .i64 m.d, .int .i64 m.cl, .int .i64 m.bd] 41))
     clear hmm hok hbj
     obtain ⟨⟨mt, mf, ms⟩, md, mc, mb⟩ := m
     simp only at e0 e1 e2 e3 e4 e5 hrm y7a htk hbj2
     have HFQ := Lib.hid hfq
     have HKP := Lib.hid hkp
     have HTK := Lib.hid htk
     have HRM := Lib.hid hrm
     have HBJ2 := Lib.hid hbj2
     clear hfq hkp htk hrm hbj2
     by_cases h1 : mf = (n : Int)
     ·subst h1
      by_cases h2 : ms = h
      ·subst h2
       have hp : hasMsg n ms ⟨⟨mt, n, ms⟩, md, mc, mb⟩ = true := by simp [hasMsg]
       go_wp2_with (go_at_call 75; refine HRM.out.mono ?_; rintro e w6 ⟨v6, rfl, H6, hb6⟩; have HB6 := Lib.hid hb6; clear hb6)
       exact ⟨⟨j + 1, hjl, by go_num, by rw [HFQ.out, hp]; simp, H6, by rw [HTK.out hp]; exact HB6.out⟩, by simp [RowKit.intOf]; omega⟩
      ·have hp : hasMsg n h ⟨⟨mt, n, ms⟩, md, mc, mb⟩ = false := by simp [hasMsg, h2]
       have HP := Lib.hid hp
       clear hp HRM
       go_wp2
       exact ⟨⟨j + 1, hjl, by go_num, by rw [HFQ.out, HP.out]; simp, H', by rw [HKP.out HP.out]; exact HBJ2.out⟩, by simp [RowKit.intOf]; omega⟩
     ·have hp : hasMsg n h ⟨⟨mt, mf, ms⟩, md, mc, mb⟩ = false := by simp [hasMsg, h1]
      have HP := Lib.hid hp
      clear hp HRM
      go_wp2
      exact ⟨⟨j + 1, hjl, by go_num, by rw [HFQ.out, HP.out]; simp, H', by rw [HKP.out HP.out]; exact HBJ2.out⟩, by simp [RowKit.intOf]; omega⟩
    ·obtain rfl : j = (S.get k).Q.length := by omega
     have hji : ¬ ((S.get k).Q.length : Int) < ((S.get k).Q.length : Int) := by omega
     have HBJ := Lib.hid hbj
     clear hbj
     go_wp2
     refine ⟨⟨k + 1, by omega, by go_num, by rw [fnd_succ, ← fndQ_all], H', ?_⟩, by simp [RowKit.intOf]; omega⟩
     have h1 := HBJ.out
     rw [half_putN S _ k hlt] at h1
     exact HB5K.out.trans h1
  ·obtain rfl : k = 8 := by omega
   have hka : ¬ (8 : Int) < 8 := by omega
   have hall := all1 (wr.alloc (.cells #[.bool (fnd S (hasMsg n h) 8), .int .i64 209] 121)) n wr.heap.size (fnd S (hasMsg n h) 8) 209 (heap_alloc_new wr _)
   have HRE2 := Lib.hid HRE.out
   have HALL := Lib.hid hall
   have HBK := Lib.hid hbk
   clear hall hbk
   generalize fnd S (hasMsg n h) 8 = fd at HRE2 HALL ⊢
   go_wp2_with (go_at_call 67; refine HALL.out.mono ?_; rintro e w6 ⟨hr6, hb6⟩; obtain ⟨v6, rfl, hr6⟩ := hr6.ret; have HR6 := Lib.hid hr6; have HB6 := Lib.hid hb6; clear hr6 hb6)
   have hb7 := (HBK.out.below (Below.refl_al wr _)).below HB6.out
   have her := errno_call w6 _ hb7.turn.at_.env n (firstNo [(fd, 209)]) v6 HR6.out (by cases fd <;> simp [firstNo])
   have HER := Lib.hid her
   have HB7 := Lib.hid hb7
   clear her hb7
   go_wp2_with (go_at_call 64; refine HER.out.mono ?_; rintro e w7 ⟨rfl, hb7⟩)
   go_ret
   rw [HRE2.out]
   have e : (firstNo [(fd, (209 : Int))]).getD 0 = if fd then 0 else 209 := by cases fd <;> rfl
   rw [e]
   exact (HB7.out.below hb7).turn.mpost _
end Go.Proofs.YtehnkebcbomidaaGreatDoor.Rt
namespace Go.Proofs.YtehnkebcbomidaaGreatDoor.Rt
open Go Go.RowKit Go.Proofs
theorem Rti.retract {K : Nat → Prop} {r : Nat} {w : World} {S : St} {N : Int} (h : Rti K r w S) (ok : S.Ok N) (f x : Int) : Calls Tryz.prog 28 #[.pointer (some ⟨r, 0, none⟩), .int .i64 f, .int .i64 x] w (RPost K r w (.int .i64 (S.retract f x).1) (S.retract f x).2) := h.of (fun H hR hr => by
 subst hr
 by_cases he : S.byE f = 0
 ·obtain ⟨n, rfl, hn⟩ := yes_in he
  exact retract_yes w H S hR ok n hn he x
 ·refine (retract_no w H S hR f x he).mono (fun e w' h => MPost.no hR ?_ h)
  unfold St.retract
  rw [if_pos he])
end Go.Proofs.YtehnkebcbomidaaGreatDoor.Rt
