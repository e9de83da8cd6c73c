/- Part of a proof over the given program: Re, Me, Xownx0. -/
import Derived.Test.YtehnkebcbomidaaGreatDoorCn17
set_option linter.unusedVariables false
set_option linter.unusedSimpArgs false
namespace Go.Proofs.YtehnkebcbomidaaGreatDoor.Rt
open Go Go.RowKit Go.Proofs Go.Proofs.YtehnkebcbomidaaGreatDoorW.PrintWords Go.Proofs.YtehnkebcbomidaaGreatDoorW.PrintLast
set_option maxHeartbeats 8000000 in
set_option maxRecDepth 100000 in
theorem resign_yes (w : World) (H : Sh) (S : St) {N : Int} (hR : RAt H w S) (ok : S.Ok N) (n : Nat) (hn : n < 8) (he : S.byE n = 0) :
  Calls Tryz.prog 50 #[.pointer (some ⟨H.r, 0, none⟩), .int .i64 n] w (MPost H w (.int .i64 (S.resign n).1) (S.resign n).2) := by
 have hj : S.resign n = (0, { S.put n { sent := (S.get n).sent } with pubs := S.pubs.set n 0 }) := by
  unfold St.resign
  rw [if_neg (fun k => k he), Int.toNat_natCast]
 rw [hj]
 have HR := Lib.hid hR
 have OK := Lib.hid ok
 have hby := by_yes w H S hR n he
 have HBY := Lib.hid hby
 have hR1 := fun w1 hb1 => hR.below (W' := w1) hb1
 have HR1 := Lib.hid hR1
 have hz0 : (0 : Int) ≤ (n : Int) := by omega
 have hz8 : (n : Int) < 8 := by omega
 clear hR hR1 hby he hj ok
 have hu115 := Tryz.underlying115
 have hu113 := Tryz.underlying113
 have hu112 := Tryz.underlying112
 go_enter Tryz.func50, Tryz.ntmps50
 have hmix : Tryz.prog.follows .mixedOrders = true := by kernel_rfl
 go_wp2_with (go_at_call 63; (with_reducible refine HBY.out.mono ?_); rintro e w1 ⟨rfl, hb1⟩)
 have hRa := HR1.out w1 hb1
 have c1 := hRa.c_sent hn
 have HRA := Lib.hid hRa
 have HB1 := Lib.hid hb1
 clear hRa hb1
 refine st_ (n := 15) (S := fun w' => w'.cell? ⟨H.r, 2 + n * 10 + 6, none⟩ = some (.int .i64 (S.get n).sent)) (ds := [14]) hmix rfl c1 (fun hHeld => ?_)
 refine pu_ (i := 0) (N := (some 13)) (v := ?_) (a' := ?_) rfl rfl (by kernel_rfl) (fun _ _ _ h => h) (Or.inl ⟨by rfl, ?_⟩) ?_ ?_
 rotate_left
 ·intro w'
  go_simp
  try with_reducible rfl
 rotate_left
 ·simp only [Act.put, qa, qb, qc]
  rfl
 refine pu_ (i := 1) (N := (some 14)) (v := ?_) (a' := ?_) rfl rfl (by kernel_rfl) (fun _ _ _ h => h) (Or.inl ⟨by rfl, ?_⟩) ?_ ?_
 rotate_left
 ·intro w'
  go_simp
  try with_reducible rfl
 rotate_left
 ·simp only [Act.put, qa, qb, qc]
  rfl
 refine pu_ (i := 2) (N := (some 15)) (v := ?_) (a' := ?_) rfl rfl (by kernel_rfl) (fun _ _ _ h => h) (Or.inl ⟨by rfl, ?_⟩) ?_ ?_
 rotate_left
 ·intro w'
  go_simp
  try with_reducible rfl
 rotate_left
 ·simp only [Act.put, qa, qb, qc]
  rfl
 refine pu_ (i := 3) (N := (some 16)) (v := ?_) (a' := ?_) rfl rfl (by kernel_rfl) (fun _ _ _ h => h) (Or.inl ⟨by rfl, ?_⟩) ?_ ?_
 rotate_left
 ·intro w'
  go_simp
  try with_reducible rfl
 rotate_left
 ·simp only [Act.put, qa, qb, qc]
  rfl
 refine pu_ (i := 4) (N := (some 17)) (v := ?_) (a' := ?_) rfl rfl (by kernel_rfl) (fun _ _ _ h => h) (Or.inl ⟨by rfl, ?_⟩) ?_ ?_
 rotate_left
 ·intro w'
  go_simp
  try with_reducible rfl
 rotate_left
 ·simp only [Act.put, qa, qb, qc]
  rfl
 refine pu_ (i := 5) (N := (some 18)) (v := ?_) (a' := ?_) rfl rfl (by kernel_rfl) (fun _ _ _ h => h) (Or.inl ⟨by rfl, ?_⟩) ?_ ?_
 rotate_left
 ·intro w'
  go_simp
  try with_reducible rfl
 rotate_left
 ·simp only [Act.put, qa, qb, qc]
  rfl
 refine pu_ (i := 6) (N := (some 19)) (v := ?_) (a' := ?_) rfl rfl (by kernel_rfl) (fun _ _ _ h => h) (Or.inl ⟨by rfl, ?_⟩) ?_ ?_
 rotate_left
 ·intro w'
  go_simp
  try with_reducible rfl
 rotate_left
 ·simp only [Act.put, qa, qb, qc]
  rfl
 refine pu_ (i := 7) (N := (some 20)) (v := ?_) (a' := ?_) rfl rfl (by kernel_rfl) (fun _ _ _ h => h) (Or.inl ⟨by rfl, ?_⟩) ?_ ?_
 rotate_left
 ·intro w'
  go_simp
  try with_reducible rfl
 rotate_left
 ·simp only [Act.put, qa, qb, qc]
  rfl
 refine tk_ (i := 8) (N := (some 21)) (v := ?_) (a' := ?_) rfl rfl (by kernel_rfl) (fun _ _ _ h => h) (Or.inl ⟨by rfl, ?_⟩) hHeld ?_ ?_
 rotate_left
 ·intro w' hS_
  have zz0 := hS_
  go_simp
  try with_reducible rfl
 rotate_left
 ·simp only [Act.put, qa, qb, qc]
  rfl
 refine pu_ (i := 11) (N := (some 24)) (v := ?_) (a' := ?_) rfl rfl (by kernel_rfl) (fun _ _ _ h => h) (Or.inl ⟨by rfl, ?_⟩) ?_ ?_
 rotate_left
 ·intro w'
  go_simp
  try with_reducible rfl
 rotate_left
 ·simp only [Act.put, qa, qb, qc]
  rfl
 refine pu_ (i := 12) (N := (some 25)) (v := ?_) (a' := ?_) rfl rfl (by kernel_rfl) (fun _ _ _ h => h) (Or.inl ⟨by rfl, ?_⟩) ?_ ?_
 rotate_left
 ·intro w'
  go_simp
  try with_reducible rfl
 rotate_left
 ·simp only [Act.put, qa, qb, qc]
  rfl
 refine on_ (i := 9) (N := (some 22)) rfl rfl (by kernel_rfl) (by decide) (fun K hK => ?_)
 refine goes_ Tryz.func83 (by kernel_rfl) rfl #[.int .i64 64] (by rfl) rfl rfl (by simp only [List.map_toArray, List.map_cons, List.map_nil]; rfl) ?_
 refine (new_call _).mono ?_
 rintro x w5 ⟨q, b, rfl, hq1, hq2, hq3, hq4⟩
 refine ⟨_, rfl, hK.out _ _ (pw_cell_below hq4 c1) (fun hHeld => ?_)⟩
 clear hK K
 refine norm_ (a' := ?_) ?_ ?_
 rotate_left
 ·show Act.put _ (some 22) _ = _
  simp only [Act.put, qa, qb, qc]
  rfl
 refine pu_ (i := 10) (N := (some 23)) (v := ?_) (a' := ?_) rfl rfl (by kernel_rfl) (fun _ _ _ h => h) (Or.inl ⟨by rfl, ?_⟩) ?_ ?_
 rotate_left
 ·intro w'
  go_simp
  try with_reducible rfl
 rotate_left
 ·simp only [Act.put, qa, qb, qc]
  rfl
 refine pu_ (i := 13) (N := (some 26)) (v := ?_) (a' := ?_) rfl rfl (by kernel_rfl) (fun _ _ _ h => h) (Or.inl ⟨by rfl, ?_⟩) ?_ ?_
 rotate_left
 ·intro w'
  go_simp
  try with_reducible rfl
 rotate_left
 ·simp only [Act.put, qa, qb, qc]
  rfl
 refine la_ (i := 14) (N := none) rfl rfl (by kernel_rfl) (by decide) (fun K hK => ?_)
 have hR5 := HR1.out w5 (HB1.out.drew.trans (hq4.mono HB1.out.size))
 have k0 := hR5.c_is hn
 have k1 := hR5.c_con hn
 have k2 := hR5.c_time hn
 have k3 := hR5.c_look hn
 have k4 := hR5.c_kind hn
 have k5 := hR5.c_ask hn
 have k6 := hR5.c_sent hn
 have k7 := hR5.c_q hn
 have k8 := hR5.c_pl hn
 have k9 := hR5.c_subs hn
 have f0 := hR5.free (2 + n * 10)
 have f1 := hR5.free (2 + n * 10 + 1)
 have f2 := hR5.free (2 + n * 10 + 2)
 have f3 := hR5.free (2 + n * 10 + 3)
 have f4 := hR5.free (2 + n * 10 + 4)
 have f5 := hR5.free (2 + n * 10 + 5)
 have f6 := hR5.free (2 + n * 10 + 6)
 have f7 := hR5.free (2 + n * 10 + 7)
 have f8 := hR5.free (2 + n * 10 + 8)
 have f9 := hR5.free (2 + n * 10 + 9)
 have HR5 := Lib.hid hR5
 have HQ3 := Lib.hid hq3
 have HQ4 := Lib.hid hq4
 clear hR5 hq3 hq4
 refine skip_ (w1 := (World.setCell (World.setCell (World.setCell (World.setCell (World.setCell (World.setCell (World.setCell (World.setCell (World.setCell (World.setCell w5 ⟨H.r, 2 + n * 10, none⟩ (.bool false)) ⟨H.r, 2 + n * 10 + 1, none⟩ (.bool false)) ⟨H.r, 2 + n * 10 + 2, none⟩ (.int .i64 0)) ⟨H.r, 2 + n * 10 + 3, none⟩ (.int .i64 0)) ⟨H.r, 2 + n * 10 + 4, none⟩ (.int .i64 0)) ⟨H.r, 2 + n * 10 + 5, none⟩ (.int .i64 0)) ⟨H.r, 2 + n * 10 + 6, none⟩ (.int .i64 (S.get n).sent)) ⟨H.r, 2 + n * 10 + 7, none⟩ (.pointer (some ⟨q, 0, none⟩))) ⟨H.r, 2 + n * 10 + 8, none⟩ (.slice none 0 0)) ⟨H.r, 2 + n * 10 + 9, none⟩ (.int .u32 0))) (by rfl) rfl (by go_simp) ?_
 refine hK.out _ _ ?_
 clear hK K
 refine done_ (by kernel_rfl) ?_
 have hput := rcA_ten (H := H) (S := S) (n := n) (W := w5) (by rw [rcA_self]; exact HR5.out.blk) hn (mcells_length H n _) (.bool false) (.bool false) (.int .i64 0) (.int .i64 0) (.int .i64 0) (.int .i64 0) (.int .i64 (S.get n).sent) (.pointer (some ⟨q, 0, none⟩)) (.slice none 0 0) (.int .u32 0)
 have ht2 := tch10 (P := fun k => k = H.r) (Tch.refl _ w5) (r := H.r) rfl (2 + n * 10) (.bool false) (.bool false) (.int .i64 0) (.int .i64 0) (.int .i64 0) (.int .i64 0) (.int .i64 (S.get n).sent) (.pointer (some ⟨q, 0, none⟩)) (.slice none 0 0) (.int .u32 0)
 unfold put10 at hput ht2
 clear k0 k1 k2 k3 k4 k5 k6 k7 k8 k9 f0 f1 f2 f3 f4 f5 f6 f7 f8 f9 c1
 generalize (World.setCell (World.setCell (World.setCell (World.setCell (World.setCell (World.setCell (World.setCell (World.setCell (World.setCell (World.setCell w5 ⟨H.r, 2 + n * 10, none⟩ (.bool false)) ⟨H.r, 2 + n * 10 + 1, none⟩ (.bool false)) ⟨H.r, 2 + n * 10 + 2, none⟩ (.int .i64 0)) ⟨H.r, 2 + n * 10 + 3, none⟩ (.int .i64 0)) ⟨H.r, 2 + n * 10 + 4, none⟩ (.int .i64 0)) ⟨H.r, 2 + n * 10 + 5, none⟩ (.int .i64 0)) ⟨H.r, 2 + n * 10 + 6, none⟩ (.int .i64 (S.get n).sent)) ⟨H.r, 2 + n * 10 + 7, none⟩ (.pointer (some ⟨q, 0, none⟩))) ⟨H.r, 2 + n * 10 + 8, none⟩ (.slice none 0 0)) ⟨H.r, 2 + n * 10 + 9, none⟩ (.int .u32 0)) = w2 at hput ht2 ⊢
 have htb := HR5.out.tab.frame (W' := w2) (fun k hk e => ht2.block k hk (fun z => by
  rcases e with e | e
  ·exact HR5.out.ne (by rw [← z, e])
  ·have := HR5.out.o3 k e
   rw [z, HR5.out.o1] at this
   omega))
 have c0 : w2.cell? ⟨H.r, 1, none⟩ = some (.pointer (some ⟨H.tb, 0, none⟩)) := by
  rw [cell_of_row w2 H.r 1 _ 115 (0, 0) hput]
  rfl
 have c1 := htb.cell n (S.pubs.getD n 0) (by
  rw [List.getElem?_append_left (by rw [htb.p8]; exact hn)]
  have : n < S.pubs.length := by rw [htb.p8]; exact hn
  rw [List.getD_eq_getElem?_getD, List.getElem?_eq_getElem this]; rfl)
 have c2 := htb.cell (8 + n) (S.get n).subs (by
  rw [List.getElem?_append_right (by rw [htb.p8]; omega), htb.p8, show 8 + n - 8 = n by omega, List.getElem?_map, List.getElem?_range hn]; rfl)
 rw [show 1 + (8 + n) = 9 + n by omega] at c2
 have hlv := leave_call w2 H.tb n _ _ hn c1 c2 (htb.free _) (htb.free _)
 have HLV := Lib.hid hlv
 have HPUT := Lib.hid hput
 have HT2 := Lib.hid ht2
 have HTB := Lib.hid htb
 clear hput ht2 htb c1 c2 hlv
 go_wp2_with (go_at_call 109; (with_reducible refine HLV.out.mono ?_); rintro e w6 ⟨rfl, rfl⟩)
 go_ret
 have hR := HR.out
 have ok := OK.out
 have htb := HTB.out
 have hs1 : w.heap.size ≤ w5.heap.size := Nat.le_trans HB1.out.size HQ4.out.size
 have hB5 : Below w.heap.size w w5 := HB1.out.drew.trans (HQ4.out.mono HB1.out.size)
 have ht4 : Tch (fun k => k = H.tb) w2 (((w2.setCell ⟨H.tb, 1 + n, none⟩ (.int .u32 0)).setCell ⟨H.tb, 9 + n, none⟩ (.int .u32 0)).drew) := ((Tch.setCell (P := fun k => k = H.tb) (Tch.refl _ w2) (p := ⟨H.tb, 1 + n, none⟩) (.inl rfl) _).setCell (p := ⟨H.tb, 9 + n, none⟩) (.inl rfl) _).drew
 have hblk2 : w2.heap[H.tb]? = some (.cells (tcells H.av S.pubs (subsOf S)).toArray 189 (0, 0)) := htb.blk
 have hb3 := blk_sub (blk_pub hblk2 ok.p8 n hn 0) (by rw [List.length_set]; exact ok.p8) n 0
 have hb4 : (((w2.setCell ⟨H.tb, 1 + n, none⟩ (.int .u32 0)).setCell ⟨H.tb, 9 + n, none⟩ (.int .u32 0)).drew).heap[H.tb]? = some (.cells (tcells H.av (S.pubs.set n 0) ((subsOf S).set n 0)).toArray 189 (0, 0)) := hb3
 have hrl : H.r < w2.heap.size := (Array.getElem?_eq_some_iff.1 HPUT.out).1
 have hrb := (ht4.block H.r hrl hR.ne).trans HPUT.out
 generalize ((w2.setCell ⟨H.tb, 1 + n, none⟩ (.int .u32 0)).setCell ⟨H.tb, 9 + n, none⟩ (.int .u32 0)).drew = w6 at ht4 hb4 hrb ⊢
 have hqb := (Array.getElem?_eq_some_iff.1 HQ3.out.blk).1
 obtain ⟨D, ⟨es, clock, hm1, hm2⟩, hm3⟩ := HQ3.out.map
 have hbb := (Array.getElem?_eq_some_iff.1 hm1).1
 have hs2 := HT2.out.size
 have hs3 := ht4.size
 have hs4 : w.heap.size ≤ q := Nat.le_trans HB1.out.size hq1
 have hs5 : w.heap.size ≤ b := Nat.le_trans HB1.out.size hq2
 have hrw : H.r < w.heap.size := (Array.getElem?_eq_some_iff.1 hR.blk).1
 have htw : H.tb < w.heap.size := (Array.getElem?_eq_some_iff.1 hR.tab.blk).1
 have hT : Tch (fun k => k = H.r ∨ k = H.tb) w w6 := ((Tch.of_below hB5).trans (Q := fun k => k = H.r) HT2.out (fun k _ e => .inl e)).trans ht4 (fun k _ e => .inr e)
 have hqf : ∀ k, QFp q b (.slice none 0 0) k → k < w6.heap.size ∧ (H.own k = 8 + n ∨ w.heap.size ≤ k) := by
  intro k e
  rcases e with e | e | e
  ·subst e; exact ⟨by omega, .inr hs4⟩
  ·subst e; exact ⟨by omega, .inr hs5⟩
  ·cases e
 have hpf : ∀ k, (Value.slice none 0 0).ownBlock = some k → H.own k = 16 + n ∨ w.heap.size ≤ k := fun k e => by cases e
 have hqin : QIn w6 q b (.slice none 0 0) [] := ⟨[], (HQ3.out.frame (fun k hk e => HT2.out.block k hk (fun z => by
   rcases e with e | e | e
   ·omega
   ·omega
   ·cases e))).frame (fun k hk e => ht4.block k hk (fun z => by
   rcases e with e | e | e
   ·omega
   ·omega
   ·cases e)), QH.nil⟩
 have hfin := hR.member ok.l8 hn { sent := (S.get n).sent } q b (.slice none 0 0) (.slice none 0 0) (S' := { S.put n { sent := (S.get n).sent } with pubs := S.pubs.set n 0 }) rfl rfl rfl
  (hT.mono (fun k _ e => by
   rcases e with e | e
   ·left; rw [e]; exact hR.o1
   ·right; left; rw [e]; exact hR.o2)) (by
   rw [hrb]
   refine congrArg (fun L : List Value => some (Obj.cells L.toArray 115 (0, 0))) ?_
   have hz := rcA_put H S ok.l8 n hn q b (.slice none 0 0) (.slice none 0 0) { sent := (S.get n).sent }
   rw [mcells_put] at hz
   exact hz) (by
   rw [hb4]
   refine congrArg (fun L : List Nat => some (Obj.cells (tcells H.av (S.pubs.set n 0) L).toArray 189 (0, 0))) ?_
   exact (subsOf_put S ok.l8 n hn { sent := (S.get n).sent }).symm) (by simp [ok.p8]) hqin hqf (World.ownsRow_nil _ _ _ _) hpf (fun k _ e => by cases e)
 exact ⟨_, rfl, hfin, rfl, fun k hk h0 => Sh.put_own hR (fun k e => (hqf k e).2) hpf k hk h0, hT.mono (fun k _ e => by
  rcases e with e | e
  ·rw [e, hR.o1]; decide
  ·rw [e, hR.o2]; decide)⟩
def LM.cells (m : LM) : List Value := [.bool m.reg, .bool m.con, .int .i64 m.time, .int .i64 m.look, .int .i64 m.kind, .int .i64 m.ask, .int .i64 m.first]
def lmF (L : List LM) : List Value := L.flatMap LM.cells
def fstM (Q : List Mg) : Mg := match Q with
 | [] => ⟨⟨0, 0, 0⟩, 0, 0, 0⟩
 | m :: _ => m
theorem first_call (w : World) (q b : Nat) (v : Value) (Q : List Mg) (h : QIn w q b v Q) :
  Calls Tryz.prog 139 #[.pointer (some ⟨q, 0, none⟩)] w fun e w' => e = .returned (.tuple #[(fstM Q).val, .bool (!Q.isEmpty)]) ∧ Below w.heap.size w w' := by
 obtain ⟨L, hq, hh⟩ := h
 have hl := hh.len
 cases Q with
 | nil =>
  obtain rfl : L = [] := List.eq_nil_of_length_eq_zero (by simpa using hl)
  exact first_none w q b v hq
 | cons m Q =>
  obtain ⟨h0, h1⟩ := hh.head
  cases L with
  | nil => simp at h0
  | cons x L =>
   have : x = m := by simpa using h1
   subst this
   exact first_some w q b v x L hq
theorem agg113 (w : World) : (isAgg 113).run Tryz.prog w = .ok true w := by kernel_rfl
theorem size113 (w : World) : (Go.sizeOf 113).run Tryz.prog w = .ok 80 w := by kernel_rfl
theorem agg112 (w : World) : (isAgg 112).run Tryz.prog w = .ok true w := by kernel_rfl
theorem size112 (w : World) : (Go.sizeOf 112).run Tryz.prog w = .ok 10 w := by kernel_rfl
def allCells (H : Sh) (S : St) : List Value := (List.range 8).flatMap fun n => mcells H n (S.get n)
theorem allCells_length (H : Sh) (S : St) : (allCells H S).length = 80 := flat8_length _ (fun n => mcells_length H n _)
theorem RAt.ld {H : Sh} {W : World} {S : St} (h : RAt H W S) : Sem.run Tryz.prog (loadCellsFrom ⟨H.r, 2, none⟩ 0 80 #[]) W = .ok (allCells H S).toArray W := by
 refine ldC W H.r 2 80 _ (allCells_length H S) (fun j v hj => ?_)
 have hlt : j < 80 := by
  have := (List.getElem?_eq_some_iff.1 hj).1
  rw [allCells_length] at this
  exact this
 refine h.cell ?_
 have e := rcells_mem H S (j / 10) (j % 10) (by omega) (by omega)
 have e2 := flatR_get (fun n => mcells H n (S.get n)) 8 10 (fun n => mcells_length H n _) (j / 10) (j % 10) (by omega) (by omega)
 rw [show 2 + j / 10 * 10 + j % 10 = 2 + j by omega] at e
 rw [show j / 10 * 10 + j % 10 = j by omega] at e2
 rw [e]
 exact e2.symm.trans hj
theorem idx113 (H : Sh) (S : St) (j : Nat) (hj : j < 8) (w : World) : (Instr.index 113 (.agg (allCells H S).toArray) (.int .i64 j)).run Tryz.prog w = .ok (.agg (mcells H j (S.get j)).toArray) w := by
 have hin : (0 : Int) ≤ (j : Int) ∧ (j : Int) < (8 : Nat) := ⟨by omega, by omega⟩
 have e : List.take 10 (List.drop (j * 10) (allCells H S)) = mcells H j (S.get j) := by
  refine List.ext_getElem? fun k => ?_
  by_cases hk : k < 10
  ·rw [List.getElem?_take_of_lt (by omega), List.getElem?_drop]
   exact flatR_get (fun n => mcells H n (S.get n)) 8 10 (fun n => mcells_length H n _) j k hj hk
  ·rw [List.getElem?_eq_none (by rw [List.length_take]; omega), List.getElem?_eq_none (by rw [mcells_length]; omega)]
 have hu113 := Tryz.underlying113
 simp [Instr.index, run_underlying hu113, asIntOf, hin, part, agg112, size112, go_sem, e, hj]
theorem lm_succ (S : St) (h8 : S.l.length = 8) (k : Nat) (hk : k < 8) : lmF (S.members.take (k + 1)) = lmF (S.members.take k) ++ (S.get k).lm.cells := by
 unfold lmF St.members
 have hk2 : k < (S.l.map Mem.lm).length := by simp [h8, hk]
 rw [List.take_succ_eq_append_getElem hk2, List.flatMap_append]
 have : (S.l.map Mem.lm)[k] = (S.get k).lm := by
  rw [List.getElem_map]
  unfold St.get
  rw [List.getD_eq_getElem?_getD, List.getElem?_eq_getElem (by rw [h8]; exact hk)]
  rfl
 rw [this]
 simp
theorem inf195 : (Tryz.prog.info? 195).map (fun i => (i.zero, i.size, i.bytes)) = some (some (.agg #[.bool false, .bool false, .int .i64 0, .int .i64 0, .int .i64 0, .int .i64 0, .int .i64 0]), 7, 48) := by kernel_rfl
theorem opwp_value {P : Program} {o : Oper} {a : Act} {w w1 : World} {v : Value} {K : Act → World → Prop} {Q : Exit → Act → World → Prop} (hrun : (execOp a.eval o).run P w = .ok (.value v) w1) (h : K (a.put o.dst v) w1) : o.wp P a w K Q := by
 unfold Oper.wp
 rw [hrun]
 exact h
set_option maxHeartbeats 8000000 in
set_option maxRecDepth 100000 in
theorem members_call (w : World) (H : Sh) (S : St) (hR : RAt H w S) (h8 : S.l.length = 8) :
  Calls Tryz.prog 69 #[.pointer (some ⟨H.r, 0, none⟩)] w fun e w' => ∃ A c, e = .returned (.slice A 8 c) ∧ w'.ownsRow w.heap.size 195 7 (.slice A 8 c) 8 (lmF S.members) ∧ Below w.heap.size w w' := by
 have hu115 := Tryz.underlying115
 have hu112 := Tryz.underlying112
 have hu41 := Tryz.underlying41
 have hu39 := Tryz.underlying39
 have hu195 := Tryz.underlying195
 have hu123 := Tryz.underlying123
 have ldE := hR.ld
 obtain ⟨i0, hi, hz0, hz1, hz2⟩ := info_parts inf195
 have HI := Lib.hid hi
 have HZ0 := Lib.hid hz0
 have HZ1 := Lib.hid hz1
 have HZ2 := Lib.hid hz2
 have hidx := fun j hj => idx113 H S j hj
 have HIX := Lib.hid hidx
 generalize allCells H S = CC at ldE hidx HIX
 have LD := Lib.hid ldE
 have HR := Lib.hid hR
 have H8 := Lib.hid h8
 clear hR h8 hi hz0 hz1 hz2 hidx ldE
 go_enter Tryz.func69, Tryz.ntmps69
 go_wp2
 have aE := agg113
 obtain ⟨n80, hn80⟩ : ∃ n, n = 80 := ⟨80, rfl⟩
 have zE : ∀ w, (Go.sizeOf 113).run Tryz.prog w = .ok n80 w := fun w => by rw [hn80]; exact size113 w
 have ldE := LD.out
 rw [← hn80] at ldE
 clear hn80
 rename_i K aK
 refine opwp_value (v := .agg CC.toArray) (w1 := w) ?_ ?_
 ·go_simp
 refine aK _ _ ?_
 simp only [Act.put, qa, qb, qc]
 clear aK K aE zE ldE
 go_wp2
 go_loopw [3, 13] (fun v i wr => ∃ (A : Option Addr) (c k : Nat), k ≤ 8 ∧ i = .int .i64 k ∧ v = .slice A k c ∧ wr.ownsRow w.heap.size 195 7 (.slice A k c) k (lmF (S.members.take k)) ∧ Below w.heap.size w wr) (fun _ i _ => 8 - (RowKit.intOf i).toNat)
 case atStart => exact ⟨none, 0, 0, by omega, rfl, rfl, World.ownsRow_nil _ _ _ _, Below.refl _ _⟩
 case round =>
  obtain ⟨A, c, k, hk, rfl, rfl, ho, hb⟩ := hrel
  by_cases hlt : k < 8
  ·have hka : (k : Int) < 8 := by omega
   have hRr := HR.out.below hb
   have hq := hRr.que k hlt
   obtain ⟨PA, pc, hpl⟩ := own_slice (hRr.pla k hlt)
   have hix := HIX.out k hlt
   unfold mcells at hix
   rw [hpl] at hix
   have hsn := lm_succ S H8.out k hlt
   have HO := Lib.hid ho
   have HB := Lib.hid hb
   have HSN := Lib.hid hsn
   have HQ := Lib.hid hq
   clear ho hb hsn hq hRr hpl
   obtain ⟨W0, hW0⟩ : ∃ W0, W0 = wr.alloc (.cells #[.bool (S.get k).is, .bool (S.get k).con, .int .i64 (S.get k).time, .int .i64 (S.get k).look, .int .i64 (S.get k).kind, .int .i64 (S.get k).ask, .int .i64 (S.get k).sent, .pointer (some ⟨H.q k, 0, none⟩), .slice PA (S.get k).P.length pc, .int .u32 ((S.get k).subs : Nat)] 112) := ⟨_, rfl⟩
   have hb0 : Below wr.heap.size wr W0 := by rw [hW0]; exact (Below.refl _ _).alloc (Nat.le_refl _) _
   have hx := heap_alloc_new wr (.cells #[.bool (S.get k).is, .bool (S.get k).con, .int .i64 (S.get k).time, .int .i64 (S.get k).look, .int .i64 (S.get k).kind, .int .i64 (S.get k).ask, .int .i64 (S.get k).sent, .pointer (some ⟨H.q k, 0, none⟩), .slice PA (S.get k).P.length pc, .int .u32 ((S.get k).subs : Nat)] 112)
   rw [← hW0] at hx
   have hs0 : W0.heap.size = wr.heap.size + 1 := by rw [hW0]; simp
   have hfst := first_call W0 (H.q k) (H.b k) (H.v k) (S.get k).Q (HQ.out.frame (fun j hj _ => hb0.block j hj))
   unfold Mg.val at hfst
   have hlm : (S.get k).lm.first = if (!(S.get k).Q.isEmpty) = true then (fstM (S.get k).Q).k.t else 1125899906842624 := by
    unfold Mem.lm fstM
    cases (S.get k).Q <;> rfl
   generalize fstM (S.get k).Q = x at hfst hlm
   generalize (!(S.get k).Q.isEmpty) = bx at hfst hlm
   obtain ⟨bb, hbb⟩ : ∃ bb, bb = wr.heap.size := ⟨_, rfl⟩
   rw [← hbb] at hx
   have HW0 := Lib.hid hW0
   have HFST := Lib.hid hfst
   have HLM := Lib.hid hlm
   have HX := Lib.hid hx
   have HS0 := Lib.hid hs0
   have HBB := Lib.hid hbb
   have HB0 := Lib.hid hb0
   clear hW0 hfst hlm hx hs0 hbb hb0 HIX
   go_wp2_with fail
   rw [← HW0.out, ← HBB.out]
   refine HFST.out.mono ?_
   rintro e w5 ⟨rfl, hb5⟩
   have hs5 : bb < w5.heap.size := by have := HBB.out; have := HS0.out; have := hb5.size; omega
   have hsz : w.heap.size ≤ w5.heap.size := by have := HB.out.size; have := HBB.out; omega
   have hx5 := (hb5.block bb (by have := HBB.out; have := HS0.out; omega)).trans HX.out
   have x0 : w5.cell? ⟨bb, 0, none⟩ = some (.bool (S.get k).is) := by simp [World.cell?, hx5]
   have x1 : w5.cell? ⟨bb, 1, none⟩ = some (.bool (S.get k).con) := by simp [World.cell?, hx5]
   have x2 : w5.cell? ⟨bb, 2, none⟩ = some (.int .i64 (S.get k).time) := by simp [World.cell?, hx5]
   have x3 : w5.cell? ⟨bb, 3, none⟩ = some (.int .i64 (S.get k).look) := by simp [World.cell?, hx5]
   have x4 : w5.cell? ⟨bb, 4, none⟩ = some (.int .i64 (S.get k).kind) := by simp [World.cell?, hx5]
   have x5 : w5.cell? ⟨bb, 5, none⟩ = some (.int .i64 (S.get k).ask) := by simp [World.cell?, hx5]
   have hb7 : Below wr.heap.size wr w5 := HB0.out.trans (hb5.mono (by have := HS0.out; omega))
   have ho5 : w5.ownsRow w.heap.size 195 7 (.slice A k c) k (lmF (S.members.take k)) := own_move HO.out (fun j hj => hb7.block j (own_lt HO.out j hj))
   have HO5 := Lib.hid ho5
   have HB7 := Lib.hid hb7
   have HB5 := Lib.hid hb5
   have HSZ := Lib.hid hsz
   clear hx5 ho5 hb7 hb5 hsz hix
   cases bx with
   | true =>
    have HA := Lib.hid ((HO5.out.alloc (.cells #[.int .i64 x.k.t, .int .i64 x.k.f, .int .i64 x.k.s, .int .i64 x.d, .int .i64 x.cl, .int .i64 x.bd] 41)).alloc (.cells #[.bool (decide (0 < (S.get k).look)), .bool (S.get k).con, .int .i64 (S.get k).time, .int .i64 (S.get k).look, .int .i64 (S.get k).kind, .int .i64 (S.get k).ask, .int .i64 x.k.t] 195))
    have hnw := World.news_of_block (heap_alloc_new (w5.alloc (.cells #[.int .i64 x.k.t, .int .i64 x.k.f, .int .i64 x.k.s, .int .i64 x.d, .int .i64 x.cl, .int .i64 x.bd] 41)) (.cells #[.bool (decide (0 < (S.get k).look)), .bool (S.get k).con, .int .i64 (S.get k).time, .int .i64 (S.get k).look, .int .i64 (S.get k).kind, .int .i64 (S.get k).ask, .int .i64 x.k.t] 195))
    rw [World.size_alloc] at hnw
    have HN := Lib.hid hnw
    clear hnw
    go_wp2_with (at_builtin; go_loud (refine wpList_append_own _ rfl (.tmp 26) (.tmp 42) 123 rfl w.heap.size 195 i0 _ 7 48 hu123 HI.out HZ0.out HZ1.out HZ2.out rfl (by decide) (.slice A k c) k (lmF (S.members.take k)) rfl HA.out ⟨w5.heap.size + 1, 0, none⟩ 1 1 [.bool (decide (0 < (S.get k).look)), .bool (S.get k).con, .int .i64 (S.get k).time, .int .i64 (S.get k).look, .int .i64 (S.get k).kind, .int .i64 (S.get k).ask, .int .i64 x.k.t] (by rfl) rfl HN.out (by simp [Value.oneCell']) (by unfold maxLen; omega) (by omega) (by have := HSZ.out; simp; omega) ?_); go_loud (intro v1 w1 hown hg hnn))
    have hf : ∃ A' c', v1 = .slice A' (k + 1) c' := by
     rcases hown.2 with ⟨rfl, h0⟩ | ⟨g, cap, cur, rfl, _⟩
     ·omega
     ·exact ⟨_, _, rfl⟩
    obtain ⟨A', c', rfl⟩ := hf
    have hlm : (S.get k).lm.first = x.k.t := HLM.out
    have hrow : lmF (S.members.take (k + 1)) = lmF (S.members.take k) ++ [.bool (decide (0 < (S.get k).look)), .bool (S.get k).con, .int .i64 (S.get k).time, .int .i64 (S.get k).look, .int .i64 (S.get k).kind, .int .i64 (S.get k).ask, .int .i64 x.k.t] := by
     rw [HSN.out, ← hlm]
     rfl
    rw [← hrow] at hown
    refine ⟨⟨A', c', k + 1, hlt, by go_num, rfl, hown, ?_⟩, by simp [RowKit.intOf]; omega⟩
    exact (((HB.out.trans (HB7.out.mono HB.out.size)).alloc HSZ.out _).alloc (by have := HSZ.out; simp; omega) _).grown hg (by have := HSZ.out; simp; omega) (fun q hq => own_base HO.out q hq)
   | false =>
    have HA := Lib.hid ((HO5.out.alloc (.cells #[.int .i64 x.k.t, .int .i64 x.k.f, .int .i64 x.k.s, .int .i64 x.d, .int .i64 x.cl, .int .i64 x.bd] 41)).alloc (.cells #[.bool (decide (0 < (S.get k).look)), .bool (S.get k).con, .int .i64 (S.get k).time, .int .i64 (S.get k).look, .int .i64 (S.get k).kind, .int .i64 (S.get k).ask, .int .i64 1125899906842624] 195))
    have hnw := World.news_of_block (heap_alloc_new (w5.alloc (.cells #[.int .i64 x.k.t, .int .i64 x.k.f, .int .i64 x.k.s, .int .i64 x.d, .int .i64 x.cl, .int .i64 x.bd] 41)) (.cells #[.bool (decide (0 < (S.get k).look)), .bool (S.get k).con, .int .i64 (S.get k).time, .int .i64 (S.get k).look, .int .i64 (S.get k).kind, .int .i64 (S.get k).ask, .int .i64 1125899906842624] 195))
    rw [World.size_alloc] at hnw
    have HN := Lib.hid hnw
    clear hnw
    go_wp2_with (at_builtin; go_loud (refine wpList_append_own _ rfl (.tmp 26) (.tmp 42) 123 rfl w.heap.size 195 i0 _ 7 48 hu123 HI.out HZ0.out HZ1.out HZ2.out rfl (by decide) (.slice A k c) k (lmF (S.members.take k)) rfl HA.out ⟨w5.heap.size + 1, 0, none⟩ 1 1 [.bool (decide (0 < (S.get k).look)), .bool (S.get k).con, .int .i64 (S.get k).time, .int .i64 (S.get k).look, .int .i64 (S.get k).kind, .int .i64 (S.get k).ask, .int .i64 1125899906842624] (by rfl) rfl HN.out (by simp [Value.oneCell']) (by unfold maxLen; omega) (by omega) (by have := HSZ.out; simp; omega) ?_); go_loud (intro v1 w1 hown hg hnn))
    have hf : ∃ A' c', v1 = .slice A' (k + 1) c' := by
     rcases hown.2 with ⟨rfl, h0⟩ | ⟨g, cap, cur, rfl, _⟩
     ·omega
     ·exact ⟨_, _, rfl⟩
    obtain ⟨A', c', rfl⟩ := hf
    have hlm : (S.get k).lm.first = 1125899906842624 := HLM.out
    have hrow : lmF (S.members.take (k + 1)) = lmF (S.members.take k) ++ [.bool (decide (0 < (S.get k).look)), .bool (S.get k).con, .int .i64 (S.get k).time, .int .i64 (S.get k).look, .int .i64 (S.get k).kind, .int .i64 (S.get k).ask, .int .i64 1125899906842624] := by
     rw [HSN.out, ← hlm]
     rfl
    rw [← hrow] at hown
    refine ⟨⟨A', c', k + 1, hlt, by go_num, rfl, hown, ?_⟩, by simp [RowKit.intOf]; omega⟩
    exact (((HB.out.trans (HB7.out.mono HB.out.size)).alloc HSZ.out _).alloc (by have := HSZ.out; simp; omega) _).grown hg (by have := HSZ.out; simp; omega) (fun q hq => own_base HO.out q hq)
  ·obtain rfl : k = 8 := by omega
   have hka : ¬ (8 : Int) < 8 := by omega
   have HO := Lib.hid ho
   have HB := Lib.hid hb
   clear ho hb
   go_wp2
   go_ret
   refine ⟨A, c, rfl, ?_, HB.out⟩
   have h1 := HO.out
   rw [List.take_of_length_le (by unfold St.members; rw [List.length_map, H8.out]; omega)] at h1
   exact h1
end Go.Proofs.YtehnkebcbomidaaGreatDoor.Rt
section
namespace Go.Proofs.YtehnkebcbomidaaGreatDoor.Xown
open Go.RowKit Go.Proofs.YtehnkebcbomidaaGreatDoorW.PrintWords Go.Proofs.YtehnkebcbomidaaGreatDoorW.PrintLast Go.Proofs.YtehnkebcbomidaaGreatDoorW.PrintMore
attribute [local go_sem] max2_int min2_int max_two min_two max_three min_three max_four min_four   -- for this text's walks alone
def errW : Option Int → Value
 | none => .nilIface
 | some c => .iface 0 (.int .i64 c)
theorem errW_none : errW none = .nilIface := rfl
theorem errW_some (c : Int) : errW (some c) = .iface 0 (.int .i64 c) := rfl
end Go.Proofs.YtehnkebcbomidaaGreatDoor.Xown
end
