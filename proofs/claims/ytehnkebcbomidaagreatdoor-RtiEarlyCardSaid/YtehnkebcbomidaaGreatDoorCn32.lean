/- Part of a proof over the given program: Ry. -/
import Derived.Test.YtehnkebcbomidaaGreatDoorCn31
set_option linter.unusedVariables false
set_option linter.unusedSimpArgs false
namespace Go.Proofs.YtehnkebcbomidaaGreatDoor.Rt
open Go Go.RowKit Go.Proofs Go.Proofs.YtehnkebcbomidaaGreatDoorW.PrintWords Go.Proofs.YtehnkebcbomidaaGreatDoorW.PrintLast
def RowsPost (w : World) (S : St) (e : Ending) (w' : World) : Prop := ∃ v, e = .returned v ∧ RwsI w.heap.size w' v (rowsTo S 8) ∧ Below w.heap.size w w'
theorem inf58 : (Tryz.prog.info? 58).map (fun i => (i.zero, i.size, i.bytes)) = some (some (.slice none 0 0), 1, 24) := by kernel_rfl
theorem mrow_cells {W : World} {b : Nat} {a0 a1 a2 a3 a4 a5 a6 a7 a8 a9 : Value} (h : W.heap[b]? = some (.cells #[a0, a1, a2, a3, a4, a5, a6, a7, a8, a9] 112 (0, 0))) :
  W.cell? ⟨b, 0, none⟩ = some a0 ∧ W.cell? ⟨b, 1, none⟩ = some a1 ∧ W.cell? ⟨b, 2, none⟩ = some a2 ∧ W.cell? ⟨b, 3, none⟩ = some a3 ∧ W.cell? ⟨b, 4, none⟩ = some a4 ∧ W.cell? ⟨b, 5, none⟩ = some a5 ∧ W.cell? ⟨b, 6, none⟩ = some a6 ∧ W.cell? ⟨b, 7, none⟩ = some a7 ∧ W.cell? ⟨b, 8, none⟩ = some a8 ∧ W.cell? ⟨b, 9, none⟩ = some a9 := by
 refine ⟨?_, ?_, ?_, ?_, ?_, ?_, ?_, ?_, ?_, ?_⟩ <;> simp [World.cell?, h]
theorem row_n (w : World) (A : Option Addr) (c : Nat) (l : List Int) (n : Nat) (hn : l.length = n) (hl : n ≤ 1000) (hr : IntsAt w A l) (hb : ∀ n ∈ l, I63 n) (ht : TabZ w) : Calls Tryz.prog 96 #[.slice A n c] w fun e w' => ∃ B c', e = .returned (.slice B n c') ∧ w'.ownsRow w.heap.size 9 1 (.slice B n c') n (strs l) ∧ Below w.heap.size w w' := by
 subst hn
 exact row_call w A c l hl hr hb ht
theorem bit_i (is : Bool) (w : World) : Calls Tryz.prog 98 #[.bool is] w fun e w' => e = .returned (.int .i64 (biI is)) ∧ w' = w := bit_call is w
def RowsRel (w : World) (S : St) (v i : Value) (wr : World) : Prop := ∃ k : Nat, k ≤ 8 ∧ i = .int .i64 k ∧ RwsI w.heap.size wr v (rowsTo S k) ∧ Below w.heap.size w wr
structure Two (b : Nat) (W : World) (v6 v7 : Value) (x y c d : Nat) : Prop where
 r6 : W.ownsRow b 3 1 v6 (1 + (bitsI x c).length) ((-1 :: bitsI x c).map (Value.int .i64))
 r7 : W.ownsRow b 3 1 v7 (1 + (bitsI y d).length) ((-1 :: bitsI y d).map (Value.int .i64))
 ne : ∀ k, v6.ownBlock = some k → v7.ownBlock ≠ some k
theorem bitsI_no {x c : Nat} (h : x.testBit c = false) : bitsI x (c + 1) = bitsI x c := by rw [bitsI_succ, h]; simp
theorem bitsI_yes {x c : Nat} (h : x.testBit c = true) : bitsI x (c + 1) = bitsI x c ++ [(c : Int)] := by rw [bitsI_succ, h]; simp
theorem Two.no6 {b : Nat} {W : World} {v6 v7 : Value} {x y c d : Nat} (h : Two b W v6 v7 x y c d) (hb : x.testBit c = false) : Two b W v6 v7 x y (c + 1) d := by
 obtain ⟨h1, h2, h3⟩ := h
 exact ⟨by rw [bitsI_no hb]; exact h1, h2, h3⟩
theorem Two.no7 {b : Nat} {W : World} {v6 v7 : Value} {x y c d : Nat} (h : Two b W v6 v7 x y c d) (hb : y.testBit d = false) : Two b W v6 v7 x y c (d + 1) := by
 obtain ⟨h1, h2, h3⟩ := h
 exact ⟨h1, by rw [bitsI_no hb]; exact h2, h3⟩
theorem Two.alloc {b : Nat} {W : World} {v6 v7 : Value} {x y c d : Nat} (h : Two b W v6 v7 x y c d) (o : Obj) : Two b (W.alloc o) v6 v7 x y c d := ⟨h.r6.alloc o, h.r7.alloc o, h.ne⟩
theorem Two.yes6 {b : Nat} {W W' : World} {v6 v7 v : Value} {x y c d : Nat} (h : Two b W v6 v7 x y c d) (hb : x.testBit c = true) (ho : W'.ownsRow b 3 1 v (1 + (bitsI x c).length + 1) ((-1 :: bitsI x c).map (Value.int .i64) ++ [.int .i64 c]))
  (hg : W.grownBy W' v6.ownBlock) (hl : ∀ k, v.ownBlock = some k → v6.ownBlock = some k ∨ W.heap.size ≤ k) : Two b W' v v7 x y (c + 1) d := by
 refine ⟨?_, h.r7.kept hg ?_, fun k hk e => ?_⟩
 ·rw [bitsI_yes hb, List.length_append, ← List.cons_append, List.map_append]
  exact ho
 ·cases e7 : v7.ownBlock with
  | none => exact .inl rfl
  | some k => exact .inr (fun e => h.ne k e.symm e7)
 ·rcases hl k hk with z | z
  ·exact h.ne k z e
  ·have := own_lt h.r7 k e; omega
theorem Two.yes7 {b : Nat} {W W' : World} {v6 v7 v : Value} {x y c d : Nat} (h : Two b W v6 v7 x y c d) (hb : y.testBit d = true) (ho : W'.ownsRow b 3 1 v (1 + (bitsI y d).length + 1) ((-1 :: bitsI y d).map (Value.int .i64) ++ [.int .i64 d]))
  (hg : W.grownBy W' v7.ownBlock) (hl : ∀ k, v.ownBlock = some k → v7.ownBlock = some k ∨ W.heap.size ≤ k) : Two b W' v6 v x y c (d + 1) := by
 refine ⟨h.r6.kept hg ?_, ?_, fun k hk e => ?_⟩
 ·cases e6 : v6.ownBlock with
  | none => exact .inl rfl
  | some k => exact .inr (fun e => h.ne k e6 e.symm)
 ·rw [bitsI_yes hb, List.length_append, ← List.cons_append, List.map_append]
  exact ho
 ·rcases hl k e with z | z
  ·exact h.ne k hk z
  ·have := own_lt h.r6 k hk; omega
def InRel (b : Nat) (w1 : World) (x y n : Nat) (v6 v7 i : Value) (wr : World) : Prop := ∃ c : Nat, c ≤ n ∧ i = .int .i64 c ∧ Two b wr v6 v7 x y c c ∧ Below b w1 wr
set_option maxHeartbeats 16000000 in
set_option maxRecDepth 100000 in
theorem rows_call (w : World) (H : Sh) (S : St) {N : Int} (hR : RAt H w S) (ok : S.Ok N) (hp : ∀ n ∈ S.par, I63 n) (hT : TabZ w) : Calls Tryz.prog 43 #[.pointer (some ⟨H.r, 0, none⟩)] w (RowsPost w S) := by
 obtain ⟨PA0, pc0, hpv⟩ : ∃ A c, H.pv = .slice A S.par.length c := by
  have := own_slice hR.par
  exact this
 have hpar : ∀ w', Below w.heap.size w w' → IntsAt w' PA0 S.par := fun w' hb => by
  have h := (hR.below hb).par
  rw [hpv] at h
  exact ints_own h
 have c0 := hR.c_par
 rw [hpv] at c0
 have hrow := row_call w PA0 pc0 S.par (by have := ok.a1; omega) (hpar w (Below.refl _ _)) hp hT
 have hld := fun w1 (hb : Below w.heap.size w w1) => (hR.below hb).ld
 have hix := fun j hj => idx113 H S j hj
 have hpl : ∀ j, j < 8 → ∃ A c, H.pl j = .slice A (S.get j).P.length c := fun j hj => by
  obtain ⟨A, c, e⟩ := own_slice (hR.pla j hj)
  exact ⟨A, c, e⟩
 have HPV := Lib.hid hpv
 have HPAR := Lib.hid hpar
 have HROW := Lib.hid hrow
 have HLD := Lib.hid hld
 have HPL := Lib.hid hpl
 have HR := Lib.hid hR
 have OK := Lib.hid ok
 have HPP := Lib.hid hp
 have HT := Lib.hid hT
 clear hpv hpar hrow hld hpl hR ok hp hT
 generalize hCC : allCells H S = CC at HLD hix
 have HIX := Lib.hid hix
 clear hCC hix
 have hu115 := Tryz.underlying115
 have hu112 := Tryz.underlying112
 have hu113 := Tryz.underlying113
 have hu52 := Tryz.underlying52
 have hu57 := Tryz.underlying57
 have hu58 := Tryz.underlying58
 go_enter Tryz.func43, Tryz.ntmps43
 have hmix : Tryz.prog.follows .mixedOrders = true := by kernel_rfl
 go_wp2_with (go_at_call 96; (with_reducible refine HROW.out.mono ?_); rintro e w1 ⟨RA, rc, rfl, hr1, hb1⟩; have HR1 := Lib.hid hr1; have HB1 := Lib.hid hb1; clear hr1 hb1)
 have hb2 : Below w.heap.size w (w1.alloc (.cells #[.slice RA S.par.length rc] 58)) := HB1.out.alloc HB1.out.size _
 have hrw : RwsI w.heap.size (w1.alloc (.cells #[.slice RA S.par.length rc] 58)) (.slice (some ⟨w1.heap.size, 0, none⟩) 1 1) (rowsTo S 0) := by
  refine ⟨[.slice RA S.par.length rc], rfl, World.ownsRow_lit (base := w.heap.size) (e := 58) (size := 1) w1 #[.slice RA S.par.length rc] 1 HB1.out.size (by unfold maxLen; omega) rfl, fun i h r hi hr => ?_⟩
  rcases i with _ | i
  ·have e1 : h = .slice RA S.par.length rc := by simpa using hi.symm
   have e2 : r = S.par := by simpa [rowsTo] using hr.symm
   subst e1 e2
   exact HR1.out.alloc _
  ·simp at hi
 obtain ⟨w2, hw2⟩ : ∃ w2, w2 = w1.alloc (.cells #[.slice RA S.par.length rc] 58) := ⟨_, rfl⟩
 rw [← hw2] at hb2 hrw ⊢
 have HB2 := Lib.hid hb2
 have HRW := Lib.hid hrw
 have aE := agg113
 obtain ⟨n80, hn80⟩ : ∃ n, n = 80 := ⟨80, rfl⟩
 have zE : ∀ w, (Go.sizeOf 113).run Tryz.prog w = .ok n80 w := fun w => by rw [hn80]; exact size113 w
 have ldE := HLD.out w2 HB2.out
 rw [← hn80] at ldE
 clear hn80 hw2 hb2 hrw c0
 rename_i K aK
 refine opwp_value (v := .agg CC.toArray) (w1 := w2) ?_ ?_
 ·go_simp
 refine aK _ _ ?_
 simp only [Act.put, qa, qb, qc]
 clear aK K aE zE ldE
 go_wp2
 go_loopw [3, 19] (fun v i wr => RowsRel w S v i wr) (fun _ i _ => 8 - (RowKit.intOf i).toNat)
 case atStart => exact ⟨0, by omega, rfl, HRW.out, HB2.out⟩
 case round =>
  obtain ⟨k, hk, rfl, hrw, hbr⟩ := hrel
  obtain ⟨B, cc, rfl⟩ := hrw.form
  by_cases hlt : k < 8
  ·have hka : (k : Int) < 8 := by omega
   obtain ⟨PA, pc, hpl⟩ := HPL.out k hlt
   have hix := HIX.out k hlt
   unfold mcells at hix
   rw [hpl] at hix
   have HPL1 := Lib.hid hpl
   have hRr := HR.out.below hbr
   have c0 := hRr.c_par
   rw [HPV.out] at c0
   have hb0 : Below w.heap.size w (wr.alloc (.cells #[.bool (S.get k).is, .bool (S.get k).con, .int .i64 (S.get k).time, .int .i64 (S.get k).look, .int .i64 (S.get k).kind, .int .i64 (S.get k).ask, .int .i64 (S.get k).sent, .pointer (some ⟨H.q k, 0, none⟩), .slice PA (S.get k).P.length pc, .int .u32 ((S.get k).subs : Nat)] 112)) := hbr.alloc hbr.size _
   have hx := heap_alloc_new wr (.cells #[.bool (S.get k).is, .bool (S.get k).con, .int .i64 (S.get k).time, .int .i64 (S.get k).look, .int .i64 (S.get k).kind, .int .i64 (S.get k).ask, .int .i64 (S.get k).sent, .pointer (some ⟨H.q k, 0, none⟩), .slice PA (S.get k).P.length pc, .int .u32 ((S.get k).subs : Nat)] 112)
   have c0b := cell_al (cell_al (cell_al c0 (.cells #[.bool (S.get k).is, .bool (S.get k).con, .int .i64 (S.get k).time, .int .i64 (S.get k).look, .int .i64 (S.get k).kind, .int .i64 (S.get k).ask, .int .i64 (S.get k).sent, .pointer (some ⟨H.q k, 0, none⟩), .slice PA (S.get k).P.length pc, .int .u32 ((S.get k).subs : Nat)] 112)) (.cells #[.int .i64 (-1)] 3)) (.cells #[.int .i64 (-1)] 3)
   have h6 := World.ownsRow_lit (base := (wr.alloc (.cells #[.bool (S.get k).is, .bool (S.get k).con, .int .i64 (S.get k).time, .int .i64 (S.get k).look, .int .i64 (S.get k).kind, .int .i64 (S.get k).ask, .int .i64 (S.get k).sent, .pointer (some ⟨H.q k, 0, none⟩), .slice PA (S.get k).P.length pc, .int .u32 ((S.get k).subs : Nat)] 112)).heap.size) (e := 3) (size := 1) (wr.alloc (.cells #[.bool (S.get k).is, .bool (S.get k).con, .int .i64 (S.get k).time, .int .i64 (S.get k).look, .int .i64 (S.get k).kind, .int .i64 (S.get k).ask, .int .i64 (S.get k).sent, .pointer (some ⟨H.q k, 0, none⟩), .slice PA (S.get k).P.length pc, .int .u32 ((S.get k).subs : Nat)] 112)) #[.int .i64 (-1)] 1 (Nat.le_refl _) (by unfold maxLen; omega) rfl
   have h7 := World.ownsRow_lit (base := (wr.alloc (.cells #[.bool (S.get k).is, .bool (S.get k).con, .int .i64 (S.get k).time, .int .i64 (S.get k).look, .int .i64 (S.get k).kind, .int .i64 (S.get k).ask, .int .i64 (S.get k).sent, .pointer (some ⟨H.q k, 0, none⟩), .slice PA (S.get k).P.length pc, .int .u32 ((S.get k).subs : Nat)] 112)).heap.size) (e := 3) (size := 1) ((wr.alloc (.cells #[.bool (S.get k).is, .bool (S.get k).con, .int .i64 (S.get k).time, .int .i64 (S.get k).look, .int .i64 (S.get k).kind, .int .i64 (S.get k).ask, .int .i64 (S.get k).sent, .pointer (some ⟨H.q k, 0, none⟩), .slice PA (S.get k).P.length pc, .int .u32 ((S.get k).subs : Nat)] 112)).alloc (.cells #[.int .i64 (-1)] 3)) #[.int .i64 (-1)] 1 (by simp) (by unfold maxLen; omega) rfl
   have h2 : Two (wr.heap.size + 1) (((wr.alloc (.cells #[.bool (S.get k).is, .bool (S.get k).con, .int .i64 (S.get k).time, .int .i64 (S.get k).look, .int .i64 (S.get k).kind, .int .i64 (S.get k).ask, .int .i64 (S.get k).sent, .pointer (some ⟨H.q k, 0, none⟩), .slice PA (S.get k).P.length pc, .int .u32 ((S.get k).subs : Nat)] 112)).alloc (.cells #[.int .i64 (-1)] 3)).alloc (.cells #[.int .i64 (-1)] 3)) (.slice (some ⟨wr.heap.size + 1, 0, none⟩) 1 1) (.slice (some ⟨wr.heap.size + 1 + 1, 0, none⟩) 1 1) (S.pubs.getD k 0) (S.get k).subs 0 0 := by
    simp only [World.size_alloc] at h6 h7
    exact ⟨h6.alloc _, h7, fun j hj e => by simp [Value.ownBlock] at hj e; omega⟩
   have hb1 : Below (wr.heap.size + 1) (wr.alloc (.cells #[.bool (S.get k).is, .bool (S.get k).con, .int .i64 (S.get k).time, .int .i64 (S.get k).look, .int .i64 (S.get k).kind, .int .i64 (S.get k).ask, .int .i64 (S.get k).sent, .pointer (some ⟨H.q k, 0, none⟩), .slice PA (S.get k).P.length pc, .int .u32 ((S.get k).subs : Nat)] 112)) (((wr.alloc (.cells #[.bool (S.get k).is, .bool (S.get k).con, .int .i64 (S.get k).time, .int .i64 (S.get k).look, .int .i64 (S.get k).kind, .int .i64 (S.get k).ask, .int .i64 (S.get k).sent, .pointer (some ⟨H.q k, 0, none⟩), .slice PA (S.get k).P.length pc, .int .u32 ((S.get k).subs : Nat)] 112)).alloc (.cells #[.int .i64 (-1)] 3)).alloc (.cells #[.int .i64 (-1)] 3)) := ((Below.refl _ _).alloc (by simp) _).alloc (by simp) _
   obtain ⟨W0, hW0⟩ : ∃ W0, W0 = wr.alloc (.cells #[.bool (S.get k).is, .bool (S.get k).con, .int .i64 (S.get k).time, .int .i64 (S.get k).look, .int .i64 (S.get k).kind, .int .i64 (S.get k).ask, .int .i64 (S.get k).sent, .pointer (some ⟨H.q k, 0, none⟩), .slice PA (S.get k).P.length pc, .int .u32 ((S.get k).subs : Nat)] 112) := ⟨_, rfl⟩
   have hs0 : W0.heap.size = wr.heap.size + 1 := by rw [hW0]; simp
   rw [← hW0] at hx h2 hb0 hb1
   have HW0 := Lib.hid hW0
   have HS0 := Lib.hid hs0
   have HB1_ := Lib.hid hb1
   have HIX1 := Lib.hid hix
   clear h6 h7 hW0 hs0 hb1
   have HRW1 := Lib.hid hrw
   have HBR := Lib.hid hbr
   have HX := Lib.hid hx
   have HB0 := Lib.hid hb0
   have H2 := Lib.hid h2
   clear hrw hbr hRr hx hb0 h2 hpl
   go_wp2
   rw [← HW0.out]
   obtain ⟨bb, hbb⟩ : ∃ bb, bb = wr.heap.size := ⟨_, rfl⟩
   have hx := HX.out
   have h2 := H2.out
   have hb1 := HB1_.out
   have hs0 := HS0.out
   rw [← hbb] at hx h2 hb1 hs0 ⊢
   have HX1 := Lib.hid hx
   have H21 := Lib.hid h2
   have HB11 := Lib.hid hb1
   have HS01 := Lib.hid hs0
   have HBB := Lib.hid hbb
   have hbw1 : Below w.heap.size w ((W0.alloc (.cells #[.int .i64 (-1)] 3)).alloc (.cells #[.int .i64 (-1)] 3)) := HB0.out.trans (hb1.mono (by have := HBR.out.size; rw [HBB.out]; omega))
   have HBW1 := Lib.hid hbw1
   have hpub : S.pubs[k]? = some (S.pubs.getD k 0) := by
    have : k < S.pubs.length := by rw [OK.out.p8]; exact hlt
    rw [List.getD_eq_getElem?_getD, List.getElem?_eq_getElem this]
    rfl
   have hpx : S.pubs.getD k 0 < 4294967296 := OK.out.pb _ (List.mem_of_getElem? hpub)
   have hpy : (S.get k).subs < 4294967296 := (OK.out.m k).su
   have HPUB := Lib.hid hpub
   obtain ⟨i0, hi, hz0_, hz1_, hz2_⟩ := info_parts infI3
   have HI := Lib.hid hi
   have HZ0 := Lib.hid hz0_
   have HZ1 := Lib.hid hz1_
   have HZ2 := Lib.hid hz2_
   obtain ⟨wo, hwo⟩ : ∃ wo, wo = wr := ⟨_, rfl⟩
   subst hwo
   clear c0b hix hx h2 hb1 hs0 hbb hbw1 hpub hi hz0_ hz1_ hz2_
   go_loopw [6, 7, 30] (fun v6 v7 i wr => InRel (bb + 1) W0 (S.pubs.getD k 0) (S.get k).subs S.par.length v6 v7 i wr) (fun _ _ i _ => S.par.length - (RowKit.intOf i).toNat)
   case atStart => exact ⟨0, Nat.zero_le _, rfl, H21.out, HB11.out⟩
   case round =>
    obtain ⟨c, hc, rfl, h2, hbr⟩ := hrel
    by_cases hcn : c < S.par.length
    ·have hci : (c : Int) < (S.par.length : Int) := by omega
     have hc0 : (0 : Int) ≤ (c : Int) := by omega
     have hbw : Below w.heap.size w wr := HB0.out.trans (hbr.mono (by have := HBR.out.size; rw [HBB.out]; omega))
     have hRr := HR.out.below hbw
     have ct := hRr.c_tb
     have hpc := publishes_call wr H.tb H.av S.above S.pubs _ hRr.tab k hlt c (by rw [OK.out.al]; exact hcn) (by rw [OK.out.al]; exact OK.out.a1) _ HPUB.out hpx
     have y9 : wr.cell? ⟨bb, 9, none⟩ = some (.int .u32 ((S.get k).subs : Nat)) := by
      have := (hbr.block bb (by have := HS01.out; omega)).trans HX1.out
      exact (mrow_cells this).2.2.2.2.2.2.2.2.2
     have hsh := shr_bit (S.get k).subs c hpy
     have hc16 : (c : Int) < 16 := by have := OK.out.a1; omega
     have hlw : bb + 1 ≤ wr.heap.size := by have := hbr.size; have := HS01.out; omega
     have hyk : ∀ w', Below (bb + 1) wr w' → w'.cell? ⟨bb, 9, none⟩ = some (.int .u32 ((S.get k).subs : Nat)) := fun w' hb => by
      have := ((hb.block bb (by omega)).trans (hbr.block bb (by have := HS01.out; omega))).trans HX1.out
      exact (mrow_cells this).2.2.2.2.2.2.2.2.2
     have HYK := Lib.hid hyk
     have HTW0 := Lib.hid h2
     have HBW := Lib.hid hbr
     have HLW := Lib.hid hlw
     clear hyk h2 hbr hbw hRr hlw
     cases hbx : (S.pubs.getD k 0).testBit c with
     | false =>
      rw [hbx] at hpc
      have HPC := Lib.hid hpc
      have HBX := Lib.hid hbx
      clear hpc hbx
      cases hby : (S.get k).subs.testBit c with
      | false =>
       rw [hby] at hsh
       have HBY := Lib.hid hby
       clear hby
       go_wp2_with (go_at_call 97; (with_reducible refine HPC.out.mono ?_); rintro e w' ⟨rfl, rfl⟩)
       exact ⟨⟨c + 1, hcn, by go_num, (HTW0.out.no6 HBX.out).no7 HBY.out, HBW.out⟩, by simp [RowKit.intOf]; omega⟩
      | true =>
       rw [hby] at hsh
       have HBY := Lib.hid hby
       clear hby
       have HTW2 := Lib.hid (HTW0.out.alloc (.cells #[.int .i64 c] 3))
       have HNW2 := Lib.hid (World.ownsRow_lit (base := 0) (e := 3) (size := 1) wr #[.int .i64 c] 1 (Nat.zero_le _) (by unfold maxLen; omega) rfl)
       have HBS2 := Lib.hid HLW.out
       go_wp2_with (first | (go_at_call 97; (with_reducible refine HPC.out.mono ?_); rintro e w' ⟨rfl, rfl⟩) | (at_builtin; go_loud (refine wpList_app rfl (.tmp 51) (.tmp 53) 52 rfl (bb + 1) 0 3 i0 _ 1 8 hu52 HI.out HZ0.out HZ1.out HZ2.out rfl (by decide) u7 _ _ rfl HTW2.out.r7 (.slice (some ⟨w'.heap.size, 0, none⟩) 1 1) 1 [.int .i64 c] (by rfl) HNW2.out (by simp [Value.oneCell']) (by have := bitsI_length (S.get k).subs c; unfold maxLen; omega) (by have := bitsI_length (S.get k).subs c; omega) (by have := HBS2.out; simp; omega) ?_); go_loud (intro v8 w8 hown8 hg8 hl8)))
       refine ⟨⟨c + 1, hcn, by go_num, (HTW2.out.no6 HBX.out).yes7 HBY.out hown8 hg8 hl8, (HBW.out.alloc HLW.out _).grown hg8 (by have := HLW.out; simp; omega) (fun q hq => own_base HTW0.out.r7 q hq)⟩, by simp [RowKit.intOf]; omega⟩
     | true =>
      rw [hbx] at hpc
      have HPC := Lib.hid hpc
      have HBX := Lib.hid hbx
      clear hpc hbx
      have HTW := Lib.hid (HTW0.out.alloc (.cells #[.int .i64 c] 3))
      have HNW := Lib.hid (World.ownsRow_lit (base := 0) (e := 3) (size := 1) wr #[.int .i64 c] 1 (Nat.zero_le _) (by unfold maxLen; omega) rfl)
      cases hby : (S.get k).subs.testBit c with
      | false =>
       rw [hby] at hsh
       have HBY := Lib.hid hby
       clear hby
       go_wp2_with (first | (go_at_call 97; (with_reducible refine HPC.out.mono ?_); rintro e w' ⟨rfl, rfl⟩) | (at_builtin; go_loud (refine wpList_app rfl (.tmp 40) (.tmp 42) 52 rfl (bb + 1) 0 3 i0 _ 1 8 hu52 HI.out HZ0.out HZ1.out HZ2.out rfl (by decide) u6 _ _ rfl HTW.out.r6 (.slice (some ⟨w'.heap.size, 0, none⟩) 1 1) 1 [.int .i64 c] (by rfl) HNW.out (by simp [Value.oneCell']) (by have := bitsI_length (S.pubs.getD k 0) c; unfold maxLen; omega) (by have := bitsI_length (S.pubs.getD k 0) c; omega) (by have := HBW.out.size; have := HS01.out; simp; omega) ?_); go_loud (intro v9 w9 hown hg hl9); have htw9 := HTW.out.yes6 HBX.out hown hg hl9; have hbw9 : Below (bb + 1) W0 w9 := (HBW.out.alloc HLW.out _).grown hg (by have := HLW.out; simp; omega) (fun q hq => own_base HTW0.out.r6 q hq); have hlw9 : bb + 1 ≤ w9.heap.size := (by have := hbw9.size; have := HS01.out; omega); have y9 := HYK.out w9 (((Below.refl _ w').alloc HLW.out _).grown hg (by have := HLW.out; simp; omega) (fun q hq => own_base HTW0.out.r6 q hq)); have HTW9 := Lib.hid htw9; have HBW9 := Lib.hid hbw9; have HLW9 := Lib.hid hlw9; clear htw9 hbw9 hlw9 hown hg hl9))
       exact ⟨⟨c + 1, hcn, by go_num, HTW9.out.no7 HBY.out, HBW9.out⟩, by simp [RowKit.intOf]; omega⟩
      | true =>
       rw [hby] at hsh
       have HBY := Lib.hid hby
       clear hby
       go_wp2_with (first | (go_at_call 97; (with_reducible refine HPC.out.mono ?_); rintro e w' ⟨rfl, rfl⟩) | (at_builtin; go_loud (refine wpList_app rfl (.tmp 40) (.tmp 42) 52 rfl (bb + 1) 0 3 i0 _ 1 8 hu52 HI.out HZ0.out HZ1.out HZ2.out rfl (by decide) u6 _ _ rfl HTW.out.r6 (.slice (some ⟨w'.heap.size, 0, none⟩) 1 1) 1 [.int .i64 c] (by rfl) HNW.out (by simp [Value.oneCell']) (by have := bitsI_length (S.pubs.getD k 0) c; unfold maxLen; omega) (by have := bitsI_length (S.pubs.getD k 0) c; omega) (by have := HBW.out.size; have := HS01.out; simp; omega) ?_); go_loud (intro v9 w9 hown hg hl9); have htw9 := HTW.out.yes6 HBX.out hown hg hl9; have hbw9 : Below (bb + 1) W0 w9 := (HBW.out.alloc HLW.out _).grown hg (by have := HLW.out; simp; omega) (fun q hq => own_base HTW0.out.r6 q hq); have hlw9 : bb + 1 ≤ w9.heap.size := (by have := hbw9.size; have := HS01.out; omega); have y9 := HYK.out w9 (((Below.refl _ w').alloc HLW.out _).grown hg (by have := HLW.out; simp; omega) (fun q hq => own_base HTW0.out.r6 q hq)); have HTW9 := Lib.hid htw9; have HBW9 := Lib.hid hbw9; have HLW9 := Lib.hid hlw9; clear htw9 hbw9 hlw9 hown hg hl9) | (at_builtin; have HTW2 := Lib.hid (HTW9.out.alloc (.cells #[.int .i64 c] 3)); have HNW2 := Lib.hid (World.ownsRow_lit (base := 0) (e := 3) (size := 1) w9 #[.int .i64 c] 1 (Nat.zero_le _) (by unfold maxLen; omega) rfl); have HBS2 := Lib.hid HLW9.out; go_loud (refine wpList_app rfl (.tmp 51) (.tmp 53) 52 rfl (bb + 1) 0 3 i0 _ 1 8 hu52 HI.out HZ0.out HZ1.out HZ2.out rfl (by decide) u7 _ _ rfl HTW2.out.r7 (.slice (some ⟨w9.heap.size, 0, none⟩) 1 1) 1 [.int .i64 c] (by rfl) HNW2.out (by simp [Value.oneCell']) (by have := bitsI_length (S.get k).subs c; unfold maxLen; omega) (by have := bitsI_length (S.get k).subs c; omega) (by have := HBS2.out; simp; omega) ?_); go_loud (intro v8 w8 hown8 hg8 hl8)))
       refine ⟨⟨c + 1, hcn, by go_num, HTW2.out.yes7 HBY.out hown8 hg8 hl8, (HBW9.out.alloc HLW9.out _).grown hg8 (by have := HLW9.out; simp; omega) (fun q hq => own_base HTW9.out.r7 q hq)⟩, by simp [RowKit.intOf]; omega⟩
    ·obtain rfl : c = S.par.length := by omega
     have hci : ¬ (S.par.length : Int) < (S.par.length : Int) := by omega
     have hbw : Below w.heap.size w wr := HB0.out.trans (hbr.mono (by have := HBR.out.size; rw [HBB.out]; omega))
     have hsz : wr.heap.size ≤ wr.drew.heap.size := Nat.le_refl _
     have hbd : Below wr.heap.size wr wr.drew := (Below.refl _ wr).drew
     have hxw := (hbr.block bb (by have := HS01.out; omega)).trans HX1.out
     have hbl : bb < wr.heap.size := (Array.getElem?_eq_some_iff.1 hxw).1
     have hxk : ∀ w', Below wr.heap.size wr w' → w'.heap[bb]? = some (.cells #[.bool (S.get k).is, .bool (S.get k).con, .int .i64 (S.get k).time, .int .i64 (S.get k).look, .int .i64 (S.get k).kind, .int .i64 (S.get k).ask, .int .i64 (S.get k).sent, .pointer (some ⟨H.q k, 0, none⟩), .slice PA (S.get k).P.length pc, .int .u32 ((S.get k).subs : Nat)] 112 (0, 0)) := fun w' hb => (hb.block bb hbl).trans hxw
     have hR' : ∀ w', Below wr.heap.size wr w' → RAt H w' S := fun w' hb => HR.out.below (hbw.trans (hb.mono hbw.size))
     have hT' : ∀ w', Below wr.heap.size wr w' → TabZ w' := fun w' hb => HT.out.below (hbw.trans (hb.mono hbw.size))
     have hpl1 := (hR' wr (Below.refl _ wr)).pla k hlt
     obtain ⟨A6, c6, rfl⟩ := own_slice h2.r6
     obtain ⟨A7, c7, rfl⟩ := own_slice h2.r7
     have hlen6 := bitsI_length (S.pubs.getD k 0) S.par.length
     have hlen7 := bitsI_length (S.get k).subs S.par.length
     have ha1 := OK.out.a1
     have hlc : ∀ (x : Nat), (-1 :: bitsI x S.par.length).length = 1 + (bitsI x S.par.length).length := fun x => by simp; omega
     have h63 : ∀ (x : Nat), ∀ n ∈ (-1 :: bitsI x S.par.length), I63 n := fun x n hn => by
      rcases List.mem_cons.1 hn with rfl | hn
      ·exact ⟨by omega, by omega⟩
      ·exact bitsI_63 x _ (by omega) n hn
     have hc6 : ∀ w', Below wr.heap.size wr w' → Calls Tryz.prog 96 #[.slice A6 (1 + (bitsI (S.pubs.getD k 0) S.par.length).length) c6] w' fun e w'' => ∃ B c', e = .returned (.slice B (1 + (bitsI (S.pubs.getD k 0) S.par.length).length) c') ∧ w''.ownsRow w'.heap.size 9 1 (.slice B (1 + (bitsI (S.pubs.getD k 0) S.par.length).length) c') (1 + (bitsI (S.pubs.getD k 0) S.par.length).length) (strs (-1 :: bitsI (S.pubs.getD k 0) S.par.length)) ∧ Below w'.heap.size w' w'' := fun w' hb =>
      row_n w' A6 c6 _ _ (hlc _) (by omega) (ints_own (by rw [hlc]; exact own_move h2.r6 (fun q hq => hb.block q (own_lt h2.r6 q hq)))) (h63 _) (hT' w' hb)
     have hc7 : ∀ w', Below wr.heap.size wr w' → Calls Tryz.prog 96 #[.slice A7 (1 + (bitsI (S.get k).subs S.par.length).length) c7] w' fun e w'' => ∃ B c', e = .returned (.slice B (1 + (bitsI (S.get k).subs S.par.length).length) c') ∧ w''.ownsRow w'.heap.size 9 1 (.slice B (1 + (bitsI (S.get k).subs S.par.length).length) c') (1 + (bitsI (S.get k).subs S.par.length).length) (strs (-1 :: bitsI (S.get k).subs S.par.length)) ∧ Below w'.heap.size w' w'' := fun w' hb =>
      row_n w' A7 c7 _ _ (hlc _) (by omega) (ints_own (by rw [hlc]; exact own_move h2.r7 (fun q hq => hb.block q (own_lt h2.r7 q hq)))) (h63 _) (hT' w' hb)
     have hba : Below wr.heap.size wr (wr.drew.alloc (.cells #[.int .i64 (biI (S.get k).is), .int .i64 (S.get k).time, .int .i64 (S.get k).look, .int .i64 (biI (S.get k).con), .int .i64 (S.get k).kind, .int .i64 (S.get k).ask, .int .i64 (S.get k).sent] 3)) := hbd.alloc hsz _
     have hc74 := row_n (wr.drew.alloc (.cells #[.int .i64 (biI (S.get k).is), .int .i64 (S.get k).time, .int .i64 (S.get k).look, .int .i64 (biI (S.get k).con), .int .i64 (S.get k).kind, .int .i64 (S.get k).ask, .int .i64 (S.get k).sent] 3)) (some ⟨wr.heap.size, 0, none⟩) 7 (memI (S.get k)) 7 rfl (by omega) (ints_own (base := 0) (c := 7) (World.ownsRow_lit (base := 0) (e := 3) (size := 1) wr.drew #[.int .i64 (biI (S.get k).is), .int .i64 (S.get k).time, .int .i64 (S.get k).look, .int .i64 (biI (S.get k).con), .int .i64 (S.get k).kind, .int .i64 (S.get k).ask, .int .i64 (S.get k).sent] 7 (Nat.zero_le _) (by unfold maxLen; omega) rfl)) (memI_63 (OK.out.m k) OK.out.n1) (hT' _ hba)
     have hcl : ∀ w', Below wr.heap.size wr w' → Calls Tryz.prog 72 #[.pointer (some ⟨H.q k, 0, none⟩)] w' fun e w'' => ∃ A c, e = .returned (.slice A (S.get k).Q.length c) ∧ w''.ownsRow w'.heap.size 41 6 (.slice A (S.get k).Q.length c) (S.get k).Q.length (flatM (S.get k).Q) ∧ Below w'.heap.size w' w'' := fun w' hb => list_call w' _ _ _ _ ((hR' w' hb).que k hlt)
     have hcf : ∀ w', Below wr.heap.size wr w' → ∀ (base : Nat) (F : Option Addr) (f : Nat) (Q : List Mg), Q.length ≤ 64 → (∀ x ∈ Q, MgOk S.par.length x) → w'.ownsRow base 3 1 (.slice F (1 + 6 * Q.length) f) (1 + 6 * Q.length) (.int .i64 (-1) :: flatM Q) → Calls Tryz.prog 96 #[.slice F (1 + 6 * Q.length) f] w' fun e w'' => ∃ B c', e = .returned (.slice B (1 + 6 * Q.length) c') ∧ w''.ownsRow w'.heap.size 9 1 (.slice B (1 + 6 * Q.length) c') (1 + 6 * Q.length) (strs (flI Q)) ∧ Below w'.heap.size w' w'' := fun w' hb base F f Q hq hm ho =>
      row_n w' F f (flI Q) _ (flI_length Q) (by omega) (ints_own (base := base) (c := f) (by rw [flI_length, flI_map]; exact ho)) (flI_63 (by omega) hm) (hT' w' hb)
     have hcp : ∀ w', Below wr.heap.size wr w' → Calls Tryz.prog 99 #[.slice PA (S.get k).P.length pc] w' (FlatPost w' (S.get k).P) := fun w' hb => flat_call w' 0 PA pc _ (OK.out.m k).pl (by
      have := (hR' w' hb).pla k hlt
      rw [HPL1.out] at this
      exact this)
     obtain ⟨i5, hi, hz0_, hz1_, hz2_⟩ := info_parts inf58
     have HI5 := Lib.hid hi
     have HY0 := Lib.hid hz0_
     have HY1 := Lib.hid hz1_
     have HY2 := Lib.hid hz2_
     have hbk0 : Below wo.heap.size wo W0 := by rw [HW0.out]; exact (Below.refl _ wo).alloc (Nat.le_refl _) _
     have HBK := Lib.hid (hbk0.trans (hbr.mono (by have := HBB.out; omega)))
     have HBWW := Lib.hid hbw
     have HBD := Lib.hid hbd
     have HBA := Lib.hid hba
     have HXK := Lib.hid hxk
     have HC6 := Lib.hid hc6
     have HC7 := Lib.hid hc7
     have HC74 := Lib.hid hc74
     have HCL := Lib.hid hcl
     have HCF := Lib.hid hcf
     have HCP := Lib.hid hcp
     have HXW := Lib.hid hxw
     clear hi hz0_ hz1_ hz2_ hbd hba hxk hc6 hc7 hc74 hcl hcf hcp hlc h63 hR' hT' hpl1 h2 hbr hsz hxw hlen6 hlen7 hbk0
     go_wp2_with fail
     refine st_ (n := 35) (S := fun w' => w'.heap[bb]? = some (.cells #[.bool (S.get k).is, .bool (S.get k).con, .int .i64 (S.get k).time, .int .i64 (S.get k).look, .int .i64 (S.get k).kind, .int .i64 (S.get k).ask, .int .i64 (S.get k).sent, .pointer (some ⟨H.q k, 0, none⟩), .slice PA (S.get k).P.length pc, .int .u32 ((S.get k).subs : Nat)] 112 (0, 0))) (ds := [33]) hmix rfl (HXK.out wr.drew HBD.out) (fun hHeld => ?_)
     refine pu_ (i := 0) (N := (some 56)) (v := ?_) (a' := ?_) rfl rfl (by kernel_rfl) (fun _ _ _ h => h) (Or.inl ⟨by rfl, ?_⟩) ?_ ?_
     rotate_left
     ·intro w'
      go_simp
      try with_reducible rfl
     rotate_left
     ·simp only [Act.put, qa, qb, qc]
      rfl
     refine pu_ (i := 1) (N := (some 57)) (v := ?_) (a' := ?_) rfl rfl (by kernel_rfl) (fun _ _ _ h => h) (Or.inl ⟨by rfl, ?_⟩) ?_ ?_
     rotate_left
     ·intro w'
      go_simp
      try with_reducible rfl
     rotate_left
     ·simp only [Act.put, qa, qb, qc]
      rfl
     refine tk_ (i := 2) (N := (some 58)) (v := ?_) (a' := ?_) rfl rfl (by kernel_rfl) (fun _ _ _ h => h) (Or.inl ⟨by rfl, ?_⟩) hHeld ?_ ?_
     rotate_left
     ·intro w' hS_
      have zz0 := hS_
      obtain ⟨y0, y1, y2, y3, y4, y5, y6, y7, y8, y9⟩ := mrow_cells zz0
      go_simp
      try with_reducible rfl
     rotate_left
     ·simp only [Act.put, qa, qb, qc]
      rfl
     refine pu_ (i := 4) (N := (some 60)) (v := ?_) (a' := ?_) rfl rfl (by kernel_rfl) (fun _ _ _ h => h) (Or.inl ⟨by rfl, ?_⟩) ?_ ?_
     rotate_left
     ·intro w'
      go_simp
      try with_reducible rfl
     rotate_left
     ·simp only [Act.put, qa, qb, qc]
      rfl
     refine tk_ (i := 5) (N := (some 61)) (v := ?_) (a' := ?_) rfl rfl (by kernel_rfl) (fun _ _ _ h => h) (Or.inl ⟨by rfl, ?_⟩) hHeld ?_ ?_
     rotate_left
     ·intro w' hS_
      have zz0 := hS_
      obtain ⟨y0, y1, y2, y3, y4, y5, y6, y7, y8, y9⟩ := mrow_cells zz0
      go_simp
      try with_reducible rfl
     rotate_left
     ·simp only [Act.put, qa, qb, qc]
      rfl
     refine pu_ (i := 6) (N := (some 62)) (v := ?_) (a' := ?_) rfl rfl (by kernel_rfl) (fun _ _ _ h => h) (Or.inl ⟨by rfl, ?_⟩) ?_ ?_
     rotate_left
     ·intro w'
      go_simp
      try with_reducible rfl
     rotate_left
     ·simp only [Act.put, qa, qb, qc]
      rfl
     refine tk_ (i := 7) (N := (some 63)) (v := ?_) (a' := ?_) rfl rfl (by kernel_rfl) (fun _ _ _ h => h) (Or.inl ⟨by rfl, ?_⟩) hHeld ?_ ?_
     rotate_left
     ·intro w' hS_
      have zz0 := hS_
      obtain ⟨y0, y1, y2, y3, y4, y5, y6, y7, y8, y9⟩ := mrow_cells zz0
      go_simp
      try with_reducible rfl
     rotate_left
     ·simp only [Act.put, qa, qb, qc]
      rfl
     refine pu_ (i := 8) (N := (some 64)) (v := ?_) (a' := ?_) rfl rfl (by kernel_rfl) (fun _ _ _ h => h) (Or.inl ⟨by rfl, ?_⟩) ?_ ?_
     rotate_left
     ·intro w'
      go_simp
      try with_reducible rfl
     rotate_left
     ·simp only [Act.put, qa, qb, qc]
      rfl
     refine tk_ (i := 9) (N := (some 65)) (v := ?_) (a' := ?_) rfl rfl (by kernel_rfl) (fun _ _ _ h => h) (Or.inl ⟨by rfl, ?_⟩) hHeld ?_ ?_
     rotate_left
     ·intro w' hS_
      have zz0 := hS_
      obtain ⟨y0, y1, y2, y3, y4, y5, y6, y7, y8, y9⟩ := mrow_cells zz0
      go_simp
      try with_reducible rfl
     rotate_left
     ·simp only [Act.put, qa, qb, qc]
      rfl
     refine pu_ (i := 11) (N := (some 67)) (v := ?_) (a' := ?_) rfl rfl (by kernel_rfl) (fun _ _ _ h => h) (Or.inl ⟨by rfl, ?_⟩) ?_ ?_
     rotate_left
     ·intro w'
      go_simp
      try with_reducible rfl
     rotate_left
     ·simp only [Act.put, qa, qb, qc]
      rfl
     refine tk_ (i := 12) (N := (some 68)) (v := ?_) (a' := ?_) rfl rfl (by kernel_rfl) (fun _ _ _ h => h) (Or.inl ⟨by rfl, ?_⟩) hHeld ?_ ?_
     rotate_left
     ·intro w' hS_
      have zz0 := hS_
      obtain ⟨y0, y1, y2, y3, y4, y5, y6, y7, y8, y9⟩ := mrow_cells zz0
      go_simp
      try with_reducible rfl
     rotate_left
     ·simp only [Act.put, qa, qb, qc]
      rfl
     refine pu_ (i := 13) (N := (some 69)) (v := ?_) (a' := ?_) rfl rfl (by kernel_rfl) (fun _ _ _ h => h) (Or.inl ⟨by rfl, ?_⟩) ?_ ?_
     rotate_left
     ·intro w'
      go_simp
      try with_reducible rfl
     rotate_left
     ·simp only [Act.put, qa, qb, qc]
      rfl
     refine tk_ (i := 14) (N := (some 70)) (v := ?_) (a' := ?_) rfl rfl (by kernel_rfl) (fun _ _ _ h => h) (Or.inl ⟨by rfl, ?_⟩) hHeld ?_ ?_
     rotate_left
     ·intro w' hS_
      have zz0 := hS_
      obtain ⟨y0, y1, y2, y3, y4, y5, y6, y7, y8, y9⟩ := mrow_cells zz0
      go_simp
      try with_reducible rfl
     rotate_left
     ·simp only [Act.put, qa, qb, qc]
      rfl
     refine pu_ (i := 15) (N := (some 71)) (v := ?_) (a' := ?_) rfl rfl (by kernel_rfl) (fun _ _ _ h => h) (Or.inl ⟨by rfl, ?_⟩) ?_ ?_
     rotate_left
     ·intro w'
      go_simp
      try with_reducible rfl
     rotate_left
     ·simp only [Act.put, qa, qb, qc]
      rfl
     refine tk_ (i := 16) (N := (some 72)) (v := ?_) (a' := ?_) rfl rfl (by kernel_rfl) (fun _ _ _ h => h) (Or.inl ⟨by rfl, ?_⟩) hHeld ?_ ?_
     rotate_left
     ·intro w' hS_
      have zz0 := hS_
      obtain ⟨y0, y1, y2, y3, y4, y5, y6, y7, y8, y9⟩ := mrow_cells zz0
      go_simp
      try with_reducible rfl
     rotate_left
     ·simp only [Act.put, qa, qb, qc]
      rfl
     refine pu_ (i := 19) (N := (some 75)) (v := ?_) (a' := ?_) rfl rfl (by kernel_rfl) (fun _ _ _ h => h) (Or.inl ⟨by rfl, ?_⟩) ?_ ?_
     rotate_left
     ·intro w'
      go_simp
      try with_reducible rfl
     rotate_left
     ·simp only [Act.put, qa, qb, qc]
      rfl
     refine pu_ (i := 21) (N := (some 77)) (v := ?_) (a' := ?_) rfl rfl (by kernel_rfl) (fun _ _ _ h => h) (Or.inl ⟨by rfl, ?_⟩) ?_ ?_
     rotate_left
     ·intro w'
      go_simp
      try with_reducible rfl
     rotate_left
     ·simp only [Act.put, qa, qb, qc]
      rfl
     refine pu_ (i := 23) (N := (some 79)) (v := ?_) (a' := ?_) rfl rfl (by kernel_rfl) (fun _ _ _ h => h) (Or.inl ⟨by rfl, ?_⟩) ?_ ?_
     rotate_left
     ·intro w'
      go_simp
      try with_reducible rfl
     rotate_left
     ·simp only [Act.put, qa, qb, qc]
      rfl
     refine tk_ (i := 24) (N := (some 80)) (v := ?_) (a' := ?_) rfl rfl (by kernel_rfl) (fun _ _ _ h => h) (Or.inl ⟨by rfl, ?_⟩) hHeld ?_ ?_
     rotate_left
     ·intro w' hS_
      have zz0 := hS_
      obtain ⟨y0, y1, y2, y3, y4, y5, y6, y7, y8, y9⟩ := mrow_cells zz0
      go_simp
      try with_reducible rfl
     rotate_left
     ·simp only [Act.put, qa, qb, qc]
      rfl
     refine pu_ (i := 28) (N := (some 84)) (v := ?_) (a' := ?_) rfl rfl (by kernel_rfl) (fun _ _ _ h => h) (Or.inl ⟨by rfl, ?_⟩) ?_ ?_
     rotate_left
     ·intro w'
      go_simp
      try with_reducible rfl
     rotate_left
     ·simp only [Act.put, qa, qb, qc]
      rfl
     refine tk_ (i := 29) (N := (some 85)) (v := ?_) (a' := ?_) rfl rfl (by kernel_rfl) (fun _ _ _ h => h) (Or.inl ⟨by rfl, ?_⟩) hHeld ?_ ?_
     rotate_left
     ·intro w' hS_
      have zz0 := hS_
      obtain ⟨y0, y1, y2, y3, y4, y5, y6, y7, y8, y9⟩ := mrow_cells zz0
      go_simp
      try with_reducible rfl
     rotate_left
     ·simp only [Act.put, qa, qb, qc]
      rfl
     refine on_ (i := 3) (N := (some 59)) rfl rfl (by kernel_rfl) (by decide) (fun K hK => ?_)
     refine goes_ Tryz.func98 (by kernel_rfl) rfl #[.bool (S.get k).is] (by rfl) rfl rfl (by simp only [List.map_toArray, List.map_cons, List.map_nil]; rfl) ?_
     refine (bit_i (S.get k).is wr.drew).mono ?_
     rintro x59 w59 ⟨rfl, rfl⟩
     refine ⟨_, rfl, hK.out _ _ (HXK.out wr.drew HBD.out) (fun hHeld => ?_)⟩
     clear hK K
     refine norm_ (a' := ?_) ?_ ?_
     rotate_left
     ·show Act.put _ (some 59) _ = _
      simp only [Act.put, qa, qb, qc]
      rfl
     refine on_ (i := 10) (N := (some 66)) rfl rfl (by kernel_rfl) (by decide) (fun K hK => ?_)
     refine goes_ Tryz.func98 (by kernel_rfl) rfl #[.bool (S.get k).con] (by rfl) rfl rfl (by simp only [List.map_toArray, List.map_cons, List.map_nil]; rfl) ?_
     refine (bit_i (S.get k).con wr.drew).mono ?_
     rintro x66 w66 ⟨rfl, rfl⟩
     refine ⟨_, rfl, hK.out _ _ (HXK.out wr.drew HBD.out) (fun hHeld => ?_)⟩
     clear hK K
     refine norm_ (a' := ?_) ?_ ?_
     rotate_left
     ·show Act.put _ (some 66) _ = _
      simp only [Act.put, qa, qb, qc]
      rfl
     refine on_ (i := 17) (N := (some 73)) rfl rfl (by kernel_rfl) (by decide) (fun K hK => ?_)
     refine value_ (w1 := ?_) (v := ?_) (by rfl) rfl ?_ ?_
     rotate_left 2
     ·go_simp
      constructor
      ·rfl
      ·rfl
     refine hK.out _ _ (HXK.out _ HBA.out) (fun hHeld => ?_)
     clear hK K
     refine norm_ (a' := ?_) ?_ ?_
     rotate_left
     ·show Act.put _ (some 73) _ = _
      simp only [Act.put, qa, qb, qc]
      rfl
     refine on_ (i := 18) (N := (some 74)) rfl rfl (by kernel_rfl) (by decide) (fun K hK => ?_)
     refine goes_ Tryz.func96 (by kernel_rfl) rfl #[.slice (some ⟨wr.heap.size, 0, none⟩) 7 7] (by rfl) rfl rfl (by simp only [List.map_toArray, List.map_cons, List.map_nil]; rfl) ?_
     refine HC74.out.mono ?_
     rintro x74 w74 ⟨R1, c1, rfl, hr74, hb74⟩
     have HB74 := Lib.hid (HBA.out.trans (hb74.mono HBA.out.size))
     have HR74 := Lib.hid hr74
     clear hr74 hb74
     refine ⟨_, rfl, hK.out _ _ (HXK.out w74 HB74.out) (fun hHeld => ?_)⟩
     clear hK K
     refine norm_ (a' := ?_) ?_ ?_
     rotate_left
     ·show Act.put _ (some 74) _ = _
      simp only [Act.put, qa, qb, qc]
      rfl
     refine on_ (i := 20) (N := (some 76)) rfl rfl (by kernel_rfl) (by decide) (fun K hK => ?_)
     refine goes_ Tryz.func96 (by kernel_rfl) rfl #[.slice A6 (1 + (bitsI (S.pubs.getD k 0) S.par.length).length) c6] (by rfl) rfl rfl (by simp only [List.map_toArray, List.map_cons, List.map_nil]; rfl) ?_
     refine (HC6.out w74 HB74.out).mono ?_
     rintro x76 w76 ⟨R2, c2, rfl, hr76, hb76⟩
     have HS76 := Lib.hid hb76
     have HB76 := Lib.hid (HB74.out.trans (hb76.mono HB74.out.size))
     have HR76 := Lib.hid hr76
     clear hr76 hb76
     refine ⟨_, rfl, hK.out _ _ (HXK.out w76 HB76.out) (fun hHeld => ?_)⟩
     clear hK K
     refine norm_ (a' := ?_) ?_ ?_
     rotate_left
     ·show Act.put _ (some 76) _ = _
      simp only [Act.put, qa, qb, qc]
      rfl
     refine on_ (i := 22) (N := (some 78)) rfl rfl (by kernel_rfl) (by decide) (fun K hK => ?_)
     refine goes_ Tryz.func96 (by kernel_rfl) rfl #[.slice A7 (1 + (bitsI (S.get k).subs S.par.length).length) c7] (by rfl) rfl rfl (by simp only [List.map_toArray, List.map_cons, List.map_nil]; rfl) ?_
     refine (HC7.out w76 HB76.out).mono ?_
     rintro x78 w78 ⟨R3, c3, rfl, hr78, hb78⟩
     have HS78 := Lib.hid hb78
     have HB78 := Lib.hid (HB76.out.trans (hb78.mono HB76.out.size))
     have HR78 := Lib.hid hr78
     clear hr78 hb78
     refine ⟨_, rfl, hK.out _ _ (HXK.out w78 HB78.out) (fun hHeld => ?_)⟩
     clear hK K
     refine norm_ (a' := ?_) ?_ ?_
     rotate_left
     ·show Act.put _ (some 78) _ = _
      simp only [Act.put, qa, qb, qc]
      rfl
     refine on_ (i := 25) (N := (some 81)) rfl rfl (by kernel_rfl) (by decide) (fun K hK => ?_)
     refine goes_ Tryz.func72 (by kernel_rfl) rfl #[.pointer (some ⟨H.q k, 0, none⟩)] (by rfl) rfl rfl (by simp only [List.map_toArray, List.map_cons, List.map_nil]; rfl) ?_
     refine (HCL.out w78 HB78.out).mono ?_
     rintro x81 w81 ⟨LA, lc, rfl, hl81, hb81⟩
     have HS81 := Lib.hid hb81
     have HB81 := Lib.hid (HB78.out.trans (hb81.mono HB78.out.size))
     have HC82 := Lib.hid (flat_call w81 _ LA lc (S.get k).Q (OK.out.m k).ql hl81)
     clear hl81 hb81
     refine ⟨_, rfl, hK.out _ _ (HXK.out w81 HB81.out) (fun hHeld => ?_)⟩
     clear hK K
     refine norm_ (a' := ?_) ?_ ?_
     rotate_left
     ·show Act.put _ (some 81) _ = _
      simp only [Act.put, qa, qb, qc]
      rfl
     refine on_ (i := 26) (N := (some 82)) rfl rfl (by kernel_rfl) (by decide) (fun K hK => ?_)
     refine goes_ Tryz.func99 (by kernel_rfl) rfl #[.slice LA (S.get k).Q.length lc] (by rfl) rfl rfl (by simp only [List.map_toArray, List.map_cons, List.map_nil]; rfl) ?_
     refine HC82.out.mono ?_
     rintro x82 w82 ⟨F1, f1, rfl, hf82, hb82⟩
     have HS82 := Lib.hid hb82
     have HB82 := Lib.hid (HB81.out.trans (hb82.mono HB81.out.size))
     have HC83 := Lib.hid (HCF.out w82 HB82.out w81.heap.size F1 f1 (S.get k).Q (OK.out.m k).ql (fun x hx => ((OK.out.m k).q x hx).1) hf82)
     clear hf82 hb82
     refine ⟨_, rfl, hK.out _ _ (HXK.out w82 HB82.out) (fun hHeld => ?_)⟩
     clear hK K
     refine norm_ (a' := ?_) ?_ ?_
     rotate_left
     ·show Act.put _ (some 82) _ = _
      simp only [Act.put, qa, qb, qc]
      rfl
     refine on_ (i := 27) (N := (some 83)) rfl rfl (by kernel_rfl) (by decide) (fun K hK => ?_)
     refine goes_ Tryz.func96 (by kernel_rfl) rfl #[.slice F1 (1 + 6 * (S.get k).Q.length) f1] (by rfl) rfl rfl (by simp only [List.map_toArray, List.map_cons, List.map_nil]; rfl) ?_
     refine HC83.out.mono ?_
     rintro x83 w83 ⟨R4, c4, rfl, hr83, hb83⟩
     have HS83 := Lib.hid hb83
     have HB83 := Lib.hid (HB82.out.trans (hb83.mono HB82.out.size))
     have HR83 := Lib.hid hr83
     clear hr83 hb83
     refine ⟨_, rfl, hK.out _ _ (HXK.out w83 HB83.out) (fun hHeld => ?_)⟩
     clear hK K
     refine norm_ (a' := ?_) ?_ ?_
     rotate_left
     ·show Act.put _ (some 83) _ = _
      simp only [Act.put, qa, qb, qc]
      rfl
     refine on_ (i := 30) (N := (some 86)) rfl rfl (by kernel_rfl) (by decide) (fun K hK => ?_)
     refine goes_ Tryz.func99 (by kernel_rfl) rfl #[.slice PA (S.get k).P.length pc] (by rfl) rfl rfl (by simp only [List.map_toArray, List.map_cons, List.map_nil]; rfl) ?_
     refine (HCP.out w83 HB83.out).mono ?_
     rintro x86 w86 ⟨F2, f2, rfl, hf86, hb86⟩
     have HS86 := Lib.hid hb86
     have HB86 := Lib.hid (HB83.out.trans (hb86.mono HB83.out.size))
     have HC87 := Lib.hid (HCF.out w86 HB86.out w83.heap.size F2 f2 (S.get k).P (OK.out.m k).pl (fun x hx => ((OK.out.m k).p x hx).1) hf86)
     clear hf86 hb86
     refine ⟨_, rfl, hK.out _ _ (HXK.out w86 HB86.out) (fun hHeld => ?_)⟩
     clear hK K
     refine norm_ (a' := ?_) ?_ ?_
     rotate_left
     ·show Act.put _ (some 86) _ = _
      simp only [Act.put, qa, qb, qc]
      rfl
     refine on_ (i := 31) (N := (some 87)) rfl rfl (by kernel_rfl) (by decide) (fun K hK => ?_)
     refine goes_ Tryz.func96 (by kernel_rfl) rfl #[.slice F2 (1 + 6 * (S.get k).P.length) f2] (by rfl) rfl rfl (by simp only [List.map_toArray, List.map_cons, List.map_nil]; rfl) ?_
     refine HC87.out.mono ?_
     rintro x87 w87 ⟨R5, c5, rfl, hr87, hb87⟩
     have HS87 := Lib.hid hb87
     have HB87 := Lib.hid (HB86.out.trans (hb87.mono HB86.out.size))
     have HR87 := Lib.hid hr87
     clear hr87 hb87
     obtain ⟨hs, g1, g2, g3⟩ := HRW1.out.below (HBK.out.trans (HB87.out.mono HBK.out.size)) (Nat.le_refl _)
     have G1 := Lib.hid g1
     have G2 := Lib.hid g2
     have G3 := Lib.hid g3
     have HNW := Lib.hid (World.ownsRow_lit (base := 0) (e := 58) (size := 1) w87 #[.slice R1 7 c1, .slice R2 (1 + (bitsI (S.pubs.getD k 0) S.par.length).length) c2, .slice R3 (1 + (bitsI (S.get k).subs S.par.length).length) c3, .slice R4 (1 + 6 * (S.get k).Q.length) c4, .slice R5 (1 + 6 * (S.get k).P.length) c5] 5 (Nat.zero_le _) (by unfold maxLen; omega) rfl)
     clear g1 g2 g3
     refine ⟨_, rfl, hK.out _ _ (HXK.out w87 HB87.out) (fun hHeld => ?_)⟩
     clear hK K
     refine norm_ (a' := ?_) ?_ ?_
     rotate_left
     ·show Act.put _ (some 87) _ = _
      simp only [Act.put, qa, qb, qc]
      rfl
     refine on_ (i := 32) (N := (some 88)) rfl rfl (by kernel_rfl) (by decide) (fun K hK => ?_)
     refine value_ (w1 := ?_) (v := ?_) (by rfl) rfl ?_ ?_
     rotate_left 2
     ·go_simp
      constructor
      ·rfl
      ·rfl
     refine hK.out _ _ (HXK.out _ (HB87.out.alloc HB87.out.size _)) (fun hHeld => ?_)
     clear hK K
     refine norm_ (a' := ?_) ?_ ?_
     rotate_left
     ·show Act.put _ (some 88) _ = _
      simp only [Act.put, qa, qb, qc]
      rfl
     refine la_ (i := 33) (N := (some 89)) rfl rfl (by kernel_rfl) (by decide) (fun K hK => ?_)
     refine app_ (by rfl) rfl (.tmp 56) (.tmp 88) 57 rfl w.heap.size 0 58 i5 _ 1 24 Tryz.underlying57 HI5.out HY0.out HY1.out HY2.out rfl (by decide) (.slice B (rowsTo S k).length cc) (rowsTo S k).length hs (by rfl) (G2.out.alloc _) (.slice (some ⟨w87.heap.size, 0, none⟩) 5 5) 5 [.slice R1 7 c1, .slice R2 (1 + (bitsI (S.pubs.getD k 0) S.par.length).length) c2, .slice R3 (1 + (bitsI (S.get k).subs S.par.length).length) c3, .slice R4 (1 + 6 * (S.get k).Q.length) c4, .slice R5 (1 + 6 * (S.get k).P.length) c5] (by rfl) HNW.out (by simp [Value.oneCell']) (by rw [rowsTo_length]; unfold maxLen; omega) (by rw [rowsTo_length]; omega) (by have := HBWW.out.size; have := HB87.out.size; simp; omega) ?_
     intro v9 w9 hown hg hl9
     refine hK.out _ _ ?_
     clear hK K
     refine norm_ (a' := ?_) ?_ ?_
     rotate_left
     ·show Act.put _ (some 89) _ = _
      simp only [Act.put, qa, qb, qc]
      rfl
     refine pu_ (i := 34) (N := (some 3)) (v := ?_) (a' := ?_) rfl rfl (by kernel_rfl) (fun _ _ _ h => h) (Or.inl ⟨by rfl, ?_⟩) ?_ ?_
     rotate_left
     ·intro w'
      go_simp
      try with_reducible rfl
     rotate_left
     ·simp only [Act.put, qa, qb, qc]
      rfl
     refine done_ (by kernel_rfl) ?_
     have k83 : Below w83.heap.size w83 w87 := HS86.out.trans (HS87.out.mono HS86.out.size)
     have k82 : Below w82.heap.size w82 w87 := HS83.out.trans (k83.mono HS83.out.size)
     have k81 : Below w81.heap.size w81 w87 := HS82.out.trans (k82.mono HS82.out.size)
     have k78 : Below w78.heap.size w78 w87 := HS81.out.trans (k81.mono HS81.out.size)
     have k76 : Below w76.heap.size w76 w87 := HS78.out.trans (k78.mono HS78.out.size)
     have k74 : Below w74.heap.size w74 w87 := HS76.out.trans (k76.mono HS76.out.size)
     have s0 := HBWW.out.size
     have r1 := own_base_le (base' := w.heap.size) (own_move HR74.out (fun q hq => k74.block q (own_lt HR74.out q hq))) (by simp; omega)
     have r2 := own_base_le (base' := w.heap.size) (own_move HR76.out (fun q hq => k76.block q (own_lt HR76.out q hq))) (by have := HB74.out.size; omega)
     have r3 := own_base_le (base' := w.heap.size) (own_move HR78.out (fun q hq => k78.block q (own_lt HR78.out q hq))) (by have := HB76.out.size; omega)
     have r4 := own_base_le (base' := w.heap.size) (own_move HR83.out (fun q hq => k83.block q (own_lt HR83.out q hq))) (by have := HB82.out.size; omega)
     have r5 := own_base_le (base' := w.heap.size) HR87.out (by have := HB86.out.size; omega)
     have happ := RwsI.app (rows := rowsTo S k) (news := rows5 S k) G1.out (G2.out.alloc _) (fun i h r hi hr => (G3.out i h r hi hr).alloc _) rfl (fun i h r hi hr => by
      rcases i with _ | _ | _ | _ | _ | i
      ·cases hi; cases hr; exact r1.alloc _
      ·cases hi; cases hr; exact (show World.ownsRow _ _ _ _ _ (-1 :: bitsI (S.pubs.getD k 0) S.par.length).length _ by rw [show (-1 :: bitsI (S.pubs.getD k 0) S.par.length).length = 1 + (bitsI (S.pubs.getD k 0) S.par.length).length by simp; omega]; exact r2).alloc _
      ·cases hi; cases hr; exact (show World.ownsRow _ _ _ _ _ (-1 :: bitsI (S.get k).subs S.par.length).length _ by rw [show (-1 :: bitsI (S.get k).subs S.par.length).length = 1 + (bitsI (S.get k).subs S.par.length).length by simp; omega]; exact r3).alloc _
      ·cases hi; cases hr; exact (show World.ownsRow _ _ _ _ _ (flI (S.get k).Q).length _ by rw [flI_length]; exact r4).alloc _
      ·cases hi; cases hr; exact (show World.ownsRow _ _ _ _ _ (flI (S.get k).P).length _ by rw [flI_length]; exact r5).alloc _
      ·simp at hi) hown hg
     rw [← rowsTo_succ] at happ
     have HAPP := Lib.hid happ
     have hbf : Below w.heap.size w w9 := ((HBWW.out.trans (HB87.out.mono s0)).alloc (by have := HB87.out.size; omega) _).grown hg (by have := HB87.out.size; simp; omega) (fun q hq => own_base G2.out q hq)
     have HBF := Lib.hid hbf
     clear happ hbf hown hg hl9 r1 r2 r3 r4 r5 k83 k82 k81 k78 k76 k74
     go_wp2
     exact ⟨⟨k + 1, by omega, by go_num, HAPP.out, HBF.out⟩, by simp [RowKit.intOf]; omega⟩
  ·obtain rfl : k = 8 := by omega
   have hka : ¬ (8 : Int) < 8 := by omega
   have HRW2 := Lib.hid hrw
   have HBR := Lib.hid hbr
   clear hrw hbr
   go_wp2
   go_ret
   exact ⟨_, rfl, HRW2.out, HBR.out⟩
end Go.Proofs.YtehnkebcbomidaaGreatDoor.Rt
