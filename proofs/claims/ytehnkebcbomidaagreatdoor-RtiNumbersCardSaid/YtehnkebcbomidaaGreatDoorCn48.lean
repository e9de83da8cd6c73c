/- Part of a proof over the given program: Nm, Ej. -/
import Derived.Test.YtehnkebcbomidaaGreatDoorCn47
set_option linter.unusedVariables false
set_option linter.unusedSimpArgs false
namespace Go.Proofs.YtehnkebcbomidaaGreatDoor.Rt
open Go Go.RowKit Go.Proofs Go.Proofs.YtehnkebcbomidaaGreatDoorW.PrintWords Go.Proofs.YtehnkebcbomidaaGreatDoorW.PrintLast
def snt (S : St) (g : Nat) : Int := (S.get g).sent
set_option maxHeartbeats 16000000 in
set_option maxRecDepth 100000 in
theorem numbers_walk (W : World) (A : Option Addr) (len cap : Nat) (cs : Nat → Cl) (hc : CRow W A len cs) (hl : len ≤ 150) (hE : Env W) (hT : TabZ W) :
  Calls Tryz.prog 11 #[.slice A len cap] W fun e w' => e = .returned (.bool true) ∧ Below W.heap.size W w' := by
 have hlen : ¬ (150 : Int) < (len : Int) := by omega
 have m52 := m8
 have HC := Lib.hid hc
 have HT := Lib.hid hT
 have HNW := Lib.hid (new3_call W hE)
 have hu52 := Tryz.underlying52
 have hu66 := Tryz.underlying66
 have hu69 := Tryz.underlying69
 have hu71 := Tryz.underlying71
 have hu31 := Tryz.underlying31
 clear hc hT hE
 go_enter Tryz.func11, Tryz.ntmps11
 have hmix : Tryz.prog.follows .mixedOrders = true := by kernel_rfl
 go_wp2_with (first | (go_at_call 33; (with_reducible refine (classes_call W).mono ?_); rintro e w1 ⟨rfl, rfl⟩) | (go_at_call 32; (with_reducible refine HNW.out.mono ?_); rintro e w2 ⟨r, rfl, hr2, hb2⟩; have HR2 := Lib.hid hr2; have HB2 := Lib.hid hb2; clear hr2 hb2))
 have hr3 := HR2.out.keep (.cells #[.int .i64 0, .int .i64 0, .int .i64 0, .int .i64 0, .int .i64 0, .int .i64 0, .int .i64 0, .int .i64 0] 3)
 have hblk := heap_alloc_new w2 (.cells #[.int .i64 0, .int .i64 0, .int .i64 0, .int .i64 0, .int .i64 0, .int .i64 0, .int .i64 0, .int .i64 0] 3)
 have hb3 : Below W.heap.size W (w2.alloc (.cells #[.int .i64 0, .int .i64 0, .int .i64 0, .int .i64 0, .int .i64 0, .int .i64 0, .int .i64 0, .int .i64 0] 3)) := HB2.out.alloc HB2.out.size _
 obtain ⟨w3, hw3⟩ : ∃ w3, w3 = w2.alloc (.cells #[.int .i64 0, .int .i64 0, .int .i64 0, .int .i64 0, .int .i64 0, .int .i64 0, .int .i64 0, .int .i64 0] 3) := ⟨_, rfl⟩
 rw [← hw3] at hr3 hblk hb3 ⊢
 obtain ⟨nb, hnb⟩ : ∃ nb, nb = w2.heap.size := ⟨_, rfl⟩
 have hnl : W.heap.size ≤ nb := by rw [hnb]; exact HB2.out.size
 rw [← hnb] at hr3 hblk ⊢
 have HR3 := Lib.hid (show Rti (K3 W nb) r w3 nw3 from hr3)
 have HBLK := Lib.hid (show w3.heap[nb]? = some (.cells (eight (snt (stN cs 0))).toArray 3 (0, 0)) from hblk)
 have HB3 := Lib.hid hb3
 have HNL := Lib.hid hnl
 clear hw3 hnb hr3 hblk hb3 hnl HR2 HB2 HNW m52
 go_loopw [6] (fun iv wr => ∃ i : Nat, i ≤ len ∧ iv = .int .i64 i ∧ Rti (K3 W nb) r wr (stN cs i) ∧ wr.heap[nb]? = some (.cells (eight (snt (stN cs i))).toArray 3 (0, 0)) ∧ Below W.heap.size W wr) (fun iv _ => len - (RowKit.intOf iv).toNat)
 case atStart => exact ⟨0, Nat.zero_le _, rfl, HR3.out, HBLK.out, HB3.out⟩
 case round =>
  obtain ⟨i, hi, rfl, hr, hnx, hbw⟩ := hrel
  by_cases hil : i < len
  ·have hii : (i : Int) < (len : Int) := by omega
   have hi0 : (0 : Int) ≤ (i : Int) := by omega
   obtain ⟨x, rfl, l0, l1, l2, l3, l4, l5⟩ := HC.out.cells hil (w' := wr) (fun k hk => hbw.block k hk) rfl
   have hok := stN_ok cs i (by omega)
   have hst := does_step hok (cs i)
   have hpar : ∀ n ∈ (stN cs i).par, I63 n := by rw [stN_par cs i (by omega)]; intro n hn; simp at hn; rcases hn with rfl | rfl <;> exact ⟨by omega, by omega⟩
   have hT1 := HT.out.below hbw
   have hr1 := hr.keep (.cells (cs i).cells 69)
   have hT2 := hT1.below ((Below.refl _ wr).alloc (Nat.le_refl _) (.cells (cs i).cells 69))
   have hdc := does_call hr1 hok (by omega) hpar hT2 (.inl (.inl HT.out.lt)) (cs i)
   have hs := fun g => Step.sent hok hst g
   have hn1 := fun hk => Step.number hst hk
   have h8 := Step.in8 hst
   have hsucc : stN cs (i + 1) = ((stN cs i).does (cs i)).S := rfl
   have hbl := heap_alloc_new wr (.cells (cs i).cells 69)
   generalize (stN cs i).does (cs i) = R at hdc hs hn1 h8 hsucc
   obtain ⟨e, n, G, S'⟩ := R
   have HSUC := Lib.hid (show stN cs (i + 1) = S' from hsucc)
   clear hsucc
   simp only at hs hn1 h8
   have hsz : snt S' = fun g => snt (stN cs i) g + if (cs i).kind = 8 ∧ e = 0 ∧ (cs i).is = true ∧ (cs i).f = g then 1 else 0 := funext fun g => hs g
   have hle : ∀ g, snt (stN cs i) g ≤ 150 ∧ 0 ≤ snt (stN cs i) g := fun g => by have h1 := (hok.m g).s1; have h2 := (hok.m g).s0; unfold snt; omega
   obtain ⟨sn, hsn⟩ : ∃ sn, sn = snt (stN cs i) := ⟨_, rfl⟩
   rw [← hsn] at hnx hsz hle
   have HSNQ := Lib.hid hsn
   clear hsn
   generalize hcs : cs i = o at l0 l1 l2 l3 l4 l5 hr1 hdc hbl hn1 h8 hsz
   obtain ⟨kd, f, a, b, t, is⟩ := o
   unfold Cl.cells at hr1 hdc hbl
   simp only at l0 l1 l2 l3 l4 l5 hr1 hdc hbl hn1 h8 hsz
   clear hs hst hok hpar hT1 hT2 hr
   have hx : ∀ w', Tch (fun k => ¬ (K3 W nb k ∨ k = wr.heap.size)) (wr.alloc (.cells #[.int .i64 kd, .int .i64 f, .int .i64 a, .int .i64 b, .int .i64 t, .bool is] 69)) w' → w'.heap[nb]? = some (.cells (eight sn).toArray 3 (0, 0)) ∧ w'.heap[wr.heap.size]? = some (.cells #[.int .i64 kd, .int .i64 f, .int .i64 a, .int .i64 b, .int .i64 t, .bool is] 69 (0, 0)) ∧ Below W.heap.size W w' := fun w' h => by
    have hnl : nb < wr.heap.size := (Array.getElem?_eq_some_iff.1 hnx).1
    have hba : Below wr.heap.size wr (wr.alloc (.cells #[.int .i64 kd, .int .i64 f, .int .i64 a, .int .i64 b, .int .i64 t, .bool is] 69)) := (Below.refl _ wr).alloc (Nat.le_refl _) _
    refine ⟨((h.block nb (by simp; omega) (fun z => z (.inl (.inr rfl)))).trans (hba.block nb hnl)).trans hnx, (h.block _ (by simp) (fun z => z (.inr rfl))).trans hbl, (hbw.trans (hba.mono hbw.size)).trans (h.below (by have := hbw.size; simp; omega) (fun k hk e => e (.inl (.inl hk))))⟩
   have HX := Lib.hid hx
   have HDC := Lib.hid hdc
   have HN1 := Lib.hid hn1
   have H8 := Lib.hid h8
   have HSZ := Lib.hid hsz
   have HLE := Lib.hid hle
   clear hx hdc hn1 h8 hsz hle hnx hbl hbw hr1 hcs
   by_cases hk8 : kd = 8
   ·subst hk8
    have hn1 := HN1.out rfl
    by_cases he : e = 0
    ·obtain ⟨h0, h1⟩ := H8.out he (by omega) (by omega)
     have HODD := Lib.hid (fun w' => odd_no w' 8 f a b t is h0 h1)
     obtain ⟨fn, rfl⟩ : ∃ fn : Nat, f = fn := ⟨f.toNat, by omega⟩
     cases is with
     | false =>
      have hn0 : n = 0 := hn1.2 (.inr rfl)
      subst hn0 he
      have HSNE := Lib.hid (show snt S' = sn from by rw [HSZ.out]; funext g; rw [if_neg (fun z => by cases z.2.2.1)]; omega)
      clear hn1
      go_wp2_with (first | (go_at_call 45; (with_reducible refine HDC.out.mono ?_); rintro e1 w5 ⟨vp, vt, vr, ⟨VA, vn, vc, rfl⟩, rfl, hd⟩; have hgp := hd.p; have hgt := hd.t; obtain ⟨PA, pc, rfl⟩ := own_slice hgp; obtain ⟨TA, tc, rfl⟩ := own_slice hgt; obtain ⟨x1, x2, x3⟩ := HX.out w5 hd.tch; have HD := Lib.hid hd; have HX1 := Lib.hid x1; have HX3 := Lib.hid x3; have hbo := (((Below.refl _ w5).alloc (Nat.le_refl _) (.cells #[.int .i64 0, .int .i64 0, .slice PA G.plain.length pc, .slice TA G.timed.length tc, .bool G.granted, .int .i64 G.time, .slice VA vn vc] 71)).block wr.heap.size (Array.getElem?_eq_some_iff.1 x2).1).trans x2; obtain ⟨y0, y1, y2, y3, y4, y5⟩ := o_cells hbo; have HBO := Lib.hid hbo; clear hd hgp hgt x1 x2 x3 hbo) | (go_at_call 46; (with_reducible refine (HODD.out _).mono ?_); rintro e2 w6 ⟨rfl, hb6⟩; clear y0 y1 y2 y3 y4 y5; have hz6 := (hb6.block w5.heap.size (by simp)).trans (heap_alloc_new w5 (.cells #[.int .i64 0, .int .i64 0, .slice PA G.plain.length pc, .slice TA G.timed.length tc, .bool G.granted, .int .i64 G.time, .slice VA vn vc] 71)); obtain ⟨⟨k0, k1, k2, k3, k4, k5, k6⟩, _⟩ := t_cells hz6; have ho6 := (hb6.block wr.heap.size (Array.getElem?_eq_some_iff.1 HBO.out).1).trans HBO.out; obtain ⟨y0, y1, y2, y3, y4, y5⟩ := o_cells ho6; have HB6 := Lib.hid hb6; clear hb6 hz6 ho6))
      have hf : Below w5.heap.size w5 w6 := ((Below.refl _ w5).alloc (Nat.le_refl _) (.cells #[.int .i64 0, .int .i64 0, .slice PA G.plain.length pc, .slice TA G.timed.length tc, .bool G.granted, .int .i64 G.time, .slice VA vn vc] 71)).trans (HB6.out.mono (by simp))
      exact ⟨⟨i + 1, by omega, by go_num, by rw [HSUC.out]; exact (HD.out.at_.fewer (fun k hk => .inl hk)).below hf, by rw [HSUC.out, HSNE.out]; exact (hf.block nb (Array.getElem?_eq_some_iff.1 HX1.out).1).trans HX1.out, HX3.out.trans (hf.mono HX3.out.size)⟩, by simp [RowKit.intOf]; omega⟩
     | true =>
      have hn0 := hn1.1 he rfl
      have hnq : n = sn fn := by rw [hn0, HSNQ.out, Int.toNat_natCast]; rfl
      have hz0 : (0 : Int) ≤ (fn : Int) := h0
      have hz8 : (fn : Int) < 8 := h1
      have hfn : fn < 8 := by omega
      subst hnq he
      have hlf := HLE.out fn
      have hws : IntKind.i64.wrap (sn fn + 1) = sn fn + 1 := by rw [IntKind.wrap_i64]; omega
      have HSNE := Lib.hid (show ∀ g, g < 8 → snt S' g = if g = fn then sn fn + 1 else sn g from fun g hg => by
       rw [HSZ.out]
       by_cases e : g = fn
       ·subst e; simp
       ·rw [if_neg e]
        simp only
        rw [if_neg (fun z => e (by have := z.2.2.2; omega))]
        omega)
      have HFN := Lib.hid hfn
      clear hn1 hn0 hlf hfn h0 h1
      go_wp2_with (first | (go_at_call 45; (with_reducible refine HDC.out.mono ?_); rintro e1 w5 ⟨vp, vt, vr, ⟨VA, vn, vc, rfl⟩, rfl, hd⟩; have hgp := hd.p; have hgt := hd.t; obtain ⟨PA, pc, rfl⟩ := own_slice hgp; obtain ⟨TA, tc, rfl⟩ := own_slice hgt; obtain ⟨x1, x2, x3⟩ := HX.out w5 hd.tch; have HD := Lib.hid hd; have HX1 := Lib.hid x1; have HX3 := Lib.hid x3; have hbo := (((Below.refl _ w5).alloc (Nat.le_refl _) (.cells #[.int .i64 0, .int .i64 (sn fn), .slice PA G.plain.length pc, .slice TA G.timed.length tc, .bool G.granted, .int .i64 G.time, .slice VA vn vc] 71)).block wr.heap.size (Array.getElem?_eq_some_iff.1 x2).1).trans x2; obtain ⟨y0, y1, y2, y3, y4, y5⟩ := o_cells hbo; have HBO := Lib.hid hbo; clear hd hgp hgt x1 x2 x3 hbo) | (go_at_call 46; (with_reducible refine (HODD.out _).mono ?_); rintro e2 w6 ⟨rfl, hb6⟩; clear y0 y1 y2 y3 y4 y5; have hz6 := (hb6.block w5.heap.size (by simp)).trans (heap_alloc_new w5 (.cells #[.int .i64 0, .int .i64 (sn fn), .slice PA G.plain.length pc, .slice TA G.timed.length tc, .bool G.granted, .int .i64 G.time, .slice VA vn vc] 71)); obtain ⟨⟨k0, k1, k2, k3, k4, k5, k6⟩, _⟩ := t_cells hz6; have ho6 := (hb6.block wr.heap.size (Array.getElem?_eq_some_iff.1 HBO.out).1).trans HBO.out; obtain ⟨y0, y1, y2, y3, y4, y5⟩ := o_cells ho6; have HB6 := Lib.hid hb6; clear hb6 hz6 ho6))
      have hf : Below w5.heap.size w5 w6 := ((Below.refl _ w5).alloc (Nat.le_refl _) (.cells #[.int .i64 0, .int .i64 (sn fn), .slice PA G.plain.length pc, .slice TA G.timed.length tc, .bool G.granted, .int .i64 G.time, .slice VA vn vc] 71)).trans (HB6.out.mono (by simp))
      have hnx6 := (hf.block nb (Array.getElem?_eq_some_iff.1 HX1.out).1).trans HX1.out
      obtain ⟨q3, q4⟩ := eight_cell hnx6 fn HFN.out
      have HF := Lib.hid hf
      have HNX6 := Lib.hid hnx6
      clear hf hnx6 k0 k2 k3 k4 k5 k6 y0 y2 y3 y4 y5
      refine st_ (n := 8) (S := fun w' => w'.cell? ⟨w5.heap.size, 1, none⟩ = some (.int .i64 (sn fn)) ∧ w'.cell? ⟨wr.heap.size, 1, none⟩ = some (.int .i64 fn) ∧ w'.cell? ⟨nb, fn, none⟩ = some (.int .i64 (sn fn))) (ds := []) hmix rfl ⟨k1, y1, q3⟩ (fun hHeld => ?_)
      refine pu_ (i := 0) (N := (some 58)) (v := ?_) (a' := ?_) rfl rfl (by kernel_rfl) (fun _ _ _ h => h) (Or.inl ⟨by rfl, ?_⟩) ?_ ?_
      rotate_left
      ·intro w'
       go_simp
       try with_reducible rfl
      rotate_left
      ·simp only [Act.put, qa, qb, qc]
       rfl
      refine tk_ (i := 1) (N := (some 59)) (v := ?_) (a' := ?_) rfl rfl (by kernel_rfl) (fun _ _ _ h => h) (Or.inl ⟨by rfl, ?_⟩) hHeld ?_ ?_
      rotate_left
      ·intro w' hS_
       obtain ⟨zz0, zz1, zz2⟩ := hS_
       go_simp
       try with_reducible rfl
      rotate_left
      ·simp only [Act.put, qa, qb, qc]
       rfl
      refine pu_ (i := 2) (N := (some 60)) (v := ?_) (a' := ?_) rfl rfl (by kernel_rfl) (fun _ _ _ h => h) (Or.inl ⟨by rfl, ?_⟩) ?_ ?_
      rotate_left
      ·intro w'
       go_simp
       try with_reducible rfl
      rotate_left
      ·simp only [Act.put, qa, qb, qc]
       rfl
      refine pu_ (i := 3) (N := (some 61)) (v := ?_) (a' := ?_) rfl rfl (by kernel_rfl) (fun _ _ _ h => h) (Or.inl ⟨by rfl, ?_⟩) ?_ ?_
      rotate_left
      ·intro w'
       go_simp
       try with_reducible rfl
      rotate_left
      ·simp only [Act.put, qa, qb, qc]
       rfl
      refine tk_ (i := 4) (N := (some 62)) (v := ?_) (a' := ?_) rfl rfl (by kernel_rfl) (fun _ _ _ h => h) (Or.inl ⟨by rfl, ?_⟩) hHeld ?_ ?_
      rotate_left
      ·intro w' hS_
       obtain ⟨zz0, zz1, zz2⟩ := hS_
       go_simp
       try with_reducible rfl
      rotate_left
      ·simp only [Act.put, qa, qb, qc]
       rfl
      refine pu_ (i := 5) (N := (some 63)) (v := ?_) (a' := ?_) rfl rfl (by kernel_rfl) (fun _ _ _ h => h) (Or.inl ⟨by rfl, ?_⟩) ?_ ?_
      rotate_left
      ·intro w'
       go_simp
       try with_reducible rfl
      rotate_left
      ·simp only [Act.put, qa, qb, qc]
       rfl
      refine tk_ (i := 6) (N := (some 64)) (v := ?_) (a' := ?_) rfl rfl (by kernel_rfl) (fun _ _ _ h => h) (Or.inl ⟨by rfl, ?_⟩) hHeld ?_ ?_
      rotate_left
      ·intro w' hS_
       obtain ⟨zz0, zz1, zz2⟩ := hS_
       go_simp
       try with_reducible rfl
      rotate_left
      ·simp only [Act.put, qa, qb, qc]
       rfl
      refine pu_ (i := 7) (N := (some 65)) (v := (.bool false)) (a' := ?_) rfl rfl (by kernel_rfl) (fun _ _ _ h => h) (Or.inl ⟨by rfl, ?_⟩) ?_ ?_
      ·intro w'
       go_simp
       try with_reducible rfl
      rotate_left
      ·simp only [Act.put, qa, qb, qc]
       rfl
      refine done_ (by kernel_rfl) ?_
      go_wp2_with fail
      obtain ⟨w7, hw7⟩ : ∃ w7, w7 = w6.drew := ⟨_, rfl⟩
      rw [← hw7]
      have hb7 : Below w6.heap.size w6 w7 := by rw [hw7]; exact (Below.refl _ w6).drew
      have hnx7 := (hb7.block nb (Array.getElem?_eq_some_iff.1 HNX6.out).1).trans HNX6.out
      have y1 := pw_cell_below hb7 y1
      obtain ⟨q3, q4⟩ := eight_cell hnx7 fn HFN.out
      have q5 : w7.drew.frozen? ⟨nb, fn, none⟩ = false := q4
      have HB7 := Lib.hid hb7
      have HNX7 := Lib.hid hnx7
      clear hb7 hnx7 hw7 k1
      refine st_ (n := 11) (S := fun w' => w'.cell? ⟨wr.heap.size, 1, none⟩ = some (.int .i64 fn) ∧ w'.cell? ⟨nb, fn, none⟩ = some (.int .i64 (sn fn))) (ds := [10]) hmix rfl ⟨y1, q3⟩ (fun hHeld => ?_)
      refine pu_ (i := 0) (N := (some 66)) (v := ?_) (a' := ?_) rfl rfl (by kernel_rfl) (fun _ _ _ h => h) (Or.inl ⟨by rfl, ?_⟩) ?_ ?_
      rotate_left
      ·intro w'
       go_simp
       try with_reducible rfl
      rotate_left
      ·simp only [Act.put, qa, qb, qc]
       rfl
      refine pu_ (i := 1) (N := (some 67)) (v := ?_) (a' := ?_) rfl rfl (by kernel_rfl) (fun _ _ _ h => h) (Or.inl ⟨by rfl, ?_⟩) ?_ ?_
      rotate_left
      ·intro w'
       go_simp
       try with_reducible rfl
      rotate_left
      ·simp only [Act.put, qa, qb, qc]
       rfl
      refine tk_ (i := 2) (N := (some 68)) (v := ?_) (a' := ?_) rfl rfl (by kernel_rfl) (fun _ _ _ h => h) (Or.inl ⟨by rfl, ?_⟩) hHeld ?_ ?_
      rotate_left
      ·intro w' hS_
       obtain ⟨zz0, zz1⟩ := hS_
       go_simp
       try with_reducible rfl
      rotate_left
      ·simp only [Act.put, qa, qb, qc]
       rfl
      refine pu_ (i := 3) (N := (some 69)) (v := ?_) (a' := ?_) rfl rfl (by kernel_rfl) (fun _ _ _ h => h) (Or.inl ⟨by rfl, ?_⟩) ?_ ?_
      rotate_left
      ·intro w'
       go_simp
       try with_reducible rfl
      rotate_left
      ·simp only [Act.put, qa, qb, qc]
       rfl
      refine pu_ (i := 4) (N := (some 70)) (v := ?_) (a' := ?_) rfl rfl (by kernel_rfl) (fun _ _ _ h => h) (Or.inl ⟨by rfl, ?_⟩) ?_ ?_
      rotate_left
      ·intro w'
       go_simp
       try with_reducible rfl
      rotate_left
      ·simp only [Act.put, qa, qb, qc]
       rfl
      refine tk_ (i := 5) (N := (some 71)) (v := ?_) (a' := ?_) rfl rfl (by kernel_rfl) (fun _ _ _ h => h) (Or.inl ⟨by rfl, ?_⟩) hHeld ?_ ?_
      rotate_left
      ·intro w' hS_
       obtain ⟨zz0, zz1⟩ := hS_
       go_simp
       try with_reducible rfl
      rotate_left
      ·simp only [Act.put, qa, qb, qc]
       rfl
      refine pu_ (i := 6) (N := (some 72)) (v := ?_) (a' := ?_) rfl rfl (by kernel_rfl) (fun _ _ _ h => h) (Or.inl ⟨by rfl, ?_⟩) ?_ ?_
      rotate_left
      ·intro w'
       go_simp
       try with_reducible rfl
      rotate_left
      ·simp only [Act.put, qa, qb, qc]
       rfl
      refine tk_ (i := 7) (N := (some 73)) (v := ?_) (a' := ?_) rfl rfl (by kernel_rfl) (fun _ _ _ h => h) (Or.inl ⟨by rfl, ?_⟩) hHeld ?_ ?_
      rotate_left
      ·intro w' hS_
       obtain ⟨zz0, zz1⟩ := hS_
       go_simp
       try with_reducible rfl
      rotate_left
      ·simp only [Act.put, qa, qb, qc]
       rfl
      refine pu_ (i := 8) (N := (some 74)) (v := ?_) (a' := ?_) rfl rfl (by kernel_rfl) (fun _ _ _ h => h) (Or.inl ⟨by rfl, ?_⟩) ?_ ?_
      rotate_left
      ·intro w'
       go_simp
       try with_reducible rfl
      rotate_left
      ·simp only [Act.put, qa, qb, qc]
       rfl
      refine pu_ (i := 9) (N := (some 75)) (v := ?_) (a' := ?_) rfl rfl (by kernel_rfl) (fun _ _ _ h => h) (Or.inl ⟨by rfl, ?_⟩) ?_ ?_
      rotate_left
      ·intro w'
       go_simp
       try with_reducible rfl
      rotate_left
      ·simp only [Act.put, qa, qb, qc]
       rfl
      refine la_ (i := 10) (N := none) rfl rfl (by kernel_rfl) (by decide) (fun K hK => ?_)
      skip
      refine skip_ (w1 := (World.setCell w7.drew ⟨nb, fn, none⟩ (.int .i64 (sn fn + 1)))) (by rfl) rfl (by go_simp) ?_
      refine hK.out _ _ ?_
      clear hK K
      refine done_ (by kernel_rfl) ?_
      go_wp2_with fail
      obtain ⟨w8, hw8⟩ : ∃ w8, w8 = (World.setCell w7 ⟨nb, fn, none⟩ (.int .i64 (sn fn + 1))).drew := ⟨_, rfl⟩
      rw [← hw8]
      have hcell : w8.heap[nb]? = some (.cells (eight (snt S')).toArray 3 (0, 0)) := by
       rw [hw8, ← eight_set sn (snt S') fn HFN.out (sn fn + 1) HSNE.out]
       exact heap_setCell_same w7 nb fn _ 3 _ HNX7.out
      have ht8 : Tch (fun k => k = nb) w7 w8 := by rw [hw8]; exact (Tch.setCell (P := fun k => k = nb) (Tch.refl _ w7) (p := ⟨nb, fn, none⟩) (.inl rfl) (.int .i64 (sn fn + 1))).trans (Q := fun _ => False) (Tch.of_below ((Below.refl _ _).drew)) (fun _ _ e => e.elim)
      have hf7 : Below w5.heap.size w5 w7 := HF.out.trans (HB7.out.mono HF.out.size)
      have hpos := HNL.out
      have hlt2 := HT.out.lt
      have hbw8 : Below W.heap.size W w8 := (HX3.out.trans (hf7.mono HX3.out.size)).trans (ht8.below (HX3.out.trans (hf7.mono HX3.out.size)).size (fun k hk e => by omega))
      exact ⟨⟨i + 1, by omega, by go_num, by rw [HSUC.out]; exact ((HD.out.at_.below hf7).side_ ht8 (fun k e => .inl (.inr e)) (by omega)).fewer (fun k hk => .inl hk), by rw [HSUC.out]; exact hcell, hbw8⟩, by simp [RowKit.intOf]; omega⟩
    ·have hn0 : n = 0 := hn1.2 (.inl he)
     have he' : (e == 0) = false := by simpa using he
     subst hn0
     have HSNE := Lib.hid (show snt S' = sn from by rw [HSZ.out]; funext g; rw [if_neg (fun z => he z.2.1)]; omega)
     clear hn1
     go_wp2_with (go_at_call 45; (with_reducible refine HDC.out.mono ?_); rintro e1 w5 ⟨vp, vt, vr, ⟨VA, vn, vc, rfl⟩, rfl, hd⟩; have hgp := hd.p; have hgt := hd.t; obtain ⟨PA, pc, rfl⟩ := own_slice hgp; obtain ⟨TA, tc, rfl⟩ := own_slice hgt; obtain ⟨x1, x2, x3⟩ := HX.out w5 hd.tch; have HD := Lib.hid hd; have HX1 := Lib.hid x1; have HX3 := Lib.hid x3; have hbo := (((Below.refl _ w5).alloc (Nat.le_refl _) (.cells #[.int .i64 e, .int .i64 0, .slice PA G.plain.length pc, .slice TA G.timed.length tc, .bool G.granted, .int .i64 G.time, .slice VA vn vc] 71)).block wr.heap.size (Array.getElem?_eq_some_iff.1 x2).1).trans x2; obtain ⟨y0, y1, y2, y3, y4, y5⟩ := o_cells hbo; have HBO := Lib.hid hbo; clear hd hgp hgt x1 x2 x3 hbo)
     have hf : ∀ o, Below w5.heap.size w5 (w5.alloc o) := fun o => (Below.refl _ w5).alloc (Nat.le_refl _) o
     exact ⟨⟨i + 1, by omega, by go_num, by rw [HSUC.out]; exact (HD.out.at_.fewer (fun k hk => .inl hk)).below (hf _), by rw [HSUC.out, HSNE.out]; exact ((hf _).block nb (Array.getElem?_eq_some_iff.1 HX1.out).1).trans HX1.out, HX3.out.trans ((hf _).mono HX3.out.size)⟩, by simp [RowKit.intOf]; omega⟩
   ·have hk8' : (kd == 8) = false := by simpa using hk8
    go_wp2_with (go_at_call 45; (with_reducible refine HDC.out.mono ?_); rintro e1 w5 ⟨vp, vt, vr, ⟨VA, vn, vc, rfl⟩, rfl, hd⟩; have hgp := hd.p; have hgt := hd.t; obtain ⟨PA, pc, rfl⟩ := own_slice hgp; obtain ⟨TA, tc, rfl⟩ := own_slice hgt; obtain ⟨x1, x2, x3⟩ := HX.out w5 hd.tch; have HD := Lib.hid hd; have HX1 := Lib.hid x1; have HX3 := Lib.hid x3; have hy := cell_al (show w5.cell? ⟨wr.heap.size, 0, none⟩ = some (.int .i64 kd) by simp [World.cell?, x2]) (.cells #[.int .i64 e, .int .i64 n, .slice PA G.plain.length pc, .slice TA G.timed.length tc, .bool G.granted, .int .i64 G.time, .slice VA vn vc] 71); clear hd hgp hgt x1 x2 x3)
    have hf : ∀ o, Below w5.heap.size w5 (w5.alloc o) := fun o => (Below.refl _ w5).alloc (Nat.le_refl _) o
    have hsn : snt S' = sn := by rw [HSZ.out]; funext g; rw [if_neg (fun z => hk8 z.1)]; omega
    exact ⟨⟨i + 1, by omega, by go_num, by rw [HSUC.out]; exact (HD.out.at_.fewer (fun k hk => .inl hk)).below (hf _), by rw [HSUC.out, hsn]; exact ((hf _).block nb (Array.getElem?_eq_some_iff.1 HX1.out).1).trans HX1.out, HX3.out.trans ((hf _).mono HX3.out.size)⟩, by simp [RowKit.intOf]; omega⟩
  ·obtain rfl : i = len := by omega
   have hii : ¬ (i : Int) < (i : Int) := by omega
   have hok := stN_ok cs i (by omega)
   have hj := hr.join hok (-1)
   have HJ := Lib.hid hj
   have HBW := Lib.hid hbw
   clear hr hnx hbw hj hok
   go_wp2_with (go_at_call 34; (with_reducible refine HJ.out.mono ?_); rintro e w8 ⟨rfl, hr8, ht8⟩; have HT8 := Lib.hid ht8; clear hr8 ht8)
   go_ret
   exact ⟨by first | rfl | simp, HBW.out.trans (HT8.out.below HBW.out.size (fun k hk e => e (.inl hk)))⟩
set_option maxHeartbeats 4000000 in
set_option maxRecDepth 100000 in
theorem numbers_row {H : Type} {enc : TypeId × Value → H} {base : Nat} {spare : Nat → Bool} {held : Bool} {xd : DataW H} {p : List MemPlace} (A : Option Addr) (len cap : Nat) (W : World)
  (k0 : DataW.Trod enc Tryz.prog W base spare held 66 (.slice A len cap) xd p) (hE : Env W ∧ TabZ W) :
  Calls Tryz.prog 11 #[.slice A len cap] W fun e w' => e = .returned (.bool true) ∧ Below W.heap.size W w' := by
 obtain ⟨cs, hc⟩ := calls_in k0
 clear k0
 by_cases hl : len ≤ 150
 ·exact numbers_walk W A len cap cs hc hl hE.1 hE.2
 ·have hl2 : (150 : Int) < (len : Int) := by omega
  have hu66 := Tryz.underlying66
  go_enter Tryz.func11, Tryz.ntmps11
  go_wp2
  go_ret
  exact ⟨rfl, Below.refl _ _⟩
end Go.Proofs.YtehnkebcbomidaaGreatDoor.Rt
