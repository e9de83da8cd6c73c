/- Part of a proof over the given program: SdR. -/
import Derived.Test.YtehnkebcbomidaaGreatDoorCn29
set_option linter.unusedVariables false
set_option linter.unusedSimpArgs false
namespace Go.Proofs.YtehnkebcbomidaaGreatDoor.Rt
open Go Go.RowKit Go.Proofs Go.Proofs.YtehnkebcbomidaaGreatDoorW.PrintWords Go.Proofs.YtehnkebcbomidaaGreatDoorW.PrintLast
set_option maxHeartbeats 16000000 in
set_option maxRecDepth 100000 in
theorem send_R (w : World) (H : Sh) (S : St) {N : Int} (hR : RAt H w S) (ok : S.Ok N) (hN : N + 1 < 9223372036854775808) (n : Nat) (hn : n < 8) (c body t : Int) (hl : 0 < (S.get n).look) (he : S.byE n = 0) (h0 : rtE S n c = 0) :
  Calls Tryz.prog 24 #[.pointer (some ⟨H.r, 0, none⟩), .int .i64 n, .int .i64 c, .int .i64 body, .int .i64 t, .bool true] w (MPost H w (.tuple #[.int .i64 (S.send n c body t true).1, .int .i64 (S.send n c body t true).2.1]) (S.send n c body t true).2.2) := by
 have hreg : S.reg n true = true := by unfold St.reg; rw [Int.toNat_natCast]; simp; omega
 have hE := sendE_eq he c body t true h0
 rw [hreg] at hE
 have hby := by_yes w H S hR n he
 have hrt : ∀ w1, Below w.heap.size w w1 → Calls Tryz.prog 65 #[.pointer (some ⟨H.tb, 0, none⟩), .int .i64 n, .int .i64 c] w1 fun e w' => ∃ A cc, e = .returned (.tuple #[.slice A (S.route n c).length cc, .int .i64 0]) ∧ w'.ownsRow w1.heap.size 3 1 (.slice A (S.route n c).length cc) (S.route n c).length (natC (S.route n c)) ∧ Below w1.heap.size w1 w' := fun w1 hb => (routeR w1 H S (hR.below hb) ok n hn c).mono (by
  rintro e w' ⟨h1, h2 | ⟨_, A, cc, h2, h3⟩⟩
  ·exact absurd h0 h2.1
  ·exact ⟨A, cc, h2, h3, h1⟩)
 have hR1 := fun w1 (hb1 : Below w.heap.size w w1) => hR.below (W' := w1) hb1
 have hlt : ∀ g ∈ S.route n c, g < 8 := fun g hg => (route_mem hg).1
 have hrl : (S.route n c).length ≤ 8 := by
  have := List.length_filter_le (fun g : Nat => decide ((g : Int) ≠ n) && hears (S.get g).subs (S.above.getD c.toNat 0)) (List.range 8)
  simpa [St.route] using this
 have hnd := route_nodup S n c
 have HR := Lib.hid hR
 have OK := Lib.hid ok
 have H8 := Lib.hid ok.l8
 have HE := Lib.hid hE
 have HREG := Lib.hid hreg
 have HBY := Lib.hid hby
 have HR1 := Lib.hid hR1
 have HRT := Lib.hid hrt
 have HLT := Lib.hid hlt
 have HND := Lib.hid hnd
 have HSE := Lib.hid (sdChk_lt S n c body t true true)
 have HNN := Lib.hid hN
 skip
 have hz0 : (0 : Int) ≤ (n : Int) := by omega
 have hz8 : (n : Int) < 8 := by omega
 have hu115 := Tryz.underlying115
 have hu113 := Tryz.underlying113
 have hu112 := Tryz.underlying112
 have hu121 := Tryz.underlying121
 have hu193 := Tryz.underlying193
 have hu52 := Tryz.underlying52
 have hu39 := Tryz.underlying39
 have hu41 := Tryz.underlying41
 have hu29 := Tryz.underlying29
 have hu123 := Tryz.underlying123
 clear hR ok he h0 hE hby hrt hR1 hlt hreg hnd hN
 obtain ⟨RO, hRO⟩ : ∃ RO, RO = S.route n c := ⟨_, rfl⟩
 rw [← hRO] at hrl HLT HRT HND
 have HRO := Lib.hid hRO
 clear hRO
 go_enter Tryz.func24, Tryz.ntmps24
 have hmix : Tryz.prog.follows .mixedOrders = true := by kernel_rfl
 go_wp2_with (first | (go_at_call 63; (with_reducible refine HBY.out.mono ?_); rintro e w1 ⟨rfl, hb1⟩; have c1 := (HR1.out w1 hb1).c_tb; have HRT1 := Lib.hid (HRT.out w1 hb1); have HB1 := Lib.hid hb1; clear hb1) | (go_at_call 65; (with_reducible refine HRT1.out.mono ?_); rintro e w2 ⟨A, cc, rfl, hrow, hb2⟩; have c_l := (HR1.out w2 (HB1.out.trans (hb2.mono HB1.out.size))).c_look hn; have HROW := Lib.hid hrow; have HB2 := Lib.hid hb2; clear hrow hb2))
 have hRY := HR1.out w2 (HB1.out.trans (HB2.out.mono HB1.out.size))
 have HRY := Lib.hid hRY
 clear hRY c1
 go_loopw [19, 63] (fun full iv wr => ∃ j : Nat, j ≤ RO.length ∧ iv = .int .i64 j ∧ full = .bool ((RO.take j).any (S.fullAt true)) ∧ Below w2.heap.size w2 wr) (fun _ iv _ => RO.length - (RowKit.intOf iv).toNat)
 case atStart => exact ⟨0, Nat.zero_le _, rfl, rfl, Below.refl _ _⟩
 case round =>
  obtain ⟨j, hj, rfl, rfl, hbr⟩ := hrel
  by_cases hjl : j < RO.length
  ·have hji : (j : Int) < (RO.length : Int) := by omega
   obtain ⟨ga, rfl, hga, _, hgc⟩ := nat_row HROW.out j hjl
   have hgc := pw_cell_below hbr hgc
   have hg8 := HLT.out _ (List.getElem_mem hjl)
   have hany : (RO.take (j + 1)).any (S.fullAt true) = ((RO.take j).any (S.fullAt true) || S.fullAt true RO[j]) := by
    rw [List.take_succ_eq_append_getElem hjl, List.any_append]
    simp
   generalize RO[j] = g at hgc hg8 hany
   generalize (RO.take j).any (S.fullAt true) = fb at hany ⊢
   have hgi0 : (0 : Int) ≤ (g : Int) := by omega
   have hgi8 : (g : Int) < 8 := by omega
   have hRr := HRY.out.below hbr
   have hc := hRr.c_con hg8
   have hq := hRr.c_q hg8
   have hp := hRr.c_pl hg8
   obtain ⟨PA, pc, hpl⟩ := own_slice (hRr.pla g hg8)
   rw [hpl] at hp
   have hqin := hRr.que g hg8
   have hfa : S.fullAt true g = if (true && (S.get g).con) = true then decide (64 ≤ (S.get g).Q.length) else decide (64 ≤ (S.get g).P.length) := rfl
   have HANY := Lib.hid hany
   have HQIN := Lib.hid hqin
   have HBR := Lib.hid hbr
   have HFA := Lib.hid hfa
   clear hbr hRr hqin hany hpl hfa
   generalize hcb : (S.get g).con = cb at hc HFA
   have HCB := Lib.hid hcb
   clear hcb
   generalize hql : (S.get g).Q.length = ql at HFA
   have hqcall := fun w' (hb : QIn w' (H.q g) (H.b g) (H.v g) (S.get g).Q) => qlen_call w' (H.q g) (H.b g) (H.v g) (S.get g).Q hb
   rw [hql] at hqcall
   have HQC := Lib.hid hqcall
   clear hqcall hql
   generalize hpn : (S.get g).P.length = pn at hp HFA
   clear hpn
   cases fb <;> cases cb
   all_goals (
    go_wp2_with (go_at_call 66; (with_reducible refine (HQC.out _ HQIN.out).mono ?_); rintro e w5 ⟨rfl, hb5⟩; have HB5 := Lib.hid hb5; clear hb5)
    refine ⟨⟨j + 1, hjl, by simp, ?_, ?_⟩, by simp [RowKit.intOf]; omega⟩
    ·rw [HANY.out, HFA.out]
     first | (simp; done) | (simp; omega)
    ·first | exact HBR.out | exact HBR.out.trans (HB5.out.mono HBR.out.size))
  ·obtain rfl : j = RO.length := by omega
   have hji : ¬ (RO.length : Int) < (RO.length : Int) := by omega
   rw [List.take_length]
   generalize hfl : RO.any (S.fullAt true) = fl
   have HFL := Lib.hid hfl
   have HBR := Lib.hid hbr
   have hRX := fun w' (hb : Below wr.heap.size wr w') => (HRY.out.below hbr).below (W' := w') hb
   have HRX := Lib.hid hRX
   clear hfl hbr hRX
   obtain ⟨ov, hov⟩ : ∃ ov, ov = (outs S.members).getD n 0 := ⟨_, rfl⟩
   have HOV := Lib.hid hov
   clear hov
   by_cases hb0 : 0 ≤ body <;> by_cases ht0 : 0 ≤ t
   ·have hsd : sdChk S n c body t true true = [(decide (body < 1000), 1), (decide (t ≤ 1099511627776), 208), (decide (ov ≤ t), 110), (!fl, 2)] := by
     unfold sdChk
     rw [decide_eq_true hb0, decide_eq_true ht0, ← HOV.out, ← HRO.out, HFL.out]
     rfl
    have hE := HE.out
    have hSE := HSE.out
    rw [hsd] at hE hSE
    have HE2 := Lib.hid hE
    have HSE2 := Lib.hid hSE
    clear hsd hE hSE
    go_wp2_with (first | (go_at_call 69; (with_reducible refine (members_call wr H S (HRX.out _ (Below.refl _ wr)) H8.out).mono ?_); rintro x w5 ⟨MA, mc, rfl, hm5, hb5⟩; have HM5 := Lib.hid hm5; have HB5 := Lib.hid hb5; clear hm5 hb5) | (go_at_call 68; (with_reducible refine (outR w5 S H8.out _ MA mc HM5.out).mono ?_); rintro x w6 ⟨og, rfl, hoc, hb6⟩; have ho6 := hoc n hn; rw [← HOV.out] at ho6; have HB6 := Lib.hid hb6; clear hoc hb6) | (go_at_call 67; refine Calls.mono (all4 _ _ _ _ _ _ _ 1 208 110 2 (heap_alloc_new _ _)) ?_; rintro x w7 ⟨hr7, hb7⟩; obtain ⟨v7, rfl, hr7⟩ := hr7.ret; have HR7 := Lib.hid hr7; have HB7 := Lib.hid hb7; clear hr7 hb7; refine Pause.go ?_))
    have hB27 : Below w2.heap.size w2 w7 := by
     have hbl : Below w2.heap.size w2 w6 := (HBR.out.trans (HB5.out.mono HBR.out.size)).trans (HB6.out.mono (Nat.le_trans HBR.out.size HB5.out.size))
     exact (hbl.alloc hbl.size _).trans (HB7.out.mono (by have := hbl.size; simp; omega))
    have hRw7 := HRY.out.below hB27
    rcases allres_cases HR7.out with ⟨rfl, ho7⟩ | ⟨c7, g7, rfl, ho7, hg7⟩
    ·have hE2 := HE2.out
     rw [ho7] at hE2
     have hE0 : S.sendE n c body t true = 0 := hE2
     obtain ⟨_, hnc, hbd0, hbd1, htd, _, hfa⟩ := sendE_zero hE0
     rw [HREG.out, ← HRO.out] at hfa
     have hcl : 0 ≤ c ∧ c < 16 := by
      have h1 := OK.out.al
      have h2 := OK.out.a1
      unfold St.noClass at hnc
      omega
     have hsend := sendS OK.out hn c body t true hE0
     rw [HREG.out, ← HRO.out] at hsend
     obtain ⟨mg, hmg⟩ : ∃ mg, mg = S.msg n c body t true := ⟨_, rfl⟩
     obtain ⟨sn, hsn⟩ : ∃ sn, sn = (S.get n).sent := ⟨_, rfl⟩
     rw [← hmg] at hsend
     have hmg2 : mg = ⟨⟨t, n, sn⟩, 0, c, body⟩ := by rw [hmg, hsn]; unfold St.msg; rw [Int.toNat_natCast]; rfl
     have HMG := Lib.hid hmg2
     have HSN := Lib.hid hsn
     have HFA := Lib.hid hfa
     have HSEND := Lib.hid hsend
     have HBD := Lib.hid (show (0 ≤ body ∧ body < 1000) ∧ (0 ≤ t ∧ t ≤ 1099511627776) ∧ 0 ≤ c ∧ c < 16 from ⟨⟨hbd0, hbd1⟩, htd rfl, hcl⟩)
     have cs := hRw7.c_sent hn
     rw [← hsn] at cs
     have HRW7 := Lib.hid hRw7
     have HB27 := Lib.hid hB27
     clear hE2 hE0 hnc htd hfa hcl hsend hmg hmg2 hsn hRw7 hB27 ho7
     obtain ⟨wo, hwo⟩ : ∃ wo, wo = wr := ⟨_, rfl⟩
     subst hwo
     refine Pause.mk ?_
     go_wp2_with fail
     obtain ⟨W8, hW8⟩ : ∃ W8, W8 = w7.alloc (.cells #[.int .i64 t, .int .i64 n, .int .i64 sn, .int .i64 0, .int .i64 c, .int .i64 body] 41) := ⟨_, rfl⟩
     have hblk8 := heap_alloc_new w7 (.cells #[.int .i64 t, .int .i64 n, .int .i64 sn, .int .i64 0, .int .i64 c, .int .i64 body] 41)
     have hb78 : Below w7.heap.size w7 W8 := by rw [hW8]; exact (Below.refl _ w7).alloc (Nat.le_refl _) _
     rw [← hW8] at hblk8 ⊢
     obtain ⟨mb, hmb⟩ : ∃ mb, mb = w7.heap.size := ⟨_, rfl⟩
     rw [← hmb] at hblk8 ⊢
     have hsz8 : W8.heap.size = w7.heap.size + 1 := by rw [hW8]; simp
     have hI8 : SdInv H w7 S true mg RO mb 0 H 0 W8 := ⟨(Turn.refl HRW7.out).below hb78, HRW7.out.fresh (by omega), by rw [hblk8, HMG.out]⟩
     have HI8 := Lib.hid hI8
     have HMB := Lib.hid (show mb = w7.heap.size from hmb)
     clear hW8 hblk8 hb78 hmb hsz8 hI8 cs
     go_loopw [153] (fun iv wr => ∃ (j : Nat) (H' : Sh) (dd : Int), j ≤ RO.length ∧ iv = .int .i64 j ∧ SdInv H w7 S true mg RO mb j H' dd wr) (fun iv _ => RO.length - (RowKit.intOf iv).toNat)
     case atStart => exact ⟨0, H, 0, Nat.zero_le _, rfl, HI8.out⟩
     case round =>
      obtain ⟨j, H', dd, hj, rfl, hI0⟩ := hrel
      have HI0 := Lib.hid hI0
      by_cases hjl : j < RO.length
      ·have hji : (j : Int) < (RO.length : Int) := by omega
       obtain ⟨ga, rfl, hga, hgb, hgc⟩ := nat_row HROW.out j hjl
       have hgc7 := pw_cell_below HB27.out hgc
       have hown7 : H.own ga = 0 := (HR1.out w1 HB1.out).fresh hgb
       have hgc8 : wr.cell? ⟨ga, j, none⟩ = some (.int .i64 (RO[j] : Nat)) := hI0.turn.tch.cell hgc7 (fun z => z hown7)
       have hg8 := HLT.out _ (List.getElem_mem hjl)
       have hgm : RO[j] ∈ RO := List.getElem_mem hjl
       obtain ⟨hst, hgs⟩ := give_step H8.out true mg RO HND.out HLT.out j hjl
       generalize RO[j] = g at hgc8 hg8 hst hgs hgm
       have hgi0 : (0 : Int) ≤ (g : Int) := by omega
       have hgi8 : (g : Int) < 8 := by omega
       have hblk0 := hI0.blk
       rw [HMG.out] at hblk0
       obtain ⟨p0, p1, p2, p3, p4, p5, p6⟩ := m_cells hblk0
       obtain ⟨wr1, hwr1⟩ : ∃ x, x = wr.setCell ⟨mb, 3, none⟩ (.int .i64 g) := ⟨_, rfl⟩
       have hblk1 := m_put hblk0 (.int .i64 g)
       rw [← hwr1] at hblk1
       have h0w7 : 0 < w7.heap.size := World.block_lt_of_cell? w7 _ HRW7.out.env
       have hT1 : Turn H w7 (S.give true mg (RO.take j)) H' wr1 := by rw [hwr1]; exact hI0.turn.side h0w7 (Nat.le_of_eq HMB.out.symm) hI0.own 3 _
       have hne1 : ¬ H.r = mb := fun e => by
        have h1 := hI0.turn.at_.o1
        rw [hI0.turn.r, e, hI0.own] at h1
        omega
       have hne2 : ¬ mb = H.r := fun e => hne1 e.symm
       have hnega : ¬ ga = mb := fun e => by
        have h1 := World.block_lt_of_cell? w7 _ hgc7
        have h2 := HMB.out
        have h3 : ga < w7.heap.size := h1
        omega
       have hmb1 : mb < wr1.heap.size := (Array.getElem?_eq_some_iff.1 hblk1).1
       have HWR1 := Lib.hid hwr1
       have hcn := hI0.turn.at_.c_con hg8
       rw [hI0.turn.r, hgs] at hcn
       clear hgc hgc7 hI0 hblk0 hwr1 hown7 h0w7 p0 p1 p2 p4 p5
       cases hcb : (S.get g).con
       ·rw [hcb] at hcn
        have hpT : ({ mg with d := (g : Int) } : Mg) = (⟨⟨t, n, sn⟩, g, c, body⟩ : Mg) := by rw [HMG.out]
        rw [take_plain _ _ _ (by rw [hcb]; rfl), hpT] at hst
        have HST := Lib.hid hst
        have hpl0 := hT1.at_.pla g hg8
        rw [hgs] at hpl0
        obtain ⟨PA, pc, hple⟩ := own_slice hpl0
        have hp1 := hT1.at_.c_pl hg8
        rw [hT1.r, hple] at hp1
        rw [hple] at hpl0
        have hpll := (OK.out.m g).pl
        have hrb1 := hT1.at_.blk
        rw [hT1.r] at hrb1
        have HPL0 := Lib.hid hpl0
        have HPLE := Lib.hid hple
        have HRB1 := Lib.hid hrb1
        have HT1 := Lib.hid hT1
        have HGS := Lib.hid hgs
        have HBLK1 := Lib.hid hblk1
        have HMB1 := Lib.hid hmb1
        obtain ⟨q0, q1, q2, q3, q4, q5, q6⟩ := m_cells hblk1
        obtain ⟨i0, hi, hz0_, hz1_, hz2_⟩ := info_parts inf41
        have HI := Lib.hid hi
        have HZ0 := Lib.hid hz0_
        have HZ1 := Lib.hid hz1_
        have HZ2 := Lib.hid hz2_
        clear hpl0 hple hrb1 hT1 hst hgs hpT hblk1 hmb1 hi hz0_ hz1_ hz2_ q6
        go_wp2_with fail
        rw [← HWR1.out]
        refine st_ (n := 11) (S := fun w' => w'.cell? ⟨H.r, 2 + g * 10 + 8, none⟩ = some (.slice PA (S.get g).P.length pc) ∧ w'.cell? ⟨mb, 0, none⟩ = some (.int .i64 t) ∧ w'.cell? ⟨mb, 1, none⟩ = some (.int .i64 n) ∧ w'.cell? ⟨mb, 2, none⟩ = some (.int .i64 sn) ∧ w'.cell? ⟨mb, 3, none⟩ = some (.int .i64 g) ∧ w'.cell? ⟨mb, 4, none⟩ = some (.int .i64 c) ∧ w'.cell? ⟨mb, 5, none⟩ = some (.int .i64 body)) (ds := [7, 10]) hmix rfl ⟨hp1, q0, q1, q2, q3, q4, q5⟩ (fun hHeld => ?_)
        refine pu_ (i := 0) (N := (some 177)) (v := ?_) (a' := ?_) rfl rfl (by kernel_rfl) (fun _ _ _ h => h) (Or.inl ⟨by rfl, ?_⟩) ?_ ?_
        rotate_left
        ·intro w'
         go_simp
         try with_reducible rfl
        rotate_left
        ·simp only [Act.put, qa, qb, qc]
         rfl
        refine pu_ (i := 1) (N := (some 178)) (v := ?_) (a' := ?_) rfl rfl (by kernel_rfl) (fun _ _ _ h => h) (Or.inl ⟨by rfl, ?_⟩) ?_ ?_
        rotate_left
        ·intro w'
         go_simp
         try with_reducible rfl
        rotate_left
        ·simp only [Act.put, qa, qb, qc]
         rfl
        refine pu_ (i := 2) (N := (some 179)) (v := ?_) (a' := ?_) rfl rfl (by kernel_rfl) (fun _ _ _ h => h) (Or.inl ⟨by rfl, ?_⟩) ?_ ?_
        rotate_left
        ·intro w'
         go_simp
         try with_reducible rfl
        rotate_left
        ·simp only [Act.put, qa, qb, qc]
         rfl
        refine pu_ (i := 3) (N := (some 180)) (v := ?_) (a' := ?_) rfl rfl (by kernel_rfl) (fun _ _ _ h => h) (Or.inl ⟨by rfl, ?_⟩) ?_ ?_
        rotate_left
        ·intro w'
         go_simp
         try with_reducible rfl
        rotate_left
        ·simp only [Act.put, qa, qb, qc]
         rfl
        refine tk_ (i := 4) (N := (some 181)) (v := ?_) (a' := ?_) rfl rfl (by kernel_rfl) (fun _ _ _ h => h) (Or.inl ⟨by rfl, ?_⟩) hHeld ?_ ?_
        rotate_left
        ·intro w' hS_
         obtain ⟨zz0, zz1, zz2, zz3, zz4, zz5, zz6⟩ := hS_
         go_simp
         try with_reducible rfl
        rotate_left
        ·simp only [Act.put, qa, qb, qc]
         rfl
        refine tk_ (i := 5) (N := (some 182)) (v := ?_) (a' := ?_) rfl rfl (by kernel_rfl) (fun _ _ _ h => h) (Or.inl ⟨by rfl, ?_⟩) hHeld ?_ ?_
        rotate_left
        ·intro w' hS_
         obtain ⟨zz0, zz1, zz2, zz3, zz4, zz5, zz6⟩ := hS_
         go_simp
         try with_reducible rfl
        rotate_left
        ·simp only [Act.put, qa, qb, qc]
         rfl
        refine on_ (i := 6) (N := (some 183)) rfl rfl (by kernel_rfl) (by decide) (fun K hK => ?_)
        refine value_ (w1 := ?_) (v := ?_) (by rfl) rfl ?_ ?_
        rotate_left 2
        ·go_simp
         constructor
         ·rfl
         ·rfl
        refine hK.out _ _ ⟨cell_al hp1 _, cell_al q0 _, cell_al q1 _, cell_al q2 _, cell_al q3 _, cell_al q4 _, cell_al q5 _⟩ (fun hHeld => ?_)
        clear hK K
        refine norm_ (a' := ?_) ?_ ?_
        rotate_left
        ·show Act.put _ (some 183) _ = _
         simp only [Act.put, qa, qb, qc]
         rfl
        refine la_ (i := 7) (N := (some 184)) rfl rfl (by kernel_rfl) (by decide) (fun K hK => ?_)
        refine app_ (by rfl) rfl (.tmp 181) (.tmp 183) 29 rfl 0 0 41 i0 _ 6 48 Tryz.underlying29 HI.out HZ0.out HZ1.out HZ2.out rfl (by decide) (.slice PA (S.get g).P.length pc) (S.get g).P.length (flatM (S.get g).P) (by rfl) (own_move HPL0.out (fun k hk => Below.heap_alloc _ _ k (own_lt HPL0.out k hk))) (.slice (some ⟨wr1.heap.size, 0, none⟩) 1 1) 1 (Mg.cells (⟨⟨t, n, sn⟩, g, c, body⟩ : Mg)) (by rfl) (World.ownsRow_lit (base := 0) wr1.drew #[.int .i64 t, .int .i64 n, .int .i64 sn, .int .i64 g, .int .i64 c, .int .i64 body] 1 (Nat.zero_le _) (by unfold maxLen; omega) rfl) (mcells_one _) (by unfold maxLen; omega) (by omega) (Nat.zero_le _) ?_
        intro v9 w9 hown9 hg9 hl9
        obtain ⟨A9, c9, rfl⟩ := own_slice hown9
        refine hK.out _ _ ?_
        clear hK K
        refine norm_ (a' := ?_) ?_ ?_
        rotate_left
        ·show Act.put _ (some 184) _ = _
         simp only [Act.put, qa, qb, qc]
         rfl
        refine pu_ (i := 8) (N := (some 185)) (v := ?_) (a' := ?_) rfl rfl (by kernel_rfl) (fun _ _ _ h => h) (Or.inl ⟨by rfl, ?_⟩) ?_ ?_
        rotate_left
        ·intro w'
         go_simp
         try with_reducible rfl
        rotate_left
        ·simp only [Act.put, qa, qb, qc]
         rfl
        refine pu_ (i := 9) (N := (some 186)) (v := ?_) (a' := ?_) rfl rfl (by kernel_rfl) (fun _ _ _ h => h) (Or.inl ⟨by rfl, ?_⟩) ?_ ?_
        rotate_left
        ·intro w'
         go_simp
         try with_reducible rfl
        rotate_left
        ·simp only [Act.put, qa, qb, qc]
         rfl
        refine la_ (i := 10) (N := none) rfl rfl (by kernel_rfl) (by decide) (fun K hK => ?_)
        have hT9 : Tch (fun k => H'.own k = 16 + g) wr1 w9 := (((Tch.refl _ wr1).drew).alloc _).grown hg9 (fun k hk => .inl (HT1.out.at_.op g hg8 k (by rw [HPLE.out]; exact hk)))
        have hb9 : w9.heap[H.r]? = some (.cells (rcells H' (S.give true mg (RO.take j))).toArray 115 (0, 0)) := (hT9.block H.r (Array.getElem?_eq_some_iff.1 HRB1.out).1 (by rw [← HT1.out.r, HT1.out.at_.o1]; omega)).trans HRB1.out
        have f9 : w9.frozen? ⟨H.r, 2 + g * 10 + 8, none⟩ = false := by simp [World.frozen?, hb9]
        have d9 : w9.cell? ⟨H.r, 2 + g * 10 + 8, none⟩ = some (.slice PA (S.get g).P.length pc) := hT9.cell hp1 (by show ¬ H'.own H.r = 16 + g; rw [← HT1.out.r, HT1.out.at_.o1]; omega)
        have HT9 := Lib.hid hT9
        have HOWN9 := Lib.hid hown9
        have HL9 := Lib.hid (show ∀ k, (Value.slice A9 ((S.get g).P.length + 1) c9).ownBlock = some k → H'.own k = 16 + g ∨ wr1.heap.size ≤ k from fun k hk => (hl9 k hk).elim (fun z => .inl (HT1.out.at_.op g hg8 k (by rw [HPLE.out]; exact z))) (fun z => .inr (by simp at z; omega)))
        clear hT9 hb9 hown9 hg9 hl9
        refine skip_ (w1 := (w9.setCell ⟨H.r, 2 + g * 10 + 8, none⟩ (.slice A9 ((S.get g).P.length + 1) c9))) (by rfl) rfl (by go_simp) ?_
        refine hK.out _ _ ?_
        clear hK K
        refine done_ (by kernel_rfl) ?_
        have hrow9 : w9.ownsRow 0 41 6 (.slice A9 ((S.get g).P.length + 1) c9) ((S.get g).P ++ [(⟨⟨t, n, sn⟩, g, c, body⟩ : Mg)]).length (flatM ((S.get g).P ++ [(⟨⟨t, n, sn⟩, g, c, body⟩ : Mg)])) := by
         have e : flatM ((S.get g).P ++ [(⟨⟨t, n, sn⟩, g, c, body⟩ : Mg)]) = flatM (S.get g).P ++ Mg.cells (⟨⟨t, n, sn⟩, g, c, body⟩ : Mg) := by simp [flatM]
         rw [e, List.length_append]
         exact HOWN9.out
        have hT10 := Turn.row HT1.out.at_ (by rw [give_l]; exact H8.out) hg8 HT9.out hrow9 HL9.out (w' := w9.setCell ⟨H.r, 2 + g * 10 + 8, none⟩ (.slice A9 ((S.get g).P.length + 1) c9)) (by rw [HT1.out.r])
        rw [HGS.out, ← HST.out] at hT10
        have HT10 := Lib.hid hT10
        clear hT10
        go_wp2
        refine ⟨⟨j + 1, _, g, hjl, by go_num, HT1.out.trans HT10.out, HT10.out.own mb HMB1.out HI0.out.own, ?_⟩, by simp [RowKit.intOf]; omega⟩
        rw [HT10.out.keeps HMB1.out HI0.out.own, HBLK1.out, HMG.out]
       ·rw [hcb] at hcn
        have hpT : ({ mg with d := (g : Int) } : Mg) = (⟨⟨t, n, sn⟩, g, c, body⟩ : Mg) := by rw [HMG.out]
        rw [take_timed _ _ _ (by rw [hcb]; rfl), hpT] at hst
        have HST := Lib.hid hst
        have hqR := hT1.at_.que g hg8
        rw [hgs] at hqR
        have hp1 := hT1.at_.c_q hg8
        rw [hT1.r] at hp1
        have HQR := Lib.hid hqR
        have HT1 := Lib.hid hT1
        have HGS := Lib.hid hgs
        have HBLK1 := Lib.hid hblk1
        have HMB1 := Lib.hid hmb1
        have hfull := HFA.out g hgm
        rw [show S.fullAt true g = decide (64 ≤ (S.get g).Q.length) by unfold St.fullAt; rw [hcb]; rfl] at hfull
        have hql : (S.get g).Q.length < 64 := by simpa using hfull
        have hkk : ∀ x ∈ (S.get g).Q, x.k ≠ ((⟨⟨t, n, sn⟩, g, c, body⟩ : Mg)).k := by
         intro x hx e
         have h1 := OK.out.q1 g x hx
         rw [e] at h1
         have h2 : (sn : Int) < (S.get (Int.toNat (n : Int))).sent := h1
         rw [Int.toNat_natCast, ← HSN.out] at h2
         omega
        have hok : ((⟨⟨t, n, sn⟩, g, c, body⟩ : Mg)).k.ok ∧ I64 ((⟨⟨t, n, sn⟩, g, c, body⟩ : Mg)).d ∧ I64 ((⟨⟨t, n, sn⟩, g, c, body⟩ : Mg)).cl ∧ I64 ((⟨⟨t, n, sn⟩, g, c, body⟩ : Mg)).bd := by
         have h1 := HBD.out
         have h2 := (OK.out.m n).s0
         have h3 := (OK.out.m n).s1
         have h4 := OK.out.n1
         rw [← HSN.out] at h2 h3
         exact ⟨⟨i64_of _ (by show -9223372036854775808 ≤ t; omega) (by show t < 9223372036854775808; omega), i64_of _ (by show -9223372036854775808 ≤ (n : Int); omega) (by show (n : Int) < 9223372036854775808; omega), i64_of _ (by show -9223372036854775808 ≤ sn; omega) (by show sn < 9223372036854775808; omega)⟩, i64_of _ (by show -9223372036854775808 ≤ (g : Int); omega) (by show (g : Int) < 9223372036854775808; omega), i64_of _ (by show -9223372036854775808 ≤ c; omega) (by show c < 9223372036854775808; omega), i64_of _ (by show -9223372036854775808 ≤ body; omega) (by show body < 9223372036854775808; omega)⟩
        have HOKM := Lib.hid hok
        have HKK := Lib.hid hkk
        have HQL := Lib.hid hql
        obtain ⟨q0, q1, q2, q3, q4, q5, q6⟩ := m_cells hblk1
        clear hqR hT1 hst hgs hpT hblk1 hmb1 q6 hok hkk hql hfull
        go_wp2_with fail
        rw [← HWR1.out]
        refine st_ (n := 6) (S := fun w' => w'.cell? ⟨H.r, 2 + g * 10 + 7, none⟩ = some (.pointer (some ⟨H'.q g, 0, none⟩)) ∧ w'.cell? ⟨mb, 0, none⟩ = some (.int .i64 t) ∧ w'.cell? ⟨mb, 1, none⟩ = some (.int .i64 n) ∧ w'.cell? ⟨mb, 2, none⟩ = some (.int .i64 sn) ∧ w'.cell? ⟨mb, 3, none⟩ = some (.int .i64 g) ∧ w'.cell? ⟨mb, 4, none⟩ = some (.int .i64 c) ∧ w'.cell? ⟨mb, 5, none⟩ = some (.int .i64 body)) (ds := [5]) hmix rfl ⟨hp1, q0, q1, q2, q3, q4, q5⟩ (fun hHeld => ?_)
        refine pu_ (i := 0) (N := (some 171)) (v := ?_) (a' := ?_) rfl rfl (by kernel_rfl) (fun _ _ _ h => h) (Or.inl ⟨by rfl, ?_⟩) ?_ ?_
        rotate_left
        ·intro w'
         go_simp
         try with_reducible rfl
        rotate_left
        ·simp only [Act.put, qa, qb, qc]
         rfl
        refine pu_ (i := 1) (N := (some 172)) (v := ?_) (a' := ?_) rfl rfl (by kernel_rfl) (fun _ _ _ h => h) (Or.inl ⟨by rfl, ?_⟩) ?_ ?_
        rotate_left
        ·intro w'
         go_simp
         try with_reducible rfl
        rotate_left
        ·simp only [Act.put, qa, qb, qc]
         rfl
        refine pu_ (i := 2) (N := (some 173)) (v := ?_) (a' := ?_) rfl rfl (by kernel_rfl) (fun _ _ _ h => h) (Or.inl ⟨by rfl, ?_⟩) ?_ ?_
        rotate_left
        ·intro w'
         go_simp
         try with_reducible rfl
        rotate_left
        ·simp only [Act.put, qa, qb, qc]
         rfl
        refine tk_ (i := 3) (N := (some 174)) (v := ?_) (a' := ?_) rfl rfl (by kernel_rfl) (fun _ _ _ h => h) (Or.inl ⟨by rfl, ?_⟩) hHeld ?_ ?_
        rotate_left
        ·intro w' hS_
         obtain ⟨zz0, zz1, zz2, zz3, zz4, zz5, zz6⟩ := hS_
         go_simp
         try with_reducible rfl
        rotate_left
        ·simp only [Act.put, qa, qb, qc]
         rfl
        refine tk_ (i := 4) (N := (some 175)) (v := ?_) (a' := ?_) rfl rfl (by kernel_rfl) (fun _ _ _ h => h) (Or.inl ⟨by rfl, ?_⟩) hHeld ?_ ?_
        rotate_left
        ·intro w' hS_
         obtain ⟨zz0, zz1, zz2, zz3, zz4, zz5, zz6⟩ := hS_
         go_simp
         try with_reducible rfl
        rotate_left
        ·simp only [Act.put, qa, qb, qc]
         rfl
        refine la_ (i := 5) (N := (some 176)) rfl rfl (by kernel_rfl) (by decide) (fun K hK => ?_)
        refine goes_ Tryz.func70 (by kernel_rfl) rfl #[.pointer (some ⟨H'.q g, 0, none⟩), .agg #[.int .i64 t, .int .i64 n, .int .i64 sn, .int .i64 g, .int .i64 c, .int .i64 body]] (by rfl) rfl rfl (by simp only [List.map_toArray, List.map_cons, List.map_nil]; rfl) ?_
        refine (push_call wr1.drew (H'.q g) (H'.b g) (H'.v g) (S.get g).Q (⟨⟨t, n, sn⟩, g, c, body⟩ : Mg) (HQR.out.frame (fun _ _ _ => rfl)) HOKM.out HKK.out HQL.out).mono ?_
        rintro x w9 hq9
        obtain ⟨rfl, v9, hT9⟩ := Turn.queue (w := wr1.drew) (HT1.out.at_.below ((Below.refl _ wr1).drew)) (by rw [give_l]; exact H8.out) hg8 hq9
        rw [HGS.out, ← HST.out] at hT9
        have HT9 := Lib.hid hT9
        clear hT9 hq9
        refine ⟨_, rfl, hK.out _ _ ?_⟩
        clear hK K
        refine norm_ (a' := ?_) ?_ ?_
        rotate_left
        ·show Act.put _ (some 176) _ = _
         simp only [Act.put, qa, qb, qc]
         rfl
        refine done_ (by kernel_rfl) ?_
        go_wp2
        refine ⟨⟨j + 1, _, g, hjl, by go_num, (HT1.out.below ((Below.refl _ wr1).drew)).trans HT9.out, HT9.out.own mb HMB1.out HI0.out.own, ?_⟩, by simp [RowKit.intOf]; omega⟩
        rw [HT9.out.keeps HMB1.out HI0.out.own]
        refine Eq.trans (b := wr1.heap[mb]?) rfl ?_
        rw [HBLK1.out, HMG.out]
      ·obtain rfl : j = RO.length := by omega
       have hji : ¬ (RO.length : Int) < (RO.length : Int) := by omega
       have hT := hI0.turn
       rw [List.take_length] at hT
       obtain ⟨hs1, hs2⟩ := HSEND.out
       have h12 : Below w.heap.size w w2 := HB1.out.trans (HB2.out.mono HB1.out.size)
       have h17 : Below w.heap.size w w7 := h12.trans (HB27.out.mono h12.size)
       have cs := hT.at_.c_sent hn
       rw [hs2, hT.r, ← HSN.out] at cs
       have fz := hT.at_.free (2 + n * 10 + 6)
       rw [hT.r] at fz
       have hb2 := blk_put hT.at_.blk (by rw [give_l]; exact H8.out) n 6 hn (by decide) (.int .i64 (sn + 1)) { S.get n with sent := (S.get n).sent + 1 } (by rw [hs2, ← HSN.out]; rfl)
       rw [hT.r] at hb2
       have ht2 : Tch (fun k => k = H.r) wr (wr.setCell ⟨H.r, 2 + n * 10 + 6, none⟩ (.int .i64 (sn + 1))) := Tch.setCell (P := fun k => k = H.r) (Tch.refl _ _) (p := ⟨H.r, 2 + n * 10 + 6, none⟩) (.inl rfl) _
       have hfin : Turn H' wr ((S.give true mg RO).put n { S.get n with sent := (S.get n).sent + 1 }) H' (wr.setCell ⟨H.r, 2 + n * 10 + 6, none⟩ (.int .i64 (sn + 1))) := ⟨RAt.turn hT.at_ (by rw [hT.r]; exact ht2) (by rw [hT.r]; exact hb2) rfl rfl rfl (put_keeps _ (by rw [give_l]; exact H8.out) hn _ (by rw [hs2]; exact ⟨rfl, rfl, rfl⟩)), rfl, fun _ _ h => h, ht2.mono (fun k _ e => by rw [e, ← hT.r, hT.at_.o1]; decide)⟩
       have hblk0 := hI0.blk
       rw [HMG.out] at hblk0
       obtain ⟨p0, p1, p2, p3, p4, p5, p6⟩ := m_cells hblk0
       have hne1 : ¬ H.r = mb := fun e => by
        have h1 := hI0.turn.at_.o1
        rw [hI0.turn.r, e, hI0.own] at h1
        omega
       have hne2 : ¬ mb = H.r := fun e => hne1 e.symm
       have hwrp : IntKind.i64.wrap (sn + 1) = sn + 1 := by
        have h2 := (OK.out.m n).s0
        have h3 := (OK.out.m n).s1
        have h4 := HNN.out
        rw [← HSN.out] at h2 h3
        rw [IntKind.wrap_i64]
        omega
       have HT := Lib.hid hT
       have HS1 := Lib.hid hs1
       have H17 := Lib.hid h17
       have HFIN := Lib.hid hfin
       clear hT hs1 hs2 h12 h17 hI0 hb2 ht2 hfin hblk0 p0 p1 p3 p4 p5 p6
       go_wp2
       go_ret2
       rw [HS1.out]
       try rw [hwrp]
       have hf := ((HT.out.trans HFIN.out).after H17.out).mpost (.tuple #[.int .i64 (S.get n).sent, .int .i64 0])
       rw [← HSN.out] at hf
       show MPost H w (.tuple #[.int .i64 (S.get n).sent, .int .i64 0]) ((S.give true mg RO).put n { S.get n with sent := (S.get n).sent + 1 }) _ _
       rw [← HSN.out]
       exact hf
    ·have hE2 := HE2.out
     have hlt7 := HSE2.out c7 ho7
     rw [ho7] at hE2
     have hser : S.send n c body t true = (0, c7, S) := send_err c body t true hE2 (by show (c7 : Int) ≠ 0; omega)
     have her := errno_ref w7 hRw7.env g7 n c7 (by omega) hlt7.2 hg7
     have HER := Lib.hid her
     have HSER := Lib.hid hser
     have HB27 := Lib.hid hB27
     clear her hser hB27 hRw7 hg7 ho7 hE2
     refine Pause.mk ?_
     go_wp2_with (go_at_call 64; (with_reducible refine HER.out.mono ?_); rintro e w8 ⟨rfl, hb8⟩)
     go_ret2
     rw [HSER.out]
     have h12 : Below w.heap.size w w2 := HB1.out.trans (HB2.out.mono HB1.out.size)
     have h17 : Below w.heap.size w w7 := h12.trans (HB27.out.mono h12.size)
     exact MPost.same HR.out (h17.trans (hb8.mono h17.size)) _
   ·have hsd : sdChk S n c body t true true = [(decide (body < 1000), 1), (false, 208), (decide (ov ≤ t), 110), (!fl, 2)] := by
     unfold sdChk
     rw [decide_eq_true hb0, decide_eq_false ht0, ← HOV.out, ← HRO.out, HFL.out]
     rfl
    have hE := HE.out
    have hSE := HSE.out
    rw [hsd] at hE hSE
    have HE2 := Lib.hid hE
    have HSE2 := Lib.hid hSE
    clear hsd hE hSE
    go_wp2_with (first | (go_at_call 69; (with_reducible refine (members_call wr H S (HRX.out _ (Below.refl _ wr)) H8.out).mono ?_); rintro x w5 ⟨MA, mc, rfl, hm5, hb5⟩; have HM5 := Lib.hid hm5; have HB5 := Lib.hid hb5; clear hm5 hb5) | (go_at_call 68; (with_reducible refine (outR w5 S H8.out _ MA mc HM5.out).mono ?_); rintro x w6 ⟨og, rfl, hoc, hb6⟩; have ho6 := hoc n hn; rw [← HOV.out] at ho6; have HB6 := Lib.hid hb6; clear hoc hb6) | (go_at_call 67; refine Calls.mono (all4 _ _ _ _ _ _ _ 1 208 110 2 (heap_alloc_new _ _)) ?_; rintro x w7 ⟨hr7, hb7⟩; obtain ⟨v7, rfl, hr7⟩ := hr7.ret; have HR7 := Lib.hid hr7; have HB7 := Lib.hid hb7; clear hr7 hb7; refine Pause.go ?_))
    have hB27 : Below w2.heap.size w2 w7 := by
     have hbl : Below w2.heap.size w2 w6 := (HBR.out.trans (HB5.out.mono HBR.out.size)).trans (HB6.out.mono (Nat.le_trans HBR.out.size HB5.out.size))
     exact (hbl.alloc hbl.size _).trans (HB7.out.mono (by have := hbl.size; simp; omega))
    have hRw7 := HRY.out.below hB27
    rcases allres_cases HR7.out with ⟨rfl, ho7⟩ | ⟨c7, g7, rfl, ho7, hg7⟩
    ·exfalso
     revert ho7
     simp only [firstNo_cons]
     repeat' split
     all_goals simp_all
    ·have hE2 := HE2.out
     have hlt7 := HSE2.out c7 ho7
     rw [ho7] at hE2
     have hser : S.send n c body t true = (0, c7, S) := send_err c body t true hE2 (by show (c7 : Int) ≠ 0; omega)
     have her := errno_ref w7 hRw7.env g7 n c7 (by omega) hlt7.2 hg7
     have HER := Lib.hid her
     have HSER := Lib.hid hser
     have HB27 := Lib.hid hB27
     clear her hser hB27 hRw7 hg7 ho7 hE2
     refine Pause.mk ?_
     go_wp2_with (go_at_call 64; (with_reducible refine HER.out.mono ?_); rintro e w8 ⟨rfl, hb8⟩)
     go_ret2
     rw [HSER.out]
     have h12 : Below w.heap.size w w2 := HB1.out.trans (HB2.out.mono HB1.out.size)
     have h17 : Below w.heap.size w w7 := h12.trans (HB27.out.mono h12.size)
     exact MPost.same HR.out (h17.trans (hb8.mono h17.size)) _
   ·have hsd : sdChk S n c body t true true = [(false, 1), (decide (t ≤ 1099511627776), 208), (decide (ov ≤ t), 110), (!fl, 2)] := by
     unfold sdChk
     rw [decide_eq_false hb0, decide_eq_true ht0, ← HOV.out, ← HRO.out, HFL.out]
     rfl
    have hE := HE.out
    have hSE := HSE.out
    rw [hsd] at hE hSE
    have HE2 := Lib.hid hE
    have HSE2 := Lib.hid hSE
    clear hsd hE hSE
    go_wp2_with (first | (go_at_call 69; (with_reducible refine (members_call wr H S (HRX.out _ (Below.refl _ wr)) H8.out).mono ?_); rintro x w5 ⟨MA, mc, rfl, hm5, hb5⟩; have HM5 := Lib.hid hm5; have HB5 := Lib.hid hb5; clear hm5 hb5) | (go_at_call 68; (with_reducible refine (outR w5 S H8.out _ MA mc HM5.out).mono ?_); rintro x w6 ⟨og, rfl, hoc, hb6⟩; have ho6 := hoc n hn; rw [← HOV.out] at ho6; have HB6 := Lib.hid hb6; clear hoc hb6) | (go_at_call 67; refine Calls.mono (all4 _ _ _ _ _ _ _ 1 208 110 2 (heap_alloc_new _ _)) ?_; rintro x w7 ⟨hr7, hb7⟩; obtain ⟨v7, rfl, hr7⟩ := hr7.ret; have HR7 := Lib.hid hr7; have HB7 := Lib.hid hb7; clear hr7 hb7; refine Pause.go ?_))
    have hB27 : Below w2.heap.size w2 w7 := by
     have hbl : Below w2.heap.size w2 w6 := (HBR.out.trans (HB5.out.mono HBR.out.size)).trans (HB6.out.mono (Nat.le_trans HBR.out.size HB5.out.size))
     exact (hbl.alloc hbl.size _).trans (HB7.out.mono (by have := hbl.size; simp; omega))
    have hRw7 := HRY.out.below hB27
    rcases allres_cases HR7.out with ⟨rfl, ho7⟩ | ⟨c7, g7, rfl, ho7, hg7⟩
    ·exfalso
     revert ho7
     simp only [firstNo_cons]
     repeat' split
     all_goals simp_all
    ·have hE2 := HE2.out
     have hlt7 := HSE2.out c7 ho7
     rw [ho7] at hE2
     have hser : S.send n c body t true = (0, c7, S) := send_err c body t true hE2 (by show (c7 : Int) ≠ 0; omega)
     have her := errno_ref w7 hRw7.env g7 n c7 (by omega) hlt7.2 hg7
     have HER := Lib.hid her
     have HSER := Lib.hid hser
     have HB27 := Lib.hid hB27
     clear her hser hB27 hRw7 hg7 ho7 hE2
     refine Pause.mk ?_
     go_wp2_with (go_at_call 64; (with_reducible refine HER.out.mono ?_); rintro e w8 ⟨rfl, hb8⟩)
     go_ret2
     rw [HSER.out]
     have h12 : Below w.heap.size w w2 := HB1.out.trans (HB2.out.mono HB1.out.size)
     have h17 : Below w.heap.size w w7 := h12.trans (HB27.out.mono h12.size)
     exact MPost.same HR.out (h17.trans (hb8.mono h17.size)) _
   ·have hsd : sdChk S n c body t true true = [(false, 1), (false, 208), (decide (ov ≤ t), 110), (!fl, 2)] := by
     unfold sdChk
     rw [decide_eq_false hb0, decide_eq_false ht0, ← HOV.out, ← HRO.out, HFL.out]
     rfl
    have hE := HE.out
    have hSE := HSE.out
    rw [hsd] at hE hSE
    have HE2 := Lib.hid hE
    have HSE2 := Lib.hid hSE
    clear hsd hE hSE
    go_wp2_with (first | (go_at_call 69; (with_reducible refine (members_call wr H S (HRX.out _ (Below.refl _ wr)) H8.out).mono ?_); rintro x w5 ⟨MA, mc, rfl, hm5, hb5⟩; have HM5 := Lib.hid hm5; have HB5 := Lib.hid hb5; clear hm5 hb5) | (go_at_call 68; (with_reducible refine (outR w5 S H8.out _ MA mc HM5.out).mono ?_); rintro x w6 ⟨og, rfl, hoc, hb6⟩; have ho6 := hoc n hn; rw [← HOV.out] at ho6; have HB6 := Lib.hid hb6; clear hoc hb6) | (go_at_call 67; refine Calls.mono (all4 _ _ _ _ _ _ _ 1 208 110 2 (heap_alloc_new _ _)) ?_; rintro x w7 ⟨hr7, hb7⟩; obtain ⟨v7, rfl, hr7⟩ := hr7.ret; have HR7 := Lib.hid hr7; have HB7 := Lib.hid hb7; clear hr7 hb7; refine Pause.go ?_))
    have hB27 : Below w2.heap.size w2 w7 := by
     have hbl : Below w2.heap.size w2 w6 := (HBR.out.trans (HB5.out.mono HBR.out.size)).trans (HB6.out.mono (Nat.le_trans HBR.out.size HB5.out.size))
     exact (hbl.alloc hbl.size _).trans (HB7.out.mono (by have := hbl.size; simp; omega))
    have hRw7 := HRY.out.below hB27
    rcases allres_cases HR7.out with ⟨rfl, ho7⟩ | ⟨c7, g7, rfl, ho7, hg7⟩
    ·exfalso
     revert ho7
     simp only [firstNo_cons]
     repeat' split
     all_goals simp_all
    ·have hE2 := HE2.out
     have hlt7 := HSE2.out c7 ho7
     rw [ho7] at hE2
     have hser : S.send n c body t true = (0, c7, S) := send_err c body t true hE2 (by show (c7 : Int) ≠ 0; omega)
     have her := errno_ref w7 hRw7.env g7 n c7 (by omega) hlt7.2 hg7
     have HER := Lib.hid her
     have HSER := Lib.hid hser
     have HB27 := Lib.hid hB27
     clear her hser hB27 hRw7 hg7 ho7 hE2
     refine Pause.mk ?_
     go_wp2_with (go_at_call 64; (with_reducible refine HER.out.mono ?_); rintro e w8 ⟨rfl, hb8⟩)
     go_ret2
     rw [HSER.out]
     have h12 : Below w.heap.size w w2 := HB1.out.trans (HB2.out.mono HB1.out.size)
     have h17 : Below w.heap.size w w7 := h12.trans (HB27.out.mono h12.size)
     exact MPost.same HR.out (h17.trans (hb8.mono h17.size)) _
end Go.Proofs.YtehnkebcbomidaaGreatDoor.Rt
