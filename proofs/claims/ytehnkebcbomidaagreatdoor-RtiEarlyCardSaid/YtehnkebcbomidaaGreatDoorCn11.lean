/- Part of a proof over the given program: Qv, Qp, Qq. -/
import Derived.Test.YtehnkebcbomidaaGreatDoorCn10
set_option linter.unusedVariables false
set_option linter.unusedSimpArgs false
namespace Go.Proofs.YtehnkebcbomidaaGreatDoor.Rt
open Go Go.RowKit Go.Proofs Go.Proofs.YtehnkebcbomidaaGreatDoorW.PrintWords Go.Proofs.YtehnkebcbomidaaGreatDoorW.PrintLast
def DnPost (w : World) (q b : Nat) (v : Value) (i : Nat) (R : List Mg × Nat) (e : Ending) (w' : World) : Prop := e = .returned (.bool (decide (R.2 > i))) ∧ QAt w' q b v R.1 ∧ Tch (QFp q b v) w w'
structure DnRel (w : World) (q b : Nat) (v : Value) (n : Nat) (R : List Mg × Nat) (N : Nat) (iv : Value) (wr : World) (m : Nat) (L : List Mg) (i : Nat) : Prop where
 iv : iv = .int .i64 (i : Nat)
 fuel : n ≤ m + i
 r : R = downF n m L i
 len : L.length = N
 il : i ≤ N
 at_ : QAt wr q b v L
 tch : Tch (QFp q b v) w wr
theorem downF_stop (n m : Nat) (L : List Mg) (i : Nat) (h : n ≤ 2 * i + 1) : downF n m L i = (L, i) := by
 cases m with
 | zero => rfl
 | succ m => rw [downF, if_pos h]
theorem ret_bool {a b : Bool} (h : a = b) : Ending.returned (.bool a) = .returned (.bool b) := by rw [h]
set_option maxHeartbeats 16000000 in
set_option maxRecDepth 1000000 in
theorem down_call (w : World) (q b : Nat) (v : Value) (L : List Mg) (h : QAt w q b v L) (i n : Nat) (hi : i ≤ n) (hn : n ≤ L.length) :
  Calls Tryz.prog 211 #[.iface 200 (fac q), .int .i64 i, .int .i64 n] w (DnPost w q b v i (downF n n L i)) := by
 have h0 : ∃ m L' i', DnRel w q b v n (downF n n L i) L.length (.int .i64 i) w m L' i' := ⟨n, L, i, rfl, by omega, rfl, rfl, by omega, h, Tch.refl _ _⟩
 have hlen := h.len
 have H0 := Lib.hid h0
 generalize hR : downF n n L i = R at *
 have hN : ∃ N, N = L.length := ⟨_, rfl⟩
 obtain ⟨N, hN⟩ := hN
 rw [← hN] at H0 hlen hn
 clear h h0 hR hN
 unfold fac
 go_enter Tryz.func211, Tryz.ntmps211
 go_wp2
 go_loopw [7] (fun x wr => ∃ m L' i', DnRel w q b v n R N x wr m L' i') (fun x _ => 100 - (intOf x).toNat)
 case atStart => exact H0.out
 case round =>
  obtain ⟨m, L', i', hr⟩ := hrel
  obtain rfl := hr.iv
  have hil := hr.il
  have hl := hr.len
  have hR := hr.r
  have hq := hr.at_
  have hf := hr.fuel
  have hk0 : (0 : Int) ≤ (i' : Int) := by omega
  have hk1 : (i' : Int) ≤ 64 := by omega
  have HQ := Lib.hid hq
  have HLN := Lib.hid hl
  have HRR := Lib.hid hr
  clear hq hl hr
  by_cases c : n ≤ 2 * i' + 1
  ·rw [downF_stop n m L' i' c] at hR
   have HR2 := Lib.hid hR
   clear hR
   have c1 : (n : Int) ≤ 2 * (i' : Int) + 1 := by omega
   clear c
   go_wp2
   go_ret
   have hr2 := HR2.out
   refine ⟨?_, ?_, HRR.out.tch⟩
   ·rw [hr2]
    exact ret_bool (decide_eq_decide.2 (by show _ ↔ i' > i; omega))
   ·rw [hr2]; exact HQ.out
  ·obtain ⟨m', rfl⟩ : ∃ m', m = m' + 1 := ⟨m - 1, by omega⟩
   rw [downF, if_neg c] at hR
   have c1 : ¬ (n : Int) ≤ 2 * (i' : Int) + 1 := by omega
   have c2 : ¬ 2 * (i' : Int) + 1 < 0 := by omega
   obtain ⟨s1, s2, s3⟩ := child_spec L' n i' (by omega)
   have hin : i' < n := by omega
   have HC := Lib.hid c
   have HS1 := Lib.hid s1
   have HS2 := Lib.hid s2
   have HIN := Lib.hid hin
   have HR2 := Lib.hid hR
   clear c s1 s2 s3 hR hin hf
   have hways : (∃ r : Bool, 2 * i' + 2 < n ∧ decide ((K L' (2 * i' + 2)).lt (K L' (2 * i' + 1))) = r ∧ (r = true → childF L' n i' = 2 * i' + 2) ∧ (r = false → childF L' n i' = 2 * i' + 1)) ∨ (¬ 2 * i' + 2 < n ∧ childF L' n i' = 2 * i' + 1) := by
    by_cases d : 2 * i' + 2 < n
    ·by_cases e : (K L' (2 * i' + 2)).lt (K L' (2 * i' + 1))
     ·exact .inl ⟨true, d, decide_eq_true e, fun _ => by unfold childF; rw [if_pos ⟨d, e⟩], fun e => by cases e⟩
     ·exact .inl ⟨false, d, decide_eq_false e, (fun e => by cases e), fun _ => by unfold childF; rw [if_neg (fun k => e k.2)]⟩
    ·exact .inr ⟨d, by unfold childF; rw [if_neg (fun k => d k.1)]⟩
   have hlast : ∃ z : Bool, decide ((K L' (childF L' n i')).lt (K L' i')) = z := ⟨_, rfl⟩
   obtain ⟨z, hz⟩ := hlast
   have HZ := Lib.hid hz
   clear hz
   -- behind the child: the exchange, or the end
   have fin : ∀ (w2 : World) (x : Int), z = true → x = ((childF L' n i' : Nat) : Int) → QAt w2 q b v (sw L' i' (childF L' n i')) → Tch (QFp q b v) wr w2 → DnRel w q b v n R N (.int .i64 x) w2 m' (sw L' i' (childF L' n i')) (childF L' n i') := fun w2 x hz hx hq2 ht2 => by
    have hr2 := HR2.out
    have hz2 := HZ.out
    rw [hz] at hz2
    rw [if_pos (of_decide_eq_true hz2)] at hr2
    subst hx
    have := HS1.out
    have := HS2.out
    exact ⟨rfl, by have := HRR.out.fuel; omega, hr2, by rw [sw_length]; exact HLN.out, by omega, hq2, HRR.out.tch.trans ht2 (fun _ _ e => e)⟩
   have stop : z = false → R = (L', i') := fun hz => by
    have hr2 := HR2.out
    have hz2 := HZ.out
    rw [hz] at hz2
    rw [if_neg (of_decide_eq_false hz2)] at hr2
    exact hr2
   have FIN := Lib.hid fin
   have STOP := Lib.hid stop
   clear fin stop
   rcases hways with ⟨r, d, hr, hch1, hch2⟩ | ⟨d, hch⟩
   ·have d1 : 2 * (i' : Int) + 1 + 1 < (n : Int) := by omega
    have HD := Lib.hid d
    have HR3 := Lib.hid hr
    clear d hr
    cases r with
    | true =>
     have HCH := Lib.hid (hch1 rfl)
     clear hch1 hch2
     cases z with
     | true =>
      go_wp2_with (go_at_call 327; (with_reducible refine (less_any _ q b v L' HQ.out _ _ (2 * i' + 2) (2 * i' + 1) (by omega) (by omega) (by have := HLN.out; have := HD.out; omega) (by have := HLN.out; have := HD.out; omega) true HR3.out).mono ?_); rintro e w1 ⟨rfl, hb1⟩)
      have HB := Lib.hid hb1
      clear hb1
      go_wp2_with (go_at_call 327; (with_reducible refine (less_any _ q b v L' (HQ.out.below HB.out) _ _ (2 * i' + 2) i' (by omega) (by omega) (by have := HLN.out; have := HD.out; omega) (by have := HLN.out; have := HIN.out; omega) true (by have := HZ.out; rwa [HCH.out] at this)).mono ?_); rintro e w2 ⟨rfl, hb2⟩)
      have HB2 := Lib.hid hb2
      clear hb2
      go_wp2_with (go_at_call 330; (with_reducible refine (swap_any _ q b v L' ((HQ.out.below HB.out).below HB2.out) _ _ i' (2 * i' + 2) (by omega) (by omega) (by have := HLN.out; have := HIN.out; omega) (by have := HLN.out; have := HD.out; omega)).mono ?_); rintro e w3 ⟨rfl, hq3, ht3⟩)
      have hrel := FIN.out w3 (2 * (i' : Int) + 1 + 1) (by simp) (by rw [HCH.out]; simp; omega) (by rw [HCH.out]; exact hq3) (((Tch.of_below HB.out).trans (Tch.of_below (P := QFp q b v) HB2.out) (fun _ _ e => e)).trans ht3 (fun _ _ e => e))
      exact ⟨⟨_, _, _, hrel⟩, by have := HD.out; simp [intOf]; omega⟩
     | false =>
      go_wp2_with (go_at_call 327; (with_reducible refine (less_any _ q b v L' HQ.out _ _ (2 * i' + 2) (2 * i' + 1) (by omega) (by omega) (by have := HLN.out; have := HD.out; omega) (by have := HLN.out; have := HD.out; omega) true HR3.out).mono ?_); rintro e w1 ⟨rfl, hb1⟩)
      have HB := Lib.hid hb1
      clear hb1
      go_wp2_with (go_at_call 327; (with_reducible refine (less_any _ q b v L' (HQ.out.below HB.out) _ _ (2 * i' + 2) i' (by omega) (by omega) (by have := HLN.out; have := HD.out; omega) (by have := HLN.out; have := HIN.out; omega) false (by have := HZ.out; rwa [HCH.out] at this)).mono ?_); rintro e w2 ⟨rfl, hb2⟩)
      go_ret
      have hr2 := STOP.out (by simp)
      refine ⟨?_, ?_, (HRR.out.tch.trans (Tch.of_below HB.out) (fun _ _ e => e)).trans (Tch.of_below (P := QFp q b v) hb2) (fun _ _ e => e)⟩
      ·rw [hr2]
       exact ret_bool (decide_eq_decide.2 (by show _ ↔ i' > i; omega))
      ·rw [hr2]; exact (HQ.out.below HB.out).below hb2
    | false =>
     have HCH := Lib.hid (hch2 rfl)
     clear hch1 hch2
     cases z with
     | true =>
      go_wp2_with (go_at_call 327; (with_reducible refine (less_any _ q b v L' HQ.out _ _ (2 * i' + 2) (2 * i' + 1) (by omega) (by omega) (by have := HLN.out; have := HD.out; omega) (by have := HLN.out; have := HD.out; omega) false HR3.out).mono ?_); rintro e w1 ⟨rfl, hb1⟩)
      have HB := Lib.hid hb1
      clear hb1
      go_wp2_with (go_at_call 327; (with_reducible refine (less_any _ q b v L' (HQ.out.below HB.out) _ _ (2 * i' + 1) i' (by omega) (by omega) (by have := HLN.out; have := HD.out; omega) (by have := HLN.out; have := HIN.out; omega) true (by have := HZ.out; rwa [HCH.out] at this)).mono ?_); rintro e w2 ⟨rfl, hb2⟩)
      have HB2 := Lib.hid hb2
      clear hb2
      go_wp2_with (go_at_call 330; (with_reducible refine (swap_any _ q b v L' ((HQ.out.below HB.out).below HB2.out) _ _ i' (2 * i' + 1) (by omega) (by omega) (by have := HLN.out; have := HIN.out; omega) (by have := HLN.out; have := HD.out; omega)).mono ?_); rintro e w3 ⟨rfl, hq3, ht3⟩)
      have hrel := FIN.out w3 (2 * (i' : Int) + 1) (by simp) (by rw [HCH.out]; simp) (by rw [HCH.out]; exact hq3) (((Tch.of_below HB.out).trans (Tch.of_below (P := QFp q b v) HB2.out) (fun _ _ e => e)).trans ht3 (fun _ _ e => e))
      exact ⟨⟨_, _, _, hrel⟩, by have := HD.out; simp [intOf]; omega⟩
     | false =>
      go_wp2_with (go_at_call 327; (with_reducible refine (less_any _ q b v L' HQ.out _ _ (2 * i' + 2) (2 * i' + 1) (by omega) (by omega) (by have := HLN.out; have := HD.out; omega) (by have := HLN.out; have := HD.out; omega) false HR3.out).mono ?_); rintro e w1 ⟨rfl, hb1⟩)
      have HB := Lib.hid hb1
      clear hb1
      go_wp2_with (go_at_call 327; (with_reducible refine (less_any _ q b v L' (HQ.out.below HB.out) _ _ (2 * i' + 1) i' (by omega) (by omega) (by have := HLN.out; have := HD.out; omega) (by have := HLN.out; have := HIN.out; omega) false (by have := HZ.out; rwa [HCH.out] at this)).mono ?_); rintro e w2 ⟨rfl, hb2⟩)
      go_ret
      have hr2 := STOP.out (by simp)
      refine ⟨?_, ?_, (HRR.out.tch.trans (Tch.of_below HB.out) (fun _ _ e => e)).trans (Tch.of_below (P := QFp q b v) hb2) (fun _ _ e => e)⟩
      ·rw [hr2]
       exact ret_bool (decide_eq_decide.2 (by show _ ↔ i' > i; omega))
      ·rw [hr2]; exact (HQ.out.below HB.out).below hb2
   ·have d1 : ¬ 2 * (i' : Int) + 1 + 1 < (n : Int) := by omega
    have HD := Lib.hid d
    have HCH := Lib.hid hch
    clear d hch
    cases z with
    | true =>
     go_wp2_with (go_at_call 327; (with_reducible refine (less_any _ q b v L' HQ.out _ _ (2 * i' + 1) i' (by omega) (by omega) (by have := HLN.out; have := HC.out; omega) (by have := HLN.out; have := HIN.out; omega) true (by have := HZ.out; rwa [HCH.out] at this)).mono ?_); rintro e w2 ⟨rfl, hb2⟩)
     have HB2 := Lib.hid hb2
     clear hb2
     go_wp2_with (go_at_call 330; (with_reducible refine (swap_any _ q b v L' (HQ.out.below HB2.out) _ _ i' (2 * i' + 1) (by omega) (by omega) (by have := HLN.out; have := HIN.out; omega) (by have := HLN.out; have := HC.out; omega)).mono ?_); rintro e w3 ⟨rfl, hq3, ht3⟩)
     have hrel := FIN.out w3 (2 * (i' : Int) + 1) (by simp) (by rw [HCH.out]; simp) (by rw [HCH.out]; exact hq3) ((Tch.of_below HB2.out).trans ht3 (fun _ _ e => e))
     exact ⟨⟨_, _, _, hrel⟩, by have := HC.out; simp [intOf]; omega⟩
    | false =>
     go_wp2_with (go_at_call 327; (with_reducible refine (less_any _ q b v L' HQ.out _ _ (2 * i' + 1) i' (by omega) (by omega) (by have := HLN.out; have := HC.out; omega) (by have := HLN.out; have := HIN.out; omega) false (by have := HZ.out; rwa [HCH.out] at this)).mono ?_); rintro e w2 ⟨rfl, hb2⟩)
     go_ret
     have hr2 := STOP.out (by simp)
     refine ⟨?_, ?_, HRR.out.tch.trans (Tch.of_below (P := QFp q b v) hb2) (fun _ _ e => e)⟩
     ·rw [hr2]
      exact ret_bool (decide_eq_decide.2 (by show _ ↔ i' > i; omega))
     ·rw [hr2]; exact HQ.out.below hb2
def FPopPost (w : World) (q b : Nat) (v : Value) (L : List Mg) (m : Mg) (e : Ending) (w' : World) : Prop := ∃ v', e = .returned (.iface 41 m.val) ∧ QAt w' q b v' L ∧ v'.ownBlock = v.ownBlock ∧ Tch (QFp q b v) w w'
set_option maxHeartbeats 16000000 in
set_option maxRecDepth 1000000 in
theorem fpop_call (w : World) (q b : Nat) (v : Value) (L : List Mg) (m : Mg) (h : QAt w q b v (L ++ [m])) :
  Calls Tryz.prog 328 #[fac q] w (FPopPost w q b v L m) := by
 have hu192 := Tryz.underlying192
 have hu200 := Tryz.underlying200
 have hu29 := Tryz.underlying29
 have hu41 := Tryz.underlying41
 have hu39 := Tryz.underlying39
 have hu190 := Tryz.underlying190
 have hll : (L ++ [m]).length = L.length + 1 := by simp
 obtain ⟨c0, c1, c2⟩ := h.cells
 obtain ⟨g, c, rfl, hc, hat⟩ := h.at (i := L.length) (by omega)
 have hql := World.block_lt_of_cell? w _ c1
 have hq0 := h.free 1
 have hlen := h.len
 have hm := hat L.length (by omega)
 simp only [List.getElem_append_right (Nat.le_refl _), Nat.sub_self, List.getElem_cons_zero] at hm
 have m0 := hm 0 (by decide)
 have m1 := hm 1 (by decide)
 have m2 := hm 2 (by decide)
 have m3 := hm 3 (by decide)
 have m4 := hm 4 (by decide)
 have m5 := hm 5 (by decide)
 simp only [Mg.cells, List.getElem?_cons_zero, List.getElem?_cons_succ, Nat.add_zero] at m0 m1 m2 m3 m4 m5
 rw [hll] at c1 hc hlen
 have hgl := World.block_lt_of_cell? w _ m0
 have HQ := Lib.hid h
 clear h hat hm
 unfold fac
 go_enter Tryz.func328, Tryz.ntmps328
 have hmix : Tryz.prog.follows .mixedOrders = true := by kernel_rfl
 go_wp2
 obtain ⟨W, hW⟩ : ∃ W1, W1 = (w.alloc (Obj.cells #[Value.pointer (some ⟨q, 0, none⟩)] 200)).alloc (Obj.cells #[.int .i64 m.k.t, .int .i64 m.k.f, .int .i64 m.k.s, .int .i64 m.d, .int .i64 m.cl, .int .i64 m.bd] 41) := ⟨_, rfl⟩
 rw [← hW]
 obtain ⟨bx, hbx⟩ : ∃ bx, bx = w.heap.size := ⟨_, rfl⟩
 rw [← hbx]
 have hB1 : Below w.heap.size w W := by rw [hW]; exact ((Below.refl _ _).alloc (Nat.le_refl _) _).alloc (by simp) _
 have b0 : W.cell? ⟨bx, 0, none⟩ = some (.pointer (some ⟨q, 0, none⟩)) := by rw [hW, hbx]; exact cell_al (by rw [World.cell?, heap_alloc_new]; rfl) _
 have x0 : ∀ j, W.cell? ⟨bx + 1, j, none⟩ = m.cells[j]? := fun j => by
  have := heap_alloc_new (w.alloc (Obj.cells #[Value.pointer (some ⟨q, 0, none⟩)] 200)) (Obj.cells #[.int .i64 m.k.t, .int .i64 m.k.f, .int .i64 m.k.s, .int .i64 m.d, .int .i64 m.cl, .int .i64 m.bd] 41)
  rw [World.size_alloc, ← hW, ← hbx] at this
  simp [World.cell?, this, Mg.cells]
 have y0 := x0 0
 have y1 := x0 1
 have y2 := x0 2
 have y3 := x0 3
 have y4 := x0 4
 have y5 := x0 5
 simp only [Mg.cells, List.getElem?_cons_zero, List.getElem?_cons_succ] at y0 y1 y2 y3 y4 y5
 have c1' := pw_cell_below hB1 c1
 have c2' := pw_cell_below hB1 c2
 have hz1 : (0 : Int) ≤ (L.length : Int) := by omega
 have hz2 : (L.length : Int) ≤ (c : Int) := by omega
 have HB1 := Lib.hid hB1
 have HW := Lib.hid hW
 have HBX := Lib.hid hbx
 have HLL := Lib.hid hll
 clear hB1 hW hbx hll c0 c1 c2 x0 m0 m1 m2 m3 m4 m5
 have hqf : W.frozen? ⟨q, 1, none⟩ = false := (HB1.out.frozen (p := ⟨q, 1, none⟩) hql).trans hq0
 refine still_tail 11 hmix (by kernel_rfl) ?_
 simp only [List.take_succ_cons, List.take_zero, List.drop_succ_cons, List.drop_zero]
 repeat still_step
 try refine wpStill_nil ?_
 go_wp2
 obtain ⟨V, hV⟩ : ∃ V, V = (W.setCell ⟨q, 1, none⟩ (.slice (some ⟨g, 0, none⟩) L.length c)).drew := ⟨_, rfl⟩
 rw [← hV]
 have hqb : q ≠ b := HQ.out.not_map HQ.out.blk
 have hgb : g ≠ b := by obtain ⟨cur, e⟩ := HQ.out.row_blk; exact HQ.out.not_map e
 have hqg : q ≠ g := by
  intro e
  have e1 := HQ.out.blk
  obtain ⟨cur, e3⟩ := HQ.out.row_blk
  rw [e, e3] at e1
  cases e1
 have hbl : b < w.heap.size := by obtain ⟨D, ⟨es, clock, h1, _⟩, _⟩ := HQ.out.map; exact (Array.getElem?_eq_some_iff.1 h1).1
 have hbx := HBX.out
 have hbq : bx ≠ q := by omega
 have hb1 : bx + 1 ≠ q := by omega
 have hbb : bx + 1 ≠ b := by omega
 have hTV : Tch (fun k => k = q) W V := by rw [hV]; exact (Tch.setCell (P := fun k => k = q) (Tch.refl _ _) (p := ⟨q, 1, none⟩) (.inl rfl) _).drew
 have z0 : V.cell? ⟨bx, 0, none⟩ = some (.pointer (some ⟨q, 0, none⟩)) := hTV.cell b0 hbq
 have a0 := hTV.cell y0 hb1
 have a1 := hTV.cell y1 hb1
 have a2 := hTV.cell y2 hb1
 have a3 := hTV.cell y3 hb1
 have a4 := hTV.cell y4 hb1
 have a5 := hTV.cell y5 hb1
 have hblk : V.heap[q]? = some (.cells #[.int .i64 64, .slice (some ⟨g, 0, none⟩) L.length c, .map (some b)] 192 (0, 0)) := by
  rw [hV]
  show (W.setCell ⟨q, 1, none⟩ _).heap[q]? = _
  rw [heap_setCell_same W q 1 _ 192 _ ((HB1.out.block q hql).trans HQ.out.blk)]
  rfl
 have z1 : V.cell? ⟨q, 2, none⟩ = some (.map (some b)) := by simp [World.cell?, hblk]
 have hmapV : MapIs V b (L.length + 1) (idx (L ++ [m])) := by
  have := HQ.out.map.frame ((hTV.block b (by have := HB1.out.size; omega) (Ne.symm hqb)).trans (HB1.out.block b hbl))
  rw [HLL.out] at this
  exact this
 have hmok := HQ.out.ok m (by simp)
 have hnd := HQ.out.nd
 have hid : idx (L ++ [m]) m.k = some L.length := by
  rw [idx_iff hnd]
  exact ⟨by rw [HLL.out]; omega, by rw [K_append, if_neg (by omega), if_pos rfl]⟩
 obtain ⟨U, r1, r2, r3⟩ := map_del (W := V.drew) hmapV m.k hmok.1 (by rw [hid]; rfl) 0
 have d0 := (r2.cell (p := ⟨bx + 1, 0, none⟩) hbb).trans a0
 have d1 := (r2.cell (p := ⟨bx + 1, 1, none⟩) hbb).trans a1
 have d2 := (r2.cell (p := ⟨bx + 1, 2, none⟩) hbb).trans a2
 have d3 := (r2.cell (p := ⟨bx + 1, 3, none⟩) hbb).trans a3
 have d4 := (r2.cell (p := ⟨bx + 1, 4, none⟩) hbb).trans a4
 have d5 := (r2.cell (p := ⟨bx + 1, 5, none⟩) hbb).trans a5
 have fin : QAt U q b (.slice (some ⟨g, 0, none⟩) L.length c) L ∧ Tch (QFp q b (.slice (some ⟨g, 0, none⟩) (L ++ [m]).length c)) w U := by
  have hTU : Tch (QFp q b (.slice (some ⟨g, 0, none⟩) (L ++ [m]).length c)) V U := (Tch.refl _ V).drew.trans (r2.tch (P := QFp q b (.slice (some ⟨g, 0, none⟩) (L ++ [m]).length c)) (.inr (.inl rfl))) (fun k _ e => e)
  refine ⟨⟨(r2.other hqb).trans hblk, ?_, ?_, fun x hx => HQ.out.ok x (by simp [hx]), ?_, by omega⟩, ((Tch.of_below HB1.out).trans hTV (fun k _ e => .inl e)).trans hTU (fun k _ e => e)⟩
  ·have hr := own_move (w1 := U) HQ.out.row (fun k hk => by
    have e : k = g := by simpa [Value.ownBlock] using hk.symm
    subst e
    exact (r2.other hgb).trans ((hTV.block k (by have := HB1.out.size; omega) (Ne.symm hqg)).trans (HB1.out.block k hgl)))
   obtain ⟨h1, h2⟩ := hr
   refine ⟨flatM_length L, .inr ?_⟩
   rcases h2 with ⟨e, _⟩ | ⟨g2, cap, cur, e, e0, e1, e2, e3, e4, e5⟩
   ·cases e
   ·cases e
    refine ⟨g, c, cur, rfl, e0, e1, by omega, e3, e4, ?_⟩
    have : flatM (L ++ [m]) = flatM L ++ m.cells := by simp [flatM]
    rw [this] at e5
    have h6 := congrArg (List.take (L.length * 6)) e5
    have h7 : (flatM L ++ m.cells).take (L.length * 6) = flatM L := by
     rw [List.take_append_of_le_length (by rw [flatM_length]; exact Nat.le_refl _)]
     exact List.take_of_length_le (by rw [flatM_length]; exact Nat.le_refl _)
    have h8 : min (L.length * 6) ((L ++ [m]).length * 6) = L.length * 6 := by rw [HLL.out]; omega
    rw [List.take_take, h7, h8] at h6
    exact h6
  ·refine r3.congr (fun x => ?_)
   have hnL : (L.map Mg.k).Nodup := by rw [List.map_append, List.nodup_append] at hnd; exact hnd.1
   unfold delF
   split
   ·rename_i e
    symm
    rw [idx_none]
    intro y hy e2
    rw [List.map_append, List.nodup_append] at hnd
    exact hnd.2.2 y.k (List.mem_map_of_mem hy) m.k (by simp) (by rw [e2, e])
   ·rename_i e
    apply Option.ext
    intro y
    rw [idx_iff hnd, idx_iff hnL, HLL.out, K_append]
    constructor
    ·rintro ⟨h1, h2⟩
     by_cases c1 : y < L.length
     ·rw [if_pos c1] at h2; exact ⟨c1, h2⟩
     ·rw [if_neg c1, if_pos (by omega)] at h2; exact absurd h2.symm e
    ·rintro ⟨h1, h2⟩
     exact ⟨by omega, by rw [if_pos h1]; exact h2⟩
  ·rw [List.map_append, List.nodup_append] at hnd; exact hnd.1
 unfold Ky.val at r1
 have FIN := Lib.hid fin
 have HV := Lib.hid hV
 have HTV := Lib.hid hTV
 have R2 := Lib.hid r2
 have HID := Lib.hid hid
 have HBLK := Lib.hid hblk
 clear fin hV hTV r2 hid hblk r3 hmapV hmok hnd hbx b0 y0 y1 y2 y3 y4 y5 c1' c2' hqf
 refine still_tail 7 hmix (by kernel_rfl) ?_
 simp only [List.take_succ_cons, List.take_zero, List.drop_succ_cons, List.drop_zero]
 repeat still_step
 try refine wpStill_nil ?_
 go_wp2
 go_ret
 exact ⟨_, rfl, FIN.out.1, rfl, FIN.out.2⟩
theorem inf41 : (Tryz.prog.info? 41).map (fun i => (i.zero, i.size, i.bytes)) = some (some (.agg #[.int .i64 0, .int .i64 0, .int .i64 0, .int .i64 0, .int .i64 0, .int .i64 0]), 6, 48) := by kernel_rfl
theorem as41 (v : Value) (w : World) : (Instr.typeAssert (.iface 41 v) 20 41 false).run Tryz.prog w = .ok v w := by kernel_rfl
def FPushPost (w : World) (q b : Nat) (v : Value) (L : List Mg) (m : Mg) (e : Ending) (w' : World) : Prop := ∃ v', e = .returned (.tuple #[]) ∧ QAt w' q b v' (L ++ [m]) ∧ (∀ k, v'.ownBlock = some k → v.ownBlock = some k ∨ w.heap.size ≤ k) ∧ Tch (QFp q b v) w w'
set_option maxHeartbeats 16000000 in
set_option maxRecDepth 1000000 in
theorem fpush_call (w : World) (q b : Nat) (v : Value) (L : List Mg) (m : Mg) (h : QAt w q b v L) (hm : m.k.ok ∧ I64 m.d ∧ I64 m.cl ∧ I64 m.bd) (hn : ∀ x ∈ L, x.k ≠ m.k) (hl : L.length < 64) :
  Calls Tryz.prog 329 #[fac q, .iface 41 m.val] w (FPushPost w q b v L m) := by
 have hu192 := Tryz.underlying192
 have hu200 := Tryz.underlying200
 have hu29 := Tryz.underlying29
 have hu41 := Tryz.underlying41
 have hu39 := Tryz.underlying39
 have hu190 := Tryz.underlying190
 obtain ⟨i0, hi, hz0, hz1, hz2⟩ := info_parts inf41
 obtain ⟨c0, c1, c2⟩ := h.cells
 obtain ⟨A, c, rfl, hc⟩ := h.form
 have hql := World.block_lt_of_cell? w _ c1
 have hq0 := h.free 1
 have hbl : b < w.heap.size := by obtain ⟨D, ⟨es, clock, h1, _⟩, _⟩ := h.map; exact (Array.getElem?_eq_some_iff.1 h1).1
 have hqb : q ≠ b := h.not_map h.blk
 have hcm : c ≤ maxLen := by
  rcases h.row.2 with ⟨e, _⟩ | ⟨g2, cap, cur, e, _, _, _, e3, _⟩
  ·simp only [Value.slice.injEq] at e; unfold maxLen; omega
  ·simp only [Value.slice.injEq] at e; omega
 have HQ := Lib.hid h
 have HN := Lib.hid hn
 have HM := Lib.hid hm
 have HI := Lib.hid hi
 have HZ0 := Lib.hid hz0
 have HZ1 := Lib.hid hz1
 have HZ2 := Lib.hid hz2
 clear h hn hm hi hz0 hz1 hz2
 have has := as41
 unfold fac Mg.val
 go_enter Tryz.func329, Tryz.ntmps329
 have hmix : Tryz.prog.follows .mixedOrders = true := by kernel_rfl
 go_wp2
 obtain ⟨W, hW⟩ : ∃ W1, W1 = (w.alloc (Obj.cells #[Value.pointer (some ⟨q, 0, none⟩)] 200)).alloc (Obj.cells #[.int .i64 m.k.t, .int .i64 m.k.f, .int .i64 m.k.s, .int .i64 m.d, .int .i64 m.cl, .int .i64 m.bd] 41) := ⟨_, rfl⟩
 rw [← hW]
 obtain ⟨bx, hbx⟩ : ∃ bx, bx = w.heap.size := ⟨_, rfl⟩
 rw [← hbx]
 have hB1 : Below w.heap.size w W := by rw [hW]; exact ((Below.refl _ _).alloc (Nat.le_refl _) _).alloc (by simp) _
 have b0 : W.cell? ⟨bx, 0, none⟩ = some (.pointer (some ⟨q, 0, none⟩)) := by rw [hW, hbx]; exact cell_al (by rw [World.cell?, heap_alloc_new]; rfl) _
 have x0 : ∀ j, W.cell? ⟨bx + 1, j, none⟩ = m.cells[j]? := fun j => by
  have := heap_alloc_new (w.alloc (Obj.cells #[Value.pointer (some ⟨q, 0, none⟩)] 200)) (Obj.cells #[.int .i64 m.k.t, .int .i64 m.k.f, .int .i64 m.k.s, .int .i64 m.d, .int .i64 m.cl, .int .i64 m.bd] 41)
  rw [World.size_alloc, ← hW, ← hbx] at this
  simp [World.cell?, this, Mg.cells]
 have y0 := x0 0
 have y1 := x0 1
 have y2 := x0 2
 have y3 := x0 3
 have y4 := x0 4
 have y5 := x0 5
 simp only [Mg.cells, List.getElem?_cons_zero, List.getElem?_cons_succ] at y0 y1 y2 y3 y4 y5
 have c1' := pw_cell_below hB1 c1
 have c2' := pw_cell_below hB1 c2
 have hbx0 : bx ≠ b := by omega
 have hbx1 : bx + 1 ≠ b := by omega
 have hbq : bx ≠ q := by omega
 have hbq1 : bx + 1 ≠ q := by omega
 have hmapW : MapIs W b L.length (idx L) := HQ.out.map.frame (hB1.block b hbl)
 have hidn : idx L m.k = none := (idx_none m.k).2 HN.out
 obtain ⟨v1, t1, U1, U, _, _, r1, _, r2, r3⟩ := map_put (W := W.drew) hmapW (by omega) m.k HM.out.1 L.length (i64_small _ (by omega))
 rw [hidn] at r3
 simp only [Option.isSome_none, Bool.false_eq_true, if_false] at r3
 have u0 := (r2.cell (p := ⟨bx, 0, none⟩) hbx0).trans b0
 have u1 := (r2.cell (p := ⟨q, 1, none⟩) hqb).trans c1'
 have a0 := (r2.cell (p := ⟨bx + 1, 0, none⟩) hbx1).trans y0
 have a1 := (r2.cell (p := ⟨bx + 1, 1, none⟩) hbx1).trans y1
 have a2 := (r2.cell (p := ⟨bx + 1, 2, none⟩) hbx1).trans y2
 have a3 := (r2.cell (p := ⟨bx + 1, 3, none⟩) hbx1).trans y3
 have a4 := (r2.cell (p := ⟨bx + 1, 4, none⟩) hbx1).trans y4
 have a5 := (r2.cell (p := ⟨bx + 1, 5, none⟩) hbx1).trans y5
 have hTU : Tch (QFp q b (.slice A L.length c)) w U := ((Tch.of_below hB1).trans (Q := fun _ => False) (Tch.refl _ W).drew (fun _ _ e => e.elim)).trans (r2.tch (P := QFp q b (.slice A L.length c)) (.inr (.inl rfl))) (fun k _ e => e)
 have hsU : bx + 2 = U.heap.size := by
  rw [r2.size]
  show _ = W.heap.size
  rw [hW, hbx]; simp
 have hblkU : U.heap[q]? = some (.cells #[.int .i64 64, .slice A L.length c, .map (some b)] 192 (0, 0)) := (r2.other hqb).trans ((hB1.block q hql).trans HQ.out.blk)
 have hrowU : U.ownsRow 0 41 6 (.slice A L.length c) L.length (flatM L) := own_move HQ.out.row (fun k hk => by
  have hne : k ≠ b := by
   rcases HQ.out.row.2 with ⟨e, _⟩ | ⟨g2, cap, cur, e, _, e1, _⟩
   ·rw [e] at hk; cases hk
   ·rw [e] at hk
    have : k = g2 := by simpa [Value.ownBlock] using hk.symm
    subst this
    exact HQ.out.not_map e1
  exact (r2.other hne).trans (hB1.block k (own_lt HQ.out.row k hk)))
 have hqr : ∀ k, (Value.slice A L.length c).ownBlock = some k → k ≠ q ∧ k < bx := fun k hk => by
  refine ⟨?_, by have := own_lt HQ.out.row k hk; omega⟩
  intro e
  rcases HQ.out.row.2 with ⟨e2, _⟩ | ⟨g2, cap, cur, e2, _, e1, _⟩
  ·rw [e2] at hk; cases hk
  ·rw [e2] at hk
   have : k = g2 := by simpa [Value.ownBlock] using hk.symm
   rw [← this, e, HQ.out.blk] at e1
   cases e1
 have hmapU : MapIs U b (L.length + 1) (updF (idx L) m.k L.length) := r3
 have hqfU : U.frozen? ⟨q, 1, none⟩ = false := by simp [World.frozen?, hblkU]
 have hne1 : some q ≠ (Value.slice A L.length c).ownBlock := fun e => (hqr q e.symm).1 rfl
 have hne2 : some bx ≠ (Value.slice A L.length c).ownBlock := fun e => by have := (hqr bx e.symm).2; omega
 have hne3 : some (bx + 1) ≠ (Value.slice A L.length c).ownBlock := fun e => by have := (hqr (bx + 1) e.symm).2; omega
 have hs1 : q < U.heap.size := by omega
 have hs2 : bx < U.heap.size := by omega
 have hs3 : bx + 1 < U.heap.size := by omega
 have hqn1 : ¬ q = bx := fun e => hbq e.symm
 have hqn2 : ¬ q = bx + 1 := fun e => hbq1 e.symm
 have hne4 : some b ≠ (Value.slice A L.length c).ownBlock := fun e => by
  rcases HQ.out.row.2 with ⟨e2, _⟩ | ⟨g2, cap, cur, e2, _, e1, _⟩
  ·rw [e2] at e; cases e
  ·rw [e2] at e
   have : b = g2 := by simpa [Value.ownBlock] using e
   subst this
   exact HQ.out.not_map e1 rfl
 have hnd : ((L ++ [m]).map Mg.k).Nodup := by
  rw [List.map_append, List.nodup_append]
  refine ⟨HQ.out.nd, by simp, fun x hx y hy e => ?_⟩
  obtain ⟨z, hz, rfl⟩ := List.mem_map.1 hx
  simp at hy
  exact HN.out z hz (e.trans hy)
 have FND := Lib.hid hnd
 have fidx : ∀ x, updF (idx L) m.k L.length x = idx (L ++ [m]) x := fun x => by
  symm
  unfold updF
  have hll : (L ++ [m]).length = L.length + 1 := by simp
  split
  ·rename_i e
   rw [idx_iff hnd, hll, K_append, if_neg (by omega), if_pos rfl]
   exact ⟨by omega, e.symm⟩
  ·rename_i e
   apply Option.ext
   intro y
   rw [idx_iff hnd, idx_iff HQ.out.nd, hll, K_append]
   constructor
   ·rintro ⟨h1, h2⟩
    by_cases c1 : y < L.length
    ·rw [if_pos c1] at h2; exact ⟨c1, h2⟩
    ·rw [if_neg c1, if_pos (by omega)] at h2; exact absurd h2.symm e
   ·rintro ⟨h1, h2⟩
    exact ⟨by omega, by rw [if_pos h1]; exact h2⟩
 have FIDX := Lib.hid fidx
 clear hnd fidx
 unfold Ky.val at r1
 have HB1 := Lib.hid hB1
 have HW := Lib.hid hW
 have HBX := Lib.hid hbx
 have HMW := Lib.hid hmapW
 have HID := Lib.hid hidn
 have R2 := Lib.hid r2
 have R3 := Lib.hid r3
 have HTU := Lib.hid hTU
 have HSU := Lib.hid hsU
 have HBLK := Lib.hid hblkU
 have HROW := Lib.hid hrowU
 have HMU := Lib.hid hmapU
 have HQR := Lib.hid hqr
 clear hB1 hW hbx hmapW hidn r2 r3 hTU hsU hblkU hrowU hmapU hqr
 clear x0 c0 c1 c2
 refine still_tail 13 hmix (by kernel_rfl) ?_
 simp only [List.take_succ_cons, List.take_zero, List.drop_succ_cons, List.drop_zero]
 repeat still_step
 try refine wpStill_nil ?_
 go_wp2
 obtain ⟨V, hV⟩ : ∃ V, V = U := ⟨_, rfl⟩
 clear hV V b0 y0 y1 y2 y3 y4 y5 c1' c2' hmix
 have hmix : Tryz.prog.follows .mixedOrders = true := by kernel_rfl
 have u1' := cell_al u1 (Obj.cells #[.int .i64 m.k.t, .int .i64 m.k.f, .int .i64 m.k.s, .int .i64 m.d, .int .i64 m.cl, .int .i64 m.bd] 41)
 have u0' := cell_al u0 (Obj.cells #[.int .i64 m.k.t, .int .i64 m.k.f, .int .i64 m.k.s, .int .i64 m.d, .int .i64 m.cl, .int .i64 m.bd] 41)
 have hqf' := (frozen?_alloc_cells U #[.int .i64 m.k.t, .int .i64 m.k.f, .int .i64 m.k.s, .int .i64 m.d, .int .i64 m.cl, .int .i64 m.bd] 41 ⟨q, 1, none⟩).trans hqfU
 have n0 := World.new_ne U _ u0
 have n1 := World.new_ne U _ u1
 have n2 := World.new_ne U _ a0
 have n3 := World.new_ne U _ a1
 have n4 := World.new_ne U _ a2
 have n5 := World.new_ne U _ a3
 have n6 := World.new_ne U _ a4
 have n7 := World.new_ne U _ a5
 go_region_law ((refine step_append_lies _ (by rfl) (.tmp 26) (.tmp 28) 29 (by rfl) 0 41 i0 _ 6 48 Tryz.underlying29 HI.out HZ0.out HZ1.out HZ2.out rfl (by decide) (.slice A L.length c) L.length (flatM L) (by rfl) (own_move HROW.out (fun k hk => Below.heap_alloc _ _ k (own_lt HROW.out k hk))) ⟨_, 0, none⟩ 1 1 m.cells (by rfl) rfl (World.news_of_block (heap_alloc_new _ _)) (mcells_one m) (by decide) (by unfold maxLen; omega) (by omega) (Nat.zero_le _) _ rfl ?_; intro g' cap w1 hown1 hgrow hat hlt; have hz0 := (hgrow.cell_far ⟨bx, 0, none⟩ (by simp; omega) hne2).trans u0'; have hz1 := (hgrow.cell_far ⟨q, 1, none⟩ (by simp; omega) hne1).trans u1'; have hz2 := (hgrow.frozen_far ⟨q, 1, none⟩ (by simp; omega) hne1).trans hqf'))
 all_goals (
  go_end0
  have hT1 : Tch (fun k => (Value.slice A L.length c).ownBlock = some k) U w1 := Tch.grown (((Tch.refl _ U).alloc _).drew) hgrow (fun k e => .inl e)
  have hg' : g' ≠ q := by
   rcases hat with e | e
   ·intro e2; rw [e2] at e; exact hne1 e.symm
   ·have : U.heap.size ≤ g' := by rw [e]; simp
    omega
  have hwq : w1.heap[q]? = some (.cells #[.int .i64 64, .slice A L.length c, .map (some b)] 192 (0, 0)) := (hT1.block q hs1 (fun e => hne1 e.symm)).trans HBLK.out
  refine ⟨.slice (some ⟨g', 0, none⟩) (L.length + 1) cap, rfl, ⟨?_, ?_, ?_, ?_, ?_, ?_⟩, ?_, ?_⟩
  ·show (w1.setCell ⟨q, 1, none⟩ _).heap[q]? = _
   rw [heap_setCell_same w1 q 1 _ 192 _ hwq]
   rfl
  ·have e : flatM (L ++ [m]) = flatM L ++ m.cells := by simp [flatM]
   rw [e]
   have hll : (L ++ [m]).length = L.length + 1 := by simp
   rw [hll]
   refine own_move (w := w1) hown1 (fun k hk => ?_)
   have : k = g' := by simpa [Value.ownBlock] using hk.symm
   subst this
   show (w1.setCell ⟨q, 1, none⟩ _).heap[k]? = _
   exact heap_setCell_other w1 ⟨q, 1, none⟩ k _ hg'
  ·have hm1 : MapIs w1 b (L.length + 1) (updF (idx L) m.k L.length) := HMU.out.frame (hT1.block b (by have := HBX.out; omega) (fun e => hne4 e.symm))
   have hm2 : MapIs (w1.setCell ⟨q, 1, none⟩ (.slice (some ⟨g', 0, none⟩) (L.length + 1) cap)) b (L.length + 1) (updF (idx L) m.k L.length) := hm1.frame (heap_setCell_other w1 ⟨q, 1, none⟩ b _ (fun e => hqb e.symm))
   have hll : (L ++ [m]).length = L.length + 1 := by simp
   rw [hll]
   exact hm2.congr FIDX.out
  ·intro x hx
   rcases List.mem_append.1 hx with e | e
   ·exact HQ.out.ok x e
   ·rw [List.mem_singleton.1 e]; exact HM.out
  ·exact FND.out
  ·simp; omega
  ·intro k hk
   have : k = g' := by simpa [Value.ownBlock] using hk.symm
   subst this
   rcases hat with e | e
   ·exact .inl e
   ·refine .inr ?_
    have := HBX.out
    have : U.heap.size ≤ k := by rw [e]; simp
    omega
  ·refine (HTU.out.trans (hT1.mono (Q := QFp q b (.slice A L.length c)) (fun k _ e => .inr (.inr e))) (fun k _ e => e)).trans (Q := QFp q b (.slice A L.length c)) ?_ (fun k _ e => e)
   exact (Tch.setCell (P := QFp q b (.slice A L.length c)) (Tch.refl _ _) (p := ⟨q, 1, none⟩) (.inl (.inl rfl)) _))
end Go.Proofs.YtehnkebcbomidaaGreatDoor.Rt
