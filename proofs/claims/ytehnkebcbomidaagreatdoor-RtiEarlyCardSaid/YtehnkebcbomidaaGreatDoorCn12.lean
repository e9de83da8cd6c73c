/- Part of a proof over the given program: Qw, Qx, Qy, Qz, Ta. -/
import Derived.Test.YtehnkebcbomidaaGreatDoorCn11
set_option linter.unusedVariables false
set_option linter.unusedSimpArgs false
namespace Go.Proofs.YtehnkebcbomidaaGreatDoor.Rt
open Go Go.RowKit Go.Proofs Go.Proofs.YtehnkebcbomidaaGreatDoorW.PrintWords Go.Proofs.YtehnkebcbomidaaGreatDoorW.PrintLast
def QPost (w : World) (q b : Nat) (v : Value) (L : List Mg) (r : Value) (e : Ending) (w' : World) : Prop := ∃ v', e = .returned r ∧ QAt w' q b v' L ∧ (∀ k, v'.ownBlock = some k → v.ownBlock = some k ∨ w.heap.size ≤ k) ∧ Tch (QFp q b v) w w'
theorem fp_back {w : World} {q b : Nat} {v v' : Value} (h : ∀ k, v'.ownBlock = some k → v.ownBlock = some k ∨ w.heap.size ≤ k) (k : Nat) (hk : k < w.heap.size) (hq : QFp q b v' k) : QFp q b v k := by
 rcases hq with e | e | e
 ·exact .inl e
 ·exact .inr (.inl e)
 ·rcases h k e with e | e
  ·exact .inr (.inr e)
  ·omega
theorem flen_any (w : World) (q b : Nat) (v : Value) (L : List Mg) (h : QAt w q b v L) (N : Int) (hN : (L.length : Int) = N) :
  Calls Tryz.prog 326 #[.agg #[.pointer (some ⟨q, 0, none⟩)]] w fun e w' => e = .returned (.int .i64 N) ∧ Below w.heap.size w w' := by subst hN; exact flen_call w q b v L h
theorem up_any (w : World) (q b : Nat) (v : Value) (L : List Mg) (h : QAt w q b v L) (x : Int) (j : Nat) (hx : x = j) (hj : j < L.length) :
  Calls Tryz.prog 204 #[.iface 200 (.agg #[.pointer (some ⟨q, 0, none⟩)]), .int .i64 x] w (UpPost w q b v (upF (j + 1) L j)) := by subst hx; exact up_call w q b v L h j hj
theorem down_any (w : World) (q b : Nat) (v : Value) (L : List Mg) (h : QAt w q b v L) (x y : Int) (i n : Nat) (hx : x = i) (hy : y = n) (hi : i ≤ n) (hn : n ≤ L.length) :
  Calls Tryz.prog 211 #[.iface 200 (.agg #[.pointer (some ⟨q, 0, none⟩)]), .int .i64 x, .int .i64 y] w (DnPost w q b v i (downF n n L i)) := by subst hx hy; exact down_call w q b v L h i n hi hn
set_option maxHeartbeats 4000000 in
theorem hpush_call (w : World) (q b : Nat) (v : Value) (L : List Mg) (m : Mg) (h : QAt w q b v L) (hm : m.k.ok ∧ I64 m.d ∧ I64 m.cl ∧ I64 m.bd) (hn : ∀ x ∈ L, x.k ≠ m.k) (hl : L.length < 64) :
  Calls Tryz.prog 140 #[.iface 200 (fac q), .iface 41 m.val] w (QPost w q b v (pushL L m) (.tuple #[])) := by
 have hp := fpush_call w q b v L m h hm hn hl
 unfold fac Mg.val at *
 have HP := Lib.hid hp
 have hz : (0 : Int) ≤ (L.length : Int) := by omega
 have hz2 : (L.length : Int) ≤ 64 := by omega
 clear hp h hm hn
 go_enter Tryz.func140, Tryz.ntmps140
 go_wp2_with (go_at_call 329; (with_reducible refine HP.out.mono ?_); rintro e w1 ⟨v1, rfl, hq1, ho1, ht1⟩)
 have hll : (L ++ [m]).length = L.length + 1 := by simp
 have HLL := Lib.hid hll
 have HQ1 := Lib.hid hq1
 have HO1 := Lib.hid ho1
 have HT1 := Lib.hid ht1
 clear hll hq1 ho1 ht1
 go_wp2_with (go_at_call 326; (with_reducible refine (flen_any _ q b v1 (L ++ [m]) HQ1.out ((L.length : Int) + 1) (by rw [HLL.out]; simp)).mono ?_); rintro e w2 ⟨rfl, hb2⟩)
 have HB2 := Lib.hid hb2
 clear hb2
 go_wp2_with (go_at_call 204; (with_reducible refine (up_any _ q b v1 (L ++ [m]) (HQ1.out.below HB2.out) _ L.length (by omega) (by rw [HLL.out]; omega)).mono ?_); rintro e w3 ⟨rfl, hq3, ht3⟩)
 go_end0
 exact ⟨v1, rfl, hq3, HO1.out, (HT1.out.trans (Tch.of_below (P := fun _ => False) HB2.out) (fun _ _ e => e.elim)).trans ht3 (fp_back HO1.out)⟩
set_option maxHeartbeats 4000000 in
theorem hpop_call (w : World) (q b : Nat) (v : Value) (L : List Mg) (h : QAt w q b v L) (hl : 0 < L.length) :
  Calls Tryz.prog 148 #[.iface 200 (fac q)] w (QPost w q b v (popL L) (.iface 41 ((popT L).getD (L.length - 1) mg0).val)) := by
 have hlen := h.len
 have HQ := Lib.hid h
 unfold fac Mg.val at *
 obtain ⟨n, hn⟩ : ∃ n, L.length = n + 1 := ⟨L.length - 1, by omega⟩
 have HN := Lib.hid hn
 clear h
 have hn64 : (n : Int) ≤ 64 := by omega
 have hn0 : (0 : Int) ≤ (n : Int) := by omega
 clear hn hlen hl
 go_enter Tryz.func148, Tryz.ntmps148
 go_wp2_with (go_at_call 326; (with_reducible refine (flen_any _ q b v L HQ.out ((n : Int) + 1) (by rw [HN.out]; simp)).mono ?_); rintro e w1 ⟨rfl, hb1⟩)
 have HB1 := Lib.hid hb1
 clear hb1
 go_wp2_with (go_at_call 330; (with_reducible refine (swap_any _ q b v L (HQ.out.below HB1.out) _ _ 0 n (by simp) (by omega) (by have := HN.out; omega) (by have := HN.out; omega)).mono ?_); rintro e w2 ⟨rfl, hq2, ht2⟩)
 have HQ2 := Lib.hid hq2
 have HT2 := Lib.hid ht2
 clear hq2 ht2
 go_wp2_with (go_at_call 211; (with_reducible refine (down_any _ q b v (sw L 0 n) HQ2.out _ _ 0 n (by simp) (by omega) (by omega) (by rw [sw_length]; have := HN.out; omega)).mono ?_); rintro e w3 ⟨rfl, hq3, ht3⟩)
 have e1 : (downF n n (sw L 0 n) 0).1 = popL L ++ [(popT L).getD (L.length - 1) mg0] := by
  have e2 : (downF n n (sw L 0 n) 0).1 = popT L := by unfold popT; rw [HN.out]; rfl
  rw [e2]
  have := take_last (popT L) (L.length - 1) (by rw [popT_length]; have := HN.out; omega)
  exact this
 rw [e1] at hq3
 have HQ3 := Lib.hid hq3
 have HT3 := Lib.hid ht3
 clear hq3 ht3 e1
 have hp := fpop_call w3 q b v (popL L) _ HQ3.out
 unfold fac at hp
 have HP := Lib.hid hp
 clear hp
 go_wp2_with (go_at_call 328; (with_reducible refine HP.out.mono ?_); rintro e w4 ⟨v4, rfl, hq4, ho4, ht4⟩)
 go_ret
 exact ⟨v4, rfl, hq4, fun k hk => .inl (by rw [← ho4]; exact hk), (((Tch.of_below HB1.out).trans HT2.out (fun _ _ e => e)).trans HT3.out (fun _ _ e => e)).trans ht4 (fun _ _ e => e)⟩
theorem down_bool (w : World) (q b : Nat) (v : Value) (L : List Mg) (h : QAt w q b v L) (x y : Int) (i n : Nat) (hx : x = i) (hy : y = n) (hi : i ≤ n) (hn : n ≤ L.length) (r : Bool) (hr : decide ((downF n n L i).2 > i) = r) :
  Calls Tryz.prog 211 #[.iface 200 (.agg #[.pointer (some ⟨q, 0, none⟩)]), .int .i64 x, .int .i64 y] w fun e w' => e = .returned (.bool r) ∧ QAt w' q b v (downF n n L i).1 ∧ Tch (QFp q b v) w w' := by
 subst hx hy
 refine (down_call w q b v L h i n hi hn).mono ?_
 rintro e w' ⟨h1, h2⟩
 rw [hr] at h1
 exact ⟨h1, h2⟩
set_option maxHeartbeats 8000000 in
theorem hrem_call (w : World) (q b : Nat) (v : Value) (L : List Mg) (h : QAt w q b v L) (i : Nat) (hi : i < L.length) :
  Calls Tryz.prog 149 #[.iface 200 (fac q), .int .i64 i] w (QPost w q b v (remL L i) (.iface 41 ((remT L i).getD (L.length - 1) mg0).val)) := by
 have hlen := h.len
 have HQ := Lib.hid h
 unfold fac
 obtain ⟨n, hn⟩ : ∃ n, L.length = n + 1 := ⟨L.length - 1, by omega⟩
 have HN := Lib.hid hn
 have HI := Lib.hid hi
 clear h
 have hn64 : (n : Int) ≤ 64 := by omega
 have hn0 : (0 : Int) ≤ (n : Int) := by omega
 have tail : ∀ w3, QAt w3 q b v (remT L i) → Tch (QFp q b v) w w3 → Calls Tryz.prog 328 #[.agg #[.pointer (some ⟨q, 0, none⟩)]] w3 (QPost w q b v (remL L i) (.iface 41 ((remT L i).getD (L.length - 1) mg0).val)) := fun w3 hq3 ht3 => by
  have e1 := take_last (remT L i) (L.length - 1) (by rw [remT_length]; omega)
  rw [e1] at hq3
  refine (fpop_call w3 q b v (remL L i) _ hq3).mono ?_
  rintro e w4 ⟨v4, rfl, hq4, ho4, ht4⟩
  exact ⟨v4, rfl, hq4, fun k hk => .inl (by rw [← ho4]; exact hk), ht3.trans ht4 (fun _ _ e => e)⟩
 have TAIL := Lib.hid tail
 clear tail hn hlen hi
 by_cases c : n = i
 ·subst c
  have hrt : remT L n = L := by unfold remT; rw [if_pos (by rw [HN.out]; rfl)]
  have HRT := Lib.hid hrt
  clear hrt
  go_enter Tryz.func149, Tryz.ntmps149
  go_wp2_with (go_at_call 326; (with_reducible refine (flen_any _ q b v L HQ.out ((n : Int) + 1) (by rw [HN.out]; simp)).mono ?_); rintro e w1 ⟨rfl, hb1⟩)
  have hp := TAIL.out w1 (by rw [HRT.out]; exact HQ.out.below hb1) (Tch.of_below hb1)
  have HP := Lib.hid hp
  clear hp hb1
  go_wp2_with (go_at_call 328; (with_reducible refine HP.out.mono ?_); rintro e w4 ⟨v4, rfl, hq4⟩)
  go_ret
  exact ⟨v4, rfl, hq4⟩
 ·have hne : ¬ (n : Int) = (i : Int) := by omega
  have hrt : remT L i = fixF n (sw L i n) i := by unfold remT; rw [HN.out, if_neg (by simpa using c)]; rfl
  have HRT := Lib.hid hrt
  have hin : i < n := by have := HI.out; have := HN.out; omega
  have HIN := Lib.hid hin
  clear hrt c hin
  obtain ⟨r, hr⟩ : ∃ r : Bool, decide ((downF n n (sw L i n) i).2 > i) = r := ⟨_, rfl⟩
  have HR := Lib.hid hr
  clear hr
  cases r with
  | true =>
   go_enter Tryz.func149, Tryz.ntmps149
   go_wp2_with (go_at_call 326; (with_reducible refine (flen_any _ q b v L HQ.out ((n : Int) + 1) (by rw [HN.out]; simp)).mono ?_); rintro e w1 ⟨rfl, hb1⟩)
   have HB1 := Lib.hid hb1
   clear hb1
   go_wp2_with (go_at_call 330; (with_reducible refine (swap_any _ q b v L (HQ.out.below HB1.out) _ _ i n (by omega) (by omega) (by have := HI.out; omega) (by have := HN.out; omega)).mono ?_); rintro e w2 ⟨rfl, hq2, ht2⟩)
   have HQ2 := Lib.hid hq2
   have HT2 := Lib.hid ht2
   clear hq2 ht2
   go_wp2_with (go_at_call 211; (with_reducible refine (down_bool _ q b v (sw L i n) HQ2.out _ _ i n (by omega) (by omega) (by have := HIN.out; omega) (by rw [sw_length]; have := HN.out; omega) true HR.out).mono ?_); rintro e w3 ⟨rfl, hq3, ht3⟩)
   have hp := TAIL.out w3 (by rw [HRT.out]; unfold fixF; rw [if_pos (of_decide_eq_true HR.out)]; exact hq3) (((Tch.of_below HB1.out).trans HT2.out (fun _ _ e => e)).trans ht3 (fun _ _ e => e))
   have HP := Lib.hid hp
   clear hp hq3 ht3
   go_wp2_with (go_at_call 328; (with_reducible refine HP.out.mono ?_); rintro e w4 ⟨v4, rfl, hq4⟩)
   go_ret
   exact ⟨v4, rfl, hq4⟩
  | false =>
   go_enter Tryz.func149, Tryz.ntmps149
   go_wp2_with (go_at_call 326; (with_reducible refine (flen_any _ q b v L HQ.out ((n : Int) + 1) (by rw [HN.out]; simp)).mono ?_); rintro e w1 ⟨rfl, hb1⟩)
   have HB1 := Lib.hid hb1
   clear hb1
   go_wp2_with (go_at_call 330; (with_reducible refine (swap_any _ q b v L (HQ.out.below HB1.out) _ _ i n (by omega) (by omega) (by have := HI.out; omega) (by have := HN.out; omega)).mono ?_); rintro e w2 ⟨rfl, hq2, ht2⟩)
   have HQ2 := Lib.hid hq2
   have HT2 := Lib.hid ht2
   clear hq2 ht2
   go_wp2_with (go_at_call 211; (with_reducible refine (down_bool _ q b v (sw L i n) HQ2.out _ _ i n (by omega) (by omega) (by have := HIN.out; omega) (by rw [sw_length]; have := HN.out; omega) false HR.out).mono ?_); rintro e w3 ⟨rfl, hq3, ht3⟩)
   have HQ3 := Lib.hid hq3
   have HT3 := Lib.hid ht3
   clear hq3 ht3
   go_wp2_with (go_at_call 204; (with_reducible refine (up_any _ q b v (downF n n (sw L i n) i).1 HQ3.out _ i (by omega) (by rw [downF_length, sw_length]; exact HI.out)).mono ?_); rintro e w5 ⟨rfl, hq5, ht5⟩)
   have hp := TAIL.out w5 (by rw [HRT.out]; unfold fixF; rw [if_neg (of_decide_eq_false HR.out)]; exact hq5) ((((Tch.of_below HB1.out).trans HT2.out (fun _ _ e => e)).trans HT3.out (fun _ _ e => e)).trans ht5 (fun _ _ e => e))
   have HP := Lib.hid hp
   clear hp hq5 ht5
   go_wp2_with (go_at_call 328; (with_reducible refine HP.out.mono ?_); rintro e w4 ⟨v4, rfl, hq4⟩)
   go_ret
   exact ⟨v4, rfl, hq4⟩
def QIn (W : World) (q b : Nat) (v : Value) (Q : List Mg) : Prop := ∃ L, QAt W q b v L ∧ QH L Q
def QInPost (w : World) (q b : Nat) (v : Value) (Q : List Mg) (r : Value) (e : Ending) (w' : World) : Prop := ∃ v', e = .returned r ∧ QIn w' q b v' Q ∧ (∀ k, v'.ownBlock = some k → v.ownBlock = some k ∨ w.heap.size ≤ k) ∧ Tch (QFp q b v) w w'
set_option maxHeartbeats 8000000 in
set_option maxRecDepth 100000 in
theorem push_call (w : World) (q b : Nat) (v : Value) (Q : List Mg) (m : Mg) (h : QIn w q b v Q) (hm : m.k.ok ∧ I64 m.d ∧ I64 m.cl ∧ I64 m.bd) (hn : ∀ x ∈ Q, x.k ≠ m.k) (hl : Q.length < 64) :
  Calls Tryz.prog 70 #[.pointer (some ⟨q, 0, none⟩), m.val] w (QInPost w q b v (ins m Q) (.int .i64 0)) := by
 obtain ⟨L, hq, hh⟩ := h
 have hll := hh.len
 have hn' : ∀ x ∈ L, x.k ≠ m.k := fun x hx => hn x (hh.perm.mem_iff.1 hx)
 obtain ⟨c0, c1, c2⟩ := hq.cells
 obtain ⟨A, c, rfl, hc⟩ := hq.form
 have hql := World.block_lt_of_cell? w _ c1
 have hln : L.length < 64 := by omega
 have hln2 : ¬ (64 : Int) ≤ (L.length : Int) := by omega
 have hu192 := Tryz.underlying192
 have hu200 := Tryz.underlying200
 have hu29 := Tryz.underlying29
 have hu41 := Tryz.underlying41
 have hu39 := Tryz.underlying39
 have hu190 := Tryz.underlying190
 obtain ⟨W, hW⟩ : ∃ W1, W1 = w.alloc (Obj.cells #[.int .i64 m.k.t, .int .i64 m.k.f, .int .i64 m.k.s, .int .i64 m.d, .int .i64 m.cl, .int .i64 m.bd] 41) := ⟨_, rfl⟩
 obtain ⟨bx, hbx⟩ : ∃ bx, bx = w.heap.size := ⟨_, rfl⟩
 have hB1 : Below w.heap.size w W := by rw [hW]; exact (Below.refl _ _).alloc (Nat.le_refl _) _
 have x0 : ∀ j, W.cell? ⟨bx, j, none⟩ = m.cells[j]? := fun j => by
  have := heap_alloc_new w (Obj.cells #[.int .i64 m.k.t, .int .i64 m.k.f, .int .i64 m.k.s, .int .i64 m.d, .int .i64 m.cl, .int .i64 m.bd] 41)
  rw [← hW, ← hbx] at this
  simp [World.cell?, this, Mg.cells]
 have y0 := x0 0
 have y1 := x0 1
 have y2 := x0 2
 have y3 := x0 3
 have y4 := x0 4
 have y5 := x0 5
 simp only [Mg.cells, List.getElem?_cons_zero, List.getElem?_cons_succ] at y0 y1 y2 y3 y4 y5
 have c0' := pw_cell_below hB1 c0
 have c1' := pw_cell_below hB1 c1
 have c2' := pw_cell_below hB1 c2
 have hqW := hq.below hB1
 have hidn : idx L m.k = none := (idx_none m.k).2 hn'
 obtain ⟨cc, hk0, _⟩ := map_look' hqW.map m.k hm.1
 have hk := fun n => hk0 (W.drewN n) rfl
 rw [hidn] at hk
 have hp := fun n => hpush_call (W.drewN n) q b (.slice A L.length c) L m (hqW.frame (fun _ _ _ => rfl)) hm hn' hln
 unfold fac Mg.val at hp
 unfold Ky.val at hk
 unfold Mg.val
 have HW := Lib.hid hW
 have HBX := Lib.hid hbx
 have HB1 := Lib.hid hB1
 have HQW := Lib.hid hqW
 have HID := Lib.hid hidn
 have HP := Lib.hid hp
 have HQ := Lib.hid hq
 have HH := Lib.hid hh
 clear hW hbx hB1 hqW hidn hp hq hh
 have HN := Lib.hid hn
 clear x0 c0 c1 c2 hk0 hn hn'
 go_enter Tryz.func70, Tryz.ntmps70
 have hmix : Tryz.prog.follows .mixedOrders = true := by kernel_rfl
 go_wp2
 rw [← HW.out, ← HBX.out]
 go_quiet (fail)
 go_wp2
 go_quiet (fail)
 go_wp2_with (go_at_call 140; (with_reducible refine (HP.out _).mono ?_); rintro e w1 ⟨v1, rfl, hq1, ho1, ht1⟩)
 go_ret
 refine ⟨v1, rfl, ⟨_, hq1, HH.out.push m HN.out⟩, fun k hk => ?_, ?_⟩
 ·rcases ho1 k hk with e | e
  ·exact .inl e
  ·have e : W.heap.size ≤ k := e
   have := HB1.out.size
   exact .inr (by omega)
 ·exact ((Tch.of_below HB1.out).drewN _).trans ht1 (fun _ _ e => e)
theorem put6 {W : World} {b : Nat} {a0 a1 a2 a3 a4 a5 : Value} (h : W.heap[b]? = some (.cells #[a0, a1, a2, a3, a4, a5] 41 (0, 0))) (v0 v1 v2 v3 v4 v5 : Value) :
  ((((((W.setCell ⟨b, 0, none⟩ v0).setCell ⟨b, 1, none⟩ v1).setCell ⟨b, 2, none⟩ v2).setCell ⟨b, 3, none⟩ v3).setCell ⟨b, 4, none⟩ v4).setCell ⟨b, 5, none⟩ v5).heap[b]? = some (.cells #[v0, v1, v2, v3, v4, v5] 41 (0, 0)) := by
 have h0 := heap_setCell_same W b 0 _ 41 v0 h
 have h1 := heap_setCell_same _ b 1 _ 41 v1 h0
 have h2 := heap_setCell_same _ b 2 _ 41 v2 h1
 have h3 := heap_setCell_same _ b 3 _ 41 v3 h2
 have h4 := heap_setCell_same _ b 4 _ 41 v4 h3
 have h5 := heap_setCell_same _ b 5 _ 41 v5 h4
 rw [h5]
 rfl
theorem tch6 (W : World) (b : Nat) (v0 v1 v2 v3 v4 v5 : Value) : Tch (fun k => k = b) W ((((((W.setCell ⟨b, 0, none⟩ v0).setCell ⟨b, 1, none⟩ v1).setCell ⟨b, 2, none⟩ v2).setCell ⟨b, 3, none⟩ v3).setCell ⟨b, 4, none⟩ v4).setCell ⟨b, 5, none⟩ v5) :=
 (((((Tch.setCell (P := fun k => k = b) (Tch.refl _ W) (p := ⟨b, 0, none⟩) (.inl rfl) _).setCell (p := ⟨b, 1, none⟩) (.inl rfl) _).setCell (p := ⟨b, 2, none⟩) (.inl rfl) _).setCell (p := ⟨b, 3, none⟩) (.inl rfl) _).setCell (p := ⟨b, 4, none⟩) (.inl rfl) _).setCell (p := ⟨b, 5, none⟩) (.inl rfl) _
set_option maxHeartbeats 8000000 in
set_option maxRecDepth 100000 in
theorem pop_call (w : World) (q b : Nat) (v : Value) (m : Mg) (Q : List Mg) (h : QIn w q b v (m :: Q)) :
  Calls Tryz.prog 74 #[.pointer (some ⟨q, 0, none⟩)] w (QInPost w q b v Q (.tuple #[m.val, .bool true])) := by
 obtain ⟨L, hq, hh⟩ := h
 have hll := hh.len
 obtain ⟨h1, h2⟩ := hh.pop
 have h0 : 0 < L.length := hh.head.1
 obtain ⟨c0, c1, c2⟩ := hq.cells
 obtain ⟨A, c, rfl, hc⟩ := hq.form
 have hql := World.block_lt_of_cell? w _ c1
 have hne : ¬ (L.length : Int) = 0 := by omega
 have hu192 := Tryz.underlying192
 have hu200 := Tryz.underlying200
 have hu29 := Tryz.underlying29
 have hu41 := Tryz.underlying41
 have hi := info41
 have has := as41
 obtain ⟨W, hW⟩ : ∃ W1, W1 = w.alloc (Obj.cells #[.int .i64 0, .int .i64 0, .int .i64 0, .int .i64 0, .int .i64 0, .int .i64 0] 41) := ⟨_, rfl⟩
 have hB1 : Below w.heap.size w W := by rw [hW]; exact (Below.refl _ _).alloc (Nat.le_refl _) _
 have hp := hpop_call W q b (.slice A L.length c) L (hq.below hB1) h0
 rw [h2] at hp
 unfold fac Mg.val at hp
 unfold Mg.val
 have HP := Lib.hid hp
 have HQ := Lib.hid hq
 have HH := Lib.hid hh
 have H1 := Lib.hid h1
 have H2 := Lib.hid h2
 have HW := Lib.hid hW
 have HB1 := Lib.hid hB1
 have HLL := Lib.hid hll
 clear hp hq hh h1 h2 hW hB1 hll
 go_enter Tryz.func74, Tryz.ntmps74
 go_wp2_with fail
 rw [← HW.out]
 (with_reducible refine HP.out.mono ?_)
 rintro e w1 ⟨v1, rfl, hq1, ho1, ht1⟩
 obtain ⟨bx, hbx⟩ : ∃ bx, bx = w.heap.size := ⟨_, rfl⟩
 rw [← hbx]
 have hblk0 : W.heap[bx]? = some (.cells #[.int .i64 0, .int .i64 0, .int .i64 0, .int .i64 0, .int .i64 0, .int .i64 0] 41 (0, 0)) := by rw [HW.out, hbx]; exact heap_alloc_new _ _
 have hnq : ¬ QFp q b (.slice A L.length c) bx := fun e => by
  rcases e with e | e | e
  ·omega
  ·obtain ⟨D, ⟨es, clock, h1, _⟩, _⟩ := HQ.out.map
   have := (Array.getElem?_eq_some_iff.1 h1).1
   omega
  ·have := own_lt HQ.out.row bx e
   omega
 have hblk1 := (ht1.block bx (Array.getElem?_eq_some_iff.1 hblk0).1 hnq).trans hblk0
 have z0 : w1.cell? ⟨bx, 0, none⟩ = some (.int .i64 0) := by simp [World.cell?, hblk1]
 have z1 : w1.cell? ⟨bx, 1, none⟩ = some (.int .i64 0) := by simp [World.cell?, hblk1]
 have z2 : w1.cell? ⟨bx, 2, none⟩ = some (.int .i64 0) := by simp [World.cell?, hblk1]
 have z3 : w1.cell? ⟨bx, 3, none⟩ = some (.int .i64 0) := by simp [World.cell?, hblk1]
 have z4 : w1.cell? ⟨bx, 4, none⟩ = some (.int .i64 0) := by simp [World.cell?, hblk1]
 have z5 : w1.cell? ⟨bx, 5, none⟩ = some (.int .i64 0) := by simp [World.cell?, hblk1]
 have f0 : ∀ j, w1.frozen? ⟨bx, j, none⟩ = false := fun j => by simp [World.frozen?, hblk1]
 have g0 := f0 0
 have g1 := f0 1
 have g2 := f0 2
 have g3 := f0 3
 have g4 := f0 4
 have g5 := f0 5
 have hno : ∀ k, v1.ownBlock = some k → k ≠ bx ∧ (k < w.heap.size ∨ W.heap.size ≤ k) := fun k hk => by
  rcases ho1 k hk with e | e
  ·have := own_lt HQ.out.row k e
   exact ⟨by omega, .inl this⟩
  ·have : bx < W.heap.size := (Array.getElem?_eq_some_iff.1 hblk0).1
   exact ⟨by omega, .inr e⟩
 have HBX := Lib.hid hbx
 have HB0 := Lib.hid hblk0
 have HBK := Lib.hid hblk1
 have HNQ := Lib.hid hnq
 have HQ1 := Lib.hid hq1
 have HO1 := Lib.hid ho1
 have HT1 := Lib.hid ht1
 have HNO := Lib.hid hno
 clear hbx hblk0 hblk1 hnq hq1 ho1 ht1 hno
 clear f0
 go_wp2
 refine bodyPost_ret (results_ct rfl _ _ bx 41 _ (0, 0) _ rfl (put6 HBK.out _ _ _ _ _ _) hu41 rfl (by rw [hi]; rfl)) rfl ?_
 have ht6 := tch6 w1 bx (.int .i64 m.k.t) (.int .i64 m.k.f) (.int .i64 m.k.s) (.int .i64 m.d) (.int .i64 m.cl) (.int .i64 m.bd)
 refine ⟨v1, rfl, ⟨_, HQ1.out.frame (fun k hk hf => ht6.block k hk (fun e => ?_)), H1.out⟩, fun k hk => ?_, ?_⟩
 ·subst e
  rcases hf with e | e | e
  ·have := HBX.out; omega
  ·obtain ⟨D, ⟨es, clock, h1, _⟩, _⟩ := HQ.out.map
   have := (Array.getElem?_eq_some_iff.1 h1).1
   have := HBX.out
   omega
  ·exact (HNO.out _ e).1 rfl
 ·rcases HO1.out k hk with e | e
  ·exact .inl e
  ·have := HB1.out.size
   exact .inr (by omega)
 ·refine ((Tch.of_below HB1.out).trans HT1.out (fun _ _ e => e)).trans ht6 (fun k hk e => ?_)
  have := HBX.out
  omega
def RemPost (w : World) (q b : Nat) (v : Value) (Q : List Mg) (e : Ending) (w' : World) : Prop := ∃ m : Mg, QInPost w q b v Q (.tuple #[m.val, .bool true]) e w'
set_option maxHeartbeats 8000000 in
set_option maxRecDepth 100000 in
theorem remove_call (w : World) (q b : Nat) (v : Value) (Q : List Mg) (h : QIn w q b v Q) (k : Ky) (hk : k.ok) (hin : ∃ m ∈ Q, m.k = k) :
  Calls Tryz.prog 75 #[.pointer (some ⟨q, 0, none⟩), k.val] w (RemPost w q b v (rmQ Q k)) := by
 obtain ⟨L, hq, hh⟩ := h
 have hll := hh.len
 obtain ⟨i, hi, hik⟩ : ∃ i, i < L.length ∧ K L i = k := by
  obtain ⟨m, hm, hmk⟩ := hin
  obtain ⟨i, hi, e⟩ := List.getElem_of_mem (hh.perm.mem_iff.2 hm)
  exact ⟨i, hi, by rw [K_at hi, e, hmk]⟩
 have hidn : idx L k = some i := (idx_iff hq.nd k i).2 ⟨hi, hik⟩
 obtain ⟨h1, h2⟩ := hh.remove i hi
 rw [hik] at h1
 obtain ⟨c0, c1, c2⟩ := hq.cells
 obtain ⟨A, c, rfl, hc⟩ := hq.form
 have hql : q < w.heap.size := World.block_lt_of_cell? w _ c1
 have hlen := hq.len
 have hu192 := Tryz.underlying192
 have hu200 := Tryz.underlying200
 have hu29 := Tryz.underlying29
 have hu41 := Tryz.underlying41
 have hu39 := Tryz.underlying39
 have hu190 := Tryz.underlying190
 have hinf := info41
 have has := as41
 obtain ⟨W, hW⟩ : ∃ W1, W1 = (w.alloc (Obj.cells #[.int .i64 k.t, .int .i64 k.f, .int .i64 k.s] 39)).alloc (Obj.cells #[.int .i64 0, .int .i64 0, .int .i64 0, .int .i64 0, .int .i64 0, .int .i64 0] 41) := ⟨_, rfl⟩
 obtain ⟨bx, hbx⟩ : ∃ bx, bx = w.heap.size := ⟨_, rfl⟩
 have hB1 : Below w.heap.size w W := by rw [hW]; exact ((Below.refl _ _).alloc (Nat.le_refl _) _).alloc (by simp) _
 have hkb : (w.alloc (Obj.cells #[.int .i64 k.t, .int .i64 k.f, .int .i64 k.s] 39)).heap[bx]? = some (Obj.cells #[.int .i64 k.t, .int .i64 k.f, .int .i64 k.s] 39) := by rw [hbx]; exact heap_alloc_new _ _
 have y0 : W.cell? ⟨bx, 0, none⟩ = some (.int .i64 k.t) := by rw [hW]; exact cell_al (by simp [World.cell?, hkb]) _
 have y1 : W.cell? ⟨bx, 1, none⟩ = some (.int .i64 k.f) := by rw [hW]; exact cell_al (by simp [World.cell?, hkb]) _
 have y2 : W.cell? ⟨bx, 2, none⟩ = some (.int .i64 k.s) := by rw [hW]; exact cell_al (by simp [World.cell?, hkb]) _
 have hblk0 : W.heap[bx + 1]? = some (.cells #[.int .i64 0, .int .i64 0, .int .i64 0, .int .i64 0, .int .i64 0, .int .i64 0] 41 (0, 0)) := by
  have := heap_alloc_new (w.alloc (Obj.cells #[.int .i64 k.t, .int .i64 k.f, .int .i64 k.s] 39)) (Obj.cells #[.int .i64 0, .int .i64 0, .int .i64 0, .int .i64 0, .int .i64 0, .int .i64 0] 41)
  rw [World.size_alloc, ← hW, ← hbx] at this
  exact this
 have c2' := pw_cell_below hB1 c2
 have hqW := hq.below hB1
 obtain ⟨cc, hk0, hcc⟩ := map_look' hqW.map k hk
 obtain rfl := hcc i hidn
 have hkk := fun n => hk0 (W.drewN n) rfl
 rw [hidn] at hkk
 have hp := fun n => hrem_call (W.drewN n) q b (.slice A L.length c) L (hqW.frame (fun _ _ _ => rfl)) i hi
 rw [h2] at hp
 generalize L.getD i mg0 = mr at hp
 have hnq : ∀ j, bx ≤ j → ¬ QFp q b (.slice A L.length c) j := fun j hj e => by
  rcases e with e | e | e
  ·rw [e, hbx] at hj; omega
  ·obtain ⟨D, ⟨es, clock, h1, _⟩, _⟩ := hq.map
   have := (Array.getElem?_eq_some_iff.1 h1).1
   omega
  ·have := own_lt hq.row j e
   omega
 unfold fac Mg.val at hp
 unfold Ky.val at *
 have HW := Lib.hid hW
 have HBX := Lib.hid hbx
 have HB1 := Lib.hid hB1
 have HQW := Lib.hid hqW
 have HID := Lib.hid hidn
 have HP := Lib.hid hp
 have HQ := Lib.hid hq
 have HH := Lib.hid hh
 have H1 := Lib.hid h1
 have H2 := Lib.hid h2
 have HLL := Lib.hid hll
 have HIK := Lib.hid hik
 have HB0 := Lib.hid hblk0
 have HNQ := Lib.hid hnq
 have HKB := Lib.hid hkb
 have HIN := Lib.hid hin
 have HKY := Lib.hid hk
 clear hW hbx hB1 hqW hidn hp hq hh h1 h2 hll hik hblk0 hnq hkb hin hk
 clear hk0 c0 c1 c2 hcc
 go_enter Tryz.func75, Tryz.ntmps75
 have hmix : Tryz.prog.follows .mixedOrders = true := by kernel_rfl
 go_wp2
 rw [← HW.out, ← HBX.out]
 go_quiet (fail)
 go_wp2_with fail
 (with_reducible refine (HP.out _).mono ?_)
 rintro e w1 ⟨v1, rfl, hq1, ho1, ht1⟩
 have hblk1 := (ht1.block (bx + 1) (Array.getElem?_eq_some_iff.1 HB0.out).1 (HNQ.out _ (by omega))).trans HB0.out
 have z0 : w1.cell? ⟨bx + 1, 0, none⟩ = some (.int .i64 0) := by simp [World.cell?, hblk1]
 have z1 : w1.cell? ⟨bx + 1, 1, none⟩ = some (.int .i64 0) := by simp [World.cell?, hblk1]
 have z2 : w1.cell? ⟨bx + 1, 2, none⟩ = some (.int .i64 0) := by simp [World.cell?, hblk1]
 have z3 : w1.cell? ⟨bx + 1, 3, none⟩ = some (.int .i64 0) := by simp [World.cell?, hblk1]
 have z4 : w1.cell? ⟨bx + 1, 4, none⟩ = some (.int .i64 0) := by simp [World.cell?, hblk1]
 have z5 : w1.cell? ⟨bx + 1, 5, none⟩ = some (.int .i64 0) := by simp [World.cell?, hblk1]
 have f0 : ∀ j, w1.frozen? ⟨bx + 1, j, none⟩ = false := fun j => by simp [World.frozen?, hblk1]
 have g0 := f0 0
 have g1 := f0 1
 have g2 := f0 2
 have g3 := f0 3
 have g4 := f0 4
 have g5 := f0 5
 have hno : ∀ k, v1.ownBlock = some k → k ≠ bx + 1 := fun k hk => by
  have hs : bx + 1 < W.heap.size := (Array.getElem?_eq_some_iff.1 HB0.out).1
  rcases ho1 k hk with e | e
  ·have := own_lt HQ.out.row k e
   have := HBX.out
   omega
  ·have e : W.heap.size ≤ k := e
   omega
 have HBK := Lib.hid hblk1
 have HQ1 := Lib.hid hq1
 have HO1 := Lib.hid ho1
 have HT1 := Lib.hid ht1
 have HNO := Lib.hid hno
 clear hblk1 hq1 ho1 ht1 hno
 clear f0
 go_wp2
 refine bodyPost_ret (results_ct rfl _ _ (bx + 1) 41 _ (0, 0) _ rfl (put6 HBK.out _ _ _ _ _ _) hu41 rfl (by rw [hinf]; rfl)) rfl ?_
 have ht6 := tch6 w1 (bx + 1) (.int .i64 mr.k.t) (.int .i64 mr.k.f) (.int .i64 mr.k.s) (.int .i64 mr.d) (.int .i64 mr.cl) (.int .i64 mr.bd)
 refine ⟨mr, v1, rfl, ⟨_, HQ1.out.frame (fun k hk hf => ht6.block k hk (fun e => ?_)), H1.out⟩, fun k hk => ?_, ?_⟩
 ·subst e
  rcases hf with e | e | e
  ·have := HBX.out; omega
  ·obtain ⟨D, ⟨es, clock, h1, _⟩, _⟩ := HQ.out.map
   have := (Array.getElem?_eq_some_iff.1 h1).1
   have := HBX.out
   omega
  ·exact HNO.out _ e rfl
 ·rcases HO1.out k hk with e | e
  ·exact .inl e
  ·have e : W.heap.size ≤ k := e
   have := HB1.out.size
   exact .inr (by omega)
 ·refine (((Tch.of_below HB1.out).drewN _).trans HT1.out (fun _ _ e => e)).trans ht6 (fun k hk e => ?_)
  have := HBX.out
  omega
structure TabAt (W : World) (g : Nat) (v : Value) (above : List Nat) (pubs subs : List Nat) : Prop where
 blk : W.heap[g]? = some (.cells (v :: (pubs ++ subs).map (fun n => Value.int .u32 (n : Nat))).toArray 189 (0, 0))
 row : ∃ e, W.ownsRow 0 e 1 v above.length (above.map (fun n => Value.int .u32 (n : Nat)))
 p8 : pubs.length = 8
 s8 : subs.length = 8
def chk (f c : Int) (n : Nat) : Int := if f < 0 ∨ 8 ≤ f then 1 else if c < 0 ∨ n ≤ c then 81 else 0
theorem TabAt.below {W W' : World} {g : Nat} {v : Value} {above pubs subs : List Nat} (h : TabAt W g v above pubs subs) (hb : Below W.heap.size W W') : TabAt W' g v above pubs subs := by
 obtain ⟨e, hr⟩ := h.row
 exact ⟨(hb.block g (Array.getElem?_eq_some_iff.1 h.blk).1).trans h.blk, ⟨e, own_move hr (fun k hk => hb.block k (own_lt hr k hk))⟩, h.p8, h.s8⟩
theorem TabAt.c0 {W : World} {g : Nat} {v : Value} {above pubs subs : List Nat} (h : TabAt W g v above pubs subs) : W.cell? ⟨g, 0, none⟩ = some v := by
 have e := h.blk
 simp [World.cell?, e]
theorem TabAt.form {W : World} {g : Nat} {v : Value} {above pubs subs : List Nat} (h : TabAt W g v above pubs subs) : ∃ A c, v = .slice A above.length c ∧ above.length ≤ c := by
 obtain ⟨e, hr⟩ := h.row
 obtain ⟨A, c, q⟩ := own_slice hr
 subst q
 exact ⟨A, c, rfl, own_le hr⟩
set_option maxHeartbeats 1000000 in
theorem check_call (w : World) (g : Nat) (v : Value) (above pubs subs : List Nat) (h : TabAt w g v above pubs subs) (f c : Int) :
  Calls Tryz.prog 134 #[.pointer (some ⟨g, 0, none⟩), .int .i64 f, .int .i64 c] w fun e w' => e = .returned (.int .i64 (chk f c above.length)) ∧ w' = w := by
 have hu189 := Tryz.underlying189
 have hu186 := Tryz.underlying186
 have c0 := h.c0
 obtain ⟨A, cc, rfl, hc⟩ := h.form
 clear h
 unfold chk
 by_cases h1 : f < 0
 ·rw [if_pos (.inl h1)]
  go_enter Tryz.func134, Tryz.ntmps134
  go_wp2_with fail
  go_ret
  exact ⟨rfl, rfl⟩
 ·by_cases h2 : 8 ≤ f
  ·rw [if_pos (.inr h2)]
   go_enter Tryz.func134, Tryz.ntmps134
   go_wp2_with fail
   go_ret
   exact ⟨rfl, rfl⟩
  ·rw [if_neg (by omega)]
   by_cases h3 : c < 0
   ·rw [if_pos (.inl h3)]
    go_enter Tryz.func134, Tryz.ntmps134
    go_wp2_with fail
    go_ret
    exact ⟨rfl, rfl⟩
   ·by_cases h4 : (above.length : Int) ≤ c
    ·rw [if_pos (.inr h4)]
     go_enter Tryz.func134, Tryz.ntmps134
     go_wp2_with fail
     go_ret
     exact ⟨rfl, rfl⟩
    ·rw [if_neg (by omega)]
     go_enter Tryz.func134, Tryz.ntmps134
     go_wp2_with fail
     go_ret
     exact ⟨rfl, rfl⟩
end Go.Proofs.YtehnkebcbomidaaGreatDoor.Rt
