/- Part of a proof over the given program: Rg. -/
import Derived.Test.YtehnkebcbomidaaGreatDoorCn38
set_option linter.unusedVariables false
set_option linter.unusedSimpArgs false
namespace Go.Proofs.YtehnkebcbomidaaGreatDoor.Rt
open Go Go.RowKit Go.Proofs Go.Proofs.YtehnkebcbomidaaGreatDoorW.PrintWords Go.Proofs.YtehnkebcbomidaaGreatDoorW.PrintLast
def lateTo (S : St) (n : Nat) (lk : Int) (j : Nat) : Bool := (List.range j).any fun g => decide ((g : Int) ≠ n) && (S.get g).con && decide (tadd (S.get n).time lk ≤ (S.get g).time)
theorem lateTo_succ (S : St) (n : Nat) (lk : Int) (j : Nat) : lateTo S n lk (j + 1) = (lateTo S n lk j || (decide ((j : Int) ≠ n) && (S.get j).con && decide (tadd (S.get n).time lk ≤ (S.get j).time))) := by
 unfold lateTo
 rw [List.range_succ, List.any_append]
 simp
set_option maxHeartbeats 8000000 in
set_option maxRecDepth 100000 in
theorem regulate_y (w : World) (H : Sh) (S : St) (hR : RAt H w S) (h8 : S.l.length = 8) (n : Nat) (hn : n < 8) (he : S.byE n = 0) (lk : Int) (hkk : 1 ≤ lk) :
  Calls Tryz.prog 37 #[.pointer (some ⟨H.r, 0, none⟩), .int .i64 n, .int .i64 lk] w (MPost H w (.int .i64 (S.regulate n lk).1) (S.regulate n lk).2) := by
 have hj : S.regulate n lk = match firstNo [((S.get n).look == 0, 202), ((S.get n).kind == 0, 206), (decide (lk ≤ 1048576), 80), (!lateTo S n lk 8, 207)] with | some c => (c, S) | none => (0, S.put n { S.get n with look := lk }) := by
  have hl : S.late n lk = lateTo S n lk 8 := rfl
  unfold St.regulate
  rw [if_neg (fun z => z he), Int.toNat_natCast, hl]
  by_cases a : (S.get n).look = 0 <;> by_cases b : (S.get n).kind = 0 <;> by_cases c : lk ≤ 1048576 <;> cases d : lateTo S n lk 8 <;> simp [firstNo, a, b, c, d] <;> (repeat' split) <;> first | rfl | omega
 have ho : ∀ c, firstNo [((S.get n).look == 0, 202), ((S.get n).kind == 0, 206), (decide (lk ≤ 1048576), 80), (!lateTo S n lk 8, 207)] = some c → 0 ≤ c ∧ c < 220 := by
  intro c
  by_cases a : (S.get n).look = 0 <;> by_cases b : (S.get n).kind = 0 <;> by_cases c : lk ≤ 1048576 <;> cases d : lateTo S n lk 8 <;> simp [firstNo, a, b, c, d] <;> intro e <;> omega
 have hidx := fun j hj => idx113 H S j hj
 have hld := fun w1 (h : RAt H w1 S) => h.ld
 generalize allCells H S = CC at hidx hld
 have HIX := Lib.hid hidx
 have HLD := Lib.hid hld
 clear hidx hld
 have HR := Lib.hid hR
 have HJ := Lib.hid hj
 have HO := Lib.hid ho
 have H8 := Lib.hid h8
 have hby := by_yes w H S hR n he
 have HBY := Lib.hid hby
 have hR1 := fun w1 hb1 => hR.below (W' := w1) hb1
 have HR1 := Lib.hid hR1
 have h0 : ¬ (n : Int) < 0 := by omega
 have h8' : ¬ (8 : Int) ≤ (n : Int) := by omega
 have hz0 : (0 : Int) ≤ (n : Int) := by omega
 have hz8 : (n : Int) < 8 := by omega
 clear hR hR1 hj ho h8 hby he
 have hu115 := Tryz.underlying115
 have hu112 := Tryz.underlying112
 have hu121 := Tryz.underlying121
 have hu193 := Tryz.underlying193
 have hu117 := Tryz.underlying117
 go_enter Tryz.func37, Tryz.ntmps37
 have hmix : Tryz.prog.follows .mixedOrders = true := by kernel_rfl
 go_wp2_with (go_at_call 63; (with_reducible refine HBY.out.mono ?_); rintro e w1 ⟨rfl, hb1⟩)
 have hRa := HR1.out w1 hb1
 have LD := Lib.hid (HLD.out w1 hRa)
 have HB1 := Lib.hid hb1
 clear hRa hb1
 have aE := agg113
 obtain ⟨n80, hn80⟩ : ∃ n, n = 80 := ⟨80, rfl⟩
 have zE : ∀ w, (Go.sizeOf 113).run Tryz.prog w = .ok n80 w := fun w => by rw [hn80]; exact size113 w
 have ldE := LD.out
 rw [← hn80] at ldE
 clear hn80
 rename_i K aK
 refine opwp_value (v := .agg CC.toArray) (w1 := w1) ?_ ?_
 ·go_simp
 refine aK _ _ ?_
 simp only [Act.put, qa, qb, qc]
 clear aK K aE zE ldE
 go_wp2
 go_loopw [9, 29] (fun lt jv wr => ∃ j : Nat, j ≤ 8 ∧ jv = .int .i64 j ∧ lt = .bool (lateTo S n lk j) ∧ Below w1.heap.size w1 wr) (fun _ jv _ => 8 - (RowKit.intOf jv).toNat)
 case atStart => exact ⟨0, Nat.zero_le _, rfl, rfl, Below.refl _ _⟩
 case round =>
  obtain ⟨k, hk, rfl, rfl, hb⟩ := hrel
  by_cases hlt : k < 8
  ·have hka : (k : Int) < 8 := by omega
   have hRr := HR1.out wr (HB1.out.trans (hb.mono HB1.out.size))
   obtain ⟨PA, pc, hpl⟩ := own_slice (hRr.pla k hlt)
   have hix := HIX.out k hlt
   unfold mcells at hix
   rw [hpl] at hix
   have hsn := lateTo_succ S n lk k
   have cx := hRr.c_time hn
   have hrl : H.r < wr.heap.size := World.block_lt_of_cell? wr _ cx
   generalize (S.get k).is = ki at hix
   generalize (S.get k).con = kc at hix hsn
   generalize (S.get k).time = kt at hix hsn
   generalize (S.get k).look = kl at hix
   generalize (S.get k).kind = kk at hix
   generalize (S.get k).ask = ka at hix
   generalize (S.get k).sent = ks at hix
   generalize (S.get k).P.length = kp at hix
   generalize ((S.get k).subs : Int) = ku at hix
   generalize H.q k = kq at hix
   generalize lateTo S n lk k = lt0 at hsn ⊢
   have HBW := Lib.hid hb
   obtain ⟨W0, hW0⟩ : ∃ W0, W0 = wr.alloc (.cells #[.bool ki, .bool kc, .int .i64 kt, .int .i64 kl, .int .i64 kk, .int .i64 ka, .int .i64 ks, .pointer (some ⟨kq, 0, none⟩), .slice PA kp pc, .int .u32 ku] 112) := ⟨_, rfl⟩
   have hb0 : Below wr.heap.size wr W0 := by rw [hW0]; exact (Below.refl _ _).alloc (Nat.le_refl _) _
   have hx := heap_alloc_new wr (.cells #[.bool ki, .bool kc, .int .i64 kt, .int .i64 kl, .int .i64 kk, .int .i64 ka, .int .i64 ks, .pointer (some ⟨kq, 0, none⟩), .slice PA kp pc, .int .u32 ku] 112)
   rw [← hW0] at hx
   obtain ⟨bb, hbb⟩ : ∃ bb, bb = wr.heap.size := ⟨_, rfl⟩
   rw [← hbb] at hx
   have x1 := cell_of_row W0 bb 1 #[.bool ki, .bool kc, .int .i64 kt, .int .i64 kl, .int .i64 kk, .int .i64 ka, .int .i64 ks, .pointer (some ⟨kq, 0, none⟩), .slice PA kp pc, .int .u32 ku] 112 (0, 0) hx
   have x2 := cell_of_row W0 bb 2 #[.bool ki, .bool kc, .int .i64 kt, .int .i64 kl, .int .i64 kk, .int .i64 ka, .int .i64 ks, .pointer (some ⟨kq, 0, none⟩), .slice PA kp pc, .int .u32 ku] 112 (0, 0) hx
   have cx0 := pw_cell_below hb0 cx
   have HBB := Lib.hid hbb
   have HW0 := Lib.hid hW0
   have HB0 := Lib.hid hb0
   clear hb hRr hpl hx hbb hW0 hb0 cx
   cases lt0 with
   | true =>
    have HSN := Lib.hid (hsn.trans (Bool.true_or _))
    clear hsn x1 x2
    go_wp2_with fail
    rw [← HW0.out]
    refine st_ (n := 22) (S := fun w' => True) (ds := []) hmix rfl trivial (fun hHeld => ?_)
    refine pu_ (i := 0) (N := (some 33)) (v := ?_) (a' := ?_) rfl rfl (by kernel_rfl) (fun _ _ _ h => h) (Or.inl ⟨by rfl, ?_⟩) ?_ ?_
    rotate_left
    ·intro w'
     go_simp
     try with_reducible rfl
    rotate_left
    ·simp only [Act.put, qa, qb, qc]
     rfl
    refine pu_ (i := 1) (N := (some 34)) (v := ?_) (a' := ?_) rfl rfl (by kernel_rfl) (fun _ _ _ h => h) (Or.inl ⟨by rfl, ?_⟩) ?_ ?_
    rotate_left
    ·intro w'
     go_simp
     try with_reducible rfl
    rotate_left
    ·simp only [Act.put, qa, qb, qc]
     rfl
    refine pu_ (i := 2) (N := (some 35)) (v := undef) (a' := ?_) rfl rfl (by kernel_rfl) (fun _ _ _ h => h) (Or.inr ⟨by rfl, rfl⟩) ?_ ?_
    rotate_left
    ·simp only [Act.put, qa, qb, qc]
     rfl
    refine pu_ (i := 3) (N := (some 36)) (v := undef) (a' := ?_) rfl rfl (by kernel_rfl) (fun _ _ _ h => h) (Or.inr ⟨by rfl, rfl⟩) ?_ ?_
    rotate_left
    ·simp only [Act.put, qa, qb, qc]
     rfl
    refine pu_ (i := 4) (N := (some 37)) (v := undef) (a' := ?_) rfl rfl (by kernel_rfl) (fun _ _ _ h => h) (Or.inr ⟨by rfl, rfl⟩) ?_ ?_
    rotate_left
    ·simp only [Act.put, qa, qb, qc]
     rfl
    refine pu_ (i := 5) (N := (some 38)) (v := undef) (a' := ?_) rfl rfl (by kernel_rfl) (fun _ _ _ h => h) (Or.inr ⟨by rfl, rfl⟩) ?_ ?_
    rotate_left
    ·simp only [Act.put, qa, qb, qc]
     rfl
    refine pu_ (i := 6) (N := (some 39)) (v := undef) (a' := ?_) rfl rfl (by kernel_rfl) (fun _ _ _ h => h) (Or.inr ⟨by rfl, rfl⟩) ?_ ?_
    rotate_left
    ·simp only [Act.put, qa, qb, qc]
     rfl
    refine pu_ (i := 7) (N := (some 40)) (v := undef) (a' := ?_) rfl rfl (by kernel_rfl) (fun _ _ _ h => h) (Or.inr ⟨by rfl, rfl⟩) ?_ ?_
    rotate_left
    ·simp only [Act.put, qa, qb, qc]
     rfl
    refine pu_ (i := 8) (N := (some 41)) (v := undef) (a' := ?_) rfl rfl (by kernel_rfl) (fun _ _ _ h => h) (Or.inr ⟨by rfl, rfl⟩) ?_ ?_
    rotate_left
    ·simp only [Act.put, qa, qb, qc]
     rfl
    refine pu_ (i := 9) (N := (some 42)) (v := undef) (a' := ?_) rfl rfl (by kernel_rfl) (fun _ _ _ h => h) (Or.inr ⟨by rfl, rfl⟩) ?_ ?_
    rotate_left
    ·simp only [Act.put, qa, qb, qc]
     rfl
    refine pu_ (i := 10) (N := (some 43)) (v := undef) (a' := ?_) rfl rfl (by kernel_rfl) (fun _ _ _ h => h) (Or.inr ⟨by rfl, rfl⟩) ?_ ?_
    rotate_left
    ·simp only [Act.put, qa, qb, qc]
     rfl
    refine pu_ (i := 11) (N := (some 44)) (v := undef) (a' := ?_) rfl rfl (by kernel_rfl) (fun _ _ _ h => h) (Or.inr ⟨by rfl, rfl⟩) ?_ ?_
    rotate_left
    ·simp only [Act.put, qa, qb, qc]
     rfl
    refine pu_ (i := 12) (N := (some 45)) (v := undef) (a' := ?_) rfl rfl (by kernel_rfl) (fun _ _ _ h => h) (Or.inr ⟨by rfl, rfl⟩) ?_ ?_
    rotate_left
    ·simp only [Act.put, qa, qb, qc]
     rfl
    refine pu_ (i := 13) (N := (some 46)) (v := undef) (a' := ?_) rfl rfl (by kernel_rfl) (fun _ _ _ h => h) (Or.inr ⟨by rfl, rfl⟩) ?_ ?_
    rotate_left
    ·simp only [Act.put, qa, qb, qc]
     rfl
    refine pu_ (i := 14) (N := (some 47)) (v := undef) (a' := ?_) rfl rfl (by kernel_rfl) (fun _ _ _ h => h) (Or.inr ⟨by rfl, rfl⟩) ?_ ?_
    rotate_left
    ·simp only [Act.put, qa, qb, qc]
     rfl
    refine pu_ (i := 15) (N := (some 48)) (v := undef) (a' := ?_) rfl rfl (by kernel_rfl) (fun _ _ _ h => h) (Or.inr ⟨by rfl, rfl⟩) ?_ ?_
    rotate_left
    ·simp only [Act.put, qa, qb, qc]
     rfl
    refine pu_ (i := 16) (N := (some 49)) (v := undef) (a' := ?_) rfl rfl (by kernel_rfl) (fun _ _ _ h => h) (Or.inr ⟨by rfl, rfl⟩) ?_ ?_
    rotate_left
    ·simp only [Act.put, qa, qb, qc]
     rfl
    refine pu_ (i := 17) (N := (some 50)) (v := undef) (a' := ?_) rfl rfl (by kernel_rfl) (fun _ _ _ h => h) (Or.inr ⟨by rfl, rfl⟩) ?_ ?_
    rotate_left
    ·simp only [Act.put, qa, qb, qc]
     rfl
    refine pu_ (i := 18) (N := (some 51)) (v := undef) (a' := ?_) rfl rfl (by kernel_rfl) (fun _ _ _ h => h) (Or.inr ⟨by rfl, rfl⟩) ?_ ?_
    rotate_left
    ·simp only [Act.put, qa, qb, qc]
     rfl
    refine pu_ (i := 19) (N := (some 52)) (v := undef) (a' := ?_) rfl rfl (by kernel_rfl) (fun _ _ _ h => h) (Or.inr ⟨by rfl, rfl⟩) ?_ ?_
    rotate_left
    ·simp only [Act.put, qa, qb, qc]
     rfl
    refine pu_ (i := 20) (N := (some 53)) (v := ?_) (a' := ?_) rfl rfl (by kernel_rfl) (fun _ _ _ h => h) (Or.inl ⟨by rfl, ?_⟩) ?_ ?_
    rotate_left
    ·intro w'
     go_simp
     try with_reducible rfl
    rotate_left
    ·simp only [Act.put, qa, qb, qc]
     rfl
    refine pu_ (i := 21) (N := (some 9)) (v := ?_) (a' := ?_) rfl rfl (by kernel_rfl) (fun _ _ _ h => h) (Or.inl ⟨by rfl, ?_⟩) ?_ ?_
    rotate_left
    ·intro w'
     go_simp
     try with_reducible rfl
    rotate_left
    ·simp only [Act.put, qa, qb, qc]
     rfl
    refine done_ (by kernel_rfl) ?_
    go_wp2
    refine ⟨⟨k + 1, hlt, by simp, ?_, ?_⟩, by simp [RowKit.intOf]; omega⟩
    ·rw [HSN.out]
    ·exact HBW.out.trans ((HB0.out.drew).mono HBW.out.size)
   | false =>
    by_cases hkn : k = n
    ·subst hkn
     have HSN := Lib.hid (hsn.trans (by simp : _ = false))
     clear hsn x1 x2
     go_wp2_with fail
     rw [← HW0.out]
     refine st_ (n := 22) (S := fun w' => True) (ds := []) hmix rfl trivial (fun hHeld => ?_)
     refine pu_ (i := 0) (N := (some 33)) (v := ?_) (a' := ?_) rfl rfl (by kernel_rfl) (fun _ _ _ h => h) (Or.inl ⟨by rfl, ?_⟩) ?_ ?_
     rotate_left
     ·intro w'
      go_simp
      try with_reducible rfl
     rotate_left
     ·simp only [Act.put, qa, qb, qc]
      rfl
     refine pu_ (i := 1) (N := (some 34)) (v := ?_) (a' := ?_) rfl rfl (by kernel_rfl) (fun _ _ _ h => h) (Or.inl ⟨by rfl, ?_⟩) ?_ ?_
     rotate_left
     ·intro w'
      go_simp
      try with_reducible rfl
     rotate_left
     ·simp only [Act.put, qa, qb, qc]
      rfl
     refine pu_ (i := 2) (N := (some 35)) (v := ?_) (a' := ?_) rfl rfl (by kernel_rfl) (fun _ _ _ h => h) (Or.inl ⟨by rfl, ?_⟩) ?_ ?_
     rotate_left
     ·intro w'
      go_simp
      try with_reducible rfl
     rotate_left
     ·simp only [Act.put, qa, qb, qc]
      rfl
     refine pu_ (i := 3) (N := (some 36)) (v := ?_) (a' := ?_) rfl rfl (by kernel_rfl) (fun _ _ _ h => h) (Or.inl ⟨by rfl, ?_⟩) ?_ ?_
     rotate_left
     ·intro w'
      go_simp
      try with_reducible rfl
     rotate_left
     ·simp only [Act.put, qa, qb, qc]
      rfl
     refine pu_ (i := 4) (N := (some 37)) (v := (.bool false)) (a' := ?_) rfl rfl (by kernel_rfl) (fun _ _ _ h => h) (Or.inl ⟨by rfl, ?_⟩) ?_ ?_
     ·intro w'
      go_simp
      try with_reducible rfl
     rotate_left
     ·simp only [Act.put, qa, qb, qc]
      rfl
     refine pu_ (i := 5) (N := (some 38)) (v := ?_) (a' := ?_) rfl rfl (by kernel_rfl) (fun _ _ _ h => h) (Or.inl ⟨by rfl, ?_⟩) ?_ ?_
     rotate_left
     ·intro w'
      go_simp
      try with_reducible rfl
     rotate_left
     ·simp only [Act.put, qa, qb, qc]
      rfl
     refine pu_ (i := 6) (N := (some 39)) (v := undef) (a' := ?_) rfl rfl (by kernel_rfl) (fun _ _ _ h => h) (Or.inr ⟨by rfl, rfl⟩) ?_ ?_
     rotate_left
     ·simp only [Act.put, qa, qb, qc]
      rfl
     refine pu_ (i := 7) (N := (some 40)) (v := undef) (a' := ?_) rfl rfl (by kernel_rfl) (fun _ _ _ h => h) (Or.inr ⟨by rfl, rfl⟩) ?_ ?_
     rotate_left
     ·simp only [Act.put, qa, qb, qc]
      rfl
     refine pu_ (i := 8) (N := (some 41)) (v := ?_) (a' := ?_) rfl rfl (by kernel_rfl) (fun _ _ _ h => h) (Or.inl ⟨by rfl, ?_⟩) ?_ ?_
     rotate_left
     ·intro w'
      go_simp
      try with_reducible rfl
     rotate_left
     ·simp only [Act.put, qa, qb, qc]
      rfl
     refine pu_ (i := 9) (N := (some 42)) (v := ?_) (a' := ?_) rfl rfl (by kernel_rfl) (fun _ _ _ h => h) (Or.inl ⟨by rfl, ?_⟩) ?_ ?_
     rotate_left
     ·intro w'
      go_simp
      try with_reducible rfl
     rotate_left
     ·simp only [Act.put, qa, qb, qc]
      rfl
     refine pu_ (i := 10) (N := (some 43)) (v := undef) (a' := ?_) rfl rfl (by kernel_rfl) (fun _ _ _ h => h) (Or.inr ⟨by rfl, rfl⟩) ?_ ?_
     rotate_left
     ·simp only [Act.put, qa, qb, qc]
      rfl
     refine pu_ (i := 11) (N := (some 44)) (v := undef) (a' := ?_) rfl rfl (by kernel_rfl) (fun _ _ _ h => h) (Or.inr ⟨by rfl, rfl⟩) ?_ ?_
     rotate_left
     ·simp only [Act.put, qa, qb, qc]
      rfl
     refine pu_ (i := 12) (N := (some 45)) (v := undef) (a' := ?_) rfl rfl (by kernel_rfl) (fun _ _ _ h => h) (Or.inr ⟨by rfl, rfl⟩) ?_ ?_
     rotate_left
     ·simp only [Act.put, qa, qb, qc]
      rfl
     refine pu_ (i := 13) (N := (some 46)) (v := undef) (a' := ?_) rfl rfl (by kernel_rfl) (fun _ _ _ h => h) (Or.inr ⟨by rfl, rfl⟩) ?_ ?_
     rotate_left
     ·simp only [Act.put, qa, qb, qc]
      rfl
     refine pu_ (i := 14) (N := (some 47)) (v := undef) (a' := ?_) rfl rfl (by kernel_rfl) (fun _ _ _ h => h) (Or.inr ⟨by rfl, rfl⟩) ?_ ?_
     rotate_left
     ·simp only [Act.put, qa, qb, qc]
      rfl
     refine pu_ (i := 15) (N := (some 48)) (v := undef) (a' := ?_) rfl rfl (by kernel_rfl) (fun _ _ _ h => h) (Or.inr ⟨by rfl, rfl⟩) ?_ ?_
     rotate_left
     ·simp only [Act.put, qa, qb, qc]
      rfl
     refine pu_ (i := 16) (N := (some 49)) (v := undef) (a' := ?_) rfl rfl (by kernel_rfl) (fun _ _ _ h => h) (Or.inr ⟨by rfl, rfl⟩) ?_ ?_
     rotate_left
     ·simp only [Act.put, qa, qb, qc]
      rfl
     refine pu_ (i := 17) (N := (some 50)) (v := undef) (a' := ?_) rfl rfl (by kernel_rfl) (fun _ _ _ h => h) (Or.inr ⟨by rfl, rfl⟩) ?_ ?_
     rotate_left
     ·simp only [Act.put, qa, qb, qc]
      rfl
     refine pu_ (i := 18) (N := (some 51)) (v := undef) (a' := ?_) rfl rfl (by kernel_rfl) (fun _ _ _ h => h) (Or.inr ⟨by rfl, rfl⟩) ?_ ?_
     rotate_left
     ·simp only [Act.put, qa, qb, qc]
      rfl
     refine pu_ (i := 19) (N := (some 52)) (v := ?_) (a' := ?_) rfl rfl (by kernel_rfl) (fun _ _ _ h => h) (Or.inl ⟨by rfl, ?_⟩) ?_ ?_
     rotate_left
     ·intro w'
      go_simp
      try with_reducible rfl
     rotate_left
     ·simp only [Act.put, qa, qb, qc]
      rfl
     refine pu_ (i := 20) (N := (some 53)) (v := ?_) (a' := ?_) rfl rfl (by kernel_rfl) (fun _ _ _ h => h) (Or.inl ⟨by rfl, ?_⟩) ?_ ?_
     rotate_left
     ·intro w'
      go_simp
      try with_reducible rfl
     rotate_left
     ·simp only [Act.put, qa, qb, qc]
      rfl
     refine pu_ (i := 21) (N := (some 9)) (v := ?_) (a' := ?_) rfl rfl (by kernel_rfl) (fun _ _ _ h => h) (Or.inl ⟨by rfl, ?_⟩) ?_ ?_
     rotate_left
     ·intro w'
      go_simp
      try with_reducible rfl
     rotate_left
     ·simp only [Act.put, qa, qb, qc]
      rfl
     refine done_ (by kernel_rfl) ?_
     go_wp2
     refine ⟨⟨k + 1, hlt, by simp, ?_, ?_⟩, by simp [RowKit.intOf]; omega⟩
     ·rw [HSN.out]
     ·exact HBW.out.trans ((HB0.out.drew).mono HBW.out.size)
    ·have hkn2 : ¬ (k : Int) = (n : Int) := by omega
     cases kc with
     | false =>
      have HSN := Lib.hid (hsn.trans (by simp : _ = false))
      clear hsn x2
      go_wp2_with fail
      rw [← HW0.out, ← HBB.out]
      refine st_ (n := 22) (S := fun w' => w'.cell? ⟨bb, 1, none⟩ = some (.bool false)) (ds := []) hmix rfl x1 (fun hHeld => ?_)
      refine pu_ (i := 0) (N := (some 33)) (v := ?_) (a' := ?_) rfl rfl (by kernel_rfl) (fun _ _ _ h => h) (Or.inl ⟨by rfl, ?_⟩) ?_ ?_
      rotate_left
      ·intro w'
       go_simp
       try with_reducible rfl
      rotate_left
      ·simp only [Act.put, qa, qb, qc]
       rfl
      refine pu_ (i := 1) (N := (some 34)) (v := ?_) (a' := ?_) rfl rfl (by kernel_rfl) (fun _ _ _ h => h) (Or.inl ⟨by rfl, ?_⟩) ?_ ?_
      rotate_left
      ·intro w'
       go_simp
       try with_reducible rfl
      rotate_left
      ·simp only [Act.put, qa, qb, qc]
       rfl
      refine pu_ (i := 2) (N := (some 35)) (v := ?_) (a' := ?_) rfl rfl (by kernel_rfl) (fun _ _ _ h => h) (Or.inl ⟨by rfl, ?_⟩) ?_ ?_
      rotate_left
      ·intro w'
       go_simp
       try with_reducible rfl
      rotate_left
      ·simp only [Act.put, qa, qb, qc]
       rfl
      refine pu_ (i := 3) (N := (some 36)) (v := ?_) (a' := ?_) rfl rfl (by kernel_rfl) (fun _ _ _ h => h) (Or.inl ⟨by rfl, ?_⟩) ?_ ?_
      rotate_left
      ·intro w'
       go_simp
       try with_reducible rfl
      rotate_left
      ·simp only [Act.put, qa, qb, qc]
       rfl
      refine pu_ (i := 4) (N := (some 37)) (v := (.bool true)) (a' := ?_) rfl rfl (by kernel_rfl) (fun _ _ _ h => h) (Or.inl ⟨by rfl, ?_⟩) ?_ ?_
      ·intro w'
       go_simp
       try with_reducible rfl
      rotate_left
      ·simp only [Act.put, qa, qb, qc]
       rfl
      refine pu_ (i := 5) (N := (some 38)) (v := ?_) (a' := ?_) rfl rfl (by kernel_rfl) (fun _ _ _ h => h) (Or.inl ⟨by rfl, ?_⟩) ?_ ?_
      rotate_left
      ·intro w'
       go_simp
       try with_reducible rfl
      rotate_left
      ·simp only [Act.put, qa, qb, qc]
       rfl
      refine pu_ (i := 6) (N := (some 39)) (v := ?_) (a' := ?_) rfl rfl (by kernel_rfl) (fun _ _ _ h => h) (Or.inl ⟨by rfl, ?_⟩) ?_ ?_
      rotate_left
      ·intro w'
       go_simp
       try with_reducible rfl
      rotate_left
      ·simp only [Act.put, qa, qb, qc]
       rfl
      refine tk_ (i := 7) (N := (some 40)) (v := ?_) (a' := ?_) rfl rfl (by kernel_rfl) (fun _ _ _ h => h) (Or.inl ⟨by rfl, ?_⟩) hHeld ?_ ?_
      rotate_left
      ·intro w' hS_
       have zz0 := hS_
       go_simp
       try with_reducible rfl
      rotate_left
      ·simp only [Act.put, qa, qb, qc]
       rfl
      refine pu_ (i := 8) (N := (some 41)) (v := ?_) (a' := ?_) rfl rfl (by kernel_rfl) (fun _ _ _ h => h) (Or.inl ⟨by rfl, ?_⟩) ?_ ?_
      rotate_left
      ·intro w'
       go_simp
       try with_reducible rfl
      rotate_left
      ·simp only [Act.put, qa, qb, qc]
       rfl
      refine pu_ (i := 9) (N := (some 42)) (v := ?_) (a' := ?_) rfl rfl (by kernel_rfl) (fun _ _ _ h => h) (Or.inl ⟨by rfl, ?_⟩) ?_ ?_
      rotate_left
      ·intro w'
       go_simp
       try with_reducible rfl
      rotate_left
      ·simp only [Act.put, qa, qb, qc]
       rfl
      refine pu_ (i := 10) (N := (some 43)) (v := undef) (a' := ?_) rfl rfl (by kernel_rfl) (fun _ _ _ h => h) (Or.inr ⟨by rfl, rfl⟩) ?_ ?_
      rotate_left
      ·simp only [Act.put, qa, qb, qc]
       rfl
      refine pu_ (i := 11) (N := (some 44)) (v := undef) (a' := ?_) rfl rfl (by kernel_rfl) (fun _ _ _ h => h) (Or.inr ⟨by rfl, rfl⟩) ?_ ?_
      rotate_left
      ·simp only [Act.put, qa, qb, qc]
       rfl
      refine pu_ (i := 12) (N := (some 45)) (v := undef) (a' := ?_) rfl rfl (by kernel_rfl) (fun _ _ _ h => h) (Or.inr ⟨by rfl, rfl⟩) ?_ ?_
      rotate_left
      ·simp only [Act.put, qa, qb, qc]
       rfl
      refine pu_ (i := 13) (N := (some 46)) (v := undef) (a' := ?_) rfl rfl (by kernel_rfl) (fun _ _ _ h => h) (Or.inr ⟨by rfl, rfl⟩) ?_ ?_
      rotate_left
      ·simp only [Act.put, qa, qb, qc]
       rfl
      refine pu_ (i := 14) (N := (some 47)) (v := undef) (a' := ?_) rfl rfl (by kernel_rfl) (fun _ _ _ h => h) (Or.inr ⟨by rfl, rfl⟩) ?_ ?_
      rotate_left
      ·simp only [Act.put, qa, qb, qc]
       rfl
      refine pu_ (i := 15) (N := (some 48)) (v := undef) (a' := ?_) rfl rfl (by kernel_rfl) (fun _ _ _ h => h) (Or.inr ⟨by rfl, rfl⟩) ?_ ?_
      rotate_left
      ·simp only [Act.put, qa, qb, qc]
       rfl
      refine pu_ (i := 16) (N := (some 49)) (v := undef) (a' := ?_) rfl rfl (by kernel_rfl) (fun _ _ _ h => h) (Or.inr ⟨by rfl, rfl⟩) ?_ ?_
      rotate_left
      ·simp only [Act.put, qa, qb, qc]
       rfl
      refine pu_ (i := 17) (N := (some 50)) (v := undef) (a' := ?_) rfl rfl (by kernel_rfl) (fun _ _ _ h => h) (Or.inr ⟨by rfl, rfl⟩) ?_ ?_
      rotate_left
      ·simp only [Act.put, qa, qb, qc]
       rfl
      refine pu_ (i := 18) (N := (some 51)) (v := undef) (a' := ?_) rfl rfl (by kernel_rfl) (fun _ _ _ h => h) (Or.inr ⟨by rfl, rfl⟩) ?_ ?_
      rotate_left
      ·simp only [Act.put, qa, qb, qc]
       rfl
      refine pu_ (i := 19) (N := (some 52)) (v := ?_) (a' := ?_) rfl rfl (by kernel_rfl) (fun _ _ _ h => h) (Or.inl ⟨by rfl, ?_⟩) ?_ ?_
      rotate_left
      ·intro w'
       go_simp
       try with_reducible rfl
      rotate_left
      ·simp only [Act.put, qa, qb, qc]
       rfl
      refine pu_ (i := 20) (N := (some 53)) (v := ?_) (a' := ?_) rfl rfl (by kernel_rfl) (fun _ _ _ h => h) (Or.inl ⟨by rfl, ?_⟩) ?_ ?_
      rotate_left
      ·intro w'
       go_simp
       try with_reducible rfl
      rotate_left
      ·simp only [Act.put, qa, qb, qc]
       rfl
      refine pu_ (i := 21) (N := (some 9)) (v := ?_) (a' := ?_) rfl rfl (by kernel_rfl) (fun _ _ _ h => h) (Or.inl ⟨by rfl, ?_⟩) ?_ ?_
      rotate_left
      ·intro w'
       go_simp
       try with_reducible rfl
      rotate_left
      ·simp only [Act.put, qa, qb, qc]
       rfl
      refine done_ (by kernel_rfl) ?_
      go_wp2
      refine ⟨⟨k + 1, hlt, by simp, ?_, ?_⟩, by simp [RowKit.intOf]; omega⟩
      ·rw [HSN.out]
      ·exact HBW.out.trans ((HB0.out.drew).mono HBW.out.size)
     | true =>
      have HSN := Lib.hid (hsn.trans (by simp [hkn2] : _ = decide (tadd (S.get n).time lk ≤ kt)))
      clear hsn
      go_wp2_with fail
      rw [← HW0.out, ← HBB.out]
      refine st_ (n := 22) (S := fun w' => w'.cell? ⟨bb, 1, none⟩ = some (.bool true) ∧ w'.cell? ⟨bb, 2, none⟩ = some (.int .i64 kt) ∧ w'.cell? ⟨H.r, 2 + n * 10 + 2, none⟩ = some (.int .i64 (S.get n).time)) (ds := []) hmix rfl ⟨x1, x2, cx0⟩ (fun hHeld => ?_)
      refine pu_ (i := 0) (N := (some 33)) (v := ?_) (a' := ?_) rfl rfl (by kernel_rfl) (fun _ _ _ h => h) (Or.inl ⟨by rfl, ?_⟩) ?_ ?_
      rotate_left
      ·intro w'
       go_simp
       try with_reducible rfl
      rotate_left
      ·simp only [Act.put, qa, qb, qc]
       rfl
      refine pu_ (i := 1) (N := (some 34)) (v := ?_) (a' := ?_) rfl rfl (by kernel_rfl) (fun _ _ _ h => h) (Or.inl ⟨by rfl, ?_⟩) ?_ ?_
      rotate_left
      ·intro w'
       go_simp
       try with_reducible rfl
      rotate_left
      ·simp only [Act.put, qa, qb, qc]
       rfl
      refine pu_ (i := 2) (N := (some 35)) (v := ?_) (a' := ?_) rfl rfl (by kernel_rfl) (fun _ _ _ h => h) (Or.inl ⟨by rfl, ?_⟩) ?_ ?_
      rotate_left
      ·intro w'
       go_simp
       try with_reducible rfl
      rotate_left
      ·simp only [Act.put, qa, qb, qc]
       rfl
      refine pu_ (i := 3) (N := (some 36)) (v := ?_) (a' := ?_) rfl rfl (by kernel_rfl) (fun _ _ _ h => h) (Or.inl ⟨by rfl, ?_⟩) ?_ ?_
      rotate_left
      ·intro w'
       go_simp
       try with_reducible rfl
      rotate_left
      ·simp only [Act.put, qa, qb, qc]
       rfl
      refine pu_ (i := 4) (N := (some 37)) (v := (.bool true)) (a' := ?_) rfl rfl (by kernel_rfl) (fun _ _ _ h => h) (Or.inl ⟨by rfl, ?_⟩) ?_ ?_
      ·intro w'
       go_simp
       try with_reducible rfl
      rotate_left
      ·simp only [Act.put, qa, qb, qc]
       rfl
      refine pu_ (i := 5) (N := (some 38)) (v := ?_) (a' := ?_) rfl rfl (by kernel_rfl) (fun _ _ _ h => h) (Or.inl ⟨by rfl, ?_⟩) ?_ ?_
      rotate_left
      ·intro w'
       go_simp
       try with_reducible rfl
      rotate_left
      ·simp only [Act.put, qa, qb, qc]
       rfl
      refine pu_ (i := 6) (N := (some 39)) (v := ?_) (a' := ?_) rfl rfl (by kernel_rfl) (fun _ _ _ h => h) (Or.inl ⟨by rfl, ?_⟩) ?_ ?_
      rotate_left
      ·intro w'
       go_simp
       try with_reducible rfl
      rotate_left
      ·simp only [Act.put, qa, qb, qc]
       rfl
      refine tk_ (i := 7) (N := (some 40)) (v := ?_) (a' := ?_) rfl rfl (by kernel_rfl) (fun _ _ _ h => h) (Or.inl ⟨by rfl, ?_⟩) hHeld ?_ ?_
      rotate_left
      ·intro w' hS_
       obtain ⟨zz0, zz1, zz2⟩ := hS_
       go_simp
       try with_reducible rfl
      rotate_left
      ·simp only [Act.put, qa, qb, qc]
       rfl
      refine pu_ (i := 8) (N := (some 41)) (v := ?_) (a' := ?_) rfl rfl (by kernel_rfl) (fun _ _ _ h => h) (Or.inl ⟨by rfl, ?_⟩) ?_ ?_
      rotate_left
      ·intro w'
       go_simp
       try with_reducible rfl
      rotate_left
      ·simp only [Act.put, qa, qb, qc]
       rfl
      refine pu_ (i := 9) (N := (some 42)) (v := ?_) (a' := ?_) rfl rfl (by kernel_rfl) (fun _ _ _ h => h) (Or.inl ⟨by rfl, ?_⟩) ?_ ?_
      rotate_left
      ·intro w'
       go_simp
       try with_reducible rfl
      rotate_left
      ·simp only [Act.put, qa, qb, qc]
       rfl
      refine pu_ (i := 10) (N := (some 43)) (v := ?_) (a' := ?_) rfl rfl (by kernel_rfl) (fun _ _ _ h => h) (Or.inl ⟨by rfl, ?_⟩) ?_ ?_
      rotate_left
      ·intro w'
       go_simp
       try with_reducible rfl
      rotate_left
      ·simp only [Act.put, qa, qb, qc]
       rfl
      refine pu_ (i := 11) (N := (some 44)) (v := ?_) (a' := ?_) rfl rfl (by kernel_rfl) (fun _ _ _ h => h) (Or.inl ⟨by rfl, ?_⟩) ?_ ?_
      rotate_left
      ·intro w'
       go_simp
       try with_reducible rfl
      rotate_left
      ·simp only [Act.put, qa, qb, qc]
       rfl
      refine pu_ (i := 12) (N := (some 45)) (v := ?_) (a' := ?_) rfl rfl (by kernel_rfl) (fun _ _ _ h => h) (Or.inl ⟨by rfl, ?_⟩) ?_ ?_
      rotate_left
      ·intro w'
       go_simp
       try with_reducible rfl
      rotate_left
      ·simp only [Act.put, qa, qb, qc]
       rfl
      refine tk_ (i := 13) (N := (some 46)) (v := ?_) (a' := ?_) rfl rfl (by kernel_rfl) (fun _ _ _ h => h) (Or.inl ⟨by rfl, ?_⟩) hHeld ?_ ?_
      rotate_left
      ·intro w' hS_
       obtain ⟨zz0, zz1, zz2⟩ := hS_
       go_simp
       try with_reducible rfl
      rotate_left
      ·simp only [Act.put, qa, qb, qc]
       rfl
      refine pu_ (i := 14) (N := (some 47)) (v := ?_) (a' := ?_) rfl rfl (by kernel_rfl) (fun _ _ _ h => h) (Or.inl ⟨by rfl, ?_⟩) ?_ ?_
      rotate_left
      ·intro w'
       go_simp
       try with_reducible rfl
      rotate_left
      ·simp only [Act.put, qa, qb, qc]
       rfl
      refine pu_ (i := 16) (N := (some 49)) (v := ?_) (a' := ?_) rfl rfl (by kernel_rfl) (fun _ _ _ h => h) (Or.inl ⟨by rfl, ?_⟩) ?_ ?_
      rotate_left
      ·intro w'
       go_simp
       try with_reducible rfl
      rotate_left
      ·simp only [Act.put, qa, qb, qc]
       rfl
      refine tk_ (i := 17) (N := (some 50)) (v := ?_) (a' := ?_) rfl rfl (by kernel_rfl) (fun _ _ _ h => h) (Or.inl ⟨by rfl, ?_⟩) hHeld ?_ ?_
      rotate_left
      ·intro w' hS_
       obtain ⟨zz0, zz1, zz2⟩ := hS_
       go_simp
       try with_reducible rfl
      rotate_left
      ·simp only [Act.put, qa, qb, qc]
       rfl
      refine on_ (i := 15) (N := (some 48)) rfl rfl (by kernel_rfl) (by decide) (fun K hK => ?_)
      refine goes_ Tryz.func86 (by kernel_rfl) rfl #[.int .i64 (S.get n).time, .int .i64 lk] (by rfl) rfl rfl (by simp only [List.map_toArray, List.map_cons, List.map_nil]; rfl) ?_
      refine (tadd_call _ _ _).mono ?_
      rintro x w8 ⟨rfl, ⟨m8, rfl⟩⟩
      refine ⟨_, rfl, hK.out _ _ (by exact hHeld) (fun hHeld => ?_)⟩
      clear hK K
      refine norm_ (a' := ?_) ?_ ?_
      rotate_left
      ·show Act.put _ (some 48) _ = _
       simp only [Act.put, qa, qb, qc]
       rfl
      refine pu_ (i := 18) (N := (some 51)) (v := (.bool (decide (tadd (S.get n).time lk ≤ kt)))) (a' := ?_) rfl rfl (by kernel_rfl) (fun _ _ _ h => h) (Or.inl ⟨by rfl, ?_⟩) ?_ ?_
      ·intro w'
       go_simp
       try with_reducible rfl
      rotate_left
      ·simp only [Act.put, qa, qb, qc]
       rfl
      refine pu_ (i := 19) (N := (some 52)) (v := ?_) (a' := ?_) rfl rfl (by kernel_rfl) (fun _ _ _ h => h) (Or.inl ⟨by rfl, ?_⟩) ?_ ?_
      rotate_left
      ·intro w'
       go_simp
       try with_reducible rfl
      rotate_left
      ·simp only [Act.put, qa, qb, qc]
       rfl
      refine pu_ (i := 20) (N := (some 53)) (v := ?_) (a' := ?_) rfl rfl (by kernel_rfl) (fun _ _ _ h => h) (Or.inl ⟨by rfl, ?_⟩) ?_ ?_
      rotate_left
      ·intro w'
       go_simp
       try with_reducible rfl
      rotate_left
      ·simp only [Act.put, qa, qb, qc]
       rfl
      refine pu_ (i := 21) (N := (some 9)) (v := ?_) (a' := ?_) rfl rfl (by kernel_rfl) (fun _ _ _ h => h) (Or.inl ⟨by rfl, ?_⟩) ?_ ?_
      rotate_left
      ·intro w'
       go_simp
       try with_reducible rfl
      rotate_left
      ·simp only [Act.put, qa, qb, qc]
       rfl
      refine done_ (by kernel_rfl) ?_
      go_wp2
      refine ⟨⟨k + 1, hlt, by simp, ?_, ?_⟩, by simp [RowKit.intOf]; omega⟩
      ·rw [HSN.out]
      ·exact HBW.out.trans ((below_drewN HB0.out (1 + m8)).mono HBW.out.size)
  ·obtain rfl : k = 8 := by omega
   have hka : ¬ (8 : Int) < 8 := by omega
   have hb2 := HB1.out.trans (hb.mono HB1.out.size)
   have hRr := HR1.out wr hb2
   have c1 := hRr.c_look hn
   have c2 := hRr.c_kind hn
   have HB2 := Lib.hid hb2
   clear hb hRr hb2
   generalize hlate : lateTo S n lk 8 = late at HJ HO ⊢
   go_wp2_with fail
   have hu113 := Tryz.underlying113
   have HLT := Lib.hid hlate
   clear hlate
   refine st_ (n := 26) (S := fun w' => w'.cell? ⟨H.r, 2 + n * 10 + 3, none⟩ = some (.int .i64 (S.get n).look) ∧ w'.cell? ⟨H.r, 2 + n * 10 + 4, none⟩ = some (.int .i64 (S.get n).kind)) (ds := [23, 24]) hmix rfl ⟨c1, c2⟩ (fun hHeld => ?_)
   refine pu_ (i := 0) (N := (some 55)) (v := ?_) (a' := ?_) rfl rfl (by kernel_rfl) (fun _ _ _ h => h) (Or.inl ⟨by rfl, ?_⟩) ?_ ?_
   rotate_left
   ·intro w'
    go_simp
    try with_reducible rfl
   rotate_left
   ·simp only [Act.put, qa, qb, qc]
    rfl
   refine pu_ (i := 1) (N := (some 56)) (v := ?_) (a' := ?_) rfl rfl (by kernel_rfl) (fun _ _ _ h => h) (Or.inl ⟨by rfl, ?_⟩) ?_ ?_
   rotate_left
   ·intro w'
    go_simp
    try with_reducible rfl
   rotate_left
   ·simp only [Act.put, qa, qb, qc]
    rfl
   refine pu_ (i := 2) (N := (some 57)) (v := ?_) (a' := ?_) rfl rfl (by kernel_rfl) (fun _ _ _ h => h) (Or.inl ⟨by rfl, ?_⟩) ?_ ?_
   rotate_left
   ·intro w'
    go_simp
    try with_reducible rfl
   rotate_left
   ·simp only [Act.put, qa, qb, qc]
    rfl
   refine pu_ (i := 3) (N := (some 58)) (v := ?_) (a' := ?_) rfl rfl (by kernel_rfl) (fun _ _ _ h => h) (Or.inl ⟨by rfl, ?_⟩) ?_ ?_
   rotate_left
   ·intro w'
    go_simp
    try with_reducible rfl
   rotate_left
   ·simp only [Act.put, qa, qb, qc]
    rfl
   refine tk_ (i := 4) (N := (some 59)) (v := ?_) (a' := ?_) rfl rfl (by kernel_rfl) (fun _ _ _ h => h) (Or.inl ⟨by rfl, ?_⟩) hHeld ?_ ?_
   rotate_left
   ·intro w' hS_
    obtain ⟨zz0, zz1⟩ := hS_
    go_simp
    try with_reducible rfl
   rotate_left
   ·simp only [Act.put, qa, qb, qc]
    rfl
   refine pu_ (i := 5) (N := (some 60)) (v := (.bool ((S.get n).look == 0))) (a' := ?_) rfl rfl (by kernel_rfl) (fun _ _ _ h => h) (Or.inl ⟨by rfl, ?_⟩) ?_ ?_
   ·intro w'
    go_simp
    try with_reducible rfl
   rotate_left
   ·simp only [Act.put, qa, qb, qc]
    rfl
   refine pu_ (i := 6) (N := (some 61)) (v := ?_) (a' := ?_) rfl rfl (by kernel_rfl) (fun _ _ _ h => h) (Or.inl ⟨by rfl, ?_⟩) ?_ ?_
   rotate_left
   ·intro w'
    go_simp
    try with_reducible rfl
   rotate_left
   ·simp only [Act.put, qa, qb, qc]
    rfl
   refine pu_ (i := 7) (N := (some 62)) (v := ?_) (a' := ?_) rfl rfl (by kernel_rfl) (fun _ _ _ h => h) (Or.inl ⟨by rfl, ?_⟩) ?_ ?_
   rotate_left
   ·intro w'
    go_simp
    try with_reducible rfl
   rotate_left
   ·simp only [Act.put, qa, qb, qc]
    rfl
   refine pu_ (i := 8) (N := (some 63)) (v := ?_) (a' := ?_) rfl rfl (by kernel_rfl) (fun _ _ _ h => h) (Or.inl ⟨by rfl, ?_⟩) ?_ ?_
   rotate_left
   ·intro w'
    go_simp
    try with_reducible rfl
   rotate_left
   ·simp only [Act.put, qa, qb, qc]
    rfl
   refine pu_ (i := 9) (N := (some 64)) (v := ?_) (a' := ?_) rfl rfl (by kernel_rfl) (fun _ _ _ h => h) (Or.inl ⟨by rfl, ?_⟩) ?_ ?_
   rotate_left
   ·intro w'
    go_simp
    try with_reducible rfl
   rotate_left
   ·simp only [Act.put, qa, qb, qc]
    rfl
   refine tk_ (i := 10) (N := (some 65)) (v := ?_) (a' := ?_) rfl rfl (by kernel_rfl) (fun _ _ _ h => h) (Or.inl ⟨by rfl, ?_⟩) hHeld ?_ ?_
   rotate_left
   ·intro w' hS_
    obtain ⟨zz0, zz1⟩ := hS_
    go_simp
    try with_reducible rfl
   rotate_left
   ·simp only [Act.put, qa, qb, qc]
    rfl
   refine pu_ (i := 11) (N := (some 66)) (v := (.bool ((S.get n).kind == 0))) (a' := ?_) rfl rfl (by kernel_rfl) (fun _ _ _ h => h) (Or.inl ⟨by rfl, ?_⟩) ?_ ?_
   ·intro w'
    go_simp
    try with_reducible rfl
   rotate_left
   ·simp only [Act.put, qa, qb, qc]
    rfl
   refine pu_ (i := 12) (N := (some 67)) (v := ?_) (a' := ?_) rfl rfl (by kernel_rfl) (fun _ _ _ h => h) (Or.inl ⟨by rfl, ?_⟩) ?_ ?_
   rotate_left
   ·intro w'
    go_simp
    try with_reducible rfl
   rotate_left
   ·simp only [Act.put, qa, qb, qc]
    rfl
   refine pu_ (i := 13) (N := (some 68)) (v := ?_) (a' := ?_) rfl rfl (by kernel_rfl) (fun _ _ _ h => h) (Or.inl ⟨by rfl, ?_⟩) ?_ ?_
   rotate_left
   ·intro w'
    go_simp
    try with_reducible rfl
   rotate_left
   ·simp only [Act.put, qa, qb, qc]
    rfl
   refine pu_ (i := 14) (N := (some 69)) (v := ?_) (a' := ?_) rfl rfl (by kernel_rfl) (fun _ _ _ h => h) (Or.inl ⟨by rfl, ?_⟩) ?_ ?_
   rotate_left
   ·intro w'
    go_simp
    try with_reducible rfl
   rotate_left
   ·simp only [Act.put, qa, qb, qc]
    rfl
   refine pu_ (i := 15) (N := (some 70)) (v := ?_) (a' := ?_) rfl rfl (by kernel_rfl) (fun _ _ _ h => h) (Or.inl ⟨by rfl, ?_⟩) ?_ ?_
   rotate_left
   ·intro w'
    go_simp
    try with_reducible rfl
   rotate_left
   ·simp only [Act.put, qa, qb, qc]
    rfl
   refine pu_ (i := 16) (N := (some 71)) (v := ?_) (a' := ?_) rfl rfl (by kernel_rfl) (fun _ _ _ h => h) (Or.inl ⟨by rfl, ?_⟩) ?_ ?_
   rotate_left
   ·intro w'
    go_simp
    try with_reducible rfl
   rotate_left
   ·simp only [Act.put, qa, qb, qc]
    rfl
   refine pu_ (i := 17) (N := (some 72)) (v := (.bool (decide (lk ≤ 1048576)))) (a' := ?_) rfl rfl (by kernel_rfl) (fun _ _ _ h => h) (Or.inl ⟨by rfl, ?_⟩) ?_ ?_
   ·intro w'
    go_simp
    try with_reducible rfl
   rotate_left
   ·simp only [Act.put, qa, qb, qc]
    rfl
   refine pu_ (i := 18) (N := (some 73)) (v := ?_) (a' := ?_) rfl rfl (by kernel_rfl) (fun _ _ _ h => h) (Or.inl ⟨by rfl, ?_⟩) ?_ ?_
   rotate_left
   ·intro w'
    go_simp
    try with_reducible rfl
   rotate_left
   ·simp only [Act.put, qa, qb, qc]
    rfl
   refine pu_ (i := 19) (N := (some 74)) (v := ?_) (a' := ?_) rfl rfl (by kernel_rfl) (fun _ _ _ h => h) (Or.inl ⟨by rfl, ?_⟩) ?_ ?_
   rotate_left
   ·intro w'
    go_simp
    try with_reducible rfl
   rotate_left
   ·simp only [Act.put, qa, qb, qc]
    rfl
   refine pu_ (i := 20) (N := (some 75)) (v := ?_) (a' := ?_) rfl rfl (by kernel_rfl) (fun _ _ _ h => h) (Or.inl ⟨by rfl, ?_⟩) ?_ ?_
   rotate_left
   ·intro w'
    go_simp
    try with_reducible rfl
   rotate_left
   ·simp only [Act.put, qa, qb, qc]
    rfl
   refine pu_ (i := 21) (N := (some 76)) (v := (.bool (!late))) (a' := ?_) rfl rfl (by kernel_rfl) (fun _ _ _ h => h) (Or.inl ⟨by rfl, ?_⟩) ?_ ?_
   ·intro w'
    go_simp
    try with_reducible rfl
   rotate_left
   ·simp only [Act.put, qa, qb, qc]
    rfl
   refine pu_ (i := 22) (N := (some 77)) (v := ?_) (a' := ?_) rfl rfl (by kernel_rfl) (fun _ _ _ h => h) (Or.inl ⟨by rfl, ?_⟩) ?_ ?_
   rotate_left
   ·intro w'
    go_simp
    try with_reducible rfl
   rotate_left
   ·simp only [Act.put, qa, qb, qc]
    rfl
   refine la_ (i := 23) (N := (some 78)) rfl rfl (by kernel_rfl) (by decide) (fun K hK => ?_)
   refine value_ (w1 := ?_) (v := ?_) (by rfl) rfl ?_ ?_
   rotate_left 2
   ·go_simp
    constructor
    ·rfl
    ·rfl
   refine hK.out _ _ ?_
   clear hK K
   refine norm_ (a' := ?_) ?_ ?_
   rotate_left
   ·show Act.put _ (some 78) _ = _
    simp only [Act.put, qa, qb, qc]
    rfl
   refine la_ (i := 24) (N := (some 79)) rfl rfl (by kernel_rfl) (by decide) (fun K hK => ?_)
   refine goes_ Tryz.func67 (by kernel_rfl) rfl #[.int .i64 (n : Int), .slice (some ⟨wr.heap.size, 0, none⟩) 4 4] (by rfl) rfl rfl (by simp only [List.map_toArray, List.map_cons, List.map_nil]; rfl) ?_
   refine Calls.mono (all4 _ _ wr.heap.size ((S.get n).look == 0) ((S.get n).kind == 0) (decide (lk ≤ 1048576)) (!late) 202 206 80 207 ?h5) ?_
   case h5 => exact heap_alloc_new wr.drew _
   rintro x w5 ⟨hr5, hb5⟩
   obtain ⟨v5, rfl, hr5⟩ := hr5.ret
   refine ⟨_, rfl, hK.out _ _ ?_⟩
   clear hK K
   refine norm_ (a' := ?_) ?_ ?_
   rotate_left
   ·show Act.put _ (some 79) _ = _
    simp only [Act.put, qa, qb, qc]
    rfl
   refine pu_ (i := 25) (N := (some 12)) (v := ?_) (a' := ?_) rfl rfl (by kernel_rfl) (fun _ _ _ h => h) (Or.inl ⟨by rfl, ?_⟩) ?_ ?_
   rotate_left
   ·intro w'
    go_simp
    try with_reducible rfl
   rotate_left
   ·simp only [Act.put, qa, qb, qc]
    rfl
   refine done_ (by kernel_rfl) ?_
   have hB : Below w.heap.size w w5 := (HB2.out.drew.alloc HB2.out.size _).trans (hb5.mono (by have := HB2.out.size; simp; omega))
   have hr : AllRes w n (firstNo [((S.get n).look == 0, 202), ((S.get n).kind == 0, 206), (decide (lk ≤ 1048576), 80), (!late, 207)]) (.returned v5) w5 := AllRes.mono (w := w) hr5 (by have := HB2.out.size; simp; omega)
   have ho := HO.out
   have hj := HJ.out
   have hR5 := HR.out.below hB
   generalize firstNo [((S.get n).look == 0, 202), ((S.get n).kind == 0, 206), (decide (lk ≤ 1048576), 80), (!late, 207)] = o at hr ho hj
   clear hr5 hb5
   cases o with
   | none =>
    have hv : v5 = .nilIface := by cases hr; rfl
    subst hv
    have d1 := hR5.c_look hn
    have f1 := hR5.free (2 + n * 10 + 3)
    have HJ2 := Lib.hid hj
    have HR5 := Lib.hid hR5
    have HB := Lib.hid hB
    clear hr ho hj hR5 hB c1 c2
    go_wp2
    go_ret
    rw [HJ2.out]
    have hb2 := blk_put HR5.out.blk H8.out n 3 hn (by decide) (.int .i64 lk) { S.get n with look := lk } rfl
    have ht : Tch (fun k => k = H.r) w5 (w5.setCell ⟨H.r, 2 + n * 10 + 3, none⟩ (.int .i64 lk)) := Tch.setCell (P := fun k => k = H.r) (Tch.refl _ _) (p := ⟨H.r, 2 + n * 10 + 3, none⟩) (.inl rfl) _
    exact MPost.turn HR.out HB.out (HR5.out.turn ht hb2 rfl rfl rfl (put_keeps S H8.out hn _ ⟨rfl, rfl, rfl⟩)) ht _
   | some c =>
    have hcc := ho c rfl
    have henv := hR5.env
    obtain ⟨gg, hg1, hg2, hg3⟩ := hr
    cases hg2
    have HJ2 := Lib.hid hj
    have HR5 := Lib.hid hR5
    have HB := Lib.hid hB
    have her := errno_ref w5 henv gg n c hcc.1 hcc.2 hg3
    have HER := Lib.hid her
    clear ho hj hR5 hB henv hg3 her c1 c2
    go_wp2_with (go_at_call 64; (with_reducible refine HER.out.mono ?_); rintro e w6 ⟨rfl, hb6⟩)
    go_ret
    rw [HJ2.out]
    exact MPost.same HR.out (HB.out.trans (hb6.mono HB.out.size)) _
set_option maxHeartbeats 8000000 in
set_option maxRecDepth 100000 in
theorem regulate_n (w : World) (H : Sh) (S : St) (hR : RAt H w S) (h8 : S.l.length = 8) (n : Nat) (hn : n < 8) (he : S.byE n = 0) (lk : Int) (hkk : ¬ 1 ≤ lk) :
  Calls Tryz.prog 37 #[.pointer (some ⟨H.r, 0, none⟩), .int .i64 n, .int .i64 lk] w (MPost H w (.int .i64 (S.regulate n lk).1) (S.regulate n lk).2) := by
 have hj : S.regulate n lk = match firstNo [((S.get n).look == 0, 202), ((S.get n).kind == 0, 206), (false, 80), (!lateTo S n lk 8, 207)] with | some c => (c, S) | none => (0, S.put n { S.get n with look := lk }) := by
  have hl : S.late n lk = lateTo S n lk 8 := rfl
  unfold St.regulate
  rw [if_neg (fun z => z he), Int.toNat_natCast, hl]
  by_cases a : (S.get n).look = 0 <;> by_cases b : (S.get n).kind = 0 <;> by_cases c : lk ≤ 1048576 <;> cases d : lateTo S n lk 8 <;> simp [firstNo, a, b, c, d] <;> (repeat' split) <;> first | rfl | omega
 have ho : ∀ c, firstNo [((S.get n).look == 0, 202), ((S.get n).kind == 0, 206), (false, 80), (!lateTo S n lk 8, 207)] = some c → 0 ≤ c ∧ c < 220 := by
  intro c
  by_cases a : (S.get n).look = 0 <;> by_cases b : (S.get n).kind = 0 <;> by_cases c : lk ≤ 1048576 <;> cases d : lateTo S n lk 8 <;> simp [firstNo, a, b, c, d] <;> intro e <;> omega
 have hidx := fun j hj => idx113 H S j hj
 have hld := fun w1 (h : RAt H w1 S) => h.ld
 generalize allCells H S = CC at hidx hld
 have HIX := Lib.hid hidx
 have HLD := Lib.hid hld
 clear hidx hld
 have HR := Lib.hid hR
 have HJ := Lib.hid hj
 have HO := Lib.hid ho
 have H8 := Lib.hid h8
 have hby := by_yes w H S hR n he
 have HBY := Lib.hid hby
 have hR1 := fun w1 hb1 => hR.below (W' := w1) hb1
 have HR1 := Lib.hid hR1
 have h0 : ¬ (n : Int) < 0 := by omega
 have h8' : ¬ (8 : Int) ≤ (n : Int) := by omega
 have hz0 : (0 : Int) ≤ (n : Int) := by omega
 have hz8 : (n : Int) < 8 := by omega
 clear hR hR1 hj ho h8 hby he
 have hu115 := Tryz.underlying115
 have hu112 := Tryz.underlying112
 have hu121 := Tryz.underlying121
 have hu193 := Tryz.underlying193
 have hu117 := Tryz.underlying117
 go_enter Tryz.func37, Tryz.ntmps37
 have hmix : Tryz.prog.follows .mixedOrders = true := by kernel_rfl
 go_wp2_with (go_at_call 63; (with_reducible refine HBY.out.mono ?_); rintro e w1 ⟨rfl, hb1⟩)
 have hRa := HR1.out w1 hb1
 have LD := Lib.hid (HLD.out w1 hRa)
 have HB1 := Lib.hid hb1
 clear hRa hb1
 have aE := agg113
 obtain ⟨n80, hn80⟩ : ∃ n, n = 80 := ⟨80, rfl⟩
 have zE : ∀ w, (Go.sizeOf 113).run Tryz.prog w = .ok n80 w := fun w => by rw [hn80]; exact size113 w
 have ldE := LD.out
 rw [← hn80] at ldE
 clear hn80
 rename_i K aK
 refine opwp_value (v := .agg CC.toArray) (w1 := w1) ?_ ?_
 ·go_simp
 refine aK _ _ ?_
 simp only [Act.put, qa, qb, qc]
 clear aK K aE zE ldE
 go_wp2
 go_loopw [9, 29] (fun lt jv wr => ∃ j : Nat, j ≤ 8 ∧ jv = .int .i64 j ∧ lt = .bool (lateTo S n lk j) ∧ Below w1.heap.size w1 wr) (fun _ jv _ => 8 - (RowKit.intOf jv).toNat)
 case atStart => exact ⟨0, Nat.zero_le _, rfl, rfl, Below.refl _ _⟩
 case round =>
  obtain ⟨k, hk, rfl, rfl, hb⟩ := hrel
  by_cases hlt : k < 8
  ·have hka : (k : Int) < 8 := by omega
   have hRr := HR1.out wr (HB1.out.trans (hb.mono HB1.out.size))
   obtain ⟨PA, pc, hpl⟩ := own_slice (hRr.pla k hlt)
   have hix := HIX.out k hlt
   unfold mcells at hix
   rw [hpl] at hix
   have hsn := lateTo_succ S n lk k
   have cx := hRr.c_time hn
   have hrl : H.r < wr.heap.size := World.block_lt_of_cell? wr _ cx
   generalize (S.get k).is = ki at hix
   generalize (S.get k).con = kc at hix hsn
   generalize (S.get k).time = kt at hix hsn
   generalize (S.get k).look = kl at hix
   generalize (S.get k).kind = kk at hix
   generalize (S.get k).ask = ka at hix
   generalize (S.get k).sent = ks at hix
   generalize (S.get k).P.length = kp at hix
   generalize ((S.get k).subs : Int) = ku at hix
   generalize H.q k = kq at hix
   generalize lateTo S n lk k = lt0 at hsn ⊢
   have HBW := Lib.hid hb
   obtain ⟨W0, hW0⟩ : ∃ W0, W0 = wr.alloc (.cells #[.bool ki, .bool kc, .int .i64 kt, .int .i64 kl, .int .i64 kk, .int .i64 ka, .int .i64 ks, .pointer (some ⟨kq, 0, none⟩), .slice PA kp pc, .int .u32 ku] 112) := ⟨_, rfl⟩
   have hb0 : Below wr.heap.size wr W0 := by rw [hW0]; exact (Below.refl _ _).alloc (Nat.le_refl _) _
   have hx := heap_alloc_new wr (.cells #[.bool ki, .bool kc, .int .i64 kt, .int .i64 kl, .int .i64 kk, .int .i64 ka, .int .i64 ks, .pointer (some ⟨kq, 0, none⟩), .slice PA kp pc, .int .u32 ku] 112)
   rw [← hW0] at hx
   obtain ⟨bb, hbb⟩ : ∃ bb, bb = wr.heap.size := ⟨_, rfl⟩
   rw [← hbb] at hx
   have x1 := cell_of_row W0 bb 1 #[.bool ki, .bool kc, .int .i64 kt, .int .i64 kl, .int .i64 kk, .int .i64 ka, .int .i64 ks, .pointer (some ⟨kq, 0, none⟩), .slice PA kp pc, .int .u32 ku] 112 (0, 0) hx
   have x2 := cell_of_row W0 bb 2 #[.bool ki, .bool kc, .int .i64 kt, .int .i64 kl, .int .i64 kk, .int .i64 ka, .int .i64 ks, .pointer (some ⟨kq, 0, none⟩), .slice PA kp pc, .int .u32 ku] 112 (0, 0) hx
   have cx0 := pw_cell_below hb0 cx
   have HBB := Lib.hid hbb
   have HW0 := Lib.hid hW0
   have HB0 := Lib.hid hb0
   clear hb hRr hpl hx hbb hW0 hb0 cx
   cases lt0 with
   | true =>
    have HSN := Lib.hid (hsn.trans (Bool.true_or _))
    clear hsn x1 x2
    go_wp2_with fail
    rw [← HW0.out]
    refine st_ (n := 22) (S := fun w' => True) (ds := []) hmix rfl trivial (fun hHeld => ?_)
    refine pu_ (i := 0) (N := (some 33)) (v := ?_) (a' := ?_) rfl rfl (by kernel_rfl) (fun _ _ _ h => h) (Or.inl ⟨by rfl, ?_⟩) ?_ ?_
    rotate_left
    ·intro w'
     go_simp
     try with_reducible rfl
    rotate_left
    ·simp only [Act.put, qa, qb, qc]
     rfl
    refine pu_ (i := 1) (N := (some 34)) (v := ?_) (a' := ?_) rfl rfl (by kernel_rfl) (fun _ _ _ h => h) (Or.inl ⟨by rfl, ?_⟩) ?_ ?_
    rotate_left
    ·intro w'
     go_simp
     try with_reducible rfl
    rotate_left
    ·simp only [Act.put, qa, qb, qc]
     rfl
    refine pu_ (i := 2) (N := (some 35)) (v := undef) (a' := ?_) rfl rfl (by kernel_rfl) (fun _ _ _ h => h) (Or.inr ⟨by rfl, rfl⟩) ?_ ?_
    rotate_left
    ·simp only [Act.put, qa, qb, qc]
     rfl
    refine pu_ (i := 3) (N := (some 36)) (v := undef) (a' := ?_) rfl rfl (by kernel_rfl) (fun _ _ _ h => h) (Or.inr ⟨by rfl, rfl⟩) ?_ ?_
    rotate_left
    ·simp only [Act.put, qa, qb, qc]
     rfl
    refine pu_ (i := 4) (N := (some 37)) (v := undef) (a' := ?_) rfl rfl (by kernel_rfl) (fun _ _ _ h => h) (Or.inr ⟨by rfl, rfl⟩) ?_ ?_
    rotate_left
    ·simp only [Act.put, qa, qb, qc]
     rfl
    refine pu_ (i := 5) (N := (some 38)) (v := undef) (a' := ?_) rfl rfl (by kernel_rfl) (fun _ _ _ h => h) (Or.inr ⟨by rfl, rfl⟩) ?_ ?_
    rotate_left
    ·simp only [Act.put, qa, qb, qc]
     rfl
    refine pu_ (i := 6) (N := (some 39)) (v := undef) (a' := ?_) rfl rfl (by kernel_rfl) (fun _ _ _ h => h) (Or.inr ⟨by rfl, rfl⟩) ?_ ?_
    rotate_left
    ·simp only [Act.put, qa, qb, qc]
     rfl
    refine pu_ (i := 7) (N := (some 40)) (v := undef) (a' := ?_) rfl rfl (by kernel_rfl) (fun _ _ _ h => h) (Or.inr ⟨by rfl, rfl⟩) ?_ ?_
    rotate_left
    ·simp only [Act.put, qa, qb, qc]
     rfl
    refine pu_ (i := 8) (N := (some 41)) (v := undef) (a' := ?_) rfl rfl (by kernel_rfl) (fun _ _ _ h => h) (Or.inr ⟨by rfl, rfl⟩) ?_ ?_
    rotate_left
    ·simp only [Act.put, qa, qb, qc]
     rfl
    refine pu_ (i := 9) (N := (some 42)) (v := undef) (a' := ?_) rfl rfl (by kernel_rfl) (fun _ _ _ h => h) (Or.inr ⟨by rfl, rfl⟩) ?_ ?_
    rotate_left
    ·simp only [Act.put, qa, qb, qc]
     rfl
    refine pu_ (i := 10) (N := (some 43)) (v := undef) (a' := ?_) rfl rfl (by kernel_rfl) (fun _ _ _ h => h) (Or.inr ⟨by rfl, rfl⟩) ?_ ?_
    rotate_left
    ·simp only [Act.put, qa, qb, qc]
     rfl
    refine pu_ (i := 11) (N := (some 44)) (v := undef) (a' := ?_) rfl rfl (by kernel_rfl) (fun _ _ _ h => h) (Or.inr ⟨by rfl, rfl⟩) ?_ ?_
    rotate_left
    ·simp only [Act.put, qa, qb, qc]
     rfl
    refine pu_ (i := 12) (N := (some 45)) (v := undef) (a' := ?_) rfl rfl (by kernel_rfl) (fun _ _ _ h => h) (Or.inr ⟨by rfl, rfl⟩) ?_ ?_
    rotate_left
    ·simp only [Act.put, qa, qb, qc]
     rfl
    refine pu_ (i := 13) (N := (some 46)) (v := undef) (a' := ?_) rfl rfl (by kernel_rfl) (fun _ _ _ h => h) (Or.inr ⟨by rfl, rfl⟩) ?_ ?_
    rotate_left
    ·simp only [Act.put, qa, qb, qc]
     rfl
    refine pu_ (i := 14) (N := (some 47)) (v := undef) (a' := ?_) rfl rfl (by kernel_rfl) (fun _ _ _ h => h) (Or.inr ⟨by rfl, rfl⟩) ?_ ?_
    rotate_left
    ·simp only [Act.put, qa, qb, qc]
     rfl
    refine pu_ (i := 15) (N := (some 48)) (v := undef) (a' := ?_) rfl rfl (by kernel_rfl) (fun _ _ _ h => h) (Or.inr ⟨by rfl, rfl⟩) ?_ ?_
    rotate_left
    ·simp only [Act.put, qa, qb, qc]
     rfl
    refine pu_ (i := 16) (N := (some 49)) (v := undef) (a' := ?_) rfl rfl (by kernel_rfl) (fun _ _ _ h => h) (Or.inr ⟨by rfl, rfl⟩) ?_ ?_
    rotate_left
    ·simp only [Act.put, qa, qb, qc]
     rfl
    refine pu_ (i := 17) (N := (some 50)) (v := undef) (a' := ?_) rfl rfl (by kernel_rfl) (fun _ _ _ h => h) (Or.inr ⟨by rfl, rfl⟩) ?_ ?_
    rotate_left
    ·simp only [Act.put, qa, qb, qc]
     rfl
    refine pu_ (i := 18) (N := (some 51)) (v := undef) (a' := ?_) rfl rfl (by kernel_rfl) (fun _ _ _ h => h) (Or.inr ⟨by rfl, rfl⟩) ?_ ?_
    rotate_left
    ·simp only [Act.put, qa, qb, qc]
     rfl
    refine pu_ (i := 19) (N := (some 52)) (v := undef) (a' := ?_) rfl rfl (by kernel_rfl) (fun _ _ _ h => h) (Or.inr ⟨by rfl, rfl⟩) ?_ ?_
    rotate_left
    ·simp only [Act.put, qa, qb, qc]
     rfl
    refine pu_ (i := 20) (N := (some 53)) (v := ?_) (a' := ?_) rfl rfl (by kernel_rfl) (fun _ _ _ h => h) (Or.inl ⟨by rfl, ?_⟩) ?_ ?_
    rotate_left
    ·intro w'
     go_simp
     try with_reducible rfl
    rotate_left
    ·simp only [Act.put, qa, qb, qc]
     rfl
    refine pu_ (i := 21) (N := (some 9)) (v := ?_) (a' := ?_) rfl rfl (by kernel_rfl) (fun _ _ _ h => h) (Or.inl ⟨by rfl, ?_⟩) ?_ ?_
    rotate_left
    ·intro w'
     go_simp
     try with_reducible rfl
    rotate_left
    ·simp only [Act.put, qa, qb, qc]
     rfl
    refine done_ (by kernel_rfl) ?_
    go_wp2
    refine ⟨⟨k + 1, hlt, by simp, ?_, ?_⟩, by simp [RowKit.intOf]; omega⟩
    ·rw [HSN.out]
    ·exact HBW.out.trans ((HB0.out.drew).mono HBW.out.size)
   | false =>
    by_cases hkn : k = n
    ·subst hkn
     have HSN := Lib.hid (hsn.trans (by simp : _ = false))
     clear hsn x1 x2
     go_wp2_with fail
     rw [← HW0.out]
     refine st_ (n := 22) (S := fun w' => True) (ds := []) hmix rfl trivial (fun hHeld => ?_)
     refine pu_ (i := 0) (N := (some 33)) (v := ?_) (a' := ?_) rfl rfl (by kernel_rfl) (fun _ _ _ h => h) (Or.inl ⟨by rfl, ?_⟩) ?_ ?_
     rotate_left
     ·intro w'
      go_simp
      try with_reducible rfl
     rotate_left
     ·simp only [Act.put, qa, qb, qc]
      rfl
     refine pu_ (i := 1) (N := (some 34)) (v := ?_) (a' := ?_) rfl rfl (by kernel_rfl) (fun _ _ _ h => h) (Or.inl ⟨by rfl, ?_⟩) ?_ ?_
     rotate_left
     ·intro w'
      go_simp
      try with_reducible rfl
     rotate_left
     ·simp only [Act.put, qa, qb, qc]
      rfl
     refine pu_ (i := 2) (N := (some 35)) (v := ?_) (a' := ?_) rfl rfl (by kernel_rfl) (fun _ _ _ h => h) (Or.inl ⟨by rfl, ?_⟩) ?_ ?_
     rotate_left
     ·intro w'
      go_simp
      try with_reducible rfl
     rotate_left
     ·simp only [Act.put, qa, qb, qc]
      rfl
     refine pu_ (i := 3) (N := (some 36)) (v := ?_) (a' := ?_) rfl rfl (by kernel_rfl) (fun _ _ _ h => h) (Or.inl ⟨by rfl, ?_⟩) ?_ ?_
     rotate_left
     ·intro w'
      go_simp
      try with_reducible rfl
     rotate_left
     ·simp only [Act.put, qa, qb, qc]
      rfl
     refine pu_ (i := 4) (N := (some 37)) (v := (.bool false)) (a' := ?_) rfl rfl (by kernel_rfl) (fun _ _ _ h => h) (Or.inl ⟨by rfl, ?_⟩) ?_ ?_
     ·intro w'
      go_simp
      try with_reducible rfl
     rotate_left
     ·simp only [Act.put, qa, qb, qc]
      rfl
     refine pu_ (i := 5) (N := (some 38)) (v := ?_) (a' := ?_) rfl rfl (by kernel_rfl) (fun _ _ _ h => h) (Or.inl ⟨by rfl, ?_⟩) ?_ ?_
     rotate_left
     ·intro w'
      go_simp
      try with_reducible rfl
     rotate_left
     ·simp only [Act.put, qa, qb, qc]
      rfl
     refine pu_ (i := 6) (N := (some 39)) (v := undef) (a' := ?_) rfl rfl (by kernel_rfl) (fun _ _ _ h => h) (Or.inr ⟨by rfl, rfl⟩) ?_ ?_
     rotate_left
     ·simp only [Act.put, qa, qb, qc]
      rfl
     refine pu_ (i := 7) (N := (some 40)) (v := undef) (a' := ?_) rfl rfl (by kernel_rfl) (fun _ _ _ h => h) (Or.inr ⟨by rfl, rfl⟩) ?_ ?_
     rotate_left
     ·simp only [Act.put, qa, qb, qc]
      rfl
     refine pu_ (i := 8) (N := (some 41)) (v := ?_) (a' := ?_) rfl rfl (by kernel_rfl) (fun _ _ _ h => h) (Or.inl ⟨by rfl, ?_⟩) ?_ ?_
     rotate_left
     ·intro w'
      go_simp
      try with_reducible rfl
     rotate_left
     ·simp only [Act.put, qa, qb, qc]
      rfl
     refine pu_ (i := 9) (N := (some 42)) (v := ?_) (a' := ?_) rfl rfl (by kernel_rfl) (fun _ _ _ h => h) (Or.inl ⟨by rfl, ?_⟩) ?_ ?_
     rotate_left
     ·intro w'
      go_simp
      try with_reducible rfl
     rotate_left
     ·simp only [Act.put, qa, qb, qc]
      rfl
     refine pu_ (i := 10) (N := (some 43)) (v := undef) (a' := ?_) rfl rfl (by kernel_rfl) (fun _ _ _ h => h) (Or.inr ⟨by rfl, rfl⟩) ?_ ?_
     rotate_left
     ·simp only [Act.put, qa, qb, qc]
      rfl
     refine pu_ (i := 11) (N := (some 44)) (v := undef) (a' := ?_) rfl rfl (by kernel_rfl) (fun _ _ _ h => h) (Or.inr ⟨by rfl, rfl⟩) ?_ ?_
     rotate_left
     ·simp only [Act.put, qa, qb, qc]
      rfl
     refine pu_ (i := 12) (N := (some 45)) (v := undef) (a' := ?_) rfl rfl (by kernel_rfl) (fun _ _ _ h => h) (Or.inr ⟨by rfl, rfl⟩) ?_ ?_
     rotate_left
     ·simp only [Act.put, qa, qb, qc]
      rfl
     refine pu_ (i := 13) (N := (some 46)) (v := undef) (a' := ?_) rfl rfl (by kernel_rfl) (fun _ _ _ h => h) (Or.inr ⟨by rfl, rfl⟩) ?_ ?_
     rotate_left
     ·simp only [Act.put, qa, qb, qc]
      rfl
     refine pu_ (i := 14) (N := (some 47)) (v := undef) (a' := ?_) rfl rfl (by kernel_rfl) (fun _ _ _ h => h) (Or.inr ⟨by rfl, rfl⟩) ?_ ?_
     rotate_left
     ·simp only [Act.put, qa, qb, qc]
      rfl
     refine pu_ (i := 15) (N := (some 48)) (v := undef) (a' := ?_) rfl rfl (by kernel_rfl) (fun _ _ _ h => h) (Or.inr ⟨by rfl, rfl⟩) ?_ ?_
     rotate_left
     ·simp only [Act.put, qa, qb, qc]
      rfl
     refine pu_ (i := 16) (N := (some 49)) (v := undef) (a' := ?_) rfl rfl (by kernel_rfl) (fun _ _ _ h => h) (Or.inr ⟨by rfl, rfl⟩) ?_ ?_
     rotate_left
     ·simp only [Act.put, qa, qb, qc]
      rfl
     refine pu_ (i := 17) (N := (some 50)) (v := undef) (a' := ?_) rfl rfl (by kernel_rfl) (fun _ _ _ h => h) (Or.inr ⟨by rfl, rfl⟩) ?_ ?_
     rotate_left
     ·simp only [Act.put, qa, qb, qc]
      rfl
     refine pu_ (i := 18) (N := (some 51)) (v := undef) (a' := ?_) rfl rfl (by kernel_rfl) (fun _ _ _ h => h) (Or.inr ⟨by rfl, rfl⟩) ?_ ?_
     rotate_left
     ·simp only [Act.put, qa, qb, qc]
      rfl
     refine pu_ (i := 19) (N := (some 52)) (v := ?_) (a' := ?_) rfl rfl (by kernel_rfl) (fun _ _ _ h => h) (Or.inl ⟨by rfl, ?_⟩) ?_ ?_
     rotate_left
     ·intro w'
      go_simp
      try with_reducible rfl
     rotate_left
     ·simp only [Act.put, qa, qb, qc]
      rfl
     refine pu_ (i := 20) (N := (some 53)) (v := ?_) (a' := ?_) rfl rfl (by kernel_rfl) (fun _ _ _ h => h) (Or.inl ⟨by rfl, ?_⟩) ?_ ?_
     rotate_left
     ·intro w'
      go_simp
      try with_reducible rfl
     rotate_left
     ·simp only [Act.put, qa, qb, qc]
      rfl
     refine pu_ (i := 21) (N := (some 9)) (v := ?_) (a' := ?_) rfl rfl (by kernel_rfl) (fun _ _ _ h => h) (Or.inl ⟨by rfl, ?_⟩) ?_ ?_
     rotate_left
     ·intro w'
      go_simp
      try with_reducible rfl
     rotate_left
     ·simp only [Act.put, qa, qb, qc]
      rfl
     refine done_ (by kernel_rfl) ?_
     go_wp2
     refine ⟨⟨k + 1, hlt, by simp, ?_, ?_⟩, by simp [RowKit.intOf]; omega⟩
     ·rw [HSN.out]
     ·exact HBW.out.trans ((HB0.out.drew).mono HBW.out.size)
    ·have hkn2 : ¬ (k : Int) = (n : Int) := by omega
     cases kc with
     | false =>
      have HSN := Lib.hid (hsn.trans (by simp : _ = false))
      clear hsn x2
      go_wp2_with fail
      rw [← HW0.out, ← HBB.out]
      refine st_ (n := 22) (S := fun w' => w'.cell? ⟨bb, 1, none⟩ = some (.bool false)) (ds := []) hmix rfl x1 (fun hHeld => ?_)
      refine pu_ (i := 0) (N := (some 33)) (v := ?_) (a' := ?_) rfl rfl (by kernel_rfl) (fun _ _ _ h => h) (Or.inl ⟨by rfl, ?_⟩) ?_ ?_
      rotate_left
      ·intro w'
       go_simp
       try with_reducible rfl
      rotate_left
      ·simp only [Act.put, qa, qb, qc]
       rfl
      refine pu_ (i := 1) (N := (some 34)) (v := ?_) (a' := ?_) rfl rfl (by kernel_rfl) (fun _ _ _ h => h) (Or.inl ⟨by rfl, ?_⟩) ?_ ?_
      rotate_left
      ·intro w'
       go_simp
       try with_reducible rfl
      rotate_left
      ·simp only [Act.put, qa, qb, qc]
       rfl
      refine pu_ (i := 2) (N := (some 35)) (v := ?_) (a' := ?_) rfl rfl (by kernel_rfl) (fun _ _ _ h => h) (Or.inl ⟨by rfl, ?_⟩) ?_ ?_
      rotate_left
      ·intro w'
       go_simp
       try with_reducible rfl
      rotate_left
      ·simp only [Act.put, qa, qb, qc]
       rfl
      refine pu_ (i := 3) (N := (some 36)) (v := ?_) (a' := ?_) rfl rfl (by kernel_rfl) (fun _ _ _ h => h) (Or.inl ⟨by rfl, ?_⟩) ?_ ?_
      rotate_left
      ·intro w'
       go_simp
       try with_reducible rfl
      rotate_left
      ·simp only [Act.put, qa, qb, qc]
       rfl
      refine pu_ (i := 4) (N := (some 37)) (v := (.bool true)) (a' := ?_) rfl rfl (by kernel_rfl) (fun _ _ _ h => h) (Or.inl ⟨by rfl, ?_⟩) ?_ ?_
      ·intro w'
       go_simp
       try with_reducible rfl
      rotate_left
      ·simp only [Act.put, qa, qb, qc]
       rfl
      refine pu_ (i := 5) (N := (some 38)) (v := ?_) (a' := ?_) rfl rfl (by kernel_rfl) (fun _ _ _ h => h) (Or.inl ⟨by rfl, ?_⟩) ?_ ?_
      rotate_left
      ·intro w'
       go_simp
       try with_reducible rfl
      rotate_left
      ·simp only [Act.put, qa, qb, qc]
       rfl
      refine pu_ (i := 6) (N := (some 39)) (v := ?_) (a' := ?_) rfl rfl (by kernel_rfl) (fun _ _ _ h => h) (Or.inl ⟨by rfl, ?_⟩) ?_ ?_
      rotate_left
      ·intro w'
       go_simp
       try with_reducible rfl
      rotate_left
      ·simp only [Act.put, qa, qb, qc]
       rfl
      refine tk_ (i := 7) (N := (some 40)) (v := ?_) (a' := ?_) rfl rfl (by kernel_rfl) (fun _ _ _ h => h) (Or.inl ⟨by rfl, ?_⟩) hHeld ?_ ?_
      rotate_left
      ·intro w' hS_
       have zz0 := hS_
       go_simp
       try with_reducible rfl
      rotate_left
      ·simp only [Act.put, qa, qb, qc]
       rfl
      refine pu_ (i := 8) (N := (some 41)) (v := ?_) (a' := ?_) rfl rfl (by kernel_rfl) (fun _ _ _ h => h) (Or.inl ⟨by rfl, ?_⟩) ?_ ?_
      rotate_left
      ·intro w'
       go_simp
       try with_reducible rfl
      rotate_left
      ·simp only [Act.put, qa, qb, qc]
       rfl
      refine pu_ (i := 9) (N := (some 42)) (v := ?_) (a' := ?_) rfl rfl (by kernel_rfl) (fun _ _ _ h => h) (Or.inl ⟨by rfl, ?_⟩) ?_ ?_
      rotate_left
      ·intro w'
       go_simp
       try with_reducible rfl
      rotate_left
      ·simp only [Act.put, qa, qb, qc]
       rfl
      refine pu_ (i := 10) (N := (some 43)) (v := undef) (a' := ?_) rfl rfl (by kernel_rfl) (fun _ _ _ h => h) (Or.inr ⟨by rfl, rfl⟩) ?_ ?_
      rotate_left
      ·simp only [Act.put, qa, qb, qc]
       rfl
      refine pu_ (i := 11) (N := (some 44)) (v := undef) (a' := ?_) rfl rfl (by kernel_rfl) (fun _ _ _ h => h) (Or.inr ⟨by rfl, rfl⟩) ?_ ?_
      rotate_left
      ·simp only [Act.put, qa, qb, qc]
       rfl
      refine pu_ (i := 12) (N := (some 45)) (v := undef) (a' := ?_) rfl rfl (by kernel_rfl) (fun _ _ _ h => h) (Or.inr ⟨by rfl, rfl⟩) ?_ ?_
      rotate_left
      ·simp only [Act.put, qa, qb, qc]
       rfl
      refine pu_ (i := 13) (N := (some 46)) (v := undef) (a' := ?_) rfl rfl (by kernel_rfl) (fun _ _ _ h => h) (Or.inr ⟨by rfl, rfl⟩) ?_ ?_
      rotate_left
      ·simp only [Act.put, qa, qb, qc]
       rfl
      refine pu_ (i := 14) (N := (some 47)) (v := undef) (a' := ?_) rfl rfl (by kernel_rfl) (fun _ _ _ h => h) (Or.inr ⟨by rfl, rfl⟩) ?_ ?_
      rotate_left
      ·simp only [Act.put, qa, qb, qc]
       rfl
      refine pu_ (i := 15) (N := (some 48)) (v := undef) (a' := ?_) rfl rfl (by kernel_rfl) (fun _ _ _ h => h) (Or.inr ⟨by rfl, rfl⟩) ?_ ?_
      rotate_left
      ·simp only [Act.put, qa, qb, qc]
       rfl
      refine pu_ (i := 16) (N := (some 49)) (v := undef) (a' := ?_) rfl rfl (by kernel_rfl) (fun _ _ _ h => h) (Or.inr ⟨by rfl, rfl⟩) ?_ ?_
      rotate_left
      ·simp only [Act.put, qa, qb, qc]
       rfl
      refine pu_ (i := 17) (N := (some 50)) (v := undef) (a' := ?_) rfl rfl (by kernel_rfl) (fun _ _ _ h => h) (Or.inr ⟨by rfl, rfl⟩) ?_ ?_
      rotate_left
      ·simp only [Act.put, qa, qb, qc]
       rfl
      refine pu_ (i := 18) (N := (some 51)) (v := undef) (a' := ?_) rfl rfl (by kernel_rfl) (fun _ _ _ h => h) (Or.inr ⟨by rfl, rfl⟩) ?_ ?_
      rotate_left
      ·simp only [Act.put, qa, qb, qc]
       rfl
      refine pu_ (i := 19) (N := (some 52)) (v := ?_) (a' := ?_) rfl rfl (by kernel_rfl) (fun _ _ _ h => h) (Or.inl ⟨by rfl, ?_⟩) ?_ ?_
      rotate_left
      ·intro w'
       go_simp
       try with_reducible rfl
      rotate_left
      ·simp only [Act.put, qa, qb, qc]
       rfl
      refine pu_ (i := 20) (N := (some 53)) (v := ?_) (a' := ?_) rfl rfl (by kernel_rfl) (fun _ _ _ h => h) (Or.inl ⟨by rfl, ?_⟩) ?_ ?_
      rotate_left
      ·intro w'
       go_simp
       try with_reducible rfl
      rotate_left
      ·simp only [Act.put, qa, qb, qc]
       rfl
      refine pu_ (i := 21) (N := (some 9)) (v := ?_) (a' := ?_) rfl rfl (by kernel_rfl) (fun _ _ _ h => h) (Or.inl ⟨by rfl, ?_⟩) ?_ ?_
      rotate_left
      ·intro w'
       go_simp
       try with_reducible rfl
      rotate_left
      ·simp only [Act.put, qa, qb, qc]
       rfl
      refine done_ (by kernel_rfl) ?_
      go_wp2
      refine ⟨⟨k + 1, hlt, by simp, ?_, ?_⟩, by simp [RowKit.intOf]; omega⟩
      ·rw [HSN.out]
      ·exact HBW.out.trans ((HB0.out.drew).mono HBW.out.size)
     | true =>
      have HSN := Lib.hid (hsn.trans (by simp [hkn2] : _ = decide (tadd (S.get n).time lk ≤ kt)))
      clear hsn
      go_wp2_with fail
      rw [← HW0.out, ← HBB.out]
      refine st_ (n := 22) (S := fun w' => w'.cell? ⟨bb, 1, none⟩ = some (.bool true) ∧ w'.cell? ⟨bb, 2, none⟩ = some (.int .i64 kt) ∧ w'.cell? ⟨H.r, 2 + n * 10 + 2, none⟩ = some (.int .i64 (S.get n).time)) (ds := []) hmix rfl ⟨x1, x2, cx0⟩ (fun hHeld => ?_)
      refine pu_ (i := 0) (N := (some 33)) (v := ?_) (a' := ?_) rfl rfl (by kernel_rfl) (fun _ _ _ h => h) (Or.inl ⟨by rfl, ?_⟩) ?_ ?_
      rotate_left
      ·intro w'
       go_simp
       try with_reducible rfl
      rotate_left
      ·simp only [Act.put, qa, qb, qc]
       rfl
      refine pu_ (i := 1) (N := (some 34)) (v := ?_) (a' := ?_) rfl rfl (by kernel_rfl) (fun _ _ _ h => h) (Or.inl ⟨by rfl, ?_⟩) ?_ ?_
      rotate_left
      ·intro w'
       go_simp
       try with_reducible rfl
      rotate_left
      ·simp only [Act.put, qa, qb, qc]
       rfl
      refine pu_ (i := 2) (N := (some 35)) (v := ?_) (a' := ?_) rfl rfl (by kernel_rfl) (fun _ _ _ h => h) (Or.inl ⟨by rfl, ?_⟩) ?_ ?_
      rotate_left
      ·intro w'
       go_simp
       try with_reducible rfl
      rotate_left
      ·simp only [Act.put, qa, qb, qc]
       rfl
      refine pu_ (i := 3) (N := (some 36)) (v := ?_) (a' := ?_) rfl rfl (by kernel_rfl) (fun _ _ _ h => h) (Or.inl ⟨by rfl, ?_⟩) ?_ ?_
      rotate_left
      ·intro w'
       go_simp
       try with_reducible rfl
      rotate_left
      ·simp only [Act.put, qa, qb, qc]
       rfl
      refine pu_ (i := 4) (N := (some 37)) (v := (.bool true)) (a' := ?_) rfl rfl (by kernel_rfl) (fun _ _ _ h => h) (Or.inl ⟨by rfl, ?_⟩) ?_ ?_
      ·intro w'
       go_simp
       try with_reducible rfl
      rotate_left
      ·simp only [Act.put, qa, qb, qc]
       rfl
      refine pu_ (i := 5) (N := (some 38)) (v := ?_) (a' := ?_) rfl rfl (by kernel_rfl) (fun _ _ _ h => h) (Or.inl ⟨by rfl, ?_⟩) ?_ ?_
      rotate_left
      ·intro w'
       go_simp
       try with_reducible rfl
      rotate_left
      ·simp only [Act.put, qa, qb, qc]
       rfl
      refine pu_ (i := 6) (N := (some 39)) (v := ?_) (a' := ?_) rfl rfl (by kernel_rfl) (fun _ _ _ h => h) (Or.inl ⟨by rfl, ?_⟩) ?_ ?_
      rotate_left
      ·intro w'
       go_simp
       try with_reducible rfl
      rotate_left
      ·simp only [Act.put, qa, qb, qc]
       rfl
      refine tk_ (i := 7) (N := (some 40)) (v := ?_) (a' := ?_) rfl rfl (by kernel_rfl) (fun _ _ _ h => h) (Or.inl ⟨by rfl, ?_⟩) hHeld ?_ ?_
      rotate_left
      ·intro w' hS_
       obtain ⟨zz0, zz1, zz2⟩ := hS_
       go_simp
       try with_reducible rfl
      rotate_left
      ·simp only [Act.put, qa, qb, qc]
       rfl
      refine pu_ (i := 8) (N := (some 41)) (v := ?_) (a' := ?_) rfl rfl (by kernel_rfl) (fun _ _ _ h => h) (Or.inl ⟨by rfl, ?_⟩) ?_ ?_
      rotate_left
      ·intro w'
       go_simp
       try with_reducible rfl
      rotate_left
      ·simp only [Act.put, qa, qb, qc]
       rfl
      refine pu_ (i := 9) (N := (some 42)) (v := ?_) (a' := ?_) rfl rfl (by kernel_rfl) (fun _ _ _ h => h) (Or.inl ⟨by rfl, ?_⟩) ?_ ?_
      rotate_left
      ·intro w'
       go_simp
       try with_reducible rfl
      rotate_left
      ·simp only [Act.put, qa, qb, qc]
       rfl
      refine pu_ (i := 10) (N := (some 43)) (v := ?_) (a' := ?_) rfl rfl (by kernel_rfl) (fun _ _ _ h => h) (Or.inl ⟨by rfl, ?_⟩) ?_ ?_
      rotate_left
      ·intro w'
       go_simp
       try with_reducible rfl
      rotate_left
      ·simp only [Act.put, qa, qb, qc]
       rfl
      refine pu_ (i := 11) (N := (some 44)) (v := ?_) (a' := ?_) rfl rfl (by kernel_rfl) (fun _ _ _ h => h) (Or.inl ⟨by rfl, ?_⟩) ?_ ?_
      rotate_left
      ·intro w'
       go_simp
       try with_reducible rfl
      rotate_left
      ·simp only [Act.put, qa, qb, qc]
       rfl
      refine pu_ (i := 12) (N := (some 45)) (v := ?_) (a' := ?_) rfl rfl (by kernel_rfl) (fun _ _ _ h => h) (Or.inl ⟨by rfl, ?_⟩) ?_ ?_
      rotate_left
      ·intro w'
       go_simp
       try with_reducible rfl
      rotate_left
      ·simp only [Act.put, qa, qb, qc]
       rfl
      refine tk_ (i := 13) (N := (some 46)) (v := ?_) (a' := ?_) rfl rfl (by kernel_rfl) (fun _ _ _ h => h) (Or.inl ⟨by rfl, ?_⟩) hHeld ?_ ?_
      rotate_left
      ·intro w' hS_
       obtain ⟨zz0, zz1, zz2⟩ := hS_
       go_simp
       try with_reducible rfl
      rotate_left
      ·simp only [Act.put, qa, qb, qc]
       rfl
      refine pu_ (i := 14) (N := (some 47)) (v := ?_) (a' := ?_) rfl rfl (by kernel_rfl) (fun _ _ _ h => h) (Or.inl ⟨by rfl, ?_⟩) ?_ ?_
      rotate_left
      ·intro w'
       go_simp
       try with_reducible rfl
      rotate_left
      ·simp only [Act.put, qa, qb, qc]
       rfl
      refine pu_ (i := 16) (N := (some 49)) (v := ?_) (a' := ?_) rfl rfl (by kernel_rfl) (fun _ _ _ h => h) (Or.inl ⟨by rfl, ?_⟩) ?_ ?_
      rotate_left
      ·intro w'
       go_simp
       try with_reducible rfl
      rotate_left
      ·simp only [Act.put, qa, qb, qc]
       rfl
      refine tk_ (i := 17) (N := (some 50)) (v := ?_) (a' := ?_) rfl rfl (by kernel_rfl) (fun _ _ _ h => h) (Or.inl ⟨by rfl, ?_⟩) hHeld ?_ ?_
      rotate_left
      ·intro w' hS_
       obtain ⟨zz0, zz1, zz2⟩ := hS_
       go_simp
       try with_reducible rfl
      rotate_left
      ·simp only [Act.put, qa, qb, qc]
       rfl
      refine on_ (i := 15) (N := (some 48)) rfl rfl (by kernel_rfl) (by decide) (fun K hK => ?_)
      refine goes_ Tryz.func86 (by kernel_rfl) rfl #[.int .i64 (S.get n).time, .int .i64 lk] (by rfl) rfl rfl (by simp only [List.map_toArray, List.map_cons, List.map_nil]; rfl) ?_
      refine (tadd_call _ _ _).mono ?_
      rintro x w8 ⟨rfl, ⟨m8, rfl⟩⟩
      refine ⟨_, rfl, hK.out _ _ (by exact hHeld) (fun hHeld => ?_)⟩
      clear hK K
      refine norm_ (a' := ?_) ?_ ?_
      rotate_left
      ·show Act.put _ (some 48) _ = _
       simp only [Act.put, qa, qb, qc]
       rfl
      refine pu_ (i := 18) (N := (some 51)) (v := (.bool (decide (tadd (S.get n).time lk ≤ kt)))) (a' := ?_) rfl rfl (by kernel_rfl) (fun _ _ _ h => h) (Or.inl ⟨by rfl, ?_⟩) ?_ ?_
      ·intro w'
       go_simp
       try with_reducible rfl
      rotate_left
      ·simp only [Act.put, qa, qb, qc]
       rfl
      refine pu_ (i := 19) (N := (some 52)) (v := ?_) (a' := ?_) rfl rfl (by kernel_rfl) (fun _ _ _ h => h) (Or.inl ⟨by rfl, ?_⟩) ?_ ?_
      rotate_left
      ·intro w'
       go_simp
       try with_reducible rfl
      rotate_left
      ·simp only [Act.put, qa, qb, qc]
       rfl
      refine pu_ (i := 20) (N := (some 53)) (v := ?_) (a' := ?_) rfl rfl (by kernel_rfl) (fun _ _ _ h => h) (Or.inl ⟨by rfl, ?_⟩) ?_ ?_
      rotate_left
      ·intro w'
       go_simp
       try with_reducible rfl
      rotate_left
      ·simp only [Act.put, qa, qb, qc]
       rfl
      refine pu_ (i := 21) (N := (some 9)) (v := ?_) (a' := ?_) rfl rfl (by kernel_rfl) (fun _ _ _ h => h) (Or.inl ⟨by rfl, ?_⟩) ?_ ?_
      rotate_left
      ·intro w'
       go_simp
       try with_reducible rfl
      rotate_left
      ·simp only [Act.put, qa, qb, qc]
       rfl
      refine done_ (by kernel_rfl) ?_
      go_wp2
      refine ⟨⟨k + 1, hlt, by simp, ?_, ?_⟩, by simp [RowKit.intOf]; omega⟩
      ·rw [HSN.out]
      ·exact HBW.out.trans ((below_drewN HB0.out (1 + m8)).mono HBW.out.size)
  ·obtain rfl : k = 8 := by omega
   have hka : ¬ (8 : Int) < 8 := by omega
   have hb2 := HB1.out.trans (hb.mono HB1.out.size)
   have hRr := HR1.out wr hb2
   have c1 := hRr.c_look hn
   have c2 := hRr.c_kind hn
   have HB2 := Lib.hid hb2
   clear hb hRr hb2
   generalize hlate : lateTo S n lk 8 = late at HJ HO ⊢
   go_wp2_with fail
   have hu113 := Tryz.underlying113
   have HLT := Lib.hid hlate
   clear hlate
   refine st_ (n := 26) (S := fun w' => w'.cell? ⟨H.r, 2 + n * 10 + 3, none⟩ = some (.int .i64 (S.get n).look) ∧ w'.cell? ⟨H.r, 2 + n * 10 + 4, none⟩ = some (.int .i64 (S.get n).kind)) (ds := [23, 24]) hmix rfl ⟨c1, c2⟩ (fun hHeld => ?_)
   refine pu_ (i := 0) (N := (some 55)) (v := ?_) (a' := ?_) rfl rfl (by kernel_rfl) (fun _ _ _ h => h) (Or.inl ⟨by rfl, ?_⟩) ?_ ?_
   rotate_left
   ·intro w'
    go_simp
    try with_reducible rfl
   rotate_left
   ·simp only [Act.put, qa, qb, qc]
    rfl
   refine pu_ (i := 1) (N := (some 56)) (v := ?_) (a' := ?_) rfl rfl (by kernel_rfl) (fun _ _ _ h => h) (Or.inl ⟨by rfl, ?_⟩) ?_ ?_
   rotate_left
   ·intro w'
    go_simp
    try with_reducible rfl
   rotate_left
   ·simp only [Act.put, qa, qb, qc]
    rfl
   refine pu_ (i := 2) (N := (some 57)) (v := ?_) (a' := ?_) rfl rfl (by kernel_rfl) (fun _ _ _ h => h) (Or.inl ⟨by rfl, ?_⟩) ?_ ?_
   rotate_left
   ·intro w'
    go_simp
    try with_reducible rfl
   rotate_left
   ·simp only [Act.put, qa, qb, qc]
    rfl
   refine pu_ (i := 3) (N := (some 58)) (v := ?_) (a' := ?_) rfl rfl (by kernel_rfl) (fun _ _ _ h => h) (Or.inl ⟨by rfl, ?_⟩) ?_ ?_
   rotate_left
   ·intro w'
    go_simp
    try with_reducible rfl
   rotate_left
   ·simp only [Act.put, qa, qb, qc]
    rfl
   refine tk_ (i := 4) (N := (some 59)) (v := ?_) (a' := ?_) rfl rfl (by kernel_rfl) (fun _ _ _ h => h) (Or.inl ⟨by rfl, ?_⟩) hHeld ?_ ?_
   rotate_left
   ·intro w' hS_
    obtain ⟨zz0, zz1⟩ := hS_
    go_simp
    try with_reducible rfl
   rotate_left
   ·simp only [Act.put, qa, qb, qc]
    rfl
   refine pu_ (i := 5) (N := (some 60)) (v := (.bool ((S.get n).look == 0))) (a' := ?_) rfl rfl (by kernel_rfl) (fun _ _ _ h => h) (Or.inl ⟨by rfl, ?_⟩) ?_ ?_
   ·intro w'
    go_simp
    try with_reducible rfl
   rotate_left
   ·simp only [Act.put, qa, qb, qc]
    rfl
   refine pu_ (i := 6) (N := (some 61)) (v := ?_) (a' := ?_) rfl rfl (by kernel_rfl) (fun _ _ _ h => h) (Or.inl ⟨by rfl, ?_⟩) ?_ ?_
   rotate_left
   ·intro w'
    go_simp
    try with_reducible rfl
   rotate_left
   ·simp only [Act.put, qa, qb, qc]
    rfl
   refine pu_ (i := 7) (N := (some 62)) (v := ?_) (a' := ?_) rfl rfl (by kernel_rfl) (fun _ _ _ h => h) (Or.inl ⟨by rfl, ?_⟩) ?_ ?_
   rotate_left
   ·intro w'
    go_simp
    try with_reducible rfl
   rotate_left
   ·simp only [Act.put, qa, qb, qc]
    rfl
   refine pu_ (i := 8) (N := (some 63)) (v := ?_) (a' := ?_) rfl rfl (by kernel_rfl) (fun _ _ _ h => h) (Or.inl ⟨by rfl, ?_⟩) ?_ ?_
   rotate_left
   ·intro w'
    go_simp
    try with_reducible rfl
   rotate_left
   ·simp only [Act.put, qa, qb, qc]
    rfl
   refine pu_ (i := 9) (N := (some 64)) (v := ?_) (a' := ?_) rfl rfl (by kernel_rfl) (fun _ _ _ h => h) (Or.inl ⟨by rfl, ?_⟩) ?_ ?_
   rotate_left
   ·intro w'
    go_simp
    try with_reducible rfl
   rotate_left
   ·simp only [Act.put, qa, qb, qc]
    rfl
   refine tk_ (i := 10) (N := (some 65)) (v := ?_) (a' := ?_) rfl rfl (by kernel_rfl) (fun _ _ _ h => h) (Or.inl ⟨by rfl, ?_⟩) hHeld ?_ ?_
   rotate_left
   ·intro w' hS_
    obtain ⟨zz0, zz1⟩ := hS_
    go_simp
    try with_reducible rfl
   rotate_left
   ·simp only [Act.put, qa, qb, qc]
    rfl
   refine pu_ (i := 11) (N := (some 66)) (v := (.bool ((S.get n).kind == 0))) (a' := ?_) rfl rfl (by kernel_rfl) (fun _ _ _ h => h) (Or.inl ⟨by rfl, ?_⟩) ?_ ?_
   ·intro w'
    go_simp
    try with_reducible rfl
   rotate_left
   ·simp only [Act.put, qa, qb, qc]
    rfl
   refine pu_ (i := 12) (N := (some 67)) (v := ?_) (a' := ?_) rfl rfl (by kernel_rfl) (fun _ _ _ h => h) (Or.inl ⟨by rfl, ?_⟩) ?_ ?_
   rotate_left
   ·intro w'
    go_simp
    try with_reducible rfl
   rotate_left
   ·simp only [Act.put, qa, qb, qc]
    rfl
   refine pu_ (i := 13) (N := (some 68)) (v := ?_) (a' := ?_) rfl rfl (by kernel_rfl) (fun _ _ _ h => h) (Or.inl ⟨by rfl, ?_⟩) ?_ ?_
   rotate_left
   ·intro w'
    go_simp
    try with_reducible rfl
   rotate_left
   ·simp only [Act.put, qa, qb, qc]
    rfl
   refine pu_ (i := 14) (N := (some 69)) (v := (.bool false)) (a' := ?_) rfl rfl (by kernel_rfl) (fun _ _ _ h => h) (Or.inl ⟨by rfl, ?_⟩) ?_ ?_
   ·intro w'
    go_simp
    try with_reducible rfl
   rotate_left
   ·simp only [Act.put, qa, qb, qc]
    rfl
   refine pu_ (i := 15) (N := (some 70)) (v := ?_) (a' := ?_) rfl rfl (by kernel_rfl) (fun _ _ _ h => h) (Or.inl ⟨by rfl, ?_⟩) ?_ ?_
   rotate_left
   ·intro w'
    go_simp
    try with_reducible rfl
   rotate_left
   ·simp only [Act.put, qa, qb, qc]
    rfl
   refine pu_ (i := 16) (N := (some 71)) (v := undef) (a' := ?_) rfl rfl (by kernel_rfl) (fun _ _ _ h => h) (Or.inr ⟨by rfl, rfl⟩) ?_ ?_
   rotate_left
   ·simp only [Act.put, qa, qb, qc]
    rfl
   refine pu_ (i := 17) (N := (some 72)) (v := undef) (a' := ?_) rfl rfl (by kernel_rfl) (fun _ _ _ h => h) (Or.inr ⟨by rfl, rfl⟩) ?_ ?_
   rotate_left
   ·simp only [Act.put, qa, qb, qc]
    rfl
   refine pu_ (i := 18) (N := (some 73)) (v := ?_) (a' := ?_) rfl rfl (by kernel_rfl) (fun _ _ _ h => h) (Or.inl ⟨by rfl, ?_⟩) ?_ ?_
   rotate_left
   ·intro w'
    go_simp
    try with_reducible rfl
   rotate_left
   ·simp only [Act.put, qa, qb, qc]
    rfl
   refine pu_ (i := 19) (N := (some 74)) (v := ?_) (a' := ?_) rfl rfl (by kernel_rfl) (fun _ _ _ h => h) (Or.inl ⟨by rfl, ?_⟩) ?_ ?_
   rotate_left
   ·intro w'
    go_simp
    try with_reducible rfl
   rotate_left
   ·simp only [Act.put, qa, qb, qc]
    rfl
   refine pu_ (i := 20) (N := (some 75)) (v := ?_) (a' := ?_) rfl rfl (by kernel_rfl) (fun _ _ _ h => h) (Or.inl ⟨by rfl, ?_⟩) ?_ ?_
   rotate_left
   ·intro w'
    go_simp
    try with_reducible rfl
   rotate_left
   ·simp only [Act.put, qa, qb, qc]
    rfl
   refine pu_ (i := 21) (N := (some 76)) (v := (.bool (!late))) (a' := ?_) rfl rfl (by kernel_rfl) (fun _ _ _ h => h) (Or.inl ⟨by rfl, ?_⟩) ?_ ?_
   ·intro w'
    go_simp
    try with_reducible rfl
   rotate_left
   ·simp only [Act.put, qa, qb, qc]
    rfl
   refine pu_ (i := 22) (N := (some 77)) (v := ?_) (a' := ?_) rfl rfl (by kernel_rfl) (fun _ _ _ h => h) (Or.inl ⟨by rfl, ?_⟩) ?_ ?_
   rotate_left
   ·intro w'
    go_simp
    try with_reducible rfl
   rotate_left
   ·simp only [Act.put, qa, qb, qc]
    rfl
   refine la_ (i := 23) (N := (some 78)) rfl rfl (by kernel_rfl) (by decide) (fun K hK => ?_)
   refine value_ (w1 := ?_) (v := ?_) (by rfl) rfl ?_ ?_
   rotate_left 2
   ·go_simp
    constructor
    ·rfl
    ·rfl
   refine hK.out _ _ ?_
   clear hK K
   refine norm_ (a' := ?_) ?_ ?_
   rotate_left
   ·show Act.put _ (some 78) _ = _
    simp only [Act.put, qa, qb, qc]
    rfl
   refine la_ (i := 24) (N := (some 79)) rfl rfl (by kernel_rfl) (by decide) (fun K hK => ?_)
   refine goes_ Tryz.func67 (by kernel_rfl) rfl #[.int .i64 (n : Int), .slice (some ⟨wr.heap.size, 0, none⟩) 4 4] (by rfl) rfl rfl (by simp only [List.map_toArray, List.map_cons, List.map_nil]; rfl) ?_
   refine Calls.mono (all4 _ _ wr.heap.size ((S.get n).look == 0) ((S.get n).kind == 0) (false) (!late) 202 206 80 207 ?h5) ?_
   case h5 => exact heap_alloc_new wr.drew _
   rintro x w5 ⟨hr5, hb5⟩
   obtain ⟨v5, rfl, hr5⟩ := hr5.ret
   refine ⟨_, rfl, hK.out _ _ ?_⟩
   clear hK K
   refine norm_ (a' := ?_) ?_ ?_
   rotate_left
   ·show Act.put _ (some 79) _ = _
    simp only [Act.put, qa, qb, qc]
    rfl
   refine pu_ (i := 25) (N := (some 12)) (v := ?_) (a' := ?_) rfl rfl (by kernel_rfl) (fun _ _ _ h => h) (Or.inl ⟨by rfl, ?_⟩) ?_ ?_
   rotate_left
   ·intro w'
    go_simp
    try with_reducible rfl
   rotate_left
   ·simp only [Act.put, qa, qb, qc]
    rfl
   refine done_ (by kernel_rfl) ?_
   have hB : Below w.heap.size w w5 := (HB2.out.drew.alloc HB2.out.size _).trans (hb5.mono (by have := HB2.out.size; simp; omega))
   have hr : AllRes w n (firstNo [((S.get n).look == 0, 202), ((S.get n).kind == 0, 206), (false, 80), (!late, 207)]) (.returned v5) w5 := AllRes.mono (w := w) hr5 (by have := HB2.out.size; simp; omega)
   have ho := HO.out
   have hj := HJ.out
   have hR5 := HR.out.below hB
   generalize firstNo [((S.get n).look == 0, 202), ((S.get n).kind == 0, 206), (false, 80), (!late, 207)] = o at hr ho hj
   clear hr5 hb5
   cases o with
   | none =>
    have hv : v5 = .nilIface := by cases hr; rfl
    subst hv
    have d1 := hR5.c_look hn
    have f1 := hR5.free (2 + n * 10 + 3)
    have HJ2 := Lib.hid hj
    have HR5 := Lib.hid hR5
    have HB := Lib.hid hB
    clear hr ho hj hR5 hB c1 c2
    go_wp2
    go_ret
    rw [HJ2.out]
    have hb2 := blk_put HR5.out.blk H8.out n 3 hn (by decide) (.int .i64 lk) { S.get n with look := lk } rfl
    have ht : Tch (fun k => k = H.r) w5 (w5.setCell ⟨H.r, 2 + n * 10 + 3, none⟩ (.int .i64 lk)) := Tch.setCell (P := fun k => k = H.r) (Tch.refl _ _) (p := ⟨H.r, 2 + n * 10 + 3, none⟩) (.inl rfl) _
    exact MPost.turn HR.out HB.out (HR5.out.turn ht hb2 rfl rfl rfl (put_keeps S H8.out hn _ ⟨rfl, rfl, rfl⟩)) ht _
   | some c =>
    have hcc := ho c rfl
    have henv := hR5.env
    obtain ⟨gg, hg1, hg2, hg3⟩ := hr
    cases hg2
    have HJ2 := Lib.hid hj
    have HR5 := Lib.hid hR5
    have HB := Lib.hid hB
    have her := errno_ref w5 henv gg n c hcc.1 hcc.2 hg3
    have HER := Lib.hid her
    clear ho hj hR5 hB henv hg3 her c1 c2
    go_wp2_with (go_at_call 64; (with_reducible refine HER.out.mono ?_); rintro e w6 ⟨rfl, hb6⟩)
    go_ret
    rw [HJ2.out]
    exact MPost.same HR.out (HB.out.trans (hb6.mono HB.out.size)) _
end Go.Proofs.YtehnkebcbomidaaGreatDoor.Rt
