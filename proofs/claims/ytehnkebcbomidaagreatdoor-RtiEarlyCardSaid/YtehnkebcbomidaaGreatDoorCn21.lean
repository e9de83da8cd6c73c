/- Part of a proof over the given program: Lc. -/
import Derived.Test.YtehnkebcbomidaaGreatDoorCn20
set_option linter.unusedVariables false
set_option linter.unusedSimpArgs false
namespace Go.Proofs.YtehnkebcbomidaaGreatDoor.Rt
open Go Go.RowKit Go.Proofs Go.Proofs.YtehnkebcbomidaaGreatDoorW.PrintWords Go.Proofs.YtehnkebcbomidaaGreatDoorW.PrintLast
def bestV (o : Option Nat) : Int := match o with
 | none => -1
 | some b => (b : Int)
structure LeAt (W : World) (n : Nat) (bl bp bo p o : Nat) (A : Option Addr) (c : Nat) (op : List Bool) (out : List Int) : Prop where
 l0 : W.cell? ⟨bl, 0, none⟩ = some (.slice A n c)
 p0 : W.cell? ⟨bp, 0, none⟩ = some (.slice (some ⟨p, 0, none⟩) n n)
 o0 : W.cell? ⟨bo, 0, none⟩ = some (.slice (some ⟨o, 0, none⟩) n n)
 pj : ∀ j, j < n → W.cell? ⟨p, j, none⟩ = some (.bool (op.getD j false))
 oj : ∀ j, j < n → W.cell? ⟨o, j, none⟩ = some (.int .i64 (out.getD j 0))
theorem leastO_lt (out : List Int) (op : List Bool) (n b : Nat) (h : leastO out op n = some b) : b < n := by
 induction n generalizing b with
 | zero => cases h
 | succ n ih =>
  unfold leastO at h
  split at h
  ·split at h
   ·cases h; omega
   ·cases h
  ·rename_i b' hb'
   split at h
   ·cases h; omega
   ·cases h; have := ih _ hb'; omega
theorem bestV_succ (out : List Int) (op : List Bool) (j : Nat) : bestV (leastO out op (j + 1)) = match leastO out op j, op.getD j false with
  | b, false => bestV b
  | none, true => (j : Int)
  | some b, true => if out.getD j 0 < out.getD b 0 then (j : Int) else (b : Int) := by
 rw [leastO]
 cases leastO out op j with
 | none => cases op.getD j false <;> rfl
 | some b =>
  cases op.getD j false with
  | false => rfl
  | true =>
   by_cases h : out.getD j 0 < out.getD b 0
   ·simp only [h, decide_true, Bool.and_self, if_true]; rfl
   ·simp only [h, decide_false, Bool.and_false, Bool.false_eq_true, if_false]; rfl
set_option maxHeartbeats 8000000 in
set_option maxRecDepth 100000 in
theorem least_call (w : World) (n : Nat) (hn : n ≤ 1000) (bl bp bo p o : Nat) (A : Option Addr) (c : Nat) (op : List Bool) (out : List Int) (h : LeAt w n bl bp bo p o A c op out) :
  Calls Tryz.prog 137 #[.pointer (some ⟨bl, 0, none⟩), .pointer (some ⟨bp, 0, none⟩), .pointer (some ⟨bo, 0, none⟩)] w fun e w' => e = .returned (.int .i64 (bestV (leastO out op n))) ∧ ∃ m, w' = w.drewN m := by
 have hu123 := Tryz.underlying123
 have hu36 := Tryz.underlying36
 have hu52 := Tryz.underlying52
 have l0 := h.l0
 have HH := Lib.hid h
 clear h
 go_enter Tryz.func137, Tryz.ntmps137
 have hmix : Tryz.prog.follows .mixedOrders = true := by kernel_rfl
 go_wp2
 go_loopw [4, 8] (fun b i wr => ∃ j m : Nat, j ≤ n ∧ i = .int .i64 j ∧ b = .int .i64 (bestV (leastO out op j)) ∧ wr = w.drewN m) (fun _ i _ => n - (RowKit.intOf i).toNat)
 case atStart => exact ⟨0, 0, Nat.zero_le _, rfl, rfl, rfl⟩
 case round =>
  obtain ⟨j, m, hj, rfl, rfl, rfl⟩ := hrel
  by_cases hjn : j < n
  ·have hjl : (j : Int) < (n : Int) := by omega
   have hj0 : (0 : Int) ≤ (j : Int) := by omega
   have p0 : (w.drewN m).drew.cell? ⟨bp, 0, none⟩ = _ := HH.out.p0
   have pj : (w.drewN m).drew.cell? ⟨p, j, none⟩ = _ := HH.out.pj j hjn
   have o0 : (w.drewN m).drew.cell? ⟨bo, 0, none⟩ = _ := HH.out.o0
   have oj' : (w.drewN m).drew.cell? ⟨o, j, none⟩ = _ := HH.out.oj j hjn
   have hbl := leastO_lt out op j
   cases hop : op.getD j false with
   | false =>
    rw [hop] at pj
    have hbo : bestV (leastO out op (j + 1)) = bestV (leastO out op j) := by rw [bestV_succ, hop]
    generalize bestV (leastO out op j) = bb at hbo ⊢
    have HBO := Lib.hid hbo
    clear hbo hbl hop
    go_wp2_with fail
    refine st_ (n := 19) (S := fun w' => w'.cell? ⟨bp, 0, none⟩ = some (.slice (some ⟨p, 0, none⟩) n n) ∧ w'.cell? ⟨p, j, none⟩ = some (.bool false)) (ds := []) hmix rfl ⟨p0, pj⟩ (fun hHeld => ?_)
    refine tk_ (i := 0) (N := (some 11)) (v := ?_) (a' := ?_) rfl rfl (by kernel_rfl) (fun _ _ _ h => h) (Or.inl ⟨by rfl, ?_⟩) hHeld ?_ ?_
    rotate_left
    ·intro w' hS_
     obtain ⟨zz0, zz1⟩ := hS_
     go_simp
     try with_reducible rfl
    rotate_left
    ·simp only [Act.put, qa, qb, qc]
     rfl
    refine pu_ (i := 1) (N := (some 12)) (v := ?_) (a' := ?_) rfl rfl (by kernel_rfl) (fun _ _ _ h => h) (Or.inl ⟨by rfl, ?_⟩) ?_ ?_
    rotate_left
    ·intro w'
     go_simp
     try with_reducible rfl
    rotate_left
    ·simp only [Act.put, qa, qb, qc]
     rfl
    refine pu_ (i := 2) (N := (some 13)) (v := ?_) (a' := ?_) rfl rfl (by kernel_rfl) (fun _ _ _ h => h) (Or.inl ⟨by rfl, ?_⟩) ?_ ?_
    rotate_left
    ·intro w'
     go_simp
     try with_reducible rfl
    rotate_left
    ·simp only [Act.put, qa, qb, qc]
     rfl
    refine tk_ (i := 3) (N := (some 14)) (v := ?_) (a' := ?_) rfl rfl (by kernel_rfl) (fun _ _ _ h => h) (Or.inl ⟨by rfl, ?_⟩) hHeld ?_ ?_
    rotate_left
    ·intro w' hS_
     obtain ⟨zz0, zz1⟩ := hS_
     go_simp
     try with_reducible rfl
    rotate_left
    ·simp only [Act.put, qa, qb, qc]
     rfl
    refine pu_ (i := 4) (N := (some 15)) (v := ?_) (a' := ?_) rfl rfl (by kernel_rfl) (fun _ _ _ h => h) (Or.inl ⟨by rfl, ?_⟩) ?_ ?_
    rotate_left
    ·intro w'
     go_simp
     try with_reducible rfl
    rotate_left
    ·simp only [Act.put, qa, qb, qc]
     rfl
    refine pu_ (i := 5) (N := (some 16)) (v := undef) (a' := ?_) rfl rfl (by kernel_rfl) (fun _ _ _ h => h) (Or.inr ⟨by rfl, rfl⟩) ?_ ?_
    rotate_left
    ·simp only [Act.put, qa, qb, qc]
     rfl
    refine pu_ (i := 6) (N := (some 17)) (v := undef) (a' := ?_) rfl rfl (by kernel_rfl) (fun _ _ _ h => h) (Or.inr ⟨by rfl, rfl⟩) ?_ ?_
    rotate_left
    ·simp only [Act.put, qa, qb, qc]
     rfl
    refine pu_ (i := 7) (N := (some 18)) (v := undef) (a' := ?_) rfl rfl (by kernel_rfl) (fun _ _ _ h => h) (Or.inr ⟨by rfl, rfl⟩) ?_ ?_
    rotate_left
    ·simp only [Act.put, qa, qb, qc]
     rfl
    refine pu_ (i := 8) (N := (some 19)) (v := undef) (a' := ?_) rfl rfl (by kernel_rfl) (fun _ _ _ h => h) (Or.inr ⟨by rfl, rfl⟩) ?_ ?_
    rotate_left
    ·simp only [Act.put, qa, qb, qc]
     rfl
    refine pu_ (i := 9) (N := (some 20)) (v := undef) (a' := ?_) rfl rfl (by kernel_rfl) (fun _ _ _ h => h) (Or.inr ⟨by rfl, rfl⟩) ?_ ?_
    rotate_left
    ·simp only [Act.put, qa, qb, qc]
     rfl
    refine pu_ (i := 10) (N := (some 21)) (v := undef) (a' := ?_) rfl rfl (by kernel_rfl) (fun _ _ _ h => h) (Or.inr ⟨by rfl, rfl⟩) ?_ ?_
    rotate_left
    ·simp only [Act.put, qa, qb, qc]
     rfl
    refine pu_ (i := 11) (N := (some 22)) (v := undef) (a' := ?_) rfl rfl (by kernel_rfl) (fun _ _ _ h => h) (Or.inr ⟨by rfl, rfl⟩) ?_ ?_
    rotate_left
    ·simp only [Act.put, qa, qb, qc]
     rfl
    refine pu_ (i := 12) (N := (some 23)) (v := undef) (a' := ?_) rfl rfl (by kernel_rfl) (fun _ _ _ h => h) (Or.inr ⟨by rfl, rfl⟩) ?_ ?_
    rotate_left
    ·simp only [Act.put, qa, qb, qc]
     rfl
    refine pu_ (i := 13) (N := (some 24)) (v := undef) (a' := ?_) rfl rfl (by kernel_rfl) (fun _ _ _ h => h) (Or.inr ⟨by rfl, rfl⟩) ?_ ?_
    rotate_left
    ·simp only [Act.put, qa, qb, qc]
     rfl
    refine pu_ (i := 14) (N := (some 25)) (v := undef) (a' := ?_) rfl rfl (by kernel_rfl) (fun _ _ _ h => h) (Or.inr ⟨by rfl, rfl⟩) ?_ ?_
    rotate_left
    ·simp only [Act.put, qa, qb, qc]
     rfl
    refine pu_ (i := 15) (N := (some 26)) (v := undef) (a' := ?_) rfl rfl (by kernel_rfl) (fun _ _ _ h => h) (Or.inr ⟨by rfl, rfl⟩) ?_ ?_
    rotate_left
    ·simp only [Act.put, qa, qb, qc]
     rfl
    refine pu_ (i := 16) (N := (some 27)) (v := undef) (a' := ?_) rfl rfl (by kernel_rfl) (fun _ _ _ h => h) (Or.inr ⟨by rfl, rfl⟩) ?_ ?_
    rotate_left
    ·simp only [Act.put, qa, qb, qc]
     rfl
    refine pu_ (i := 17) (N := (some 28)) (v := undef) (a' := ?_) rfl rfl (by kernel_rfl) (fun _ _ _ h => h) (Or.inr ⟨by rfl, rfl⟩) ?_ ?_
    rotate_left
    ·simp only [Act.put, qa, qb, qc]
     rfl
    refine pu_ (i := 18) (N := (some 29)) (v := ?_) (a' := ?_) rfl rfl (by kernel_rfl) (fun _ _ _ h => h) (Or.inl ⟨by rfl, ?_⟩) ?_ ?_
    rotate_left
    ·intro w'
     go_simp
     try with_reducible rfl
    rotate_left
    ·simp only [Act.put, qa, qb, qc]
     rfl
    refine done_ (by kernel_rfl) ?_
    go_wp2
    refine ⟨⟨j + 1, m + 1, hjn, by simp, ?_, rfl⟩, by simp [RowKit.intOf]; omega⟩
    exact (congrArg (Value.int .i64) HBO.out).symm
   | true =>
    rw [hop] at pj
    cases hl : leastO out op j with
    | none =>
     have hbo : bestV (leastO out op (j + 1)) = (j : Int) := by rw [bestV_succ, hl, hop]
     have HBO := Lib.hid hbo
     clear hbo hbl hop hl
     have hneg : (-1 : Int) < 0 := by decide
     unfold bestV
     go_wp2_with fail
     refine st_ (n := 19) (S := fun w' => w'.cell? ⟨bp, 0, none⟩ = some (.slice (some ⟨p, 0, none⟩) n n) ∧ w'.cell? ⟨p, j, none⟩ = some (.bool true)) (ds := []) hmix rfl ⟨p0, pj⟩ (fun hHeld => ?_)
     refine tk_ (i := 0) (N := (some 11)) (v := ?_) (a' := ?_) rfl rfl (by kernel_rfl) (fun _ _ _ h => h) (Or.inl ⟨by rfl, ?_⟩) hHeld ?_ ?_
     rotate_left
     ·intro w' hS_
      obtain ⟨zz0, zz1⟩ := hS_
      go_simp
      try with_reducible rfl
     rotate_left
     ·simp only [Act.put, qa, qb, qc]
      rfl
     refine pu_ (i := 1) (N := (some 12)) (v := ?_) (a' := ?_) rfl rfl (by kernel_rfl) (fun _ _ _ h => h) (Or.inl ⟨by rfl, ?_⟩) ?_ ?_
     rotate_left
     ·intro w'
      go_simp
      try with_reducible rfl
     rotate_left
     ·simp only [Act.put, qa, qb, qc]
      rfl
     refine pu_ (i := 2) (N := (some 13)) (v := ?_) (a' := ?_) rfl rfl (by kernel_rfl) (fun _ _ _ h => h) (Or.inl ⟨by rfl, ?_⟩) ?_ ?_
     rotate_left
     ·intro w'
      go_simp
      try with_reducible rfl
     rotate_left
     ·simp only [Act.put, qa, qb, qc]
      rfl
     refine tk_ (i := 3) (N := (some 14)) (v := ?_) (a' := ?_) rfl rfl (by kernel_rfl) (fun _ _ _ h => h) (Or.inl ⟨by rfl, ?_⟩) hHeld ?_ ?_
     rotate_left
     ·intro w' hS_
      obtain ⟨zz0, zz1⟩ := hS_
      go_simp
      try with_reducible rfl
     rotate_left
     ·simp only [Act.put, qa, qb, qc]
      rfl
     refine pu_ (i := 4) (N := (some 15)) (v := ?_) (a' := ?_) rfl rfl (by kernel_rfl) (fun _ _ _ h => h) (Or.inl ⟨by rfl, ?_⟩) ?_ ?_
     rotate_left
     ·intro w'
      go_simp
      try with_reducible rfl
     rotate_left
     ·simp only [Act.put, qa, qb, qc]
      rfl
     refine pu_ (i := 5) (N := (some 16)) (v := ?_) (a' := ?_) rfl rfl (by kernel_rfl) (fun _ _ _ h => h) (Or.inl ⟨by rfl, ?_⟩) ?_ ?_
     rotate_left
     ·intro w'
      go_simp
      try with_reducible rfl
     rotate_left
     ·simp only [Act.put, qa, qb, qc]
      rfl
     refine pu_ (i := 6) (N := (some 17)) (v := ?_) (a' := ?_) rfl rfl (by kernel_rfl) (fun _ _ _ h => h) (Or.inl ⟨by rfl, ?_⟩) ?_ ?_
     rotate_left
     ·intro w'
      go_simp
      try with_reducible rfl
     rotate_left
     ·simp only [Act.put, qa, qb, qc]
      rfl
     refine pu_ (i := 7) (N := (some 18)) (v := ?_) (a' := ?_) rfl rfl (by kernel_rfl) (fun _ _ _ h => h) (Or.inl ⟨by rfl, ?_⟩) ?_ ?_
     rotate_left
     ·intro w'
      go_simp
      try with_reducible rfl
     rotate_left
     ·simp only [Act.put, qa, qb, qc]
      rfl
     refine pu_ (i := 8) (N := (some 19)) (v := undef) (a' := ?_) rfl rfl (by kernel_rfl) (fun _ _ _ h => h) (Or.inr ⟨by rfl, rfl⟩) ?_ ?_
     rotate_left
     ·simp only [Act.put, qa, qb, qc]
      rfl
     refine pu_ (i := 9) (N := (some 20)) (v := undef) (a' := ?_) rfl rfl (by kernel_rfl) (fun _ _ _ h => h) (Or.inr ⟨by rfl, rfl⟩) ?_ ?_
     rotate_left
     ·simp only [Act.put, qa, qb, qc]
      rfl
     refine pu_ (i := 10) (N := (some 21)) (v := undef) (a' := ?_) rfl rfl (by kernel_rfl) (fun _ _ _ h => h) (Or.inr ⟨by rfl, rfl⟩) ?_ ?_
     rotate_left
     ·simp only [Act.put, qa, qb, qc]
      rfl
     refine pu_ (i := 11) (N := (some 22)) (v := undef) (a' := ?_) rfl rfl (by kernel_rfl) (fun _ _ _ h => h) (Or.inr ⟨by rfl, rfl⟩) ?_ ?_
     rotate_left
     ·simp only [Act.put, qa, qb, qc]
      rfl
     refine pu_ (i := 12) (N := (some 23)) (v := undef) (a' := ?_) rfl rfl (by kernel_rfl) (fun _ _ _ h => h) (Or.inr ⟨by rfl, rfl⟩) ?_ ?_
     rotate_left
     ·simp only [Act.put, qa, qb, qc]
      rfl
     refine pu_ (i := 13) (N := (some 24)) (v := undef) (a' := ?_) rfl rfl (by kernel_rfl) (fun _ _ _ h => h) (Or.inr ⟨by rfl, rfl⟩) ?_ ?_
     rotate_left
     ·simp only [Act.put, qa, qb, qc]
      rfl
     refine pu_ (i := 14) (N := (some 25)) (v := undef) (a' := ?_) rfl rfl (by kernel_rfl) (fun _ _ _ h => h) (Or.inr ⟨by rfl, rfl⟩) ?_ ?_
     rotate_left
     ·simp only [Act.put, qa, qb, qc]
      rfl
     refine pu_ (i := 15) (N := (some 26)) (v := undef) (a' := ?_) rfl rfl (by kernel_rfl) (fun _ _ _ h => h) (Or.inr ⟨by rfl, rfl⟩) ?_ ?_
     rotate_left
     ·simp only [Act.put, qa, qb, qc]
      rfl
     refine pu_ (i := 16) (N := (some 27)) (v := undef) (a' := ?_) rfl rfl (by kernel_rfl) (fun _ _ _ h => h) (Or.inr ⟨by rfl, rfl⟩) ?_ ?_
     rotate_left
     ·simp only [Act.put, qa, qb, qc]
      rfl
     refine pu_ (i := 17) (N := (some 28)) (v := ?_) (a' := ?_) rfl rfl (by kernel_rfl) (fun _ _ _ h => h) (Or.inl ⟨by rfl, ?_⟩) ?_ ?_
     rotate_left
     ·intro w'
      go_simp
      try with_reducible rfl
     rotate_left
     ·simp only [Act.put, qa, qb, qc]
      rfl
     refine pu_ (i := 18) (N := (some 29)) (v := ?_) (a' := ?_) rfl rfl (by kernel_rfl) (fun _ _ _ h => h) (Or.inl ⟨by rfl, ?_⟩) ?_ ?_
     rotate_left
     ·intro w'
      go_simp
      try with_reducible rfl
     rotate_left
     ·simp only [Act.put, qa, qb, qc]
      rfl
     refine done_ (by kernel_rfl) ?_
     go_wp2
     refine ⟨⟨j + 1, m + 1, hjn, by simp, ?_, rfl⟩, by simp [RowKit.intOf]; omega⟩
     exact (congrArg (Value.int .i64) HBO.out).symm
    | some b =>
     have hbo : bestV (leastO out op (j + 1)) = if out.getD j 0 < out.getD b 0 then (j : Int) else (b : Int) := by rw [bestV_succ, hl, hop]
     have hbj := hbl b hl
     have ob' : (w.drewN m).drew.cell? ⟨o, b, none⟩ = _ := HH.out.oj b (by omega)
     generalize out.getD j 0 = oj at oj' hbo
     generalize out.getD b 0 = ob at ob' hbo
     have hbn : (b : Int) < (n : Int) := by omega
     have hb0 : (0 : Int) ≤ (b : Int) := by omega
     have hneg : ¬ (b : Int) < 0 := by omega
     unfold bestV
     by_cases hlt : oj < ob
     ·have HBO := Lib.hid (hbo.trans (if_pos hlt))
      clear hbo hbl hop hl
      go_wp2_with fail
      refine st_ (n := 19) (S := fun w' => w'.cell? ⟨bp, 0, none⟩ = some (.slice (some ⟨p, 0, none⟩) n n) ∧ w'.cell? ⟨p, j, none⟩ = some (.bool true) ∧ w'.cell? ⟨bo, 0, none⟩ = some (.slice (some ⟨o, 0, none⟩) n n) ∧ w'.cell? ⟨o, j, none⟩ = some (.int .i64 oj) ∧ w'.cell? ⟨o, b, none⟩ = some (.int .i64 ob)) (ds := []) hmix rfl ⟨p0, pj, o0, oj', ob'⟩ (fun hHeld => ?_)
      refine tk_ (i := 0) (N := (some 11)) (v := ?_) (a' := ?_) rfl rfl (by kernel_rfl) (fun _ _ _ h => h) (Or.inl ⟨by rfl, ?_⟩) hHeld ?_ ?_
      rotate_left
      ·intro w' hS_
       obtain ⟨zz0, zz1, zz2, zz3, zz4⟩ := hS_
       go_simp
       try with_reducible rfl
      rotate_left
      ·simp only [Act.put, qa, qb, qc]
       rfl
      refine pu_ (i := 1) (N := (some 12)) (v := ?_) (a' := ?_) rfl rfl (by kernel_rfl) (fun _ _ _ h => h) (Or.inl ⟨by rfl, ?_⟩) ?_ ?_
      rotate_left
      ·intro w'
       go_simp
       try with_reducible rfl
      rotate_left
      ·simp only [Act.put, qa, qb, qc]
       rfl
      refine pu_ (i := 2) (N := (some 13)) (v := ?_) (a' := ?_) rfl rfl (by kernel_rfl) (fun _ _ _ h => h) (Or.inl ⟨by rfl, ?_⟩) ?_ ?_
      rotate_left
      ·intro w'
       go_simp
       try with_reducible rfl
      rotate_left
      ·simp only [Act.put, qa, qb, qc]
       rfl
      refine tk_ (i := 3) (N := (some 14)) (v := ?_) (a' := ?_) rfl rfl (by kernel_rfl) (fun _ _ _ h => h) (Or.inl ⟨by rfl, ?_⟩) hHeld ?_ ?_
      rotate_left
      ·intro w' hS_
       obtain ⟨zz0, zz1, zz2, zz3, zz4⟩ := hS_
       go_simp
       try with_reducible rfl
      rotate_left
      ·simp only [Act.put, qa, qb, qc]
       rfl
      refine pu_ (i := 4) (N := (some 15)) (v := ?_) (a' := ?_) rfl rfl (by kernel_rfl) (fun _ _ _ h => h) (Or.inl ⟨by rfl, ?_⟩) ?_ ?_
      rotate_left
      ·intro w'
       go_simp
       try with_reducible rfl
      rotate_left
      ·simp only [Act.put, qa, qb, qc]
       rfl
      refine pu_ (i := 5) (N := (some 16)) (v := ?_) (a' := ?_) rfl rfl (by kernel_rfl) (fun _ _ _ h => h) (Or.inl ⟨by rfl, ?_⟩) ?_ ?_
      rotate_left
      ·intro w'
       go_simp
       try with_reducible rfl
      rotate_left
      ·simp only [Act.put, qa, qb, qc]
       rfl
      refine pu_ (i := 6) (N := (some 17)) (v := ?_) (a' := ?_) rfl rfl (by kernel_rfl) (fun _ _ _ h => h) (Or.inl ⟨by rfl, ?_⟩) ?_ ?_
      rotate_left
      ·intro w'
       go_simp
       try with_reducible rfl
      rotate_left
      ·simp only [Act.put, qa, qb, qc]
       rfl
      refine pu_ (i := 7) (N := (some 18)) (v := ?_) (a' := ?_) rfl rfl (by kernel_rfl) (fun _ _ _ h => h) (Or.inl ⟨by rfl, ?_⟩) ?_ ?_
      rotate_left
      ·intro w'
       go_simp
       try with_reducible rfl
      rotate_left
      ·simp only [Act.put, qa, qb, qc]
       rfl
      refine tk_ (i := 8) (N := (some 19)) (v := ?_) (a' := ?_) rfl rfl (by kernel_rfl) (fun _ _ _ h => h) (Or.inl ⟨by rfl, ?_⟩) hHeld ?_ ?_
      rotate_left
      ·intro w' hS_
       obtain ⟨zz0, zz1, zz2, zz3, zz4⟩ := hS_
       go_simp
       try with_reducible rfl
      rotate_left
      ·simp only [Act.put, qa, qb, qc]
       rfl
      refine pu_ (i := 9) (N := (some 20)) (v := ?_) (a' := ?_) rfl rfl (by kernel_rfl) (fun _ _ _ h => h) (Or.inl ⟨by rfl, ?_⟩) ?_ ?_
      rotate_left
      ·intro w'
       go_simp
       try with_reducible rfl
      rotate_left
      ·simp only [Act.put, qa, qb, qc]
       rfl
      refine pu_ (i := 10) (N := (some 21)) (v := ?_) (a' := ?_) rfl rfl (by kernel_rfl) (fun _ _ _ h => h) (Or.inl ⟨by rfl, ?_⟩) ?_ ?_
      rotate_left
      ·intro w'
       go_simp
       try with_reducible rfl
      rotate_left
      ·simp only [Act.put, qa, qb, qc]
       rfl
      refine tk_ (i := 11) (N := (some 22)) (v := ?_) (a' := ?_) rfl rfl (by kernel_rfl) (fun _ _ _ h => h) (Or.inl ⟨by rfl, ?_⟩) hHeld ?_ ?_
      rotate_left
      ·intro w' hS_
       obtain ⟨zz0, zz1, zz2, zz3, zz4⟩ := hS_
       go_simp
       try with_reducible rfl
      rotate_left
      ·simp only [Act.put, qa, qb, qc]
       rfl
      refine tk_ (i := 12) (N := (some 23)) (v := ?_) (a' := ?_) rfl rfl (by kernel_rfl) (fun _ _ _ h => h) (Or.inl ⟨by rfl, ?_⟩) hHeld ?_ ?_
      rotate_left
      ·intro w' hS_
       obtain ⟨zz0, zz1, zz2, zz3, zz4⟩ := hS_
       go_simp
       try with_reducible rfl
      rotate_left
      ·simp only [Act.put, qa, qb, qc]
       rfl
      refine pu_ (i := 13) (N := (some 24)) (v := ?_) (a' := ?_) rfl rfl (by kernel_rfl) (fun _ _ _ h => h) (Or.inl ⟨by rfl, ?_⟩) ?_ ?_
      rotate_left
      ·intro w'
       go_simp
       try with_reducible rfl
      rotate_left
      ·simp only [Act.put, qa, qb, qc]
       rfl
      refine pu_ (i := 14) (N := (some 25)) (v := ?_) (a' := ?_) rfl rfl (by kernel_rfl) (fun _ _ _ h => h) (Or.inl ⟨by rfl, ?_⟩) ?_ ?_
      rotate_left
      ·intro w'
       go_simp
       try with_reducible rfl
      rotate_left
      ·simp only [Act.put, qa, qb, qc]
       rfl
      refine tk_ (i := 15) (N := (some 26)) (v := ?_) (a' := ?_) rfl rfl (by kernel_rfl) (fun _ _ _ h => h) (Or.inl ⟨by rfl, ?_⟩) hHeld ?_ ?_
      rotate_left
      ·intro w' hS_
       obtain ⟨zz0, zz1, zz2, zz3, zz4⟩ := hS_
       go_simp
       try with_reducible rfl
      rotate_left
      ·simp only [Act.put, qa, qb, qc]
       rfl
      refine pu_ (i := 16) (N := (some 27)) (v := ?_) (a' := ?_) rfl rfl (by kernel_rfl) (fun _ _ _ h => h) (Or.inl ⟨by rfl, ?_⟩) ?_ ?_
      rotate_left
      ·intro w'
       go_simp
       try with_reducible rfl
      rotate_left
      ·simp only [Act.put, qa, qb, qc]
       rfl
      refine pu_ (i := 17) (N := (some 28)) (v := ?_) (a' := ?_) rfl rfl (by kernel_rfl) (fun _ _ _ h => h) (Or.inl ⟨by rfl, ?_⟩) ?_ ?_
      rotate_left
      ·intro w'
       go_simp
       try with_reducible rfl
      rotate_left
      ·simp only [Act.put, qa, qb, qc]
       rfl
      refine pu_ (i := 18) (N := (some 29)) (v := ?_) (a' := ?_) rfl rfl (by kernel_rfl) (fun _ _ _ h => h) (Or.inl ⟨by rfl, ?_⟩) ?_ ?_
      rotate_left
      ·intro w'
       go_simp
       try with_reducible rfl
      rotate_left
      ·simp only [Act.put, qa, qb, qc]
       rfl
      refine done_ (by kernel_rfl) ?_
      go_wp2
      refine ⟨⟨j + 1, m + 1, hjn, by simp, ?_, rfl⟩, by simp [RowKit.intOf]; omega⟩
      exact (congrArg (Value.int .i64) HBO.out).symm
     ·have HBO := Lib.hid (hbo.trans (if_neg hlt))
      clear hbo hbl hop hl
      go_wp2_with fail
      refine st_ (n := 19) (S := fun w' => w'.cell? ⟨bp, 0, none⟩ = some (.slice (some ⟨p, 0, none⟩) n n) ∧ w'.cell? ⟨p, j, none⟩ = some (.bool true) ∧ w'.cell? ⟨bo, 0, none⟩ = some (.slice (some ⟨o, 0, none⟩) n n) ∧ w'.cell? ⟨o, j, none⟩ = some (.int .i64 oj) ∧ w'.cell? ⟨o, b, none⟩ = some (.int .i64 ob)) (ds := []) hmix rfl ⟨p0, pj, o0, oj', ob'⟩ (fun hHeld => ?_)
      refine tk_ (i := 0) (N := (some 11)) (v := ?_) (a' := ?_) rfl rfl (by kernel_rfl) (fun _ _ _ h => h) (Or.inl ⟨by rfl, ?_⟩) hHeld ?_ ?_
      rotate_left
      ·intro w' hS_
       obtain ⟨zz0, zz1, zz2, zz3, zz4⟩ := hS_
       go_simp
       try with_reducible rfl
      rotate_left
      ·simp only [Act.put, qa, qb, qc]
       rfl
      refine pu_ (i := 1) (N := (some 12)) (v := ?_) (a' := ?_) rfl rfl (by kernel_rfl) (fun _ _ _ h => h) (Or.inl ⟨by rfl, ?_⟩) ?_ ?_
      rotate_left
      ·intro w'
       go_simp
       try with_reducible rfl
      rotate_left
      ·simp only [Act.put, qa, qb, qc]
       rfl
      refine pu_ (i := 2) (N := (some 13)) (v := ?_) (a' := ?_) rfl rfl (by kernel_rfl) (fun _ _ _ h => h) (Or.inl ⟨by rfl, ?_⟩) ?_ ?_
      rotate_left
      ·intro w'
       go_simp
       try with_reducible rfl
      rotate_left
      ·simp only [Act.put, qa, qb, qc]
       rfl
      refine tk_ (i := 3) (N := (some 14)) (v := ?_) (a' := ?_) rfl rfl (by kernel_rfl) (fun _ _ _ h => h) (Or.inl ⟨by rfl, ?_⟩) hHeld ?_ ?_
      rotate_left
      ·intro w' hS_
       obtain ⟨zz0, zz1, zz2, zz3, zz4⟩ := hS_
       go_simp
       try with_reducible rfl
      rotate_left
      ·simp only [Act.put, qa, qb, qc]
       rfl
      refine pu_ (i := 4) (N := (some 15)) (v := ?_) (a' := ?_) rfl rfl (by kernel_rfl) (fun _ _ _ h => h) (Or.inl ⟨by rfl, ?_⟩) ?_ ?_
      rotate_left
      ·intro w'
       go_simp
       try with_reducible rfl
      rotate_left
      ·simp only [Act.put, qa, qb, qc]
       rfl
      refine pu_ (i := 5) (N := (some 16)) (v := ?_) (a' := ?_) rfl rfl (by kernel_rfl) (fun _ _ _ h => h) (Or.inl ⟨by rfl, ?_⟩) ?_ ?_
      rotate_left
      ·intro w'
       go_simp
       try with_reducible rfl
      rotate_left
      ·simp only [Act.put, qa, qb, qc]
       rfl
      refine pu_ (i := 6) (N := (some 17)) (v := ?_) (a' := ?_) rfl rfl (by kernel_rfl) (fun _ _ _ h => h) (Or.inl ⟨by rfl, ?_⟩) ?_ ?_
      rotate_left
      ·intro w'
       go_simp
       try with_reducible rfl
      rotate_left
      ·simp only [Act.put, qa, qb, qc]
       rfl
      refine pu_ (i := 7) (N := (some 18)) (v := ?_) (a' := ?_) rfl rfl (by kernel_rfl) (fun _ _ _ h => h) (Or.inl ⟨by rfl, ?_⟩) ?_ ?_
      rotate_left
      ·intro w'
       go_simp
       try with_reducible rfl
      rotate_left
      ·simp only [Act.put, qa, qb, qc]
       rfl
      refine tk_ (i := 8) (N := (some 19)) (v := ?_) (a' := ?_) rfl rfl (by kernel_rfl) (fun _ _ _ h => h) (Or.inl ⟨by rfl, ?_⟩) hHeld ?_ ?_
      rotate_left
      ·intro w' hS_
       obtain ⟨zz0, zz1, zz2, zz3, zz4⟩ := hS_
       go_simp
       try with_reducible rfl
      rotate_left
      ·simp only [Act.put, qa, qb, qc]
       rfl
      refine pu_ (i := 9) (N := (some 20)) (v := ?_) (a' := ?_) rfl rfl (by kernel_rfl) (fun _ _ _ h => h) (Or.inl ⟨by rfl, ?_⟩) ?_ ?_
      rotate_left
      ·intro w'
       go_simp
       try with_reducible rfl
      rotate_left
      ·simp only [Act.put, qa, qb, qc]
       rfl
      refine pu_ (i := 10) (N := (some 21)) (v := ?_) (a' := ?_) rfl rfl (by kernel_rfl) (fun _ _ _ h => h) (Or.inl ⟨by rfl, ?_⟩) ?_ ?_
      rotate_left
      ·intro w'
       go_simp
       try with_reducible rfl
      rotate_left
      ·simp only [Act.put, qa, qb, qc]
       rfl
      refine tk_ (i := 11) (N := (some 22)) (v := ?_) (a' := ?_) rfl rfl (by kernel_rfl) (fun _ _ _ h => h) (Or.inl ⟨by rfl, ?_⟩) hHeld ?_ ?_
      rotate_left
      ·intro w' hS_
       obtain ⟨zz0, zz1, zz2, zz3, zz4⟩ := hS_
       go_simp
       try with_reducible rfl
      rotate_left
      ·simp only [Act.put, qa, qb, qc]
       rfl
      refine tk_ (i := 12) (N := (some 23)) (v := ?_) (a' := ?_) rfl rfl (by kernel_rfl) (fun _ _ _ h => h) (Or.inl ⟨by rfl, ?_⟩) hHeld ?_ ?_
      rotate_left
      ·intro w' hS_
       obtain ⟨zz0, zz1, zz2, zz3, zz4⟩ := hS_
       go_simp
       try with_reducible rfl
      rotate_left
      ·simp only [Act.put, qa, qb, qc]
       rfl
      refine pu_ (i := 13) (N := (some 24)) (v := ?_) (a' := ?_) rfl rfl (by kernel_rfl) (fun _ _ _ h => h) (Or.inl ⟨by rfl, ?_⟩) ?_ ?_
      rotate_left
      ·intro w'
       go_simp
       try with_reducible rfl
      rotate_left
      ·simp only [Act.put, qa, qb, qc]
       rfl
      refine pu_ (i := 14) (N := (some 25)) (v := ?_) (a' := ?_) rfl rfl (by kernel_rfl) (fun _ _ _ h => h) (Or.inl ⟨by rfl, ?_⟩) ?_ ?_
      rotate_left
      ·intro w'
       go_simp
       try with_reducible rfl
      rotate_left
      ·simp only [Act.put, qa, qb, qc]
       rfl
      refine tk_ (i := 15) (N := (some 26)) (v := ?_) (a' := ?_) rfl rfl (by kernel_rfl) (fun _ _ _ h => h) (Or.inl ⟨by rfl, ?_⟩) hHeld ?_ ?_
      rotate_left
      ·intro w' hS_
       obtain ⟨zz0, zz1, zz2, zz3, zz4⟩ := hS_
       go_simp
       try with_reducible rfl
      rotate_left
      ·simp only [Act.put, qa, qb, qc]
       rfl
      refine pu_ (i := 16) (N := (some 27)) (v := ?_) (a' := ?_) rfl rfl (by kernel_rfl) (fun _ _ _ h => h) (Or.inl ⟨by rfl, ?_⟩) ?_ ?_
      rotate_left
      ·intro w'
       go_simp
       try with_reducible rfl
      rotate_left
      ·simp only [Act.put, qa, qb, qc]
       rfl
      refine pu_ (i := 17) (N := (some 28)) (v := ?_) (a' := ?_) rfl rfl (by kernel_rfl) (fun _ _ _ h => h) (Or.inl ⟨by rfl, ?_⟩) ?_ ?_
      rotate_left
      ·intro w'
       go_simp
       try with_reducible rfl
      rotate_left
      ·simp only [Act.put, qa, qb, qc]
       rfl
      refine pu_ (i := 18) (N := (some 29)) (v := ?_) (a' := ?_) rfl rfl (by kernel_rfl) (fun _ _ _ h => h) (Or.inl ⟨by rfl, ?_⟩) ?_ ?_
      rotate_left
      ·intro w'
       go_simp
       try with_reducible rfl
      rotate_left
      ·simp only [Act.put, qa, qb, qc]
       rfl
      refine done_ (by kernel_rfl) ?_
      go_wp2
      refine ⟨⟨j + 1, m + 1, hjn, by simp, ?_, rfl⟩, by simp [RowKit.intOf]; omega⟩
      exact (congrArg (Value.int .i64) HBO.out).symm
  ·obtain rfl : j = n := by omega
   have hji : ¬ (j : Int) < (j : Int) := by omega
   go_wp2
   go_ret
   exact ⟨rfl, m, rfl⟩
end Go.Proofs.YtehnkebcbomidaaGreatDoor.Rt
