/- Part of a proof over the given program: Un, Pc. -/
import Derived.Test.YtehnkebcbomidaaGreatDoorCn24
set_option linter.unusedVariables false
set_option linter.unusedSimpArgs false
namespace Go.Proofs.YtehnkebcbomidaaGreatDoor.Rt
open Go Go.RowKit Go.Proofs Go.Proofs.YtehnkebcbomidaaGreatDoorW.PrintWords Go.Proofs.YtehnkebcbomidaaGreatDoorW.PrintLast
theorem flatM_app (L M : List Mg) : flatM (L ++ M) = flatM L ++ flatM M := by simp [flatM]
theorem qlen_call (w : World) (q b : Nat) (v : Value) (Q : List Mg) (h : QIn w q b v Q) :
  Calls Tryz.prog 66 #[.pointer (some ⟨q, 0, none⟩)] w fun e w' => e = .returned (.int .i64 Q.length) ∧ Below w.heap.size w w' := by
 obtain ⟨L, h1, h2⟩ := h
 have := len_call w q b v L h1
 rwa [h2.len] at this
set_option maxHeartbeats 8000000 in
set_option maxRecDepth 100000 in
theorem unconstrain_yes (w : World) (H : Sh) (S : St) {N : Int} (hR : RAt H w S) (ok : S.Ok N) (n : Nat) (hn : n < 8) (he : S.byE n = 0) :
  Calls Tryz.prog 105 #[.pointer (some ⟨H.r, 0, none⟩), .int .i64 n] w (MPost H w (.int .i64 (S.unconstrain n).1) (S.unconstrain n).2) := by
 have hj : S.unconstrain n = match firstNo [((S.get n).con, 205), ((S.get n).kind == 0, 206), (decide (((S.get n).P.length : Int) + ((S.get n).Q.length : Int) ≤ 64), 2)] with | some c => (c, S) | none => (0, S.put n { S.get n with P := (S.get n).P ++ (S.get n).Q, Q := [], con := false }) := by
  unfold St.unconstrain
  rw [if_neg (fun k => k he), Int.toNat_natCast]
  by_cases a : (S.get n).con = true <;> by_cases b : (S.get n).kind = 0 <;> by_cases c : (S.get n).P.length + (S.get n).Q.length ≤ 64
  all_goals (first | (have c2 : ((S.get n).P.length : Int) + ((S.get n).Q.length : Int) ≤ 64 := by omega) | (have c2 : ¬ ((S.get n).P.length : Int) + ((S.get n).Q.length : Int) ≤ 64 := by omega))
  all_goals simp [firstNo, a, b, c, c2]
  all_goals omega
 have ho : ∀ c, firstNo [((S.get n).con, 205), ((S.get n).kind == 0, 206), (decide (((S.get n).P.length : Int) + ((S.get n).Q.length : Int) ≤ 64), 2)] = some c → 0 ≤ c ∧ c < 220 := by
  intro c
  unfold firstNo
  split
  ·unfold firstNo
   split
   ·unfold firstNo
    split
    ·intro z; cases z
    ·intro z; cases z; omega
   ·intro z; cases z; omega
  ·intro z; cases z; omega
 have HR := Lib.hid hR
 have HJ := Lib.hid hj
 have HO := Lib.hid ho
 have H8 := Lib.hid ok.l8
 have OK := Lib.hid ok
 have hby := by_yes w H S hR n he
 have HBY := Lib.hid hby
 have hR1 := fun w1 hb1 => hR.below (W' := w1) hb1
 have HR1 := Lib.hid hR1
 have h0 : ¬ (n : Int) < 0 := by omega
 have h8' : ¬ (8 : Int) ≤ (n : Int) := by omega
 have hz0 : (0 : Int) ≤ (n : Int) := by omega
 have hz8 : (n : Int) < 8 := by omega
 clear hR hR1 hj ho hby he ok
 have hu115 := Tryz.underlying115
 have hu113 := Tryz.underlying113
 have hu112 := Tryz.underlying112
 have hu121 := Tryz.underlying121
 have hu193 := Tryz.underlying193
 have hu117 := Tryz.underlying117
 have hu29 := Tryz.underlying29
 go_enter Tryz.func105, Tryz.ntmps105
 have hmix : Tryz.prog.follows .mixedOrders = true := by kernel_rfl
 go_wp2_with (go_at_call 63; (with_reducible refine HBY.out.mono ?_); rintro e w1 ⟨rfl, hb1⟩)
 have hRa := HR1.out w1 hb1
 have c1 := hRa.c_con hn
 have c2 := hRa.c_kind hn
 have c3 := hRa.c_pl hn
 have c4 := hRa.c_q hn
 obtain ⟨PA, pc, hpl⟩ := own_slice (hRa.pla n hn)
 rw [hpl] at c3
 have hqR := hRa.que n hn
 have HQR := Lib.hid hqR
 have HPL := Lib.hid hpl
 have HB1 := Lib.hid hb1
 have hwr : IntKind.i64.wrap (((S.get n).P.length : Int) + ((S.get n).Q.length : Int)) = ((S.get n).P.length : Int) + ((S.get n).Q.length : Int) := by
  have h1 := (OK.out.m n).ql
  have h2 := (OK.out.m n).pl
  rw [IntKind.wrap_i64]
  omega
 clear hRa hb1 hqR hpl
 go_wp2_with fail
 refine st_ (n := 28) (S := fun w' => w'.cell? ⟨H.r, 2 + n * 10 + 1, none⟩ = some (.bool (S.get n).con) ∧ w'.cell? ⟨H.r, 2 + n * 10 + 4, none⟩ = some (.int .i64 (S.get n).kind) ∧ w'.cell? ⟨H.r, 2 + n * 10 + 8, none⟩ = some (.slice PA (S.get n).P.length pc) ∧ w'.cell? ⟨H.r, 2 + n * 10 + 7, none⟩ = some (.pointer (some ⟨H.q n, 0, none⟩))) (ds := [25, 26]) hmix rfl ⟨c1, c2, c3, c4⟩ (fun hHeld => ?_)
 refine pu_ (i := 0) (N := (some 20)) (v := ?_) (a' := ?_) rfl rfl (by kernel_rfl) (fun _ _ _ h => h) (Or.inl ⟨by rfl, ?_⟩) ?_ ?_
 rotate_left
 ·intro w'
  go_simp
  try with_reducible rfl
 rotate_left
 ·simp only [Act.put, qa, qb, qc]
  rfl
 refine pu_ (i := 1) (N := (some 21)) (v := ?_) (a' := ?_) rfl rfl (by kernel_rfl) (fun _ _ _ h => h) (Or.inl ⟨by rfl, ?_⟩) ?_ ?_
 rotate_left
 ·intro w'
  go_simp
  try with_reducible rfl
 rotate_left
 ·simp only [Act.put, qa, qb, qc]
  rfl
 refine pu_ (i := 2) (N := (some 22)) (v := ?_) (a' := ?_) rfl rfl (by kernel_rfl) (fun _ _ _ h => h) (Or.inl ⟨by rfl, ?_⟩) ?_ ?_
 rotate_left
 ·intro w'
  go_simp
  try with_reducible rfl
 rotate_left
 ·simp only [Act.put, qa, qb, qc]
  rfl
 refine pu_ (i := 3) (N := (some 23)) (v := ?_) (a' := ?_) rfl rfl (by kernel_rfl) (fun _ _ _ h => h) (Or.inl ⟨by rfl, ?_⟩) ?_ ?_
 rotate_left
 ·intro w'
  go_simp
  try with_reducible rfl
 rotate_left
 ·simp only [Act.put, qa, qb, qc]
  rfl
 refine tk_ (i := 4) (N := (some 24)) (v := ?_) (a' := ?_) rfl rfl (by kernel_rfl) (fun _ _ _ h => h) (Or.inl ⟨by rfl, ?_⟩) hHeld ?_ ?_
 rotate_left
 ·intro w' hS_
  obtain ⟨zz0, zz1, zz2, zz3⟩ := hS_
  go_simp
  try with_reducible rfl
 rotate_left
 ·simp only [Act.put, qa, qb, qc]
  rfl
 refine pu_ (i := 5) (N := (some 25)) (v := ?_) (a' := ?_) rfl rfl (by kernel_rfl) (fun _ _ _ h => h) (Or.inl ⟨by rfl, ?_⟩) ?_ ?_
 rotate_left
 ·intro w'
  go_simp
  try with_reducible rfl
 rotate_left
 ·simp only [Act.put, qa, qb, qc]
  rfl
 refine pu_ (i := 6) (N := (some 26)) (v := ?_) (a' := ?_) rfl rfl (by kernel_rfl) (fun _ _ _ h => h) (Or.inl ⟨by rfl, ?_⟩) ?_ ?_
 rotate_left
 ·intro w'
  go_simp
  try with_reducible rfl
 rotate_left
 ·simp only [Act.put, qa, qb, qc]
  rfl
 refine pu_ (i := 7) (N := (some 27)) (v := ?_) (a' := ?_) rfl rfl (by kernel_rfl) (fun _ _ _ h => h) (Or.inl ⟨by rfl, ?_⟩) ?_ ?_
 rotate_left
 ·intro w'
  go_simp
  try with_reducible rfl
 rotate_left
 ·simp only [Act.put, qa, qb, qc]
  rfl
 refine pu_ (i := 8) (N := (some 28)) (v := ?_) (a' := ?_) rfl rfl (by kernel_rfl) (fun _ _ _ h => h) (Or.inl ⟨by rfl, ?_⟩) ?_ ?_
 rotate_left
 ·intro w'
  go_simp
  try with_reducible rfl
 rotate_left
 ·simp only [Act.put, qa, qb, qc]
  rfl
 refine tk_ (i := 9) (N := (some 29)) (v := ?_) (a' := ?_) rfl rfl (by kernel_rfl) (fun _ _ _ h => h) (Or.inl ⟨by rfl, ?_⟩) hHeld ?_ ?_
 rotate_left
 ·intro w' hS_
  obtain ⟨zz0, zz1, zz2, zz3⟩ := hS_
  go_simp
  try with_reducible rfl
 rotate_left
 ·simp only [Act.put, qa, qb, qc]
  rfl
 refine pu_ (i := 10) (N := (some 30)) (v := (.bool ((S.get n).kind == 0))) (a' := ?_) rfl rfl (by kernel_rfl) (fun _ _ _ h => h) (Or.inl ⟨by rfl, ?_⟩) ?_ ?_
 ·intro w'
  go_simp
  try with_reducible rfl
 rotate_left
 ·simp only [Act.put, qa, qb, qc]
  rfl
 refine pu_ (i := 11) (N := (some 31)) (v := ?_) (a' := ?_) rfl rfl (by kernel_rfl) (fun _ _ _ h => h) (Or.inl ⟨by rfl, ?_⟩) ?_ ?_
 rotate_left
 ·intro w'
  go_simp
  try with_reducible rfl
 rotate_left
 ·simp only [Act.put, qa, qb, qc]
  rfl
 refine pu_ (i := 12) (N := (some 32)) (v := ?_) (a' := ?_) rfl rfl (by kernel_rfl) (fun _ _ _ h => h) (Or.inl ⟨by rfl, ?_⟩) ?_ ?_
 rotate_left
 ·intro w'
  go_simp
  try with_reducible rfl
 rotate_left
 ·simp only [Act.put, qa, qb, qc]
  rfl
 refine pu_ (i := 13) (N := (some 33)) (v := ?_) (a' := ?_) rfl rfl (by kernel_rfl) (fun _ _ _ h => h) (Or.inl ⟨by rfl, ?_⟩) ?_ ?_
 rotate_left
 ·intro w'
  go_simp
  try with_reducible rfl
 rotate_left
 ·simp only [Act.put, qa, qb, qc]
  rfl
 refine pu_ (i := 14) (N := (some 34)) (v := ?_) (a' := ?_) rfl rfl (by kernel_rfl) (fun _ _ _ h => h) (Or.inl ⟨by rfl, ?_⟩) ?_ ?_
 rotate_left
 ·intro w'
  go_simp
  try with_reducible rfl
 rotate_left
 ·simp only [Act.put, qa, qb, qc]
  rfl
 refine tk_ (i := 15) (N := (some 35)) (v := ?_) (a' := ?_) rfl rfl (by kernel_rfl) (fun _ _ _ h => h) (Or.inl ⟨by rfl, ?_⟩) hHeld ?_ ?_
 rotate_left
 ·intro w' hS_
  obtain ⟨zz0, zz1, zz2, zz3⟩ := hS_
  go_simp
  try with_reducible rfl
 rotate_left
 ·simp only [Act.put, qa, qb, qc]
  rfl
 refine pu_ (i := 16) (N := (some 36)) (v := ?_) (a' := ?_) rfl rfl (by kernel_rfl) (fun _ _ _ h => h) (Or.inl ⟨by rfl, ?_⟩) ?_ ?_
 rotate_left
 ·intro w'
  go_simp
  try with_reducible rfl
 rotate_left
 ·simp only [Act.put, qa, qb, qc]
  rfl
 refine pu_ (i := 17) (N := (some 37)) (v := ?_) (a' := ?_) rfl rfl (by kernel_rfl) (fun _ _ _ h => h) (Or.inl ⟨by rfl, ?_⟩) ?_ ?_
 rotate_left
 ·intro w'
  go_simp
  try with_reducible rfl
 rotate_left
 ·simp only [Act.put, qa, qb, qc]
  rfl
 refine pu_ (i := 18) (N := (some 38)) (v := ?_) (a' := ?_) rfl rfl (by kernel_rfl) (fun _ _ _ h => h) (Or.inl ⟨by rfl, ?_⟩) ?_ ?_
 rotate_left
 ·intro w'
  go_simp
  try with_reducible rfl
 rotate_left
 ·simp only [Act.put, qa, qb, qc]
  rfl
 refine pu_ (i := 19) (N := (some 39)) (v := ?_) (a' := ?_) rfl rfl (by kernel_rfl) (fun _ _ _ h => h) (Or.inl ⟨by rfl, ?_⟩) ?_ ?_
 rotate_left
 ·intro w'
  go_simp
  try with_reducible rfl
 rotate_left
 ·simp only [Act.put, qa, qb, qc]
  rfl
 refine tk_ (i := 20) (N := (some 40)) (v := ?_) (a' := ?_) rfl rfl (by kernel_rfl) (fun _ _ _ h => h) (Or.inl ⟨by rfl, ?_⟩) hHeld ?_ ?_
 rotate_left
 ·intro w' hS_
  obtain ⟨zz0, zz1, zz2, zz3⟩ := hS_
  go_simp
  try with_reducible rfl
 rotate_left
 ·simp only [Act.put, qa, qb, qc]
  rfl
 refine on_ (i := 21) (N := (some 41)) rfl rfl (by kernel_rfl) (by decide) (fun K hK => ?_)
 refine goes_ Tryz.func66 (by kernel_rfl) rfl #[.pointer (some ⟨H.q n, 0, none⟩)] (by rfl) rfl rfl (by simp only [List.map_toArray, List.map_cons, List.map_nil]; rfl) ?_
 refine (qlen_call w1.drew (H.q n) (H.b n) (H.v n) (S.get n).Q (HQR.out.frame (fun _ _ _ => rfl))).mono ?_
 rintro x w4 ⟨rfl, hb4⟩
 refine ⟨_, rfl, hK.out _ _ ⟨pw_cell_below hb4 c1, pw_cell_below hb4 c2, pw_cell_below hb4 c3, pw_cell_below hb4 c4⟩ (fun hHeld => ?_)⟩
 clear hK K
 refine norm_ (a' := ?_) ?_ ?_
 rotate_left
 ·show Act.put _ (some 41) _ = _
  simp only [Act.put, qa, qb, qc]
  rfl
 refine pu_ (i := 22) (N := (some 42)) (v := ?_) (a' := ?_) rfl rfl (by kernel_rfl) (fun _ _ _ h => h) (Or.inl ⟨by rfl, ?_⟩) ?_ ?_
 rotate_left
 ·intro w'
  go_simp
  try with_reducible rfl
 rotate_left
 ·simp only [Act.put, qa, qb, qc]
  rfl
 refine pu_ (i := 23) (N := (some 43)) (v := (.bool (decide (((S.get n).P.length : Int) + ((S.get n).Q.length : Int) ≤ 64)))) (a' := ?_) rfl rfl (by kernel_rfl) (fun _ _ _ h => h) (Or.inl ⟨by rfl, ?_⟩) ?_ ?_
 ·intro w'
  go_simp
  try with_reducible rfl
 rotate_left
 ·simp only [Act.put, qa, qb, qc]
  rfl
 refine pu_ (i := 24) (N := (some 44)) (v := ?_) (a' := ?_) rfl rfl (by kernel_rfl) (fun _ _ _ h => h) (Or.inl ⟨by rfl, ?_⟩) ?_ ?_
 rotate_left
 ·intro w'
  go_simp
  try with_reducible rfl
 rotate_left
 ·simp only [Act.put, qa, qb, qc]
  rfl
 refine la_ (i := 25) (N := (some 45)) rfl rfl (by kernel_rfl) (by decide) (fun K hK => ?_)
 refine value_ (w1 := ?_) (v := ?_) (by rfl) rfl ?_ ?_
 rotate_left 2
 ·go_simp
  constructor
  ·rfl
  ·rfl
 refine hK.out _ _ ?_
 clear hK K
 refine norm_ (a' := ?_) ?_ ?_
 rotate_left
 ·show Act.put _ (some 45) _ = _
  simp only [Act.put, qa, qb, qc]
  rfl
 refine la_ (i := 26) (N := (some 46)) rfl rfl (by kernel_rfl) (by decide) (fun K hK => ?_)
 refine goes_ Tryz.func67 (by kernel_rfl) rfl #[.int .i64 (n : Int), .slice (some ⟨w4.heap.size, 0, none⟩) 3 3] (by rfl) rfl rfl (by simp only [List.map_toArray, List.map_cons, List.map_nil]; rfl) ?_
 refine Calls.mono (all3 _ _ w4.heap.size (S.get n).con ((S.get n).kind == 0) (decide (((S.get n).P.length : Int) + ((S.get n).Q.length : Int) ≤ 64)) 205 206 2 ?h5) ?_
 case h5 => exact heap_alloc_new w4 _
 rintro x w5 ⟨hr5, hb5⟩
 obtain ⟨v5, rfl, hr5⟩ := hr5.ret
 refine ⟨_, rfl, hK.out _ _ ?_⟩
 clear hK K
 refine norm_ (a' := ?_) ?_ ?_
 rotate_left
 ·show Act.put _ (some 46) _ = _
  simp only [Act.put, qa, qb, qc]
  rfl
 refine pu_ (i := 27) (N := (some 7)) (v := ?_) (a' := ?_) rfl rfl (by kernel_rfl) (fun _ _ _ h => h) (Or.inl ⟨by rfl, ?_⟩) ?_ ?_
 rotate_left
 ·intro w'
  go_simp
  try with_reducible rfl
 rotate_left
 ·simp only [Act.put, qa, qb, qc]
  rfl
 refine done_ (by kernel_rfl) ?_
 have hB : Below w.heap.size w w5 := ((HB1.out.drew.trans (hb4.mono HB1.out.size)).alloc (by have := HB1.out.size; have := hb4.size; simp at this; omega) _).trans (hb5.mono (by have := HB1.out.size; have := hb4.size; simp at this ⊢; omega))
 have hr : AllRes w n (firstNo [((S.get n).con, 205), ((S.get n).kind == 0, 206), (decide (((S.get n).P.length : Int) + ((S.get n).Q.length : Int) ≤ 64), 2)]) (.returned v5) w5 := AllRes.mono (w := w) hr5 (by have := HB1.out.size; have := hb4.size; simp at this ⊢; omega)
 have ho := HO.out
 have hj := HJ.out
 have hR5 := HR.out.below hB
 generalize firstNo [((S.get n).con, 205), ((S.get n).kind == 0, 206), (decide (((S.get n).P.length : Int) + ((S.get n).Q.length : Int) ≤ 64), 2)] = o at hr ho hj
 clear hr5 hb5
 cases o with
 | none =>
  have hv : v5 = .nilIface := by cases hr; rfl
  subst hv
  have hQ5 := fun w' (hb : Below w5.heap.size w5 w') => (hR5.below hb).que n hn
  have hp5 := hR5.pla n hn
  have d1 := hR5.c_pl hn
  have d2 := hR5.c_q hn
  have f1 := hR5.free (2 + n * 10 + 8)
  have f2 := hR5.free (2 + n * 10 + 7)
  have f3 := hR5.free (2 + n * 10 + 1)
  clear hwr
  have HQ5 := Lib.hid hQ5
  have HP5 := Lib.hid hp5
  clear hQ5 hp5
  have HJ2 := Lib.hid hj
  have HR5 := Lib.hid hR5
  have HB := Lib.hid hB
  clear hr ho hj hR5 hB c1 c2 c3 c4
  obtain ⟨PA, pc, hpl⟩ := own_slice HP5.out
  obtain ⟨i0, hi, hz0_, hz1_, hz2_⟩ := info_parts inf41
  have hpl0 := own_le (show World.ownsRow w5 0 41 6 (.slice PA (S.get n).P.length pc) (S.get n).P.length (flatM (S.get n).P) by rw [← hpl]; exact HP5.out)
  have HPL2 := Lib.hid hpl
  have HI := Lib.hid hi
  have HZ0 := Lib.hid hz0_
  have HZ1 := Lib.hid hz1_
  have HZ2 := Lib.hid hz2_
  have hql := (OK.out.m n).ql
  have hpll := (OK.out.m n).pl
  rw [hpl] at d1
  clear hpl hi hz0_ hz1_ hz2_
  go_wp2_with fail
  refine st_ (n := 14) (S := fun w' => w'.cell? ⟨H.r, 2 + n * 10 + 8, none⟩ = some (.slice PA (S.get n).P.length pc) ∧ w'.cell? ⟨H.r, 2 + n * 10 + 7, none⟩ = some (.pointer (some ⟨H.q n, 0, none⟩))) (ds := [10, 13]) hmix rfl ⟨d1, d2⟩ (fun hHeld => ?_)
  refine pu_ (i := 0) (N := (some 51)) (v := ?_) (a' := ?_) rfl rfl (by kernel_rfl) (fun _ _ _ h => h) (Or.inl ⟨by rfl, ?_⟩) ?_ ?_
  rotate_left
  ·intro w'
   go_simp
   try with_reducible rfl
  rotate_left
  ·simp only [Act.put, qa, qb, qc]
   rfl
  refine pu_ (i := 1) (N := (some 52)) (v := ?_) (a' := ?_) rfl rfl (by kernel_rfl) (fun _ _ _ h => h) (Or.inl ⟨by rfl, ?_⟩) ?_ ?_
  rotate_left
  ·intro w'
   go_simp
   try with_reducible rfl
  rotate_left
  ·simp only [Act.put, qa, qb, qc]
   rfl
  refine pu_ (i := 2) (N := (some 53)) (v := ?_) (a' := ?_) rfl rfl (by kernel_rfl) (fun _ _ _ h => h) (Or.inl ⟨by rfl, ?_⟩) ?_ ?_
  rotate_left
  ·intro w'
   go_simp
   try with_reducible rfl
  rotate_left
  ·simp only [Act.put, qa, qb, qc]
   rfl
  refine pu_ (i := 3) (N := (some 54)) (v := ?_) (a' := ?_) rfl rfl (by kernel_rfl) (fun _ _ _ h => h) (Or.inl ⟨by rfl, ?_⟩) ?_ ?_
  rotate_left
  ·intro w'
   go_simp
   try with_reducible rfl
  rotate_left
  ·simp only [Act.put, qa, qb, qc]
   rfl
  refine tk_ (i := 4) (N := (some 55)) (v := ?_) (a' := ?_) rfl rfl (by kernel_rfl) (fun _ _ _ h => h) (Or.inl ⟨by rfl, ?_⟩) hHeld ?_ ?_
  rotate_left
  ·intro w' hS_
   obtain ⟨zz0, zz1⟩ := hS_
   go_simp
   try with_reducible rfl
  rotate_left
  ·simp only [Act.put, qa, qb, qc]
   rfl
  refine pu_ (i := 5) (N := (some 56)) (v := ?_) (a' := ?_) rfl rfl (by kernel_rfl) (fun _ _ _ h => h) (Or.inl ⟨by rfl, ?_⟩) ?_ ?_
  rotate_left
  ·intro w'
   go_simp
   try with_reducible rfl
  rotate_left
  ·simp only [Act.put, qa, qb, qc]
   rfl
  refine pu_ (i := 6) (N := (some 57)) (v := ?_) (a' := ?_) rfl rfl (by kernel_rfl) (fun _ _ _ h => h) (Or.inl ⟨by rfl, ?_⟩) ?_ ?_
  rotate_left
  ·intro w'
   go_simp
   try with_reducible rfl
  rotate_left
  ·simp only [Act.put, qa, qb, qc]
   rfl
  refine pu_ (i := 7) (N := (some 58)) (v := ?_) (a' := ?_) rfl rfl (by kernel_rfl) (fun _ _ _ h => h) (Or.inl ⟨by rfl, ?_⟩) ?_ ?_
  rotate_left
  ·intro w'
   go_simp
   try with_reducible rfl
  rotate_left
  ·simp only [Act.put, qa, qb, qc]
   rfl
  refine tk_ (i := 8) (N := (some 59)) (v := ?_) (a' := ?_) rfl rfl (by kernel_rfl) (fun _ _ _ h => h) (Or.inl ⟨by rfl, ?_⟩) hHeld ?_ ?_
  rotate_left
  ·intro w' hS_
   obtain ⟨zz0, zz1⟩ := hS_
   go_simp
   try with_reducible rfl
  rotate_left
  ·simp only [Act.put, qa, qb, qc]
   rfl
  refine on_ (i := 9) (N := (some 60)) rfl rfl (by kernel_rfl) (by decide) (fun K hK => ?_)
  refine goes_ Tryz.func72 (by kernel_rfl) rfl #[.pointer (some ⟨H.q n, 0, none⟩)] (by rfl) rfl rfl (by simp only [List.map_toArray, List.map_cons, List.map_nil]; rfl) ?_
  refine (list_call _ (H.q n) (H.b n) (H.v n) (S.get n).Q (HQ5.out _ ((Below.refl _ w5).drew))).mono ?_
  rintro x w6 ⟨LA, lc, rfl, hl6, hb6⟩
  refine ⟨_, rfl, hK.out _ _ ⟨pw_cell_below hb6 d1, pw_cell_below hb6 d2⟩ (fun hHeld => ?_)⟩
  clear hK K
  refine norm_ (a' := ?_) ?_ ?_
  rotate_left
  ·show Act.put _ (some 60) _ = _
   simp only [Act.put, qa, qb, qc]
   rfl
  refine la_ (i := 10) (N := (some 61)) rfl rfl (by kernel_rfl) (by decide) (fun K hK => ?_)
  refine app_ (by rfl) rfl (.tmp 55) (.tmp 60) 29 rfl 0 w5.heap.size 41 i0 _ 6 48 Tryz.underlying29 HI.out HZ0.out HZ1.out HZ2.out rfl (by decide) (.slice PA (S.get n).P.length pc) (S.get n).P.length (flatM (S.get n).P) (by rfl) (own_move (show World.ownsRow w5 0 41 6 (.slice PA (S.get n).P.length pc) _ _ by rw [← HPL2.out]; exact HP5.out) (fun k hk => hb6.block k (own_lt (show World.ownsRow w5 0 41 6 (.slice PA (S.get n).P.length pc) _ _ by rw [← HPL2.out]; exact HP5.out) k hk))) (.slice LA (S.get n).Q.length lc) (S.get n).Q.length (flatM (S.get n).Q) (by rfl) hl6 (flatM_one _) (by unfold maxLen; omega) (by omega) (Nat.zero_le _) ?_
  intro v7 w7 hown7 hg7 hl7
  obtain ⟨A7, c7, rfl⟩ := own_slice hown7
  refine hK.out _ _ ?_
  clear hK K
  refine norm_ (a' := ?_) ?_ ?_
  rotate_left
  ·show Act.put _ (some 61) _ = _
   simp only [Act.put, qa, qb, qc]
   rfl
  refine pu_ (i := 11) (N := (some 62)) (v := ?_) (a' := ?_) rfl rfl (by kernel_rfl) (fun _ _ _ h => h) (Or.inl ⟨by rfl, ?_⟩) ?_ ?_
  rotate_left
  ·intro w'
   go_simp
   try with_reducible rfl
  rotate_left
  ·simp only [Act.put, qa, qb, qc]
   rfl
  refine pu_ (i := 12) (N := (some 63)) (v := ?_) (a' := ?_) rfl rfl (by kernel_rfl) (fun _ _ _ h => h) (Or.inl ⟨by rfl, ?_⟩) ?_ ?_
  rotate_left
  ·intro w'
   go_simp
   try with_reducible rfl
  rotate_left
  ·simp only [Act.put, qa, qb, qc]
   rfl
  refine la_ (i := 13) (N := none) rfl rfl (by kernel_rfl) (by decide) (fun K hK => ?_)
  have hT7 : Tch (fun k => H.own k = 16 + n) w5 w7 := ((Tch.of_below (P := fun k => H.own k = 16 + n) (((Below.refl _ w5).drew).trans (hb6.mono (Nat.le_refl _))))).grown hg7 (fun k hk => .inl (HR5.out.op n hn k (by rw [HPL2.out]; exact hk)))
  have hb7 : w7.heap[H.r]? = some (.cells (rcells H S).toArray 115 (0, 0)) := (hT7.block H.r (Array.getElem?_eq_some_iff.1 HR5.out.blk).1 (by rw [HR5.out.o1]; omega)).trans HR5.out.blk
  have f7 : w7.frozen? ⟨H.r, 2 + n * 10 + 8, none⟩ = false := by simp [World.frozen?, hb7]
  have d7 : w7.cell? ⟨H.r, 2 + n * 10 + 8, none⟩ = some (.slice PA (S.get n).P.length pc) := hT7.cell d1 (by rw [HR5.out.o1]; omega)
  have HT7 := Lib.hid hT7
  have HB7 := Lib.hid hb7
  have HOWN7 := Lib.hid hown7
  have HPF := Lib.hid (show ∀ k, (Value.slice A7 ((S.get n).P.length + (S.get n).Q.length) c7).ownBlock = some k → H.own k = 16 + n ∨ w5.heap.size ≤ k from fun k hk => (hl7 k hk).elim (fun z => .inl (HR5.out.op n hn k (by rw [HPL2.out]; exact z))) (fun z => .inr (Nat.le_trans hb6.size z)))
  clear hT7 hb7 hown7 hg7 hl6 hl7
  refine skip_ (w1 := (w7.setCell ⟨H.r, 2 + n * 10 + 8, none⟩ (.slice A7 ((S.get n).P.length + (S.get n).Q.length) c7))) (by rfl) rfl (by go_simp) ?_
  refine hK.out _ _ ?_
  clear hK K
  refine done_ (by kernel_rfl) ?_
  have hb8 := rcA_cell (H := H) (S := S) (n := n) (A := mcells H n (S.get n)) (W := w7) (by rw [rcA_self]; exact HB7.out) hn (mcells_length H n _) 8 (by decide) (.slice A7 ((S.get n).P.length + (S.get n).Q.length) c7)
  have ht8 : Tch (fun k => k = H.r) w7 (w7.setCell ⟨H.r, 2 + n * 10 + 8, none⟩ (.slice A7 ((S.get n).P.length + (S.get n).Q.length) c7)) := Tch.setCell (P := fun k => k = H.r) (Tch.refl _ _) (p := ⟨H.r, 2 + n * 10 + 8, none⟩) (.inl rfl) _
  generalize w7.setCell ⟨H.r, 2 + n * 10 + 8, none⟩ (.slice A7 ((S.get n).P.length + (S.get n).Q.length) c7) = w8 at hb8 ht8 ⊢
  have HB8 := Lib.hid hb8
  have HT8 := Lib.hid ht8
  clear hb8 ht8 d1 d2 f1 f2 f3 f7 d7
  go_wp2_with (go_at_call 83; refine (new_call _).mono ?_; rintro x w9 ⟨q, b, rfl, hq1, hq2, hq3, hq4⟩; have HQ1 := Lib.hid hq1; have HQ2 := Lib.hid hq2; have HQ3 := Lib.hid hq3; have HQ4 := Lib.hid hq4; have hb9 := (hq4.block H.r (Array.getElem?_eq_some_iff.1 HB8.out).1).trans HB8.out; have f8 : w9.frozen? ⟨H.r, 2 + n * 10 + 7, none⟩ = false := (by simp [World.frozen?, hb9]); have f9 : w9.frozen? ⟨H.r, 2 + n * 10 + 1, none⟩ = false := (by simp [World.frozen?, hb9]); have d8 : ∃ u, w9.cell? ⟨H.r, 2 + n * 10 + 7, none⟩ = some u := ⟨_, by rw [cell_of_row w9 H.r (2 + n * 10 + 7) _ 115 (0, 0) hb9, List.getElem?_toArray]; exact rcA_at hn rfl 7 (by decide) rfl⟩; have d9 : ∃ u, w9.cell? ⟨H.r, 2 + n * 10 + 1, none⟩ = some u := ⟨_, by rw [cell_of_row w9 H.r (2 + n * 10 + 1) _ 115 (0, 0) hb9, List.getElem?_toArray]; exact rcA_at hn rfl 1 (by decide) rfl⟩; obtain ⟨u8, d8⟩ := d8; obtain ⟨u9, d9⟩ := d9; have HB9 := Lib.hid hb9; clear hq1 hq2 hq3 hq4 hb9)
  go_ret
  rw [HJ2.out]
  have hR5 := HR5.out
  have hb10 := rcA_cell (rcA_cell HB9.out hn rfl 7 (by decide) (.pointer (some ⟨q, 0, none⟩))) hn rfl 1 (by decide) (.bool false)
  have hsz7 := HT7.out.size
  have hsz8 := HT8.out.size
  have hsz9 := HQ4.out.size
  have ht9 : Tch (fun k => k = H.r) w9 ((w9.setCell ⟨H.r, 2 + n * 10 + 7, none⟩ (.pointer (some ⟨q, 0, none⟩))).setCell ⟨H.r, 2 + n * 10 + 1, none⟩ (.bool false)) := (Tch.setCell (P := fun k => k = H.r) (Tch.refl _ _) (p := ⟨H.r, 2 + n * 10 + 7, none⟩) (.inl rfl) _).setCell (p := ⟨H.r, 2 + n * 10 + 1, none⟩) (.inl rfl) _
  generalize (w9.setCell ⟨H.r, 2 + n * 10 + 7, none⟩ (.pointer (some ⟨q, 0, none⟩))).setCell ⟨H.r, 2 + n * 10 + 1, none⟩ (.bool false) = w10 at hb10 ht9 ⊢
  have hq5 : w5.heap.size ≤ q := Nat.le_trans (Nat.le_trans hsz7 hsz8) HQ1.out
  have hb5' : w5.heap.size ≤ b := Nat.le_trans (Nat.le_trans hsz7 hsz8) HQ2.out
  have hrl : H.r < w5.heap.size := (Array.getElem?_eq_some_iff.1 hR5.blk).1
  have htw : Tch (fun k => H.own k = 1 ∨ H.own k = 8 + n ∨ H.own k = 16 + n) w5 w10 := (((HT7.out.mono (Q := fun k => H.own k = 1 ∨ H.own k = 8 + n ∨ H.own k = 16 + n) (fun k _ e => .inr (.inr e))).trans HT8.out (fun k _ e => by rw [e]; exact .inl hR5.o1)).trans (Q := fun _ => False) (Tch.of_below HQ4.out) (fun _ _ e => e.elim)).trans ht9 (fun k _ e => by rw [e]; exact .inl hR5.o1)
  have hqin : QIn w10 q b (.slice none 0 0) [] := ⟨[], HQ3.out.frame (fun k hk e => ht9.block k hk (fun z => by
   rcases e with e | e | e
   ·omega
   ·omega
   ·cases e)), QH.nil⟩
  have hqf : ∀ k, QFp q b (.slice none 0 0) k → H.own k = 8 + n ∨ w5.heap.size ≤ k := by
   intro k e
   rcases e with e | e | e
   ·subst e; exact .inr hq5
   ·subst e; exact .inr hb5'
   ·cases e
  have hpf : ∀ k, (Value.slice A7 ((S.get n).P.length + (S.get n).Q.length) c7).ownBlock = some k → H.own k = 16 + n ∨ w5.heap.size ≤ k := fun k hk => HPF.out k hk
  have hown : ∀ k, (Value.slice A7 ((S.get n).P.length + (S.get n).Q.length) c7).ownBlock = some k → k < w7.heap.size ∧ k ≠ H.r := fun k hk => ⟨own_lt HOWN7.out k hk, fun e => by
   rcases hpf k hk with z | z
   ·rw [e, hR5.o1] at z; omega
   ·omega⟩
  have hrow : w10.ownsRow 0 41 6 (.slice A7 ((S.get n).P.length + (S.get n).Q.length) c7) ((S.get n).P ++ (S.get n).Q).length (flatM ((S.get n).P ++ (S.get n).Q)) := by
   rw [List.length_append, flatM_app]
   refine own_move (own_move (own_move HOWN7.out (fun k hk => HT8.out.block k (hown k hk).1 (hown k hk).2)) (fun k hk => HQ4.out.block k (Nat.lt_of_lt_of_le (hown k hk).1 hsz8))) (fun k hk => ht9.block k (Nat.lt_of_lt_of_le (Nat.lt_of_lt_of_le (hown k hk).1 hsz8) hsz9) (hown k hk).2)
  have hd : ∀ k, QFp q b (.slice none 0 0) k → (Value.slice A7 ((S.get n).P.length + (S.get n).Q.length) c7).ownBlock ≠ some k := by
   intro k e z
   have h1 := (hown k z).1
   rcases e with e | e | e
   ·subst e; have := HQ1.out; omega
   ·subst e; have := HQ2.out; omega
   ·cases e
  exact ((Turn.of hR5 H8.out hn { S.get n with P := (S.get n).P ++ (S.get n).Q, Q := [], con := false } q b (.slice none 0 0) (.slice A7 ((S.get n).P.length + (S.get n).Q.length) c7) rfl htw (by rw [hb10, mcells_put]; rfl) hqin hqf hrow hpf hd).after HB.out).mpost _
 | some c =>
  have hcc := ho c rfl
  have henv := hR5.env
  obtain ⟨gg, hg1, hg2, hg3⟩ := hr
  cases hg2
  have HJ2 := Lib.hid hj
  have HR5 := Lib.hid hR5
  have HB := Lib.hid hB
  have her := errno_ref w5 henv gg n c hcc.1 hcc.2 hg3
  have HER := Lib.hid her
  clear hwr ho hj hR5 hB henv hg3 her c1 c2 c3 c4
  go_wp2_with (go_at_call 64; (with_reducible refine HER.out.mono ?_); rintro e w6 ⟨rfl, hb6⟩)
  go_ret
  rw [HJ2.out]
  exact MPost.same HR.out (HB.out.trans (hb6.mono HB.out.size)) _
end Go.Proofs.YtehnkebcbomidaaGreatDoor.Rt
section
namespace Go.Proofs.YtehnkebcbomidaaGreatDoor.Rt
theorem later_mono (m : LM) {a b : Int} (h : a ≤ b) : m.later a ≤ m.later b := by
 unfold LM.later tadd tclamp; repeat' split <;> omega
theorem later_inf (m : LM) (a : Int) : m.later a ≤ 1125899906842624 := by
 unfold LM.later tadd tclamp; repeat' split <;> omega
theorem later_ge (m : LM) {a : Int} (h : a ≤ 1125899906842624) : a ≤ m.later a := by
 unfold LM.later tadd tclamp; repeat' split <;> omega
def om (l : List LM) (j : Nat) : LM := l.getD j default
structure IsOut (l : List LM) (o : Nat → Int) : Prop where
 no : ∀ j, j < l.length → (om l j).reg = false → o j = 1125899906842624
 own : ∀ j, j < l.length → (om l j).reg = true → (om l j).hangs = false → o j = (om l j).later (om l j).base
 le : ∀ j, j < l.length → (om l j).reg = true → (om l j).hangs = true → o j ≤ (om l j).later (om l j).base ∧ ∀ i, i < l.length → (om l i).reg = true → i ≠ j → o j ≤ (om l j).later (max (tadd (om l j).time 0) (o i))
 at_ : ∀ j, j < l.length → (om l j).reg = true → (om l j).hangs = true → o j = (om l j).later (om l j).base ∨ ∃ i, i < l.length ∧ (om l i).reg = true ∧ i ≠ j ∧ o j = (om l j).later (max (tadd (om l j).time 0) (o i))
theorem leastO_spec (out : List Int) (op : List Bool) : ∀ n, (leastO out op n = none → ∀ j, j < n → op.getD j false = false) ∧ ∀ b, leastO out op n = some b → b < n ∧ op.getD b false = true ∧ ∀ j, j < n → op.getD j false = true → out.getD b 0 ≤ out.getD j 0 := by
 intro n
 induction n with
 | zero => exact ⟨fun _ j hj => by omega, fun b h => by cases h⟩
 | succ n ih =>
  obtain ⟨ih1, ih2⟩ := ih
  unfold leastO
  cases hl : leastO out op n with
  | none =>
   simp only
   refine ⟨fun h j hj => ?_, fun b h => ?_⟩
   ·by_cases c : j = n
    ·subst c
     cases e : op.getD j false with
     | false => rfl
     | true => rw [e] at h; cases h
    ·exact ih1 hl j (by omega)
   ·obtain ⟨h1, h2⟩ : op.getD n false = true ∧ n = b := by simpa using h
    cases e : op.getD n false with
    | false => rw [e] at h1; cases h1
    | true =>
     subst h2
     refine ⟨by omega, e, fun j hj hoj => ?_⟩
     by_cases c : j = n
     ·subst c; exact Int.le_refl _
     ·have := ih1 hl j (by omega)
      rw [this] at hoj; cases hoj
  | some b =>
   obtain ⟨b1, b2, b3⟩ := ih2 b hl
   simp only
   refine ⟨(fun h => by split at h <;> cases h), fun c h => ?_⟩
   split at h
   ·rename_i hc
    simp only [Bool.and_eq_true, decide_eq_true_eq] at hc
    cases h
    refine ⟨by omega, hc.1, fun j hj hoj => ?_⟩
    by_cases d : j = n
    ·subst d; exact Int.le_refl _
    ·have := b3 j (by omega) hoj
     omega
   ·rename_i hc
    cases h
    refine ⟨by omega, b2, fun j hj hoj => ?_⟩
    by_cases d : j = n
    ·subst d
     simp only [Bool.and_eq_true, decide_eq_true_eq, not_and, hoj, true_implies] at hc
     omega
    ·exact b3 j (by omega) hoj
structure OutInv (l : List LM) (out : List Int) (op : List Bool) : Prop where
 len : out.length = l.length
 opr : ∀ j, op.getD j false = true → j < l.length ∧ (om l j).reg = true
 no : ∀ j, j < l.length → (om l j).reg = false → out.getD j 0 = 1125899906842624
 own : ∀ j, j < l.length → (om l j).reg = true → (om l j).hangs = false → out.getD j 0 = (om l j).later (om l j).base
 le : ∀ j, j < l.length → (om l j).reg = true → (om l j).hangs = true → out.getD j 0 ≤ (om l j).later (om l j).base ∧ ∀ i, i < l.length → (om l i).reg = true → op.getD i false = false → i ≠ j → out.getD j 0 ≤ (om l j).later (max (tadd (om l j).time 0) (out.getD i 0))
 at_ : ∀ j, j < l.length → (om l j).reg = true → (om l j).hangs = true → out.getD j 0 = (om l j).later (om l j).base ∨ ∃ i, i < l.length ∧ (om l i).reg = true ∧ op.getD i false = false ∧ i ≠ j ∧ out.getD j 0 = (om l j).later (max (tadd (om l j).time 0) (out.getD i 0))
 ord : ∀ i j, i < l.length → (om l i).reg = true → op.getD i false = false → op.getD j false = true → out.getD i 0 ≤ out.getD j 0
theorem OutInv.inf {l : List LM} {out : List Int} {op : List Bool} (h : OutInv l out op) {j : Nat} (hj : j < l.length) : out.getD j 0 ≤ 1125899906842624 := by
 cases hr : (om l j).reg with
 | false => rw [h.no j hj hr]; exact Int.le_refl _
 | true => cases hh : (om l j).hangs with
  | false => rw [h.own j hj hr hh]; exact later_inf _ _
  | true => exact Int.le_trans (h.le j hj hr hh).1 (later_inf _ _)
theorem round_getD (l : List LM) (i : Nat) (op hg : List Bool) (out : List Int) (j : Nat) (hj : j < l.length) : (roundO l i op hg out).getD j 0 = if op.getD j false && hg.getD j false then min (out.getD j 0) ((om l j).later (max (tadd (om l j).time 0) (out.getD i 0))) else out.getD j 0 := by
 unfold roundO om
 rw [List.getD_eq_getElem?_getD, List.getElem?_map, List.getElem?_range hj]
 rfl
theorem set_getD (op : List Bool) (i j : Nat) : (op.set i false).getD j false = if j = i then false else op.getD j false := by
 simp only [List.getD_eq_getElem?_getD, List.getElem?_set]
 split
 ·rename_i h; subst h
  simp only [if_true]
  split <;> rfl
 ·rename_i h; rw [if_neg (fun e => h e.symm)]
def hgs (l : List LM) : List Bool := l.map fun m => m.reg && m.hangs
theorem hgs_getD (l : List LM) (j : Nat) (hj : j < l.length) : (hgs l).getD j false = ((om l j).reg && (om l j).hangs) := by
 unfold hgs om
 simp [List.getD_eq_getElem?_getD, List.getElem?_eq_getElem hj]
theorem OutInv.step {l : List LM} {out : List Int} {op : List Bool} (h : OutInv l out op) {i : Nat} (hi : leastO out op l.length = some i) : OutInv l (roundO l i (op.set i false) (hgs l) out) (op.set i false) := by
 obtain ⟨i1, i2, i3⟩ := (leastO_spec out op l.length).2 i hi
 have ir := (h.opr i i2).2
 have hii := h.inf i1
 have hr := fun j hj => round_getD l i (op.set i false) (hgs l) out j hj
 have hsame : ∀ j, j < l.length → (op.set i false).getD j false = false → (roundO l i (op.set i false) (hgs l) out).getD j 0 = out.getD j 0 := fun j hj e => by rw [hr j hj, e]; rfl
 have hiout : (roundO l i (op.set i false) (hgs l) out).getD i 0 = out.getD i 0 := hsame i i1 (by rw [set_getD, if_pos rfl])
 have hnh : ∀ j, j < l.length → ((om l j).reg && (om l j).hangs) = false → (roundO l i (op.set i false) (hgs l) out).getD j 0 = out.getD j 0 := fun j hj e => by rw [hr j hj, hgs_getD l j hj, e, Bool.and_false]; rfl
 have hle : ∀ j, j < l.length → (roundO l i (op.set i false) (hgs l) out).getD j 0 ≤ out.getD j 0 := fun j hj => by rw [hr j hj]; split <;> omega
 have hclosed : ∀ k, (op.set i false).getD k false = false → op.getD k false = false ∨ k = i := fun k hk => by
  rw [set_getD] at hk
  by_cases c : k = i
  ·exact .inr c
  ·rw [if_neg c] at hk; exact .inl hk
 have hci : ∀ k, k < l.length → (om l k).reg = true → (op.set i false).getD k false = false → out.getD k 0 ≤ out.getD i 0 := fun k hk hkr hkc => by
  rcases hclosed k hkc with e | e
  ·exact h.ord k i hk hkr e i2
  ·subst e; exact Int.le_refl _
 refine ⟨by simp [roundO], fun j hj => ?_, fun j hj e => ?_, fun j hj e1 e2 => ?_, fun j hj e1 e2 => ⟨?_, fun k hk hkr hkc hkj => ?_⟩, fun j hj e1 e2 => ?_, fun k j hk hkr hkc hjo => ?_⟩
 ·rw [set_getD] at hj
  split at hj
  ·cases hj
  ·exact h.opr j hj
 ·rw [hnh j hj (by rw [e]; rfl)]; exact h.no j hj e
 ·rw [hnh j hj (by rw [e1, e2]; rfl)]; exact h.own j hj e1 e2
 ·exact Int.le_trans (hle j hj) (h.le j hj e1 e2).1
 ·rw [hsame k hk hkc]
  cases hjo : (op.set i false).getD j false with
  | true =>
   have e3 := hr j hj
   rw [hjo, hgs_getD l j hj, e1, e2] at e3
   simp only [Bool.and_self, if_true] at e3
   rcases hclosed k hkc with e | e
   ·have := (h.le j hj e1 e2).2 k hk hkr e hkj
    omega
   ·subst e; omega
  | false =>
   rw [hsame j hj hjo]
   rcases hclosed k hkc with e | e
   ·exact (h.le j hj e1 e2).2 k hk hkr e hkj
   ·subst e
    have h1 := hci j hj e1 hjo
    have h2 := later_ge (om l j) (a := out.getD k 0) hii
    have h3 := later_mono (om l j) (a := out.getD k 0) (b := max (tadd (om l j).time 0) (out.getD k 0)) (by omega)
    omega
 ·cases hjo : (op.set i false).getD j false with
  | true =>
   have e3 := hr j hj
   rw [hjo, hgs_getD l j hj, e1, e2] at e3
   simp only [Bool.and_self, if_true] at e3
   have hji : i ≠ j := fun e => by rw [set_getD, if_pos e.symm] at hjo; cases hjo
   by_cases c : out.getD j 0 ≤ (om l j).later (max (tadd (om l j).time 0) (out.getD i 0))
   ·rw [e3, Int.min_eq_left c]
    rcases h.at_ j hj e1 e2 with e | ⟨k, k1, k2, k3, k4, k5⟩
    ·exact .inl e
    ·have hkc : (op.set i false).getD k false = false := by rw [set_getD]; split <;> first | rfl | exact k3
     exact .inr ⟨k, k1, k2, hkc, k4, by rw [hsame k k1 hkc]; exact k5⟩
   ·exact .inr ⟨i, i1, ir, by rw [set_getD, if_pos rfl], hji, by rw [hiout, e3]; omega⟩
  | false =>
   rw [hsame j hj hjo]
   rcases h.at_ j hj e1 e2 with e | ⟨k, k1, k2, k3, k4, k5⟩
   ·exact .inl e
   ·have hkc : (op.set i false).getD k false = false := by rw [set_getD]; split <;> first | rfl | exact k3
    exact .inr ⟨k, k1, k2, hkc, k4, by rw [hsame k k1 hkc]; exact k5⟩
 ·have hjo' : op.getD j false = true := by
   rw [set_getD] at hjo
   split at hjo
   ·cases hjo
   ·exact hjo
  have hjl := (h.opr j hjo').1
  rw [hsame k hk hkc]
  have h1 := hci k hk hkr hkc
  have h2 := i3 j hjl hjo'
  rw [hr j hjl]
  have h3 := later_ge (om l j) (a := out.getD i 0) hii
  have h4 := later_mono (om l j) (a := out.getD i 0) (b := max (tadd (om l j).time 0) (out.getD i 0)) (by omega)
  split <;> omega
theorem count_set (op : List Bool) (i : Nat) (h : op.getD i false = true) : (op.set i false).count true + 1 = op.count true := by
 induction op generalizing i with
 | nil => simp at h
 | cons a op ih =>
  cases i with
  | zero =>
   simp at h
   subst h
   simp
  | succ i =>
   have := ih i (by simpa using h)
   cases a <;> simp_all <;> omega
theorem outsGo_spec (l : List LM) : ∀ (n : Nat) (out : List Int) (op : List Bool), OutInv l out op → op.count true < n → IsOut l (fun j => (outsGo l (hgs l) n out op).getD j 0) ∧ (outsGo l (hgs l) n out op).length = l.length := by
 intro n
 induction n with
 | zero => intro out op _ h; omega
 | succ n ih =>
  intro out op h hc
  unfold outsGo
  cases hl : leastO out op l.length with
  | none =>
   have hno := (leastO_spec out op l.length).1 hl
   refine ⟨⟨h.no, h.own, fun j hj e1 e2 => ⟨(h.le j hj e1 e2).1, fun i hi hir hij => (h.le j hj e1 e2).2 i hi hir (hno i hi) hij⟩, fun j hj e1 e2 => ?_⟩, h.len⟩
   rcases h.at_ j hj e1 e2 with e | ⟨k, k1, k2, k3, k4, k5⟩
   ·exact .inl e
   ·exact .inr ⟨k, k1, k2, k4, k5⟩
  | some i =>
   have h2 := ((leastO_spec out op l.length).2 i hl).2.1
   have := count_set op i h2
   exact ih _ _ (h.step hl) (by omega)
theorem getD_map' {α β : Type} (l : List α) (f : α → β) (j : Nat) (hj : j < l.length) (d : α) (e : β) : (l.map f).getD j e = f (l.getD j d) := by
 simp [List.getD_eq_getElem?_getD, List.getElem?_eq_getElem hj]
theorem outs_spec (l : List LM) : IsOut l (fun j => (outs l).getD j 0) ∧ (outs l).length = l.length := by
 unfold outs
 refine outsGo_spec l (l.length + 1) _ _ ?_ (by have := List.count_le_length (a := true) (l := l.map (·.reg)); simp at this; omega)
 have hop : ∀ j, j < l.length → (l.map (·.reg)).getD j false = (om l j).reg := fun j hj => getD_map' l _ j hj default false
 have hout : ∀ j, j < l.length → (l.map fun m => if m.reg then m.later m.base else 1125899906842624).getD j 0 = if (om l j).reg then (om l j).later (om l j).base else 1125899906842624 := fun j hj => getD_map' l _ j hj default 0
 refine ⟨by simp, fun j hj => ?_, fun j hj e => by rw [hout j hj, e]; rfl, fun j hj e _ => by rw [hout j hj, e]; rfl, fun j hj e _ => ⟨by rw [hout j hj, e]; exact Int.le_refl _, fun i hi hir hio => ?_⟩, fun j hj e _ => .inl (by rw [hout j hj, e]; rfl), fun i j hi hir hio _ => ?_⟩
 ·have hjl : j < l.length := by
   rcases Nat.lt_or_ge j l.length with c | c
   ·exact c
   ·rw [List.getD_eq_getElem?_getD, List.getElem?_eq_none (by simpa using c)] at hj; cases hj
  exact ⟨hjl, by rw [← hop j hjl]; exact hj⟩
 ·rw [hop i hi, hir] at hio; cases hio
 ·rw [hop i hi, hir] at hio; cases hio
end Go.Proofs.YtehnkebcbomidaaGreatDoor.Rt
end
