/- Part of a proof over the given program: Co. -/
import Derived.Test.YtehnkebcbomidaaGreatDoorCn29
set_option linter.unusedVariables false
set_option linter.unusedSimpArgs false
namespace Go.Proofs.YtehnkebcbomidaaGreatDoor.Rt
open Go Go.RowKit Go.Proofs Go.Proofs.YtehnkebcbomidaaGreatDoorW.PrintWords Go.Proofs.YtehnkebcbomidaaGreatDoorW.PrintLast
set_option maxHeartbeats 8000000 in
set_option maxRecDepth 100000 in
theorem constrain_yes (w : World) (H : Sh) (S : St) (hR : RAt H w S) (h8 : S.l.length = 8) (n : Nat) (hn : n < 8) (he : S.byE n = 0) :
  Calls Tryz.prog 38 #[.pointer (some ⟨H.r, 0, none⟩), .int .i64 n] w (MPost H w (.int .i64 (S.constrain n).1) (S.constrain n).2) := by
 have hj : S.constrain n = match firstNo [(!(S.get n).con, 204), ((S.get n).kind == 0, 206), (decide ((S.get n).time < S.bound n), 207)] with | some c => (c, S) | none => (0, S.put n { S.get n with con := true }) := by
  unfold St.constrain
  rw [if_neg (fun k => k he), Int.toNat_natCast]
  cases hc : (S.get n).con <;> by_cases b : (S.get n).kind = 0 <;> by_cases d : (S.get n).time < S.bound n <;> simp [firstNo, hc, b, d]
 have ho : ∀ c, firstNo [(!(S.get n).con, 204), ((S.get n).kind == 0, 206), (decide ((S.get n).time < S.bound n), 207)] = some c → 0 ≤ c ∧ c < 220 := by
  intro c
  cases hc : (S.get n).con <;> by_cases b : (S.get n).kind = 0 <;> by_cases d : (S.get n).time < S.bound n <;> simp [firstNo, hc, b, d] <;> intro e <;> omega
 have hbd := fun w1 (h : RAt H w1 S) => bound_call w1 H S h h8 n
 have HBD := Lib.hid hbd
 clear hbd
 have HR := Lib.hid hR
 have HJ := Lib.hid hj
 have HO := Lib.hid ho
 have H8 := Lib.hid h8
 have hby := by_yes w H S hR n he
 have HBY := Lib.hid hby
 have hR1 := fun w1 hb1 => hR.below (W' := w1) hb1
 have HR1 := Lib.hid hR1
 have h0 : ¬ (n : Int) < 0 := by omega
 have h8' : ¬ (8 : Int) ≤ (n : Int) := by omega
 have hz0 : (0 : Int) ≤ (n : Int) := by omega
 have hz8 : (n : Int) < 8 := by omega
 clear hR hR1 hj ho h8 hby he
 have hu115 := Tryz.underlying115
 have hu113 := Tryz.underlying113
 have hu112 := Tryz.underlying112
 have hu121 := Tryz.underlying121
 have hu193 := Tryz.underlying193
 have hu117 := Tryz.underlying117
 go_enter Tryz.func38, Tryz.ntmps38
 have hmix : Tryz.prog.follows .mixedOrders = true := by kernel_rfl
 go_wp2_with (go_at_call 63; (with_reducible refine HBY.out.mono ?_); rintro e w1 ⟨rfl, hb1⟩)
 have hRa := HR1.out w1 hb1
 have c1 := hRa.c_con hn
 have c2 := hRa.c_kind hn
 have c3 := hRa.c_time hn
 have hbd1 := HBD.out w1.drew (hRa.below ((Below.refl _ _).drew))
 have HBD1 := Lib.hid hbd1
 have HB1 := Lib.hid hb1
 clear hRa hb1 hbd1
 generalize hbnd : S.bound n = bnd at HBD1 HJ HO
 have HBND := Lib.hid hbnd
 clear hbnd
 go_wp2_with fail
 refine st_ (n := 34) (S := fun w' => w'.cell? ⟨H.r, 2 + n * 10 + 1, none⟩ = some (.bool (S.get n).con) ∧ w'.cell? ⟨H.r, 2 + n * 10 + 4, none⟩ = some (.int .i64 (S.get n).kind) ∧ w'.cell? ⟨H.r, 2 + n * 10 + 2, none⟩ = some (.int .i64 (S.get n).time)) (ds := [31, 32]) hmix rfl ⟨c1, c2, c3⟩ (fun hHeld => ?_)
 refine pu_ (i := 0) (N := (some 14)) (v := ?_) (a' := ?_) rfl rfl (by kernel_rfl) (fun _ _ _ h => h) (Or.inl ⟨by rfl, ?_⟩) ?_ ?_
 rotate_left
 ·intro w'
  go_simp
  try with_reducible rfl
 rotate_left
 ·simp only [Act.put, qa, qb, qc]
  rfl
 refine pu_ (i := 1) (N := (some 15)) (v := ?_) (a' := ?_) rfl rfl (by kernel_rfl) (fun _ _ _ h => h) (Or.inl ⟨by rfl, ?_⟩) ?_ ?_
 rotate_left
 ·intro w'
  go_simp
  try with_reducible rfl
 rotate_left
 ·simp only [Act.put, qa, qb, qc]
  rfl
 refine pu_ (i := 2) (N := (some 16)) (v := ?_) (a' := ?_) rfl rfl (by kernel_rfl) (fun _ _ _ h => h) (Or.inl ⟨by rfl, ?_⟩) ?_ ?_
 rotate_left
 ·intro w'
  go_simp
  try with_reducible rfl
 rotate_left
 ·simp only [Act.put, qa, qb, qc]
  rfl
 refine pu_ (i := 3) (N := (some 17)) (v := ?_) (a' := ?_) rfl rfl (by kernel_rfl) (fun _ _ _ h => h) (Or.inl ⟨by rfl, ?_⟩) ?_ ?_
 rotate_left
 ·intro w'
  go_simp
  try with_reducible rfl
 rotate_left
 ·simp only [Act.put, qa, qb, qc]
  rfl
 refine pu_ (i := 4) (N := (some 18)) (v := ?_) (a' := ?_) rfl rfl (by kernel_rfl) (fun _ _ _ h => h) (Or.inl ⟨by rfl, ?_⟩) ?_ ?_
 rotate_left
 ·intro w'
  go_simp
  try with_reducible rfl
 rotate_left
 ·simp only [Act.put, qa, qb, qc]
  rfl
 refine pu_ (i := 5) (N := (some 19)) (v := ?_) (a' := ?_) rfl rfl (by kernel_rfl) (fun _ _ _ h => h) (Or.inl ⟨by rfl, ?_⟩) ?_ ?_
 rotate_left
 ·intro w'
  go_simp
  try with_reducible rfl
 rotate_left
 ·simp only [Act.put, qa, qb, qc]
  rfl
 refine pu_ (i := 6) (N := (some 20)) (v := ?_) (a' := ?_) rfl rfl (by kernel_rfl) (fun _ _ _ h => h) (Or.inl ⟨by rfl, ?_⟩) ?_ ?_
 rotate_left
 ·intro w'
  go_simp
  try with_reducible rfl
 rotate_left
 ·simp only [Act.put, qa, qb, qc]
  rfl
 refine tk_ (i := 7) (N := (some 21)) (v := ?_) (a' := ?_) rfl rfl (by kernel_rfl) (fun _ _ _ h => h) (Or.inl ⟨by rfl, ?_⟩) hHeld ?_ ?_
 rotate_left
 ·intro w' hS_
  obtain ⟨zz0, zz1, zz2⟩ := hS_
  go_simp
  try with_reducible rfl
 rotate_left
 ·simp only [Act.put, qa, qb, qc]
  rfl
 refine pu_ (i := 8) (N := (some 22)) (v := (.bool (!(S.get n).con))) (a' := ?_) rfl rfl (by kernel_rfl) (fun _ _ _ h => h) (Or.inl ⟨by rfl, ?_⟩) ?_ ?_
 ·intro w'
  go_simp
  try with_reducible rfl
 rotate_left
 ·simp only [Act.put, qa, qb, qc]
  rfl
 refine pu_ (i := 9) (N := (some 23)) (v := ?_) (a' := ?_) rfl rfl (by kernel_rfl) (fun _ _ _ h => h) (Or.inl ⟨by rfl, ?_⟩) ?_ ?_
 rotate_left
 ·intro w'
  go_simp
  try with_reducible rfl
 rotate_left
 ·simp only [Act.put, qa, qb, qc]
  rfl
 refine pu_ (i := 10) (N := (some 24)) (v := ?_) (a' := ?_) rfl rfl (by kernel_rfl) (fun _ _ _ h => h) (Or.inl ⟨by rfl, ?_⟩) ?_ ?_
 rotate_left
 ·intro w'
  go_simp
  try with_reducible rfl
 rotate_left
 ·simp only [Act.put, qa, qb, qc]
  rfl
 refine pu_ (i := 11) (N := (some 25)) (v := ?_) (a' := ?_) rfl rfl (by kernel_rfl) (fun _ _ _ h => h) (Or.inl ⟨by rfl, ?_⟩) ?_ ?_
 rotate_left
 ·intro w'
  go_simp
  try with_reducible rfl
 rotate_left
 ·simp only [Act.put, qa, qb, qc]
  rfl
 refine pu_ (i := 12) (N := (some 26)) (v := ?_) (a' := ?_) rfl rfl (by kernel_rfl) (fun _ _ _ h => h) (Or.inl ⟨by rfl, ?_⟩) ?_ ?_
 rotate_left
 ·intro w'
  go_simp
  try with_reducible rfl
 rotate_left
 ·simp only [Act.put, qa, qb, qc]
  rfl
 refine pu_ (i := 13) (N := (some 27)) (v := ?_) (a' := ?_) rfl rfl (by kernel_rfl) (fun _ _ _ h => h) (Or.inl ⟨by rfl, ?_⟩) ?_ ?_
 rotate_left
 ·intro w'
  go_simp
  try with_reducible rfl
 rotate_left
 ·simp only [Act.put, qa, qb, qc]
  rfl
 refine pu_ (i := 14) (N := (some 28)) (v := ?_) (a' := ?_) rfl rfl (by kernel_rfl) (fun _ _ _ h => h) (Or.inl ⟨by rfl, ?_⟩) ?_ ?_
 rotate_left
 ·intro w'
  go_simp
  try with_reducible rfl
 rotate_left
 ·simp only [Act.put, qa, qb, qc]
  rfl
 refine pu_ (i := 15) (N := (some 29)) (v := ?_) (a' := ?_) rfl rfl (by kernel_rfl) (fun _ _ _ h => h) (Or.inl ⟨by rfl, ?_⟩) ?_ ?_
 rotate_left
 ·intro w'
  go_simp
  try with_reducible rfl
 rotate_left
 ·simp only [Act.put, qa, qb, qc]
  rfl
 refine tk_ (i := 16) (N := (some 30)) (v := ?_) (a' := ?_) rfl rfl (by kernel_rfl) (fun _ _ _ h => h) (Or.inl ⟨by rfl, ?_⟩) hHeld ?_ ?_
 rotate_left
 ·intro w' hS_
  obtain ⟨zz0, zz1, zz2⟩ := hS_
  go_simp
  try with_reducible rfl
 rotate_left
 ·simp only [Act.put, qa, qb, qc]
  rfl
 refine pu_ (i := 17) (N := (some 31)) (v := (.bool ((S.get n).kind == 0))) (a' := ?_) rfl rfl (by kernel_rfl) (fun _ _ _ h => h) (Or.inl ⟨by rfl, ?_⟩) ?_ ?_
 ·intro w'
  go_simp
  try with_reducible rfl
 rotate_left
 ·simp only [Act.put, qa, qb, qc]
  rfl
 refine pu_ (i := 18) (N := (some 32)) (v := ?_) (a' := ?_) rfl rfl (by kernel_rfl) (fun _ _ _ h => h) (Or.inl ⟨by rfl, ?_⟩) ?_ ?_
 rotate_left
 ·intro w'
  go_simp
  try with_reducible rfl
 rotate_left
 ·simp only [Act.put, qa, qb, qc]
  rfl
 refine pu_ (i := 19) (N := (some 33)) (v := ?_) (a' := ?_) rfl rfl (by kernel_rfl) (fun _ _ _ h => h) (Or.inl ⟨by rfl, ?_⟩) ?_ ?_
 rotate_left
 ·intro w'
  go_simp
  try with_reducible rfl
 rotate_left
 ·simp only [Act.put, qa, qb, qc]
  rfl
 refine pu_ (i := 20) (N := (some 34)) (v := ?_) (a' := ?_) rfl rfl (by kernel_rfl) (fun _ _ _ h => h) (Or.inl ⟨by rfl, ?_⟩) ?_ ?_
 rotate_left
 ·intro w'
  go_simp
  try with_reducible rfl
 rotate_left
 ·simp only [Act.put, qa, qb, qc]
  rfl
 refine pu_ (i := 22) (N := (some 36)) (v := ?_) (a' := ?_) rfl rfl (by kernel_rfl) (fun _ _ _ h => h) (Or.inl ⟨by rfl, ?_⟩) ?_ ?_
 rotate_left
 ·intro w'
  go_simp
  try with_reducible rfl
 rotate_left
 ·simp only [Act.put, qa, qb, qc]
  rfl
 refine pu_ (i := 23) (N := (some 37)) (v := ?_) (a' := ?_) rfl rfl (by kernel_rfl) (fun _ _ _ h => h) (Or.inl ⟨by rfl, ?_⟩) ?_ ?_
 rotate_left
 ·intro w'
  go_simp
  try with_reducible rfl
 rotate_left
 ·simp only [Act.put, qa, qb, qc]
  rfl
 refine pu_ (i := 24) (N := (some 38)) (v := ?_) (a' := ?_) rfl rfl (by kernel_rfl) (fun _ _ _ h => h) (Or.inl ⟨by rfl, ?_⟩) ?_ ?_
 rotate_left
 ·intro w'
  go_simp
  try with_reducible rfl
 rotate_left
 ·simp only [Act.put, qa, qb, qc]
  rfl
 refine pu_ (i := 25) (N := (some 39)) (v := ?_) (a' := ?_) rfl rfl (by kernel_rfl) (fun _ _ _ h => h) (Or.inl ⟨by rfl, ?_⟩) ?_ ?_
 rotate_left
 ·intro w'
  go_simp
  try with_reducible rfl
 rotate_left
 ·simp only [Act.put, qa, qb, qc]
  rfl
 refine pu_ (i := 26) (N := (some 40)) (v := ?_) (a' := ?_) rfl rfl (by kernel_rfl) (fun _ _ _ h => h) (Or.inl ⟨by rfl, ?_⟩) ?_ ?_
 rotate_left
 ·intro w'
  go_simp
  try with_reducible rfl
 rotate_left
 ·simp only [Act.put, qa, qb, qc]
  rfl
 refine pu_ (i := 27) (N := (some 41)) (v := ?_) (a' := ?_) rfl rfl (by kernel_rfl) (fun _ _ _ h => h) (Or.inl ⟨by rfl, ?_⟩) ?_ ?_
 rotate_left
 ·intro w'
  go_simp
  try with_reducible rfl
 rotate_left
 ·simp only [Act.put, qa, qb, qc]
  rfl
 refine tk_ (i := 28) (N := (some 42)) (v := ?_) (a' := ?_) rfl rfl (by kernel_rfl) (fun _ _ _ h => h) (Or.inl ⟨by rfl, ?_⟩) hHeld ?_ ?_
 rotate_left
 ·intro w' hS_
  obtain ⟨zz0, zz1, zz2⟩ := hS_
  go_simp
  try with_reducible rfl
 rotate_left
 ·simp only [Act.put, qa, qb, qc]
  rfl
 refine on_ (i := 21) (N := (some 35)) rfl rfl (by kernel_rfl) (by decide) (fun K hK => ?_)
 refine goes_ Tryz.func71 (by kernel_rfl) rfl #[.pointer (some ⟨H.r, 0, none⟩), .int .i64 (n : Int)] (by rfl) rfl rfl (by simp only [List.map_toArray, List.map_cons, List.map_nil]; rfl) ?_
 refine HBD1.out.mono ?_
 rintro x w4 ⟨rfl, hb4⟩
 refine ⟨_, rfl, hK.out _ _ ⟨pw_cell_below hb4 hHeld.1, pw_cell_below hb4 hHeld.2.1, pw_cell_below hb4 hHeld.2.2⟩ (fun hHeld => ?_)⟩
 clear hK K
 refine norm_ (a' := ?_) ?_ ?_
 rotate_left
 ·show Act.put _ (some 35) _ = _
  simp only [Act.put, qa, qb, qc]
  rfl
 refine pu_ (i := 29) (N := (some 43)) (v := (.bool (decide ((S.get n).time < bnd)))) (a' := ?_) rfl rfl (by kernel_rfl) (fun _ _ _ h => h) (Or.inl ⟨by rfl, ?_⟩) ?_ ?_
 ·intro w'
  go_simp
  try with_reducible rfl
 rotate_left
 ·simp only [Act.put, qa, qb, qc]
  rfl
 refine pu_ (i := 30) (N := (some 44)) (v := ?_) (a' := ?_) rfl rfl (by kernel_rfl) (fun _ _ _ h => h) (Or.inl ⟨by rfl, ?_⟩) ?_ ?_
 rotate_left
 ·intro w'
  go_simp
  try with_reducible rfl
 rotate_left
 ·simp only [Act.put, qa, qb, qc]
  rfl
 refine la_ (i := 31) (N := (some 45)) rfl rfl (by kernel_rfl) (by decide) (fun K hK => ?_)
 refine value_ (w1 := ?_) (v := ?_) (by rfl) rfl ?_ ?_
 rotate_left 2
 ·go_simp
  constructor
  ·rfl
  ·rfl
 refine hK.out _ _ ?_
 clear hK K
 refine norm_ (a' := ?_) ?_ ?_
 rotate_left
 ·show Act.put _ (some 45) _ = _
  simp only [Act.put, qa, qb, qc]
  rfl
 refine la_ (i := 32) (N := (some 46)) rfl rfl (by kernel_rfl) (by decide) (fun K hK => ?_)
 refine goes_ Tryz.func67 (by kernel_rfl) rfl #[.int .i64 (n : Int), .slice (some ⟨w4.heap.size, 0, none⟩) 3 3] (by rfl) rfl rfl (by simp only [List.map_toArray, List.map_cons, List.map_nil]; rfl) ?_
 refine Calls.mono (all3 _ _ w4.heap.size (!(S.get n).con) ((S.get n).kind == 0) (decide ((S.get n).time < bnd)) 204 206 207 ?h5) ?_
 case h5 => exact heap_alloc_new w4 _
 rintro x w5 ⟨hr5, hb5⟩
 obtain ⟨v5, rfl, hr5⟩ := hr5.ret
 refine ⟨_, rfl, hK.out _ _ ?_⟩
 clear hK K
 refine norm_ (a' := ?_) ?_ ?_
 rotate_left
 ·show Act.put _ (some 46) _ = _
  simp only [Act.put, qa, qb, qc]
  rfl
 refine pu_ (i := 33) (N := (some 6)) (v := ?_) (a' := ?_) rfl rfl (by kernel_rfl) (fun _ _ _ h => h) (Or.inl ⟨by rfl, ?_⟩) ?_ ?_
 rotate_left
 ·intro w'
  go_simp
  try with_reducible rfl
 rotate_left
 ·simp only [Act.put, qa, qb, qc]
  rfl
 refine done_ (by kernel_rfl) ?_
 have HB4 := Lib.hid (HB1.out.drew.trans (hb4.mono HB1.out.size))
 have hB : Below w.heap.size w w5 := (HB4.out.alloc HB4.out.size _).trans (hb5.mono (by have := HB4.out.size; simp; omega))
 have hr : AllRes w n (firstNo [(!(S.get n).con, 204), ((S.get n).kind == 0, 206), (decide ((S.get n).time < bnd), 207)]) (.returned v5) w5 := AllRes.mono (w := w) hr5 (by have := HB4.out.size; simp; omega)
 have ho := HO.out
 have hj := HJ.out
 have hR5 := HR.out.below hB
 generalize firstNo [(!(S.get n).con, 204), ((S.get n).kind == 0, 206), (decide ((S.get n).time < bnd), 207)] = o at hr ho hj
 clear hr5 hb5
 cases o with
 | none =>
  have hv : v5 = .nilIface := by cases hr; rfl
  subst hv
  have d1 := hR5.c_con hn
  have f1 := hR5.free (2 + n * 10 + 1)
  have HJ2 := Lib.hid hj
  have HR5 := Lib.hid hR5
  have HB := Lib.hid hB
  clear hr ho hj hR5 hB c1 c2 c3
  go_wp2
  go_ret
  rw [HJ2.out]
  have hb2 := blk_put HR5.out.blk H8.out n 1 hn (by decide) (.bool true) { S.get n with con := true } rfl
  have ht : Tch (fun k => k = H.r) w5 (w5.setCell ⟨H.r, 2 + n * 10 + 1, none⟩ (.bool true)) := Tch.setCell (P := fun k => k = H.r) (Tch.refl _ _) (p := ⟨H.r, 2 + n * 10 + 1, none⟩) (.inl rfl) _
  exact MPost.turn HR.out HB.out (HR5.out.turn ht hb2 rfl rfl rfl (put_keeps S H8.out hn _ ⟨rfl, rfl, rfl⟩)) ht _
 | some c =>
  have hcc := ho c rfl
  have henv := hR5.env
  obtain ⟨gg, hg1, hg2, hg3⟩ := hr
  cases hg2
  have HJ2 := Lib.hid hj
  have HR5 := Lib.hid hR5
  have HB := Lib.hid hB
  have her := errno_ref w5 henv gg n c hcc.1 hcc.2 hg3
  have HER := Lib.hid her
  clear ho hj hR5 hB henv hg3 her c1 c2 c3
  go_wp2_with (go_at_call 64; (with_reducible refine HER.out.mono ?_); rintro e w6 ⟨rfl, hb6⟩)
  go_ret
  rw [HJ2.out]
  exact MPost.same HR.out (HB.out.trans (hb6.mono HB.out.size)) _
end Go.Proofs.YtehnkebcbomidaaGreatDoor.Rt
