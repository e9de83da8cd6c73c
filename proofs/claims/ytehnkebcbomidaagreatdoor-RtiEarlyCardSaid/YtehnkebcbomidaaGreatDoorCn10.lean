/- Part of a proof over the given program: Qr1, Qr2, Qc, Sk, Qu. -/
import Derived.Test.YtehnkebcbomidaaGreatDoorCn09
import Derived.BigRegion
import Derived.StillTailTactics
set_option linter.unusedVariables false
set_option linter.unusedSimpArgs false
namespace Go.Proofs.YtehnkebcbomidaaGreatDoor.Rt
open Go Go.RowKit Go.Proofs Go.Proofs.YtehnkebcbomidaaGreatDoorW.PrintWords Go.Proofs.YtehnkebcbomidaaGreatDoorW.PrintLast
noncomputable def swapR1 : Code := match Tryz.f330.body with
 | some (.seq _ (.seq c _)) => c
 | _ => .skip
noncomputable def swapR2 : Code := match Tryz.f330.body with
 | some (.seq _ (.seq _ c)) => c
 | _ => .skip
set_option maxHeartbeats 16000000 in
set_option maxRecDepth 1000000 in
theorem swap_r1 (Q : Exit → Act → World → Prop) (W : World) (x0 : Value) (q bx g c n i k n6 : Nat) (ci cj : List Value) (hlen : n ≤ 64) (hc : n ≤ c) (hi : i < n) (hk : k < n) (hqg : q ≠ g) (hbg : bx ≠ g)
  (b0 : W.cell? ⟨bx, 0, none⟩ = some (.pointer (some ⟨q, 0, none⟩))) (c1' : W.cell? ⟨q, 1, none⟩ = some (.slice (some ⟨g, 0, none⟩) n c)) (hf : ∀ n, W.frozen? ⟨g, n, none⟩ = false) (hn6 : n6 = 6)
  (ri : ∀ j v, ci[j]? = some v → W.cell? ⟨g, i * n6 + j, none⟩ = some v) (rk : ∀ j v, cj[j]? = some v → W.cell? ⟨g, k * n6 + j, none⟩ = some v) (o1 : ∀ v ∈ ci, v.oneCell' = true) (o2 : ∀ v ∈ cj, v.oneCell' = true) (hli : ci.length = n6) (hlj : cj.length = n6)
  (hP : ∀ c a w d v, Q (.panic c) (Act.put a d v) w → Q (.panic c) a w) (hQ : ∀ y6 y7 y8 y9 y10 y11 y12 y13 y14 y15 y16 y17 y18 y19 y20 y21 y22 y23 y24 y25 y26 y27 y28 y29 y30 y31 y32 y33 y34 y35 : Value, Q .normal ⟨#[x0, .int .i64 i, .int .i64 k, .pointer (some ⟨bx, 0, none⟩), undef, undef, y6, y7, y8, y9, y10, y11, y12, y13, y14, y15, y16, y17, y18, y19, y20, y21, y22, y23, y24, y25, y26, y27, y28, y29, y30, y31, y32, y33, y34, y35, undef, undef, undef, undef, undef, undef, undef, undef, undef, undef, undef, undef, undef, undef, undef, undef, undef, undef, undef, undef, undef, undef, undef, undef, undef, undef, undef, undef, undef, undef, undef, undef, undef, undef], []⟩ ((W.drew.setCells g (i * n6) cj).setCells g (k * n6) ci)) :
  Code.wp Tryz.prog swapR1 Q ⟨#[x0, .int .i64 i, .int .i64 k, .pointer (some ⟨bx, 0, none⟩), undef, undef, undef, undef, undef, undef, undef, undef, undef, undef, undef, undef, undef, undef, undef, undef, undef, undef, undef, undef, undef, undef, undef, undef, undef, undef, undef, undef, undef, undef, undef, undef, undef, undef, undef, undef, undef, undef, undef, undef, undef, undef, undef, undef, undef, undef, undef, undef, undef, undef, undef, undef, undef, undef, undef, undef, undef, undef, undef, undef, undef, undef, undef, undef, undef, undef], []⟩ W := by
 have hu192 := Tryz.underlying192
 have hu200 := Tryz.underlying200
 have hu29 := Tryz.underlying29
 have hmix : Tryz.prog.follows .mixedOrders = true := by kernel_rfl
 have aE := agg41
 have zE : ∀ w, (Go.sizeOf 41).run Tryz.prog w = .ok n6 w := fun w => by rw [hn6]; exact size41 w
 have li := ldC W.drew g (i * n6) n6 ci hli ri
 have lk := ldC W.drew g (k * n6) n6 cj hlj rk
 have tI : ∀ j, j < cj.length → (W.drew.cell? ⟨g, i * n6 + j, none⟩).isSome = true ∧ W.drew.frozen? ⟨g, i * n6 + j, none⟩ = false := fun j hj => by
  have hj' : j < ci.length := by omega
  have e := ri j _ (List.getElem?_eq_getElem hj')
  exact ⟨by show (W.cell? _).isSome = true; rw [e]; rfl, hf _⟩
 have s1 := stC W.drew g (i * n6) cj tI o2
 have tK : ∀ j, j < ci.length → ((W.drew.setCells g (i * n6) cj).cell? ⟨g, k * n6 + j, none⟩).isSome = true ∧ (W.drew.setCells g (i * n6) cj).frozen? ⟨g, k * n6 + j, none⟩ = false := fun j hj => by
  have hj' : j < cj.length := by omega
  have e := rk j _ (List.getElem?_eq_getElem hj')
  refine ⟨World.isSome_setCells g cj (i * n6) W.drew _ ?_, ?_⟩
  ·show (W.cell? _).isSome = true; rw [e]; rfl
  ·rw [World.frozen?_setCells]; exact hf _
 have s2 := stC (W.drew.setCells g (i * n6) cj) g (k * n6) ci tK o1
 have HN6 := Lib.hid hn6
 have HQQ := Lib.hid hQ
 clear hn6 tI tK o1 o2 hf hQ li lk
 show Code.wp Tryz.prog (match Tryz.f330.body with
  | some (.seq _ (.seq c _)) => c
  | _ => .skip) Q _ W
 simp only [Tryz.f330]
 refine st_ (n := 32) (S := fun w' => w'.cell? ⟨bx, 0, none⟩ = some (.pointer (some ⟨q, 0, none⟩)) ∧ w'.cell? ⟨q, 1, none⟩ = some (.slice (some ⟨g, 0, none⟩) n c) ∧ (∀ j v, ci[j]? = some v → w'.cell? ⟨g, i * n6 + j, none⟩ = some v) ∧ (∀ j v, cj[j]? = some v → w'.cell? ⟨g, k * n6 + j, none⟩ = some v)) (ds := [29, 31]) hmix rfl ⟨b0, c1', ri, rk⟩ (fun hHeld => ?_)
 clear ri rk
 refine pu_ (i := 0) (N := (some 6)) (v := ?_) (a' := ?_) rfl rfl (by kernel_rfl) (fun _ _ _ => hP _ _ _ _ _) (Or.inl ⟨by rfl, ?_⟩) ?_ ?_
 rotate_left
 ·intro w'
  go_simp
  with_reducible rfl
 rotate_left
 ·simp only [Act.put, qa, qb, qc]
  rfl
 refine tk_ (i := 1) (N := (some 7)) (v := ?_) (a' := ?_) rfl rfl (by kernel_rfl) (fun _ _ _ => hP _ _ _ _ _) (Or.inl ⟨by rfl, ?_⟩) hHeld ?_ ?_
 rotate_left
 ·intro w' hS_
  obtain ⟨z0, z1, z2, z3⟩ := hS_
  clear z2 z3
  go_simp
  with_reducible rfl
 rotate_left
 ·simp only [Act.put, qa, qb, qc]
  rfl
 refine pu_ (i := 2) (N := (some 8)) (v := ?_) (a' := ?_) rfl rfl (by kernel_rfl) (fun _ _ _ => hP _ _ _ _ _) (Or.inl ⟨by rfl, ?_⟩) ?_ ?_
 rotate_left
 ·intro w'
  go_simp
  with_reducible rfl
 rotate_left
 ·simp only [Act.put, qa, qb, qc]
  rfl
 refine pu_ (i := 3) (N := (some 9)) (v := ?_) (a' := ?_) rfl rfl (by kernel_rfl) (fun _ _ _ => hP _ _ _ _ _) (Or.inl ⟨by rfl, ?_⟩) ?_ ?_
 rotate_left
 ·intro w'
  go_simp
  with_reducible rfl
 rotate_left
 ·simp only [Act.put, qa, qb, qc]
  rfl
 refine tk_ (i := 4) (N := (some 10)) (v := ?_) (a' := ?_) rfl rfl (by kernel_rfl) (fun _ _ _ => hP _ _ _ _ _) (Or.inl ⟨by rfl, ?_⟩) hHeld ?_ ?_
 rotate_left
 ·intro w' hS_
  obtain ⟨z0, z1, z2, z3⟩ := hS_
  clear z2 z3
  go_simp
  with_reducible rfl
 rotate_left
 ·simp only [Act.put, qa, qb, qc]
  rfl
 refine pu_ (i := 5) (N := (some 11)) (v := ?_) (a' := ?_) rfl rfl (by kernel_rfl) (fun _ _ _ => hP _ _ _ _ _) (Or.inl ⟨by rfl, ?_⟩) ?_ ?_
 rotate_left
 ·intro w'
  go_simp
  with_reducible rfl
 rotate_left
 ·simp only [Act.put, qa, qb, qc]
  rfl
 refine pu_ (i := 6) (N := (some 12)) (v := ?_) (a' := ?_) rfl rfl (by kernel_rfl) (fun _ _ _ => hP _ _ _ _ _) (Or.inl ⟨by rfl, ?_⟩) ?_ ?_
 rotate_left
 ·intro w'
  go_simp
  with_reducible rfl
 rotate_left
 ·simp only [Act.put, qa, qb, qc]
  rfl
 refine tk_ (i := 7) (N := (some 13)) (v := ?_) (a' := ?_) rfl rfl (by kernel_rfl) (fun _ _ _ => hP _ _ _ _ _) (Or.inl ⟨by rfl, ?_⟩) hHeld ?_ ?_
 rotate_left
 ·intro w' hS_
  obtain ⟨z0, z1, z2, z3⟩ := hS_
  clear z2 z3
  go_simp
  with_reducible rfl
 rotate_left
 ·simp only [Act.put, qa, qb, qc]
  rfl
 refine pu_ (i := 8) (N := (some 14)) (v := ?_) (a' := ?_) rfl rfl (by kernel_rfl) (fun _ _ _ => hP _ _ _ _ _) (Or.inl ⟨by rfl, ?_⟩) ?_ ?_
 rotate_left
 ·intro w'
  go_simp
  with_reducible rfl
 rotate_left
 ·simp only [Act.put, qa, qb, qc]
  rfl
 refine pu_ (i := 9) (N := (some 15)) (v := ?_) (a' := ?_) rfl rfl (by kernel_rfl) (fun _ _ _ => hP _ _ _ _ _) (Or.inl ⟨by rfl, ?_⟩) ?_ ?_
 rotate_left
 ·intro w'
  go_simp
  with_reducible rfl
 rotate_left
 ·simp only [Act.put, qa, qb, qc]
  rfl
 refine tk_ (i := 10) (N := (some 16)) (v := ?_) (a' := ?_) rfl rfl (by kernel_rfl) (fun _ _ _ => hP _ _ _ _ _) (Or.inl ⟨by rfl, ?_⟩) hHeld ?_ ?_
 rotate_left
 ·intro w' hS_
  obtain ⟨z0, z1, z2, z3⟩ := hS_
  clear z2 z3
  go_simp
  with_reducible rfl
 rotate_left
 ·simp only [Act.put, qa, qb, qc]
  rfl
 refine pu_ (i := 11) (N := (some 17)) (v := ?_) (a' := ?_) rfl rfl (by kernel_rfl) (fun _ _ _ => hP _ _ _ _ _) (Or.inl ⟨by rfl, ?_⟩) ?_ ?_
 rotate_left
 ·intro w'
  go_simp
  with_reducible rfl
 rotate_left
 ·simp only [Act.put, qa, qb, qc]
  rfl
 refine pu_ (i := 12) (N := (some 18)) (v := ?_) (a' := ?_) rfl rfl (by kernel_rfl) (fun _ _ _ => hP _ _ _ _ _) (Or.inl ⟨by rfl, ?_⟩) ?_ ?_
 rotate_left
 ·intro w'
  go_simp
  with_reducible rfl
 rotate_left
 ·simp only [Act.put, qa, qb, qc]
  rfl
 refine tk_ (i := 13) (N := (some 19)) (v := ?_) (a' := ?_) rfl rfl (by kernel_rfl) (fun _ _ _ => hP _ _ _ _ _) (Or.inl ⟨by rfl, ?_⟩) hHeld ?_ ?_
 rotate_left
 ·intro w' hS_
  obtain ⟨z0, z1, z2, z3⟩ := hS_
  clear z2 z3
  go_simp
  with_reducible rfl
 rotate_left
 ·simp only [Act.put, qa, qb, qc]
  rfl
 refine pu_ (i := 14) (N := (some 20)) (v := ?_) (a' := ?_) rfl rfl (by kernel_rfl) (fun _ _ _ => hP _ _ _ _ _) (Or.inl ⟨by rfl, ?_⟩) ?_ ?_
 rotate_left
 ·intro w'
  go_simp
  with_reducible rfl
 rotate_left
 ·simp only [Act.put, qa, qb, qc]
  rfl
 refine pu_ (i := 15) (N := (some 21)) (v := ?_) (a' := ?_) rfl rfl (by kernel_rfl) (fun _ _ _ => hP _ _ _ _ _) (Or.inl ⟨by rfl, ?_⟩) ?_ ?_
 rotate_left
 ·intro w'
  go_simp
  with_reducible rfl
 rotate_left
 ·simp only [Act.put, qa, qb, qc]
  rfl
 refine tk_ (i := 16) (N := (some 22)) (v := ?_) (a' := ?_) rfl rfl (by kernel_rfl) (fun _ _ _ => hP _ _ _ _ _) (Or.inl ⟨by rfl, ?_⟩) hHeld ?_ ?_
 rotate_left
 ·intro w' hS_
  obtain ⟨z0, z1, z2, z3⟩ := hS_
  clear z2 z3
  go_simp
  with_reducible rfl
 rotate_left
 ·simp only [Act.put, qa, qb, qc]
  rfl
 refine pu_ (i := 17) (N := (some 23)) (v := ?_) (a' := ?_) rfl rfl (by kernel_rfl) (fun _ _ _ => hP _ _ _ _ _) (Or.inl ⟨by rfl, ?_⟩) ?_ ?_
 rotate_left
 ·intro w'
  go_simp
  with_reducible rfl
 rotate_left
 ·simp only [Act.put, qa, qb, qc]
  rfl
 refine pu_ (i := 18) (N := (some 24)) (v := ?_) (a' := ?_) rfl rfl (by kernel_rfl) (fun _ _ _ => hP _ _ _ _ _) (Or.inl ⟨by rfl, ?_⟩) ?_ ?_
 rotate_left
 ·intro w'
  go_simp
  with_reducible rfl
 rotate_left
 ·simp only [Act.put, qa, qb, qc]
  rfl
 refine tk_ (i := 19) (N := (some 25)) (v := ?_) (a' := ?_) rfl rfl (by kernel_rfl) (fun _ _ _ => hP _ _ _ _ _) (Or.inl ⟨by rfl, ?_⟩) hHeld ?_ ?_
 rotate_left
 ·intro w' hS_
  obtain ⟨z0, z1, z2, z3⟩ := hS_
  have l1 := ldC w' g (k * n6) n6 cj hlj z3
  clear z2 z3
  go_simp
  with_reducible rfl
 rotate_left
 ·simp only [Act.put, qa, qb, qc]
  rfl
 refine pu_ (i := 20) (N := (some 26)) (v := ?_) (a' := ?_) rfl rfl (by kernel_rfl) (fun _ _ _ => hP _ _ _ _ _) (Or.inl ⟨by rfl, ?_⟩) ?_ ?_
 rotate_left
 ·intro w'
  go_simp
  with_reducible rfl
 rotate_left
 ·simp only [Act.put, qa, qb, qc]
  rfl
 refine tk_ (i := 21) (N := (some 27)) (v := ?_) (a' := ?_) rfl rfl (by kernel_rfl) (fun _ _ _ => hP _ _ _ _ _) (Or.inl ⟨by rfl, ?_⟩) hHeld ?_ ?_
 rotate_left
 ·intro w' hS_
  obtain ⟨z0, z1, z2, z3⟩ := hS_
  clear z2 z3
  go_simp
  with_reducible rfl
 rotate_left
 ·simp only [Act.put, qa, qb, qc]
  rfl
 refine pu_ (i := 22) (N := (some 28)) (v := ?_) (a' := ?_) rfl rfl (by kernel_rfl) (fun _ _ _ => hP _ _ _ _ _) (Or.inl ⟨by rfl, ?_⟩) ?_ ?_
 rotate_left
 ·intro w'
  go_simp
  with_reducible rfl
 rotate_left
 ·simp only [Act.put, qa, qb, qc]
  rfl
 refine pu_ (i := 23) (N := (some 29)) (v := ?_) (a' := ?_) rfl rfl (by kernel_rfl) (fun _ _ _ => hP _ _ _ _ _) (Or.inl ⟨by rfl, ?_⟩) ?_ ?_
 rotate_left
 ·intro w'
  go_simp
  with_reducible rfl
 rotate_left
 ·simp only [Act.put, qa, qb, qc]
  rfl
 refine tk_ (i := 24) (N := (some 30)) (v := ?_) (a' := ?_) rfl rfl (by kernel_rfl) (fun _ _ _ => hP _ _ _ _ _) (Or.inl ⟨by rfl, ?_⟩) hHeld ?_ ?_
 rotate_left
 ·intro w' hS_
  obtain ⟨z0, z1, z2, z3⟩ := hS_
  clear z2 z3
  go_simp
  with_reducible rfl
 rotate_left
 ·simp only [Act.put, qa, qb, qc]
  rfl
 refine pu_ (i := 25) (N := (some 31)) (v := ?_) (a' := ?_) rfl rfl (by kernel_rfl) (fun _ _ _ => hP _ _ _ _ _) (Or.inl ⟨by rfl, ?_⟩) ?_ ?_
 rotate_left
 ·intro w'
  go_simp
  with_reducible rfl
 rotate_left
 ·simp only [Act.put, qa, qb, qc]
  rfl
 refine pu_ (i := 26) (N := (some 32)) (v := ?_) (a' := ?_) rfl rfl (by kernel_rfl) (fun _ _ _ => hP _ _ _ _ _) (Or.inl ⟨by rfl, ?_⟩) ?_ ?_
 rotate_left
 ·intro w'
  go_simp
  with_reducible rfl
 rotate_left
 ·simp only [Act.put, qa, qb, qc]
  rfl
 refine tk_ (i := 27) (N := (some 33)) (v := ?_) (a' := ?_) rfl rfl (by kernel_rfl) (fun _ _ _ => hP _ _ _ _ _) (Or.inl ⟨by rfl, ?_⟩) hHeld ?_ ?_
 rotate_left
 ·intro w' hS_
  obtain ⟨z0, z1, z2, z3⟩ := hS_
  have l1 := ldC w' g (i * n6) n6 ci hli z2
  clear z2 z3
  go_simp
  with_reducible rfl
 rotate_left
 ·simp only [Act.put, qa, qb, qc]
  rfl
 refine pu_ (i := 28) (N := (some 34)) (v := ?_) (a' := ?_) rfl rfl (by kernel_rfl) (fun _ _ _ => hP _ _ _ _ _) (Or.inl ⟨by rfl, ?_⟩) ?_ ?_
 rotate_left
 ·intro w'
  go_simp
  with_reducible rfl
 rotate_left
 ·simp only [Act.put, qa, qb, qc]
  rfl
 refine la_ (i := 29) (N := none) rfl rfl (by kernel_rfl) (by decide) (fun K hK => ?_)
 refine skip_ (w1 := (W.drew.setCells g (i * n6) cj)) (by rfl) rfl (by go_simp) ?_
 refine hK.out _ _ ?_
 clear hK K
 clear hHeld
 refine pu_ (i := 30) (N := (some 35)) (v := ?_) (a' := ?_) rfl rfl (by kernel_rfl) (fun _ _ _ => hP _ _ _ _ _) (Or.inl ⟨by rfl, ?_⟩) ?_ ?_
 rotate_left
 ·intro w'
  go_simp
  with_reducible rfl
 rotate_left
 ·simp only [Act.put, qa, qb, qc]
  rfl
 refine la_ (i := 31) (N := none) rfl rfl (by kernel_rfl) (by decide) (fun K hK => ?_)
 refine skip_ (w1 := ((W.drew.setCells g (i * n6) cj).setCells g (k * n6) ci)) (by rfl) rfl (by go_simp) ?_
 refine hK.out _ _ ?_
 clear hK K
 refine done_ (by kernel_rfl) ?_
 exact HQQ.out _ _ _ _ _ _ _ _ _ _ _ _ _ _ _ _ _ _ _ _ _ _ _ _ _ _ _ _ _ _
set_option maxHeartbeats 16000000 in
set_option maxRecDepth 1000000 in
theorem swap_r2 (Q : Exit → Act → World → Prop) (V U1 U2 U3 U4 : World) (x0 : Value) (q b bx g c n i k t1 t2 : Nat) (v1 v2 : Value) (ka kb : Ky) (y6 y7 y8 y9 y10 y11 y12 y13 y14 y15 y16 y17 y18 y19 y20 y21 y22 y23 y24 y25 y26 y27 y28 y29 y30 y31 y32 y33 y34 y35 : Value) (hlen : n ≤ 64) (hc : n ≤ c) (hi : i < n) (hk : k < n) (hqb : q ≠ b) (hgb : g ≠ b) (hbb : bx ≠ b)
  (hV0 : V.cell? ⟨bx, 0, none⟩ = some (.pointer (some ⟨q, 0, none⟩))) (hV1 : V.cell? ⟨q, 1, none⟩ = some (.slice (some ⟨g, 0, none⟩) n c)) (hV2 : V.cell? ⟨q, 2, none⟩ = some (.map (some b)))
  (i0 : V.cell? ⟨g, i * 6, none⟩ = some (.int .i64 kb.t)) (i1 : V.cell? ⟨g, i * 6 + 1, none⟩ = some (.int .i64 kb.f)) (i2 : V.cell? ⟨g, i * 6 + 2, none⟩ = some (.int .i64 kb.s))
  (k0 : V.cell? ⟨g, k * 6, none⟩ = some (.int .i64 ka.t)) (k1 : V.cell? ⟨g, k * 6 + 1, none⟩ = some (.int .i64 ka.f)) (k2 : V.cell? ⟨g, k * 6 + 2, none⟩ = some (.int .i64 ka.s))
  (r1 : (Instr.mapEntry 190 (.map (some b)) (.agg #[.int .i64 kb.t, .int .i64 kb.f, .int .i64 kb.s])).run Tryz.prog V.drew = .ok (.tuple #[v1, .int .i64 (t1 : Int)]) U1) (r2 : (Instr.entryStore 190 (.map (some b)) (.int .i64 (t1 : Int)) (.int .i64 (i : Int))).run Tryz.prog U1 = .ok () U2)
  (r3 : (Instr.mapEntry 190 (.map (some b)) (.agg #[.int .i64 ka.t, .int .i64 ka.f, .int .i64 ka.s])).run Tryz.prog U2 = .ok (.tuple #[v2, .int .i64 (t2 : Int)]) U3) (r4 : (Instr.entryStore 190 (.map (some b)) (.int .i64 (t2 : Int)) (.int .i64 (k : Int))).run Tryz.prog U3 = .ok () U4)
  (b1 : Tb b V.drew U1) (b2 : Tb b V.drew U2) (b3 : Tb b U2 U3) (b4 : Tb b U2 U4)
  (hQ : ∀ a : Act, a.defers = [] → Q .normal a U4) :
  Code.wp Tryz.prog swapR2 Q ⟨#[x0, .int .i64 i, .int .i64 k, .pointer (some ⟨bx, 0, none⟩), undef, undef, y6, y7, y8, y9, y10, y11, y12, y13, y14, y15, y16, y17, y18, y19, y20, y21, y22, y23, y24, y25, y26, y27, y28, y29, y30, y31, y32, y33, y34, y35, undef, undef, undef, undef, undef, undef, undef, undef, undef, undef, undef, undef, undef, undef, undef, undef, undef, undef, undef, undef, undef, undef, undef, undef, undef, undef, undef, undef, undef, undef, undef, undef, undef, undef], []⟩ V := by
 have hu192 := Tryz.underlying192
 have hu200 := Tryz.underlying200
 have hu29 := Tryz.underlying29
 have hu41 := Tryz.underlying41
 have hu39 := Tryz.underlying39
 have hmix : Tryz.prog.follows .mixedOrders = true := by kernel_rfl
 have f1 := fun (p : Addr) (u : Value) (hp : p.block ≠ b) (hc : V.cell? p = some u) => (b1.cell hp).trans (show V.drew.cell? p = some u from hc)
 have f2 := fun (p : Addr) (u : Value) (hp : p.block ≠ b) (hc : V.cell? p = some u) => (b2.cell hp).trans (show V.drew.cell? p = some u from hc)
 have f4 := fun (p : Addr) (u : Value) (hp : p.block ≠ b) (hc : V.cell? p = some u) => (b4.cell hp).trans ((b2.cell hp).trans (show V.drew.cell? p = some u from hc))
 have f3 := fun (p : Addr) (u : Value) (hp : p.block ≠ b) (hc : V.cell? p = some u) => (b3.cell hp).trans (f2 p u hp hc)
 have hV0a := f1 _ _ hbb hV0
 have hV1a := f1 _ _ hqb hV1
 have hV2a := f1 _ _ hqb hV2
 have i0a := f1 _ _ hgb i0
 have i1a := f1 _ _ hgb i1
 have i2a := f1 _ _ hgb i2
 have k0a := f1 _ _ hgb k0
 have k1a := f1 _ _ hgb k1
 have k2a := f1 _ _ hgb k2
 have hV0b := f2 _ _ hbb hV0
 have hV1b := f2 _ _ hqb hV1
 have hV2b := f2 _ _ hqb hV2
 have i0b := f2 _ _ hgb i0
 have i1b := f2 _ _ hgb i1
 have i2b := f2 _ _ hgb i2
 have k0b := f2 _ _ hgb k0
 have k1b := f2 _ _ hgb k1
 have k2b := f2 _ _ hgb k2
 have hV0c := f3 _ _ hbb hV0
 have hV1c := f3 _ _ hqb hV1
 have hV2c := f3 _ _ hqb hV2
 have i0c := f3 _ _ hgb i0
 have i1c := f3 _ _ hgb i1
 have i2c := f3 _ _ hgb i2
 have k0c := f3 _ _ hgb k0
 have k1c := f3 _ _ hgb k1
 have k2c := f3 _ _ hgb k2
 have hV0d := f4 _ _ hbb hV0
 have hV1d := f4 _ _ hqb hV1
 have hV2d := f4 _ _ hqb hV2
 have i0d := f4 _ _ hgb i0
 have i1d := f4 _ _ hgb i1
 have i2d := f4 _ _ hgb i2
 have k0d := f4 _ _ hgb k0
 have k1d := f4 _ _ hgb k1
 have k2d := f4 _ _ hgb k2
 have HQQ := Lib.hid hQ
 clear b1 b2 b3 b4 f1 f2 f3 f4 hQ
 show Code.wp Tryz.prog (match Tryz.f330.body with
  | some (.seq _ (.seq _ c)) => c
  | _ => .skip) Q _ V
 simp only [Tryz.f330]
 go_region_held3 (fun w' => w'.cell? ⟨bx, 0, none⟩ = some (.pointer (some ⟨q, 0, none⟩)) ∧ w'.cell? ⟨q, 1, none⟩ = some (.slice (some ⟨g, 0, none⟩) n c) ∧ w'.cell? ⟨q, 2, none⟩ = some (.map (some b)) ∧ w'.cell? ⟨g, i * 6, none⟩ = some (.int .i64 kb.t) ∧ w'.cell? ⟨g, i * 6 + 1, none⟩ = some (.int .i64 kb.f) ∧ w'.cell? ⟨g, i * 6 + 2, none⟩ = some (.int .i64 kb.s) ∧ w'.cell? ⟨g, k * 6, none⟩ = some (.int .i64 ka.t) ∧ w'.cell? ⟨g, k * 6 + 1, none⟩ = some (.int .i64 ka.f) ∧ w'.cell? ⟨g, k * 6 + 2, none⟩ = some (.int .i64 ka.s))
  ((go_split_ands; refine ⟨?_, ?_, ?_, ?_, ?_, ?_, ?_, ?_, ?_⟩ <;> assumption))
  (fail)
 all_goals exact HQQ.out _ rfl
def SwapPost (w : World) (q b : Nat) (v : Value) (L : List Mg) (i k : Nat) (e : Ending) (w' : World) : Prop := e = .returned (.tuple #[]) ∧ QAt w' q b v (sw L i k) ∧ Tch (QFp q b v) w w'
set_option maxHeartbeats 16000000 in
set_option maxRecDepth 1000000 in
theorem fswap_call (w : World) (q b : Nat) (v : Value) (L : List Mg) (h : QAt w q b v L) (i k : Nat) (hi : i < L.length) (hk : k < L.length) :
  Calls Tryz.prog 330 #[fac q, .int .i64 i, .int .i64 k] w (SwapPost w q b v L i k) := by
 have hu192 := Tryz.underlying192
 have hu200 := Tryz.underlying200
 have hu29 := Tryz.underlying29
 obtain ⟨c0, c1, c2⟩ := h.cells
 obtain ⟨g, c, rfl, hc, hat⟩ := h.at hi
 have hql := World.block_lt_of_cell? w _ c1
 have hgl : g < w.heap.size := by obtain ⟨cur, e⟩ := h.row_blk; exact (Array.getElem?_eq_some_iff.1 e).1
 have hbl : b < w.heap.size := by obtain ⟨D, ⟨es, clock, h1, _⟩, _⟩ := h.map; exact (Array.getElem?_eq_some_iff.1 h1).1
 have hqb : q ≠ b := h.not_map h.blk
 have hgb : g ≠ b := by obtain ⟨cur, e⟩ := h.row_blk; exact h.not_map e
 have hlen := h.len
 have HQ := Lib.hid h
 clear h
 unfold fac
 go_enter Tryz.func330, Tryz.ntmps330
 have hmix : Tryz.prog.follows .mixedOrders = true := by kernel_rfl
 go_wp2
 obtain ⟨W, hW⟩ : ∃ W1, W1 = w.alloc (Obj.cells #[Value.pointer (some ⟨q, 0, none⟩)] 200) := ⟨_, rfl⟩
 rw [← hW]
 obtain ⟨bx, hbx⟩ : ∃ bx, bx = w.heap.size := ⟨_, rfl⟩
 rw [← hbx]
 have hB1 : Below w.heap.size w W := by rw [hW]; exact (Below.refl _ _).alloc (Nat.le_refl _) _
 have b0 : W.cell? ⟨bx, 0, none⟩ = some (.pointer (some ⟨q, 0, none⟩)) := by rw [hW, hbx]; rw [World.cell?, heap_alloc_new]; rfl
 have c1' := pw_cell_below hB1 c1
 have c2' := pw_cell_below hB1 c2
 have hqg : q ≠ g := by
  intro e
  subst e
  have e1 := HQ.out.blk
  obtain ⟨cur, e3⟩ := HQ.out.row_blk
  rw [e1] at e3
  cases e3
 have hbg : bx ≠ g := by omega
 have hbb : bx ≠ b := by omega
 have hf : ∀ n, W.frozen? ⟨g, n, none⟩ = false := by
  intro n
  obtain ⟨cur, e⟩ := HQ.out.row_blk
  have e2 := (hB1.block g hgl).trans e
  simp [World.frozen?, e2]
 obtain ⟨n6, hn6⟩ : ∃ n6, n6 = 6 := ⟨_, rfl⟩
 obtain ⟨ci, hci⟩ : ∃ ci, ci = L[i].cells := ⟨_, rfl⟩
 obtain ⟨cj, hcj⟩ : ∃ cj, cj = L[k].cells := ⟨_, rfl⟩
 have ri : ∀ j v, ci[j]? = some v → W.cell? ⟨g, i * n6 + j, none⟩ = some v := fun j v hv => by
  rw [hci] at hv
  have hj : j < 6 := (List.getElem?_eq_some_iff.1 hv).1
  rw [hn6]
  exact pw_cell_below hB1 ((hat i hi j hj).trans hv)
 have rk : ∀ j v, cj[j]? = some v → W.cell? ⟨g, k * n6 + j, none⟩ = some v := fun j v hv => by
  rw [hcj] at hv
  have hj : j < 6 := (List.getElem?_eq_some_iff.1 hv).1
  rw [hn6]
  exact pw_cell_below hB1 ((hat k hk j hj).trans hv)
 have o1 : ∀ v ∈ ci, v.oneCell' = true := by rw [hci]; exact mcells_one L[i]
 have o2 : ∀ v ∈ cj, v.oneCell' = true := by rw [hcj]; exact mcells_one L[k]
 have hli : ci.length = n6 := by rw [hn6, hci]; rfl
 have hlj : cj.length = n6 := by rw [hn6, hcj]; rfl
 refine swap_r1 _ W _ q bx g c L.length i k n6 ci cj hlen hc hi hk hqg hbg b0 c1' hf hn6 ri rk o1 o2 hli hlj (fun c a w d v h => by cases d <;> exact h) ?_
 intro y6 y7 y8 y9 y10 y11 y12 y13 y14 y15 y16 y17 y18 y19 y20 y21 y22 y23 y24 y25 y26 y27 y28 y29 y30 y31 y32 y33 y34 y35
 have HB1 := Lib.hid hB1
 have HW := Lib.hid hW
 have HBX := Lib.hid hbx
 obtain ⟨V, hV⟩ : ∃ V, V = (W.drew.setCells g (i * n6) cj).setCells g (k * n6) ci := ⟨_, rfl⟩
 rw [← hV]
 clear hbx hW hB1 ri rk o1 o2 hli hlj
 subst hn6 hci hcj
 have hTV : Tch (fun k => k = g) W V := by rw [hV]; exact Tch.setCells (P := fun k => k = g) (.inl rfl) _ _ _ (Tch.setCells (P := fun k => k = g) (.inl rfl) _ _ _ (Tch.refl _ _).drew)
 have hrow : V.ownsRow 0 41 6 (.slice (some ⟨g, 0, none⟩) L.length c) L.length (flatM (sw L i k)) := by
  rw [hV]
  exact row_sw (W := W.drew) (own_move HQ.out.row (fun k hk => HB1.out.block k (own_lt HQ.out.row k hk))) rfl i k hi hk
 have hmapV : MapIs V b L.length (idx L) := HQ.out.map.frame ((hTV.block b (by rw [HW.out]; simp; omega) (Ne.symm hgb)).trans (HB1.out.block b hbl))
 have hV0 : V.cell? ⟨bx, 0, none⟩ = some (.pointer (some ⟨q, 0, none⟩)) := hTV.cell b0 hbg
 have hV1 : V.cell? ⟨q, 1, none⟩ = some (.slice (some ⟨g, 0, none⟩) L.length c) := hTV.cell c1' hqg
 have hV2 : V.cell? ⟨q, 2, none⟩ = some (.map (some b)) := hTV.cell c2' hqg
 have hsl := sw_length L i k
 have hcell : ∀ (x : Nat) (hx : x < L.length) (j : Nat) (u : Value), j < 6 → ((sw L i k)[x]'(by omega)).cells[j]? = some u → V.cell? ⟨g, x * 6 + j, none⟩ = some u := fun x hx j u hj hu => by
  have hg := getM (L := sw L i k) (i := x) (by omega) j hj
  rw [hu] at hg
  have := hrow.cells (g := g) rfl (x * 6 + j) u hg
  rw [add_at] at this
  exact this
 have gD : ∀ x (hx : x < L.length), L.getD x mg0 = L[x] := fun x hx => by rw [List.getD_eq_getElem?_getD, List.getElem?_eq_getElem hx]; rfl
 have gS : ∀ x (hx : x < (sw L i k).length), (sw L i k).getD x mg0 = (sw L i k)[x] := fun x hx => by rw [List.getD_eq_getElem?_getD, List.getElem?_eq_getElem hx]; rfl
 have hsi : (sw L i k)[i]'(by omega) = L[k] := by
  rw [← gS i (by omega), sw_getD L i k i hi hk]
  split
  ·rename_i e; subst e; exact gD _ hi
  ·rw [if_pos rfl]; exact gD _ hk
 have hsk : (sw L i k)[k]'(by omega) = L[i] := by
  rw [← gS k (by omega), sw_getD L i k k hi hk, if_pos rfl]
  exact gD _ hi
 have ki := fun j u hj hu => hcell i hi j u hj (by rw [hsi]; exact hu)
 have kk := fun j u hj hu => hcell k hk j u hj (by rw [hsk]; exact hu)
 have oi := (HQ.out.ok L[i] (List.getElem_mem _)).1
 have ok := (HQ.out.ok L[k] (List.getElem_mem _)).1
 have i0 := ki 0 _ (by decide) rfl
 have i1 := ki 1 _ (by decide) rfl
 have i2 := ki 2 _ (by decide) rfl
 have k0 := kk 0 _ (by decide) rfl
 have k1 := kk 1 _ (by decide) rfl
 have k2 := kk 2 _ (by decide) rfl
 rw [Nat.add_zero] at i0 k0
 have hnd := HQ.out.nd
 have hidx := idx_sw hnd i k hi hk
 have hin1 := idx_some hnd i hi
 have hin2 := idx_some hnd k hk
 obtain ⟨v1, t1, U1, U2, r1, r2, _, b1, b2, m1⟩ := map_put (W := V.drew) hmapV (by omega) L[k].k ok i (i64_small i (by omega))
 rw [hin2] at m1
 simp only [Option.isSome_some, if_true] at m1
 obtain ⟨v2, t2, U3, U4, r3, r4, _, b3, b4, m2⟩ := map_put (W := U2) m1 (by omega) L[i].k oi k (i64_small k (by omega))
 have hin3 : (updF (idx L) L[k].k i L[i].k).isSome = true := by unfold updF; split <;> simp [hin1]
 rw [hin3] at m2
 simp only [if_true] at m2
 unfold Ky.val at r1 r3
 have M2 := Lib.hid m2
 have HIDX := Lib.hid hidx
 have HROW := Lib.hid hrow
 have HTV := Lib.hid hTV
 have HV := Lib.hid hV
 have B2 := Lib.hid b2
 have B4 := Lib.hid b4
 go_wp2
 refine swap_r2 _ V U1 U2 U3 U4 _ q b bx g c L.length i k t1 t2 v1 v2 L[i].k L[k].k _ _ _ _ _ _ _ _ _ _ _ _ _ _ _ _ _ _ _ _ _ _ _ _ _ _ _ _ _ _ hlen hc hi hk hqb hgb hbb hV0 hV1 hV2 i0 i1 i2 k0 k1 k2 r1 r2 r3 r4 b1 b2 b3 b4 ?_
 intro a' ha'
 refine bodyPost_end (results_none rfl _ _ _) ha' ?_
 refine ⟨rfl, ?_, ?_⟩
 ·have hU : ∀ x, x ≠ b → U4.heap[x]? = V.heap[x]? := fun x hx => (B4.out.other hx).trans (B2.out.other hx)
  refine ⟨?_, ?_, ?_, ?_, ?_, ?_⟩
  ·exact (hU q hqb).trans ((HTV.out.block q (by have := HB1.out.size; omega) hqg).trans ((HB1.out.block q hql).trans HQ.out.blk))
  ·rw [sw_length]
   refine own_move (w := V) HROW.out (fun x hx => hU x ?_)
   have : x = g := by simpa [Value.ownBlock] using hx.symm
   rw [this]; exact hgb
  ·rw [sw_length]
   exact M2.out.congr (fun x => (HIDX.out x).symm)
  ·intro m hm
   exact HQ.out.ok m ((sw_perm L i k hi hk).mem_iff.1 hm)
  ·exact ((sw_perm L i k hi hk).map Mg.k).nodup_iff.2 HQ.out.nd
  ·rw [sw_length]; exact HQ.out.len
 ·have h1 : Tch (QFp q b (.slice (some ⟨g, 0, none⟩) L.length c)) w V := (Tch.of_below HB1.out).trans HTV.out (fun x _ e => .inr (.inr (by rw [e]; rfl)))
  exact (h1.trans (Q := QFp q b (.slice (some ⟨g, 0, none⟩) L.length c)) ((Tch.refl _ V).drew.trans (B2.out.tch (P := QFp q b (.slice (some ⟨g, 0, none⟩) L.length c)) (.inr (.inl rfl))) (fun _ _ e => e)) (fun _ _ e => e)).trans (B4.out.tch (P := QFp q b (.slice (some ⟨g, 0, none⟩) L.length c)) (.inr (.inl rfl))) (fun _ _ e => e)
end Go.Proofs.YtehnkebcbomidaaGreatDoor.Rt
namespace Go.Proofs.YtehnkebcbomidaaGreatDoor.Rt
open Go
theorem still_tail {P : Program} {id : Nat} {Q : Exit → Act → World → Prop} {a : Act} {w : World} {l : List Oper} (n : Nat) (hm : P.follows .mixedOrders = true) (hB : Region.lexTailB .any l.toArray n = true)
  (h : wpStill P l.toArray w.drew (fun a' => wpList P l.toArray Q (l.drop n) a' w.drew) (l.take n) a) : (Code.region id l.toArray true).wp P Q a w :=
 wp_region_still_tail n hm hB h
end Go.Proofs.YtehnkebcbomidaaGreatDoor.Rt
namespace Go.Proofs.YtehnkebcbomidaaGreatDoor.Rt
open Go Go.RowKit Go.Proofs Go.Proofs.YtehnkebcbomidaaGreatDoorW.PrintWords Go.Proofs.YtehnkebcbomidaaGreatDoorW.PrintLast
theorem K_at {L : List Mg} {i : Nat} (h : i < L.length) : K L i = L[i].k := by unfold K; simp [List.getD_eq_getElem?_getD, List.getElem?_eq_getElem h]
theorem less_any (w : World) (q b : Nat) (v : Value) (L : List Mg) (h : QAt w q b v L) (x y : Int) (i k : Nat) (hx : x = i) (hy : y = k) (hi : i < L.length) (hk : k < L.length) (r : Bool) (hr : decide ((K L i).lt (K L k)) = r) :
  Calls Tryz.prog 327 #[.agg #[.pointer (some ⟨q, 0, none⟩)], .int .i64 x, .int .i64 y] w fun e w' => e = .returned (.bool r) ∧ Below w.heap.size w w' := by
 subst hx hy
 refine (fless_call w q b v L h i k hi hk).mono ?_
 rintro e w' ⟨h1, h2⟩
 rw [← K_at hi, ← K_at hk, hr] at h1
 exact ⟨h1, h2⟩
theorem swap_any (w : World) (q b : Nat) (v : Value) (L : List Mg) (h : QAt w q b v L) (x y : Int) (i k : Nat) (hx : x = i) (hy : y = k) (hi : i < L.length) (hk : k < L.length) :
  Calls Tryz.prog 330 #[.agg #[.pointer (some ⟨q, 0, none⟩)], .int .i64 x, .int .i64 y] w (SwapPost w q b v L i k) := by
 subst hx hy
 exact fswap_call w q b v L h i k hi hk
def UpPost (w : World) (q b : Nat) (v : Value) (L : List Mg) (e : Ending) (w' : World) : Prop := e = .returned (.tuple #[]) ∧ QAt w' q b v L ∧ Tch (QFp q b v) w w'
structure UpRel (w : World) (q b : Nat) (v : Value) (R : List Mg) (N : Nat) (jv : Value) (wr : World) (m : Nat) (L : List Mg) (j : Nat) : Prop where
 jv : jv = .int .i64 (j : Nat)
 fuel : j < m
 r : R = upF m L j
 len : L.length = N
 jl : j < N
 at_ : QAt wr q b v L
 tch : Tch (QFp q b v) w wr
set_option maxHeartbeats 16000000 in
set_option maxRecDepth 1000000 in
theorem up_call (w : World) (q b : Nat) (v : Value) (L : List Mg) (h : QAt w q b v L) (j : Nat) (hj : j < L.length) :
  Calls Tryz.prog 204 #[.iface 200 (fac q), .int .i64 j] w (UpPost w q b v (upF (j + 1) L j)) := by
 have h0 : ∃ m L' j', UpRel w q b v (upF (j + 1) L j) L.length (.int .i64 j) w m L' j' := ⟨j + 1, L, j, rfl, by omega, rfl, rfl, hj, h, Tch.refl _ _⟩
 have hlen := h.len
 have H0 := Lib.hid h0
 generalize hR : upF (j + 1) L j = R at *
 have hN : ∃ N, N = L.length := ⟨_, rfl⟩
 obtain ⟨N, hN⟩ := hN
 rw [← hN] at H0 hlen
 clear h h0 hR hj hN
 unfold fac
 go_enter Tryz.func204, Tryz.ntmps204
 go_wp2
 go_loopw [1] (fun i wr => ∃ m L' j', UpRel w q b v R N i wr m L' j') (fun i _ => (intOf i).toNat)
 case atStart => exact H0.out
 case round =>
  obtain ⟨m, L', j', hr⟩ := hrel
  obtain ⟨m', rfl⟩ : ∃ m', m = m' + 1 := ⟨m - 1, by have := hr.fuel; omega⟩
  obtain rfl := hr.jv
  have hjl := hr.jl
  have hl := hr.len
  have hR := hr.r
  have hq := hr.at_
  unfold upF at hR
  by_cases c : j' = 0
  ·subst c
   rw [if_pos rfl] at hR
   subst hR
   have HR := Lib.hid hr
   clear hr hq hl
   go_wp2
   go_end0
   exact ⟨rfl, HR.out.at_, HR.out.tch⟩
  ·obtain ⟨k, rfl⟩ : ∃ k, j' = k + 1 := ⟨j' - 1, by omega⟩
   rw [if_neg c, show (k + 1 - 1) / 2 = k / 2 by omega] at hR
   clear c
   have hk0 : (0 : Int) ≤ (k : Int) := by omega
   have hk1 : (k : Int) ≤ 1000 := by omega
   have hk2 : ¬ (k : Int) / 2 = (k : Int) + 1 := by omega
   have HQ := Lib.hid hq
   have HLN := Lib.hid hl
   have HRR := Lib.hid hr
   have HR2 := Lib.hid hR
   have HK := Lib.hid hjl
   clear hq hl hr hR hjl
   by_cases d : (K L' (k + 1)).lt (K L' (k / 2))
   ·have hd : decide ((K L' (k + 1)).lt (K L' (k / 2))) = true := decide_eq_true d
    have HD := Lib.hid hd
    clear hd d
    go_wp2_with (go_at_call 327; (with_reducible refine (less_any _ q b v L' HQ.out _ _ (k + 1) (k / 2) (by omega) (by omega) (by have := HLN.out; have := HK.out; omega) (by have := HLN.out; have := HK.out; omega) true HD.out).mono ?_); rintro e w1 ⟨rfl, hb1⟩)
    have HB := Lib.hid hb1
    clear hb1
    go_wp2_with (go_at_call 330; (with_reducible refine (swap_any _ q b v L' (HQ.out.below HB.out) _ _ (k / 2) (k + 1) (by omega) (by omega) (by have := HLN.out; have := HK.out; omega) (by have := HLN.out; have := HK.out; omega)).mono ?_); rintro e w2 ⟨rfl, hq2, ht2⟩)
    have HQ2 := Lib.hid hq2
    have HT2 := Lib.hid ht2
    clear hq2 ht2
    have hrel : UpRel w q b v R N (.int .i64 ((k : Int) / 2)) w2 m' (sw L' (k / 2) (k + 1)) (k / 2) := by
     have hr2 := HR2.out
     have hdd := of_decide_eq_true HD.out
     rw [if_pos hdd] at hr2
     exact ⟨by rw [show ((k : Int) / 2) = ((k / 2 : Nat) : Int) by omega], by have := HRR.out.fuel; omega, hr2, by rw [sw_length]; exact HLN.out, by have := HK.out; omega, HQ2.out, (HRR.out.tch.trans (Tch.of_below (P := fun _ => False) HB.out) (fun _ _ e => e.elim)).trans HT2.out (fun _ _ e => e)⟩
    exact ⟨⟨_, _, _, hrel⟩, by simp [intOf]; omega⟩
   ·have hd : decide ((K L' (k + 1)).lt (K L' (k / 2))) = false := decide_eq_false d
    have HD := Lib.hid hd
    have HDN := Lib.hid d
    clear hd d
    go_wp2_with (go_at_call 327; (with_reducible refine (less_any _ q b v L' HQ.out _ _ (k + 1) (k / 2) (by omega) (by omega) (by have := HLN.out; have := HK.out; omega) (by have := HLN.out; have := HK.out; omega) false HD.out).mono ?_); rintro e w1 ⟨rfl, hb1⟩)
    go_end0
    have hr2 := HR2.out
    rw [if_neg HDN.out] at hr2
    subst hr2
    exact ⟨rfl, HQ.out.below hb1, HRR.out.tch.trans (Tch.of_below (P := fun _ => False) hb1) (fun _ _ e => e.elim)⟩
end Go.Proofs.YtehnkebcbomidaaGreatDoor.Rt
