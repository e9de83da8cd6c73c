/- Part of a proof over the given program: Ck. -/
import Derived.Test.YtehnkebcbomidaaGreatDoorCn14
set_option linter.unusedVariables false
set_option linter.unusedSimpArgs false
namespace Go.Proofs.YtehnkebcbomidaaGreatDoor.Rt
open Go Go.RowKit Go.Proofs Go.Proofs.YtehnkebcbomidaaGreatDoorW.PrintWords Go.Proofs.YtehnkebcbomidaaGreatDoorW.PrintLast
theorem all4 (w : World) (f : Int) (s : Nat) (b1 b2 b3 b4 : Bool) (e1 e2 e3 e4 : Int) (h : w.heap[s]? = some (.cells #[.bool b1, .int .i64 e1, .bool b2, .int .i64 e2, .bool b3, .int .i64 e3, .bool b4, .int .i64 e4] 121 (0, 0))) :
  Calls Tryz.prog 67 #[.int .i64 f, .slice (some ⟨s, 0, none⟩) 4 4] w fun e w' => AllRes w f (firstNo [(b1, e1), (b2, e2), (b3, e3), (b4, e4)]) e w' ∧ Below w.heap.size w w' :=
 all_call w f s 4 [(b1, e1), (b2, e2), (b3, e3), (b4, e4)] (by simp) (by simp) (fun j hj => by
  have : j = 0 ∨ j = 1 ∨ j = 2 ∨ j = 3 := by simp at hj; omega
  rcases this with rfl | rfl | rfl | rfl <;> simp [World.cell?, h])
theorem all3 (w : World) (f : Int) (s : Nat) (b1 b2 b3 : Bool) (e1 e2 e3 : Int) (h : w.heap[s]? = some (.cells #[.bool b1, .int .i64 e1, .bool b2, .int .i64 e2, .bool b3, .int .i64 e3] 121 (0, 0))) :
  Calls Tryz.prog 67 #[.int .i64 f, .slice (some ⟨s, 0, none⟩) 3 3] w fun e w' => AllRes w f (firstNo [(b1, e1), (b2, e2), (b3, e3)]) e w' ∧ Below w.heap.size w w' :=
 all_call w f s 3 [(b1, e1), (b2, e2), (b3, e3)] (by simp) (by simp) (fun j hj => by
  have : j = 0 ∨ j = 1 ∨ j = 2 := by simp at hj; omega
  rcases this with rfl | rfl | rfl <;> simp [World.cell?, h])
theorem yes_in {S : St} {f : Int} (he : S.byE f = 0) : ∃ n : Nat, f = n ∧ n < 8 := by
 obtain ⟨h1, h2, h3, _⟩ := byE_zero he
 exact ⟨f.toNat, by omega, h3⟩
set_option maxHeartbeats 8000000 in
set_option maxRecDepth 100000 in
theorem unregulate_yes (w : World) (H : Sh) (S : St) (hR : RAt H w S) (h8 : S.l.length = 8) (n : Nat) (hn : n < 8) (he : S.byE n = 0) :
  Calls Tryz.prog 104 #[.pointer (some ⟨H.r, 0, none⟩), .int .i64 n] w (MPost H w (.int .i64 (S.unregulate n).1) (S.unregulate n).2) := by
 have hj : S.unregulate n = match firstNo [(decide (0 < (S.get n).look), 203), ((S.get n).kind == 0, 206)] with | some c => (c, S) | none => (0, S.put n { S.get n with look := 0 }) := by
  unfold St.unregulate
  rw [if_neg (fun k => k he), Int.toNat_natCast]
  by_cases a : 0 < (S.get n).look <;> by_cases b : (S.get n).kind = 0 <;> simp [firstNo, a, b]
 have ho : ∀ c, firstNo [(decide (0 < (S.get n).look), 203), ((S.get n).kind == 0, 206)] = some c → 0 ≤ c ∧ c < 220 := by
  intro c
  by_cases a : 0 < (S.get n).look <;> by_cases b : (S.get n).kind = 0 <;> simp [firstNo, a, b] <;> intro e <;> omega
 have HR := Lib.hid hR
 have HJ := Lib.hid hj
 have HO := Lib.hid ho
 have H8 := Lib.hid h8
 have hby := by_yes w H S hR n he
 have HBY := Lib.hid hby
 have hR1 := fun w1 hb1 => hR.below (W' := w1) hb1
 have HR1 := Lib.hid hR1
 have h0 : ¬ (n : Int) < 0 := by omega
 have h8' : ¬ (8 : Int) ≤ (n : Int) := by omega
 have hz0 : (0 : Int) ≤ (n : Int) := by omega
 have hz8 : (n : Int) < 8 := by omega
 clear hR hR1 hj ho h8 hby he
 have hu115 := Tryz.underlying115
 have hu113 := Tryz.underlying113
 have hu112 := Tryz.underlying112
 have hu121 := Tryz.underlying121
 have hu193 := Tryz.underlying193
 have hu117 := Tryz.underlying117
 go_enter Tryz.func104, Tryz.ntmps104
 have hmix : Tryz.prog.follows .mixedOrders = true := by kernel_rfl
 go_wp2_with (go_at_call 63; (with_reducible refine HBY.out.mono ?_); rintro e w1 ⟨rfl, hb1⟩)
 have hRa := HR1.out w1 hb1
 have c1 := hRa.c_look hn
 have c2 := hRa.c_kind hn
 have fz := hRa.free (2 + n * 10 + 3)
 have HB1 := Lib.hid hb1
 clear hRa hb1
 go_wp2_with fail
 refine st_ (n := 22) (S := fun w' => w'.cell? ⟨H.r, 2 + n * 10 + 3, none⟩ = some (.int .i64 (S.get n).look) ∧ w'.cell? ⟨H.r, 2 + n * 10 + 4, none⟩ = some (.int .i64 (S.get n).kind)) (ds := [19, 20]) hmix rfl ⟨c1, c2⟩ (fun hHeld => ?_)
 refine pu_ (i := 0) (N := (some 14)) (v := ?_) (a' := ?_) rfl rfl (by kernel_rfl) (fun _ _ _ h => h) (Or.inl ⟨by rfl, ?_⟩) ?_ ?_
 rotate_left
 ·intro w'
  go_simp
  try with_reducible rfl
 rotate_left
 ·simp only [Act.put, qa, qb, qc]
  rfl
 refine pu_ (i := 1) (N := (some 15)) (v := ?_) (a' := ?_) rfl rfl (by kernel_rfl) (fun _ _ _ h => h) (Or.inl ⟨by rfl, ?_⟩) ?_ ?_
 rotate_left
 ·intro w'
  go_simp
  try with_reducible rfl
 rotate_left
 ·simp only [Act.put, qa, qb, qc]
  rfl
 refine pu_ (i := 2) (N := (some 16)) (v := ?_) (a' := ?_) rfl rfl (by kernel_rfl) (fun _ _ _ h => h) (Or.inl ⟨by rfl, ?_⟩) ?_ ?_
 rotate_left
 ·intro w'
  go_simp
  try with_reducible rfl
 rotate_left
 ·simp only [Act.put, qa, qb, qc]
  rfl
 refine pu_ (i := 3) (N := (some 17)) (v := ?_) (a' := ?_) rfl rfl (by kernel_rfl) (fun _ _ _ h => h) (Or.inl ⟨by rfl, ?_⟩) ?_ ?_
 rotate_left
 ·intro w'
  go_simp
  try with_reducible rfl
 rotate_left
 ·simp only [Act.put, qa, qb, qc]
  rfl
 refine pu_ (i := 4) (N := (some 18)) (v := ?_) (a' := ?_) rfl rfl (by kernel_rfl) (fun _ _ _ h => h) (Or.inl ⟨by rfl, ?_⟩) ?_ ?_
 rotate_left
 ·intro w'
  go_simp
  try with_reducible rfl
 rotate_left
 ·simp only [Act.put, qa, qb, qc]
  rfl
 refine pu_ (i := 5) (N := (some 19)) (v := ?_) (a' := ?_) rfl rfl (by kernel_rfl) (fun _ _ _ h => h) (Or.inl ⟨by rfl, ?_⟩) ?_ ?_
 rotate_left
 ·intro w'
  go_simp
  try with_reducible rfl
 rotate_left
 ·simp only [Act.put, qa, qb, qc]
  rfl
 refine pu_ (i := 6) (N := (some 20)) (v := ?_) (a' := ?_) rfl rfl (by kernel_rfl) (fun _ _ _ h => h) (Or.inl ⟨by rfl, ?_⟩) ?_ ?_
 rotate_left
 ·intro w'
  go_simp
  try with_reducible rfl
 rotate_left
 ·simp only [Act.put, qa, qb, qc]
  rfl
 refine tk_ (i := 7) (N := (some 21)) (v := ?_) (a' := ?_) rfl rfl (by kernel_rfl) (fun _ _ _ h => h) (Or.inl ⟨by rfl, ?_⟩) hHeld ?_ ?_
 rotate_left
 ·intro w' hS_
  obtain ⟨zz0, zz1⟩ := hS_
  go_simp
  try with_reducible rfl
 rotate_left
 ·simp only [Act.put, qa, qb, qc]
  rfl
 refine pu_ (i := 8) (N := (some 22)) (v := (.bool (decide (0 < (S.get n).look)))) (a' := ?_) rfl rfl (by kernel_rfl) (fun _ _ _ h => h) (Or.inl ⟨by rfl, ?_⟩) ?_ ?_
 ·intro w'
  go_simp
  try with_reducible rfl
 rotate_left
 ·simp only [Act.put, qa, qb, qc]
  rfl
 refine pu_ (i := 9) (N := (some 23)) (v := ?_) (a' := ?_) rfl rfl (by kernel_rfl) (fun _ _ _ h => h) (Or.inl ⟨by rfl, ?_⟩) ?_ ?_
 rotate_left
 ·intro w'
  go_simp
  try with_reducible rfl
 rotate_left
 ·simp only [Act.put, qa, qb, qc]
  rfl
 refine pu_ (i := 10) (N := (some 24)) (v := ?_) (a' := ?_) rfl rfl (by kernel_rfl) (fun _ _ _ h => h) (Or.inl ⟨by rfl, ?_⟩) ?_ ?_
 rotate_left
 ·intro w'
  go_simp
  try with_reducible rfl
 rotate_left
 ·simp only [Act.put, qa, qb, qc]
  rfl
 refine pu_ (i := 11) (N := (some 25)) (v := ?_) (a' := ?_) rfl rfl (by kernel_rfl) (fun _ _ _ h => h) (Or.inl ⟨by rfl, ?_⟩) ?_ ?_
 rotate_left
 ·intro w'
  go_simp
  try with_reducible rfl
 rotate_left
 ·simp only [Act.put, qa, qb, qc]
  rfl
 refine pu_ (i := 12) (N := (some 26)) (v := ?_) (a' := ?_) rfl rfl (by kernel_rfl) (fun _ _ _ h => h) (Or.inl ⟨by rfl, ?_⟩) ?_ ?_
 rotate_left
 ·intro w'
  go_simp
  try with_reducible rfl
 rotate_left
 ·simp only [Act.put, qa, qb, qc]
  rfl
 refine pu_ (i := 13) (N := (some 27)) (v := ?_) (a' := ?_) rfl rfl (by kernel_rfl) (fun _ _ _ h => h) (Or.inl ⟨by rfl, ?_⟩) ?_ ?_
 rotate_left
 ·intro w'
  go_simp
  try with_reducible rfl
 rotate_left
 ·simp only [Act.put, qa, qb, qc]
  rfl
 refine pu_ (i := 14) (N := (some 28)) (v := ?_) (a' := ?_) rfl rfl (by kernel_rfl) (fun _ _ _ h => h) (Or.inl ⟨by rfl, ?_⟩) ?_ ?_
 rotate_left
 ·intro w'
  go_simp
  try with_reducible rfl
 rotate_left
 ·simp only [Act.put, qa, qb, qc]
  rfl
 refine pu_ (i := 15) (N := (some 29)) (v := ?_) (a' := ?_) rfl rfl (by kernel_rfl) (fun _ _ _ h => h) (Or.inl ⟨by rfl, ?_⟩) ?_ ?_
 rotate_left
 ·intro w'
  go_simp
  try with_reducible rfl
 rotate_left
 ·simp only [Act.put, qa, qb, qc]
  rfl
 refine tk_ (i := 16) (N := (some 30)) (v := ?_) (a' := ?_) rfl rfl (by kernel_rfl) (fun _ _ _ h => h) (Or.inl ⟨by rfl, ?_⟩) hHeld ?_ ?_
 rotate_left
 ·intro w' hS_
  obtain ⟨zz0, zz1⟩ := hS_
  go_simp
  try with_reducible rfl
 rotate_left
 ·simp only [Act.put, qa, qb, qc]
  rfl
 refine pu_ (i := 17) (N := (some 31)) (v := (.bool ((S.get n).kind == 0))) (a' := ?_) rfl rfl (by kernel_rfl) (fun _ _ _ h => h) (Or.inl ⟨by rfl, ?_⟩) ?_ ?_
 ·intro w'
  go_simp
  try with_reducible rfl
 rotate_left
 ·simp only [Act.put, qa, qb, qc]
  rfl
 refine pu_ (i := 18) (N := (some 32)) (v := ?_) (a' := ?_) rfl rfl (by kernel_rfl) (fun _ _ _ h => h) (Or.inl ⟨by rfl, ?_⟩) ?_ ?_
 rotate_left
 ·intro w'
  go_simp
  try with_reducible rfl
 rotate_left
 ·simp only [Act.put, qa, qb, qc]
  rfl
 refine la_ (i := 19) (N := (some 33)) rfl rfl (by kernel_rfl) (by decide) (fun K hK => ?_)
 refine value_ (w1 := ?_) (v := ?_) (by rfl) rfl ?_ ?_
 rotate_left 2
 ·go_simp
  constructor
  ·rfl
  ·rfl
 refine hK.out _ _ ?_
 clear hK K
 refine norm_ (a' := ?_) ?_ ?_
 rotate_left
 ·show Act.put _ (some 33) _ = _
  simp only [Act.put, qa, qb, qc]
  rfl
 refine la_ (i := 20) (N := (some 34)) rfl rfl (by kernel_rfl) (by decide) (fun K hK => ?_)
 refine goes_ Tryz.func67 (by kernel_rfl) rfl #[.int .i64 (n : Int), .slice (some ⟨w1.heap.size, 0, none⟩) 2 2] (by rfl) rfl rfl (by simp only [List.map_toArray, List.map_cons, List.map_nil]; rfl) ?_
 refine Calls.mono (all2 _ _ w1.heap.size (decide (0 < (S.get n).look)) ((S.get n).kind == 0) 203 206 ?h5) ?_
 case h5 => exact heap_alloc_new w1.drew _
 rintro x w5 ⟨hr5, hb5⟩
 obtain ⟨v5, rfl, hr5⟩ := hr5.ret
 refine ⟨_, rfl, hK.out _ _ ?_⟩
 clear hK K
 refine norm_ (a' := ?_) ?_ ?_
 rotate_left
 ·show Act.put _ (some 34) _ = _
  simp only [Act.put, qa, qb, qc]
  rfl
 refine pu_ (i := 21) (N := (some 6)) (v := ?_) (a' := ?_) rfl rfl (by kernel_rfl) (fun _ _ _ h => h) (Or.inl ⟨by rfl, ?_⟩) ?_ ?_
 rotate_left
 ·intro w'
  go_simp
  try with_reducible rfl
 rotate_left
 ·simp only [Act.put, qa, qb, qc]
  rfl
 refine done_ (by kernel_rfl) ?_
 have hB : Below w.heap.size w w5 := (HB1.out.drew.alloc HB1.out.size _).trans (hb5.mono (by have := HB1.out.size; simp; omega))
 have hr : AllRes w n (firstNo [(decide (0 < (S.get n).look), 203), ((S.get n).kind == 0, 206)]) (.returned v5) w5 := AllRes.mono (w := w) hr5 (by have := HB1.out.size; simp; omega)
 have ho := HO.out
 have hj := HJ.out
 have hR5 := HR.out.below hB
 generalize firstNo [(decide (0 < (S.get n).look), 203), ((S.get n).kind == 0, 206)] = o at hr ho hj
 clear hr5 hb5
 cases o with
 | none =>
  have hv : v5 = .nilIface := by cases hr; rfl
  subst hv
  have d1 := hR5.c_look hn
  have f1 := hR5.free (2 + n * 10 + 3)
  have HJ2 := Lib.hid hj
  have HR5 := Lib.hid hR5
  have HB := Lib.hid hB
  clear hr ho hj hR5 hB c1 c2 fz
  go_wp2
  go_ret
  rw [HJ2.out]
  have hb2 := blk_put HR5.out.blk H8.out n 3 hn (by decide) (.int .i64 0) { S.get n with look := 0 } rfl
  have ht : Tch (fun k => k = H.r) w5 (w5.setCell ⟨H.r, 2 + n * 10 + 3, none⟩ (.int .i64 0)) := Tch.setCell (P := fun k => k = H.r) (Tch.refl _ _) (p := ⟨H.r, 2 + n * 10 + 3, none⟩) (.inl rfl) _
  exact MPost.turn HR.out HB.out (HR5.out.turn ht hb2 rfl rfl rfl (put_keeps S H8.out hn _ ⟨rfl, rfl, rfl⟩)) ht _
 | some c =>
  have hcc := ho c rfl
  have henv := hR5.env
  obtain ⟨gg, hg1, hg2, hg3⟩ := hr
  cases hg2
  have HJ2 := Lib.hid hj
  have HR5 := Lib.hid hR5
  have HB := Lib.hid hB
  have her := errno_ref w5 henv gg n c hcc.1 hcc.2 hg3
  have HER := Lib.hid her
  clear ho hj hR5 hB henv hg3 her c1 c2 fz
  go_wp2_with (go_at_call 64; (with_reducible refine HER.out.mono ?_); rintro e w6 ⟨rfl, hb6⟩)
  go_ret
  rw [HJ2.out]
  exact MPost.same HR.out (HB.out.trans (hb6.mono HB.out.size)) _
set_option maxHeartbeats 8000000 in
set_option maxRecDepth 100000 in
theorem ask_yy (w : World) (H : Sh) (S : St) (hR : RAt H w S) (h8 : S.l.length = 8) (n : Nat) (hn : n < 8) (he : S.byE n = 0) (k t : Int) (hkk : 1 ≤ k) (htt : 0 ≤ t) :
  Calls Tryz.prog 25 #[.pointer (some ⟨H.r, 0, none⟩), .int .i64 n, .int .i64 k, .int .i64 t] w (MPost H w (.int .i64 (S.ask n k t).1) (S.ask n k t).2) := by
 have hj : S.ask n k t = match firstNo [(decide (k ≤ 3), 1), ((S.get n).kind == 0, 206), (decide (t ≤ 1099511627776), 208), (decide ((S.get n).time ≤ t), 207)] with | some c => (c, S) | none => (0, S.put n { S.get n with kind := k, ask := t }) := by
  unfold St.ask
  rw [if_neg (fun z => z he), Int.toNat_natCast]
  by_cases a : k ≤ 3 <;> by_cases b : (S.get n).kind = 0 <;> by_cases c : t ≤ 1099511627776 <;> by_cases d : (S.get n).time ≤ t <;> simp [firstNo, a, b, c, d] <;> (repeat' split) <;> first | rfl | omega
 have ho : ∀ c, firstNo [(decide (k ≤ 3), 1), ((S.get n).kind == 0, 206), (decide (t ≤ 1099511627776), 208), (decide ((S.get n).time ≤ t), 207)] = some c → 0 ≤ c ∧ c < 220 := by
  intro c
  by_cases a : k ≤ 3 <;> by_cases b : (S.get n).kind = 0 <;> by_cases c : t ≤ 1099511627776 <;> by_cases d : (S.get n).time ≤ t <;> simp [firstNo, a, b, c, d] <;> intro e <;> omega
 have HR := Lib.hid hR
 have HJ := Lib.hid hj
 have HO := Lib.hid ho
 have H8 := Lib.hid h8
 have hby := by_yes w H S hR n he
 have HBY := Lib.hid hby
 have hR1 := fun w1 hb1 => hR.below (W' := w1) hb1
 have HR1 := Lib.hid hR1
 have h0 : ¬ (n : Int) < 0 := by omega
 have h8' : ¬ (8 : Int) ≤ (n : Int) := by omega
 have hz0 : (0 : Int) ≤ (n : Int) := by omega
 have hz8 : (n : Int) < 8 := by omega
 clear hR hR1 hj ho h8 hby he
 have hu115 := Tryz.underlying115
 have hu113 := Tryz.underlying113
 have hu112 := Tryz.underlying112
 have hu121 := Tryz.underlying121
 have hu193 := Tryz.underlying193
 have hu117 := Tryz.underlying117
 go_enter Tryz.func25, Tryz.ntmps25
 have hmix : Tryz.prog.follows .mixedOrders = true := by kernel_rfl
 go_wp2_with (go_at_call 63; (with_reducible refine HBY.out.mono ?_); rintro e w1 ⟨rfl, hb1⟩)
 have hRa := HR1.out w1 hb1
 have c1 := hRa.c_kind hn
 have c2 := hRa.c_time hn
 have HB1 := Lib.hid hb1
 clear hRa hb1
 go_wp2_with fail
 refine st_ (n := 31) (S := fun w' => w'.cell? ⟨H.r, 2 + n * 10 + 4, none⟩ = some (.int .i64 (S.get n).kind) ∧ w'.cell? ⟨H.r, 2 + n * 10 + 2, none⟩ = some (.int .i64 (S.get n).time)) (ds := [28, 29]) hmix rfl ⟨c1, c2⟩ (fun hHeld => ?_)
 refine pu_ (i := 0) (N := (some 24)) (v := ?_) (a' := ?_) rfl rfl (by kernel_rfl) (fun _ _ _ h => h) (Or.inl ⟨by rfl, ?_⟩) ?_ ?_
 rotate_left
 ·intro w'
  go_simp
  try with_reducible rfl
 rotate_left
 ·simp only [Act.put, qa, qb, qc]
  rfl
 refine pu_ (i := 1) (N := (some 25)) (v := ?_) (a' := ?_) rfl rfl (by kernel_rfl) (fun _ _ _ h => h) (Or.inl ⟨by rfl, ?_⟩) ?_ ?_
 rotate_left
 ·intro w'
  go_simp
  try with_reducible rfl
 rotate_left
 ·simp only [Act.put, qa, qb, qc]
  rfl
 refine pu_ (i := 2) (N := (some 26)) (v := (.bool true)) (a' := ?_) rfl rfl (by kernel_rfl) (fun _ _ _ h => h) (Or.inl ⟨by rfl, ?_⟩) ?_ ?_
 ·intro w'
  go_simp
  try with_reducible rfl
 rotate_left
 ·simp only [Act.put, qa, qb, qc]
  rfl
 refine pu_ (i := 3) (N := (some 27)) (v := ?_) (a' := ?_) rfl rfl (by kernel_rfl) (fun _ _ _ h => h) (Or.inl ⟨by rfl, ?_⟩) ?_ ?_
 rotate_left
 ·intro w'
  go_simp
  try with_reducible rfl
 rotate_left
 ·simp only [Act.put, qa, qb, qc]
  rfl
 refine pu_ (i := 4) (N := (some 28)) (v := ?_) (a' := ?_) rfl rfl (by kernel_rfl) (fun _ _ _ h => h) (Or.inl ⟨by rfl, ?_⟩) ?_ ?_
 rotate_left
 ·intro w'
  go_simp
  try with_reducible rfl
 rotate_left
 ·simp only [Act.put, qa, qb, qc]
  rfl
 refine pu_ (i := 5) (N := (some 29)) (v := (.bool (decide (k ≤ 3)))) (a' := ?_) rfl rfl (by kernel_rfl) (fun _ _ _ h => h) (Or.inl ⟨by rfl, ?_⟩) ?_ ?_
 ·intro w'
  go_simp
  try with_reducible rfl
 rotate_left
 ·simp only [Act.put, qa, qb, qc]
  rfl
 refine pu_ (i := 6) (N := (some 30)) (v := ?_) (a' := ?_) rfl rfl (by kernel_rfl) (fun _ _ _ h => h) (Or.inl ⟨by rfl, ?_⟩) ?_ ?_
 rotate_left
 ·intro w'
  go_simp
  try with_reducible rfl
 rotate_left
 ·simp only [Act.put, qa, qb, qc]
  rfl
 refine pu_ (i := 7) (N := (some 31)) (v := ?_) (a' := ?_) rfl rfl (by kernel_rfl) (fun _ _ _ h => h) (Or.inl ⟨by rfl, ?_⟩) ?_ ?_
 rotate_left
 ·intro w'
  go_simp
  try with_reducible rfl
 rotate_left
 ·simp only [Act.put, qa, qb, qc]
  rfl
 refine pu_ (i := 8) (N := (some 32)) (v := ?_) (a' := ?_) rfl rfl (by kernel_rfl) (fun _ _ _ h => h) (Or.inl ⟨by rfl, ?_⟩) ?_ ?_
 rotate_left
 ·intro w'
  go_simp
  try with_reducible rfl
 rotate_left
 ·simp only [Act.put, qa, qb, qc]
  rfl
 refine pu_ (i := 9) (N := (some 33)) (v := ?_) (a' := ?_) rfl rfl (by kernel_rfl) (fun _ _ _ h => h) (Or.inl ⟨by rfl, ?_⟩) ?_ ?_
 rotate_left
 ·intro w'
  go_simp
  try with_reducible rfl
 rotate_left
 ·simp only [Act.put, qa, qb, qc]
  rfl
 refine pu_ (i := 10) (N := (some 34)) (v := ?_) (a' := ?_) rfl rfl (by kernel_rfl) (fun _ _ _ h => h) (Or.inl ⟨by rfl, ?_⟩) ?_ ?_
 rotate_left
 ·intro w'
  go_simp
  try with_reducible rfl
 rotate_left
 ·simp only [Act.put, qa, qb, qc]
  rfl
 refine tk_ (i := 11) (N := (some 35)) (v := (.int .i64 (S.get n).kind)) (a' := ?_) rfl rfl (by kernel_rfl) (fun _ _ _ h => h) (Or.inl ⟨by rfl, ?_⟩) hHeld ?_ ?_
 ·intro w' hS_
  obtain ⟨zz0, zz1⟩ := hS_
  go_simp
  try with_reducible rfl
 rotate_left
 ·simp only [Act.put, qa, qb, qc]
  rfl
 refine pu_ (i := 12) (N := (some 36)) (v := (.bool ((S.get n).kind == 0))) (a' := ?_) rfl rfl (by kernel_rfl) (fun _ _ _ h => h) (Or.inl ⟨by rfl, ?_⟩) ?_ ?_
 ·intro w'
  go_simp
  try with_reducible rfl
 rotate_left
 ·simp only [Act.put, qa, qb, qc]
  rfl
 refine pu_ (i := 13) (N := (some 37)) (v := ?_) (a' := ?_) rfl rfl (by kernel_rfl) (fun _ _ _ h => h) (Or.inl ⟨by rfl, ?_⟩) ?_ ?_
 rotate_left
 ·intro w'
  go_simp
  try with_reducible rfl
 rotate_left
 ·simp only [Act.put, qa, qb, qc]
  rfl
 refine pu_ (i := 14) (N := (some 38)) (v := ?_) (a' := ?_) rfl rfl (by kernel_rfl) (fun _ _ _ h => h) (Or.inl ⟨by rfl, ?_⟩) ?_ ?_
 rotate_left
 ·intro w'
  go_simp
  try with_reducible rfl
 rotate_left
 ·simp only [Act.put, qa, qb, qc]
  rfl
 refine pu_ (i := 15) (N := (some 39)) (v := (.bool true)) (a' := ?_) rfl rfl (by kernel_rfl) (fun _ _ _ h => h) (Or.inl ⟨by rfl, ?_⟩) ?_ ?_
 ·intro w'
  go_simp
  try with_reducible rfl
 rotate_left
 ·simp only [Act.put, qa, qb, qc]
  rfl
 refine pu_ (i := 16) (N := (some 40)) (v := ?_) (a' := ?_) rfl rfl (by kernel_rfl) (fun _ _ _ h => h) (Or.inl ⟨by rfl, ?_⟩) ?_ ?_
 rotate_left
 ·intro w'
  go_simp
  try with_reducible rfl
 rotate_left
 ·simp only [Act.put, qa, qb, qc]
  rfl
 refine pu_ (i := 17) (N := (some 41)) (v := ?_) (a' := ?_) rfl rfl (by kernel_rfl) (fun _ _ _ h => h) (Or.inl ⟨by rfl, ?_⟩) ?_ ?_
 rotate_left
 ·intro w'
  go_simp
  try with_reducible rfl
 rotate_left
 ·simp only [Act.put, qa, qb, qc]
  rfl
 refine pu_ (i := 18) (N := (some 42)) (v := (.bool (decide (t ≤ 1099511627776)))) (a' := ?_) rfl rfl (by kernel_rfl) (fun _ _ _ h => h) (Or.inl ⟨by rfl, ?_⟩) ?_ ?_
 ·intro w'
  go_simp
  try with_reducible rfl
 rotate_left
 ·simp only [Act.put, qa, qb, qc]
  rfl
 refine pu_ (i := 19) (N := (some 43)) (v := ?_) (a' := ?_) rfl rfl (by kernel_rfl) (fun _ _ _ h => h) (Or.inl ⟨by rfl, ?_⟩) ?_ ?_
 rotate_left
 ·intro w'
  go_simp
  try with_reducible rfl
 rotate_left
 ·simp only [Act.put, qa, qb, qc]
  rfl
 refine pu_ (i := 20) (N := (some 44)) (v := ?_) (a' := ?_) rfl rfl (by kernel_rfl) (fun _ _ _ h => h) (Or.inl ⟨by rfl, ?_⟩) ?_ ?_
 rotate_left
 ·intro w'
  go_simp
  try with_reducible rfl
 rotate_left
 ·simp only [Act.put, qa, qb, qc]
  rfl
 refine pu_ (i := 21) (N := (some 45)) (v := ?_) (a' := ?_) rfl rfl (by kernel_rfl) (fun _ _ _ h => h) (Or.inl ⟨by rfl, ?_⟩) ?_ ?_
 rotate_left
 ·intro w'
  go_simp
  try with_reducible rfl
 rotate_left
 ·simp only [Act.put, qa, qb, qc]
  rfl
 refine pu_ (i := 22) (N := (some 46)) (v := ?_) (a' := ?_) rfl rfl (by kernel_rfl) (fun _ _ _ h => h) (Or.inl ⟨by rfl, ?_⟩) ?_ ?_
 rotate_left
 ·intro w'
  go_simp
  try with_reducible rfl
 rotate_left
 ·simp only [Act.put, qa, qb, qc]
  rfl
 refine pu_ (i := 23) (N := (some 47)) (v := ?_) (a' := ?_) rfl rfl (by kernel_rfl) (fun _ _ _ h => h) (Or.inl ⟨by rfl, ?_⟩) ?_ ?_
 rotate_left
 ·intro w'
  go_simp
  try with_reducible rfl
 rotate_left
 ·simp only [Act.put, qa, qb, qc]
  rfl
 refine pu_ (i := 24) (N := (some 48)) (v := ?_) (a' := ?_) rfl rfl (by kernel_rfl) (fun _ _ _ h => h) (Or.inl ⟨by rfl, ?_⟩) ?_ ?_
 rotate_left
 ·intro w'
  go_simp
  try with_reducible rfl
 rotate_left
 ·simp only [Act.put, qa, qb, qc]
  rfl
 refine tk_ (i := 25) (N := (some 49)) (v := (.int .i64 (S.get n).time)) (a' := ?_) rfl rfl (by kernel_rfl) (fun _ _ _ h => h) (Or.inl ⟨by rfl, ?_⟩) hHeld ?_ ?_
 ·intro w' hS_
  obtain ⟨zz0, zz1⟩ := hS_
  go_simp
  try with_reducible rfl
 rotate_left
 ·simp only [Act.put, qa, qb, qc]
  rfl
 refine pu_ (i := 26) (N := (some 50)) (v := (.bool (decide ((S.get n).time ≤ t)))) (a' := ?_) rfl rfl (by kernel_rfl) (fun _ _ _ h => h) (Or.inl ⟨by rfl, ?_⟩) ?_ ?_
 ·intro w'
  go_simp
  try with_reducible rfl
 rotate_left
 ·simp only [Act.put, qa, qb, qc]
  rfl
 refine pu_ (i := 27) (N := (some 51)) (v := ?_) (a' := ?_) rfl rfl (by kernel_rfl) (fun _ _ _ h => h) (Or.inl ⟨by rfl, ?_⟩) ?_ ?_
 rotate_left
 ·intro w'
  go_simp
  try with_reducible rfl
 rotate_left
 ·simp only [Act.put, qa, qb, qc]
  rfl
 refine la_ (i := 28) (N := (some 52)) rfl rfl (by kernel_rfl) (by decide) (fun K hK => ?_)
 refine value_ (w1 := ?_) (v := ?_) (by rfl) rfl ?_ ?_
 rotate_left 2
 ·go_simp
  constructor
  ·rfl
  ·rfl
 refine hK.out _ _ ?_
 clear hK K
 refine norm_ (a' := ?_) ?_ ?_
 rotate_left
 ·show Act.put _ (some 52) _ = _
  simp only [Act.put, qa, qb, qc]
  rfl
 refine la_ (i := 29) (N := (some 53)) rfl rfl (by kernel_rfl) (by decide) (fun K hK => ?_)
 refine goes_ Tryz.func67 (by kernel_rfl) rfl #[.int .i64 (n : Int), .slice (some ⟨w1.heap.size, 0, none⟩) 4 4] (by rfl) rfl rfl (by simp only [List.map_toArray, List.map_cons, List.map_nil]; rfl) ?_
 refine Calls.mono (all4 _ _ w1.heap.size (decide (k ≤ 3)) ((S.get n).kind == 0) (decide (t ≤ 1099511627776)) (decide ((S.get n).time ≤ t)) 1 206 208 207 ?h5) ?_
 case h5 => exact heap_alloc_new w1.drew _
 rintro x w5 ⟨hr5, hb5⟩
 obtain ⟨v5, rfl, hr5⟩ := hr5.ret
 refine ⟨_, rfl, hK.out _ _ ?_⟩
 clear hK K
 refine norm_ (a' := ?_) ?_ ?_
 rotate_left
 ·show Act.put _ (some 53) _ = _
  simp only [Act.put, qa, qb, qc]
  rfl
 refine pu_ (i := 30) (N := (some 11)) (v := ?_) (a' := ?_) rfl rfl (by kernel_rfl) (fun _ _ _ h => h) (Or.inl ⟨by rfl, ?_⟩) ?_ ?_
 rotate_left
 ·intro w'
  go_simp
  try with_reducible rfl
 rotate_left
 ·simp only [Act.put, qa, qb, qc]
  rfl
 refine done_ (by kernel_rfl) ?_
 have hB : Below w.heap.size w w5 := (HB1.out.drew.alloc HB1.out.size _).trans (hb5.mono (by have := HB1.out.size; simp; omega))
 have hr : AllRes w n (firstNo [(decide (k ≤ 3), 1), ((S.get n).kind == 0, 206), (decide (t ≤ 1099511627776), 208), (decide ((S.get n).time ≤ t), 207)]) (.returned v5) w5 := AllRes.mono (w := w) hr5 (by have := HB1.out.size; simp; omega)
 have ho := HO.out
 have hj := HJ.out
 have hR5 := HR.out.below hB
 generalize firstNo [(decide (k ≤ 3), 1), ((S.get n).kind == 0, 206), (decide (t ≤ 1099511627776), 208), (decide ((S.get n).time ≤ t), 207)] = o at hr ho hj
 clear hr5 hb5
 cases o with
 | none =>
  have hv : v5 = .nilIface := by cases hr; rfl
  subst hv
  have d1 := hR5.c_kind hn
  have d2 := hR5.c_ask hn
  have f1 := hR5.free (2 + n * 10 + 4)
  have f2 := hR5.free (2 + n * 10 + 5)
  have HJ2 := Lib.hid hj
  have HR5 := Lib.hid hR5
  have HB := Lib.hid hB
  clear hr ho hj hR5 hB c1 c2
  go_wp2
  go_ret
  rw [HJ2.out]
  have hb2 := blk_put HR5.out.blk H8.out n 4 hn (by decide) (.int .i64 k) { S.get n with kind := k } rfl
  have hg : (S.put n { S.get n with kind := k }).get n = { S.get n with kind := k } := by rw [St.get_put S H8.out n n hn, if_pos rfl]
  have hb3 := blk_put (S := S.put n { S.get n with kind := k }) hb2 (by rw [St.put_l]; exact H8.out) n 5 hn (by decide) (.int .i64 t) { S.get n with kind := k, ask := t } (by rw [hg]; rfl)
  have hpp : (S.put n { S.get n with kind := k }).put n { S.get n with kind := k, ask := t } = S.put n { S.get n with kind := k, ask := t } := by unfold St.put; simp
  rw [hpp] at hb3
  have ht : Tch (fun k => k = H.r) w5 ((w5.setCell ⟨H.r, 2 + n * 10 + 4, none⟩ (.int .i64 k)).setCell ⟨H.r, 2 + n * 10 + 5, none⟩ (.int .i64 t)) := (Tch.setCell (P := fun k => k = H.r) (Tch.refl _ _) (p := ⟨H.r, 2 + n * 10 + 4, none⟩) (.inl rfl) _).setCell (p := ⟨H.r, 2 + n * 10 + 5, none⟩) (.inl rfl) _
  exact MPost.turn HR.out HB.out (HR5.out.turn ht hb3 rfl rfl rfl (put_keeps S H8.out hn _ ⟨rfl, rfl, rfl⟩)) ht _
 | some c =>
  have hcc := ho c rfl
  have henv := hR5.env
  obtain ⟨gg, hg1, hg2, hg3⟩ := hr
  cases hg2
  have HJ2 := Lib.hid hj
  have HR5 := Lib.hid hR5
  have HB := Lib.hid hB
  have her := errno_ref w5 henv gg n c hcc.1 hcc.2 hg3
  have HER := Lib.hid her
  clear ho hj hR5 hB henv hg3 her c1 c2
  go_wp2_with (go_at_call 64; (with_reducible refine HER.out.mono ?_); rintro e w6 ⟨rfl, hb6⟩)
  go_ret
  rw [HJ2.out]
  exact MPost.same HR.out (HB.out.trans (hb6.mono HB.out.size)) _
set_option maxHeartbeats 8000000 in
set_option maxRecDepth 100000 in
theorem ask_yn (w : World) (H : Sh) (S : St) (hR : RAt H w S) (h8 : S.l.length = 8) (n : Nat) (hn : n < 8) (he : S.byE n = 0) (k t : Int) (hkk : 1 ≤ k) (htt : ¬ 0 ≤ t) :
  Calls Tryz.prog 25 #[.pointer (some ⟨H.r, 0, none⟩), .int .i64 n, .int .i64 k, .int .i64 t] w (MPost H w (.int .i64 (S.ask n k t).1) (S.ask n k t).2) := by
 have hj : S.ask n k t = match firstNo [(decide (k ≤ 3), 1), ((S.get n).kind == 0, 206), (false, 208), (decide ((S.get n).time ≤ t), 207)] with | some c => (c, S) | none => (0, S.put n { S.get n with kind := k, ask := t }) := by
  unfold St.ask
  rw [if_neg (fun z => z he), Int.toNat_natCast]
  by_cases a : k ≤ 3 <;> by_cases b : (S.get n).kind = 0 <;> by_cases c : t ≤ 1099511627776 <;> by_cases d : (S.get n).time ≤ t <;> simp [firstNo, a, b, c, d] <;> (repeat' split) <;> first | rfl | omega
 have ho : ∀ c, firstNo [(decide (k ≤ 3), 1), ((S.get n).kind == 0, 206), (false, 208), (decide ((S.get n).time ≤ t), 207)] = some c → 0 ≤ c ∧ c < 220 := by
  intro c
  by_cases a : k ≤ 3 <;> by_cases b : (S.get n).kind = 0 <;> by_cases c : t ≤ 1099511627776 <;> by_cases d : (S.get n).time ≤ t <;> simp [firstNo, a, b, c, d] <;> intro e <;> omega
 have HR := Lib.hid hR
 have HJ := Lib.hid hj
 have HO := Lib.hid ho
 have H8 := Lib.hid h8
 have hby := by_yes w H S hR n he
 have HBY := Lib.hid hby
 have hR1 := fun w1 hb1 => hR.below (W' := w1) hb1
 have HR1 := Lib.hid hR1
 have h0 : ¬ (n : Int) < 0 := by omega
 have h8' : ¬ (8 : Int) ≤ (n : Int) := by omega
 have hz0 : (0 : Int) ≤ (n : Int) := by omega
 have hz8 : (n : Int) < 8 := by omega
 clear hR hR1 hj ho h8 hby he
 have hu115 := Tryz.underlying115
 have hu113 := Tryz.underlying113
 have hu112 := Tryz.underlying112
 have hu121 := Tryz.underlying121
 have hu193 := Tryz.underlying193
 have hu117 := Tryz.underlying117
 go_enter Tryz.func25, Tryz.ntmps25
 have hmix : Tryz.prog.follows .mixedOrders = true := by kernel_rfl
 go_wp2_with (go_at_call 63; (with_reducible refine HBY.out.mono ?_); rintro e w1 ⟨rfl, hb1⟩)
 have hRa := HR1.out w1 hb1
 have c1 := hRa.c_kind hn
 have c2 := hRa.c_time hn
 have HB1 := Lib.hid hb1
 clear hRa hb1
 go_wp2_with fail
 refine st_ (n := 31) (S := fun w' => w'.cell? ⟨H.r, 2 + n * 10 + 4, none⟩ = some (.int .i64 (S.get n).kind) ∧ w'.cell? ⟨H.r, 2 + n * 10 + 2, none⟩ = some (.int .i64 (S.get n).time)) (ds := [28, 29]) hmix rfl ⟨c1, c2⟩ (fun hHeld => ?_)
 refine pu_ (i := 0) (N := (some 24)) (v := ?_) (a' := ?_) rfl rfl (by kernel_rfl) (fun _ _ _ h => h) (Or.inl ⟨by rfl, ?_⟩) ?_ ?_
 rotate_left
 ·intro w'
  go_simp
  try with_reducible rfl
 rotate_left
 ·simp only [Act.put, qa, qb, qc]
  rfl
 refine pu_ (i := 1) (N := (some 25)) (v := ?_) (a' := ?_) rfl rfl (by kernel_rfl) (fun _ _ _ h => h) (Or.inl ⟨by rfl, ?_⟩) ?_ ?_
 rotate_left
 ·intro w'
  go_simp
  try with_reducible rfl
 rotate_left
 ·simp only [Act.put, qa, qb, qc]
  rfl
 refine pu_ (i := 2) (N := (some 26)) (v := (.bool true)) (a' := ?_) rfl rfl (by kernel_rfl) (fun _ _ _ h => h) (Or.inl ⟨by rfl, ?_⟩) ?_ ?_
 ·intro w'
  go_simp
  try with_reducible rfl
 rotate_left
 ·simp only [Act.put, qa, qb, qc]
  rfl
 refine pu_ (i := 3) (N := (some 27)) (v := ?_) (a' := ?_) rfl rfl (by kernel_rfl) (fun _ _ _ h => h) (Or.inl ⟨by rfl, ?_⟩) ?_ ?_
 rotate_left
 ·intro w'
  go_simp
  try with_reducible rfl
 rotate_left
 ·simp only [Act.put, qa, qb, qc]
  rfl
 refine pu_ (i := 4) (N := (some 28)) (v := ?_) (a' := ?_) rfl rfl (by kernel_rfl) (fun _ _ _ h => h) (Or.inl ⟨by rfl, ?_⟩) ?_ ?_
 rotate_left
 ·intro w'
  go_simp
  try with_reducible rfl
 rotate_left
 ·simp only [Act.put, qa, qb, qc]
  rfl
 refine pu_ (i := 5) (N := (some 29)) (v := (.bool (decide (k ≤ 3)))) (a' := ?_) rfl rfl (by kernel_rfl) (fun _ _ _ h => h) (Or.inl ⟨by rfl, ?_⟩) ?_ ?_
 ·intro w'
  go_simp
  try with_reducible rfl
 rotate_left
 ·simp only [Act.put, qa, qb, qc]
  rfl
 refine pu_ (i := 6) (N := (some 30)) (v := ?_) (a' := ?_) rfl rfl (by kernel_rfl) (fun _ _ _ h => h) (Or.inl ⟨by rfl, ?_⟩) ?_ ?_
 rotate_left
 ·intro w'
  go_simp
  try with_reducible rfl
 rotate_left
 ·simp only [Act.put, qa, qb, qc]
  rfl
 refine pu_ (i := 7) (N := (some 31)) (v := ?_) (a' := ?_) rfl rfl (by kernel_rfl) (fun _ _ _ h => h) (Or.inl ⟨by rfl, ?_⟩) ?_ ?_
 rotate_left
 ·intro w'
  go_simp
  try with_reducible rfl
 rotate_left
 ·simp only [Act.put, qa, qb, qc]
  rfl
 refine pu_ (i := 8) (N := (some 32)) (v := ?_) (a' := ?_) rfl rfl (by kernel_rfl) (fun _ _ _ h => h) (Or.inl ⟨by rfl, ?_⟩) ?_ ?_
 rotate_left
 ·intro w'
  go_simp
  try with_reducible rfl
 rotate_left
 ·simp only [Act.put, qa, qb, qc]
  rfl
 refine pu_ (i := 9) (N := (some 33)) (v := ?_) (a' := ?_) rfl rfl (by kernel_rfl) (fun _ _ _ h => h) (Or.inl ⟨by rfl, ?_⟩) ?_ ?_
 rotate_left
 ·intro w'
  go_simp
  try with_reducible rfl
 rotate_left
 ·simp only [Act.put, qa, qb, qc]
  rfl
 refine pu_ (i := 10) (N := (some 34)) (v := ?_) (a' := ?_) rfl rfl (by kernel_rfl) (fun _ _ _ h => h) (Or.inl ⟨by rfl, ?_⟩) ?_ ?_
 rotate_left
 ·intro w'
  go_simp
  try with_reducible rfl
 rotate_left
 ·simp only [Act.put, qa, qb, qc]
  rfl
 refine tk_ (i := 11) (N := (some 35)) (v := (.int .i64 (S.get n).kind)) (a' := ?_) rfl rfl (by kernel_rfl) (fun _ _ _ h => h) (Or.inl ⟨by rfl, ?_⟩) hHeld ?_ ?_
 ·intro w' hS_
  obtain ⟨zz0, zz1⟩ := hS_
  go_simp
  try with_reducible rfl
 rotate_left
 ·simp only [Act.put, qa, qb, qc]
  rfl
 refine pu_ (i := 12) (N := (some 36)) (v := (.bool ((S.get n).kind == 0))) (a' := ?_) rfl rfl (by kernel_rfl) (fun _ _ _ h => h) (Or.inl ⟨by rfl, ?_⟩) ?_ ?_
 ·intro w'
  go_simp
  try with_reducible rfl
 rotate_left
 ·simp only [Act.put, qa, qb, qc]
  rfl
 refine pu_ (i := 13) (N := (some 37)) (v := ?_) (a' := ?_) rfl rfl (by kernel_rfl) (fun _ _ _ h => h) (Or.inl ⟨by rfl, ?_⟩) ?_ ?_
 rotate_left
 ·intro w'
  go_simp
  try with_reducible rfl
 rotate_left
 ·simp only [Act.put, qa, qb, qc]
  rfl
 refine pu_ (i := 14) (N := (some 38)) (v := ?_) (a' := ?_) rfl rfl (by kernel_rfl) (fun _ _ _ h => h) (Or.inl ⟨by rfl, ?_⟩) ?_ ?_
 rotate_left
 ·intro w'
  go_simp
  try with_reducible rfl
 rotate_left
 ·simp only [Act.put, qa, qb, qc]
  rfl
 refine pu_ (i := 15) (N := (some 39)) (v := (.bool false)) (a' := ?_) rfl rfl (by kernel_rfl) (fun _ _ _ h => h) (Or.inl ⟨by rfl, ?_⟩) ?_ ?_
 ·intro w'
  go_simp
  try with_reducible rfl
 rotate_left
 ·simp only [Act.put, qa, qb, qc]
  rfl
 refine pu_ (i := 16) (N := (some 40)) (v := ?_) (a' := ?_) rfl rfl (by kernel_rfl) (fun _ _ _ h => h) (Or.inl ⟨by rfl, ?_⟩) ?_ ?_
 rotate_left
 ·intro w'
  go_simp
  try with_reducible rfl
 rotate_left
 ·simp only [Act.put, qa, qb, qc]
  rfl
 refine pu_ (i := 17) (N := (some 41)) (v := undef) (a' := ?_) rfl rfl (by kernel_rfl) (fun _ _ _ h => h) (Or.inr ⟨by rfl, rfl⟩) ?_ ?_
 rotate_left
 ·simp only [Act.put, qa, qb, qc]
  rfl
 refine pu_ (i := 18) (N := (some 42)) (v := undef) (a' := ?_) rfl rfl (by kernel_rfl) (fun _ _ _ h => h) (Or.inr ⟨by rfl, rfl⟩) ?_ ?_
 rotate_left
 ·simp only [Act.put, qa, qb, qc]
  rfl
 refine pu_ (i := 19) (N := (some 43)) (v := ?_) (a' := ?_) rfl rfl (by kernel_rfl) (fun _ _ _ h => h) (Or.inl ⟨by rfl, ?_⟩) ?_ ?_
 rotate_left
 ·intro w'
  go_simp
  try with_reducible rfl
 rotate_left
 ·simp only [Act.put, qa, qb, qc]
  rfl
 refine pu_ (i := 20) (N := (some 44)) (v := ?_) (a' := ?_) rfl rfl (by kernel_rfl) (fun _ _ _ h => h) (Or.inl ⟨by rfl, ?_⟩) ?_ ?_
 rotate_left
 ·intro w'
  go_simp
  try with_reducible rfl
 rotate_left
 ·simp only [Act.put, qa, qb, qc]
  rfl
 refine pu_ (i := 21) (N := (some 45)) (v := ?_) (a' := ?_) rfl rfl (by kernel_rfl) (fun _ _ _ h => h) (Or.inl ⟨by rfl, ?_⟩) ?_ ?_
 rotate_left
 ·intro w'
  go_simp
  try with_reducible rfl
 rotate_left
 ·simp only [Act.put, qa, qb, qc]
  rfl
 refine pu_ (i := 22) (N := (some 46)) (v := ?_) (a' := ?_) rfl rfl (by kernel_rfl) (fun _ _ _ h => h) (Or.inl ⟨by rfl, ?_⟩) ?_ ?_
 rotate_left
 ·intro w'
  go_simp
  try with_reducible rfl
 rotate_left
 ·simp only [Act.put, qa, qb, qc]
  rfl
 refine pu_ (i := 23) (N := (some 47)) (v := ?_) (a' := ?_) rfl rfl (by kernel_rfl) (fun _ _ _ h => h) (Or.inl ⟨by rfl, ?_⟩) ?_ ?_
 rotate_left
 ·intro w'
  go_simp
  try with_reducible rfl
 rotate_left
 ·simp only [Act.put, qa, qb, qc]
  rfl
 refine pu_ (i := 24) (N := (some 48)) (v := ?_) (a' := ?_) rfl rfl (by kernel_rfl) (fun _ _ _ h => h) (Or.inl ⟨by rfl, ?_⟩) ?_ ?_
 rotate_left
 ·intro w'
  go_simp
  try with_reducible rfl
 rotate_left
 ·simp only [Act.put, qa, qb, qc]
  rfl
 refine tk_ (i := 25) (N := (some 49)) (v := (.int .i64 (S.get n).time)) (a' := ?_) rfl rfl (by kernel_rfl) (fun _ _ _ h => h) (Or.inl ⟨by rfl, ?_⟩) hHeld ?_ ?_
 ·intro w' hS_
  obtain ⟨zz0, zz1⟩ := hS_
  go_simp
  try with_reducible rfl
 rotate_left
 ·simp only [Act.put, qa, qb, qc]
  rfl
 refine pu_ (i := 26) (N := (some 50)) (v := (.bool (decide ((S.get n).time ≤ t)))) (a' := ?_) rfl rfl (by kernel_rfl) (fun _ _ _ h => h) (Or.inl ⟨by rfl, ?_⟩) ?_ ?_
 ·intro w'
  go_simp
  try with_reducible rfl
 rotate_left
 ·simp only [Act.put, qa, qb, qc]
  rfl
 refine pu_ (i := 27) (N := (some 51)) (v := ?_) (a' := ?_) rfl rfl (by kernel_rfl) (fun _ _ _ h => h) (Or.inl ⟨by rfl, ?_⟩) ?_ ?_
 rotate_left
 ·intro w'
  go_simp
  try with_reducible rfl
 rotate_left
 ·simp only [Act.put, qa, qb, qc]
  rfl
 refine la_ (i := 28) (N := (some 52)) rfl rfl (by kernel_rfl) (by decide) (fun K hK => ?_)
 refine value_ (w1 := ?_) (v := ?_) (by rfl) rfl ?_ ?_
 rotate_left 2
 ·go_simp
  constructor
  ·rfl
  ·rfl
 refine hK.out _ _ ?_
 clear hK K
 refine norm_ (a' := ?_) ?_ ?_
 rotate_left
 ·show Act.put _ (some 52) _ = _
  simp only [Act.put, qa, qb, qc]
  rfl
 refine la_ (i := 29) (N := (some 53)) rfl rfl (by kernel_rfl) (by decide) (fun K hK => ?_)
 refine goes_ Tryz.func67 (by kernel_rfl) rfl #[.int .i64 (n : Int), .slice (some ⟨w1.heap.size, 0, none⟩) 4 4] (by rfl) rfl rfl (by simp only [List.map_toArray, List.map_cons, List.map_nil]; rfl) ?_
 refine Calls.mono (all4 _ _ w1.heap.size (decide (k ≤ 3)) ((S.get n).kind == 0) (false) (decide ((S.get n).time ≤ t)) 1 206 208 207 ?h5) ?_
 case h5 => exact heap_alloc_new w1.drew _
 rintro x w5 ⟨hr5, hb5⟩
 obtain ⟨v5, rfl, hr5⟩ := hr5.ret
 refine ⟨_, rfl, hK.out _ _ ?_⟩
 clear hK K
 refine norm_ (a' := ?_) ?_ ?_
 rotate_left
 ·show Act.put _ (some 53) _ = _
  simp only [Act.put, qa, qb, qc]
  rfl
 refine pu_ (i := 30) (N := (some 11)) (v := ?_) (a' := ?_) rfl rfl (by kernel_rfl) (fun _ _ _ h => h) (Or.inl ⟨by rfl, ?_⟩) ?_ ?_
 rotate_left
 ·intro w'
  go_simp
  try with_reducible rfl
 rotate_left
 ·simp only [Act.put, qa, qb, qc]
  rfl
 refine done_ (by kernel_rfl) ?_
 have hB : Below w.heap.size w w5 := (HB1.out.drew.alloc HB1.out.size _).trans (hb5.mono (by have := HB1.out.size; simp; omega))
 have hr : AllRes w n (firstNo [(decide (k ≤ 3), 1), ((S.get n).kind == 0, 206), (false, 208), (decide ((S.get n).time ≤ t), 207)]) (.returned v5) w5 := AllRes.mono (w := w) hr5 (by have := HB1.out.size; simp; omega)
 have ho := HO.out
 have hj := HJ.out
 have hR5 := HR.out.below hB
 generalize firstNo [(decide (k ≤ 3), 1), ((S.get n).kind == 0, 206), (false, 208), (decide ((S.get n).time ≤ t), 207)] = o at hr ho hj
 clear hr5 hb5
 cases o with
 | none =>
  have hv : v5 = .nilIface := by cases hr; rfl
  subst hv
  have d1 := hR5.c_kind hn
  have d2 := hR5.c_ask hn
  have f1 := hR5.free (2 + n * 10 + 4)
  have f2 := hR5.free (2 + n * 10 + 5)
  have HJ2 := Lib.hid hj
  have HR5 := Lib.hid hR5
  have HB := Lib.hid hB
  clear hr ho hj hR5 hB c1 c2
  go_wp2
  go_ret
  rw [HJ2.out]
  have hb2 := blk_put HR5.out.blk H8.out n 4 hn (by decide) (.int .i64 k) { S.get n with kind := k } rfl
  have hg : (S.put n { S.get n with kind := k }).get n = { S.get n with kind := k } := by rw [St.get_put S H8.out n n hn, if_pos rfl]
  have hb3 := blk_put (S := S.put n { S.get n with kind := k }) hb2 (by rw [St.put_l]; exact H8.out) n 5 hn (by decide) (.int .i64 t) { S.get n with kind := k, ask := t } (by rw [hg]; rfl)
  have hpp : (S.put n { S.get n with kind := k }).put n { S.get n with kind := k, ask := t } = S.put n { S.get n with kind := k, ask := t } := by unfold St.put; simp
  rw [hpp] at hb3
  have ht : Tch (fun k => k = H.r) w5 ((w5.setCell ⟨H.r, 2 + n * 10 + 4, none⟩ (.int .i64 k)).setCell ⟨H.r, 2 + n * 10 + 5, none⟩ (.int .i64 t)) := (Tch.setCell (P := fun k => k = H.r) (Tch.refl _ _) (p := ⟨H.r, 2 + n * 10 + 4, none⟩) (.inl rfl) _).setCell (p := ⟨H.r, 2 + n * 10 + 5, none⟩) (.inl rfl) _
  exact MPost.turn HR.out HB.out (HR5.out.turn ht hb3 rfl rfl rfl (put_keeps S H8.out hn _ ⟨rfl, rfl, rfl⟩)) ht _
 | some c =>
  have hcc := ho c rfl
  have henv := hR5.env
  obtain ⟨gg, hg1, hg2, hg3⟩ := hr
  cases hg2
  have HJ2 := Lib.hid hj
  have HR5 := Lib.hid hR5
  have HB := Lib.hid hB
  have her := errno_ref w5 henv gg n c hcc.1 hcc.2 hg3
  have HER := Lib.hid her
  clear ho hj hR5 hB henv hg3 her c1 c2
  go_wp2_with (go_at_call 64; (with_reducible refine HER.out.mono ?_); rintro e w6 ⟨rfl, hb6⟩)
  go_ret
  rw [HJ2.out]
  exact MPost.same HR.out (HB.out.trans (hb6.mono HB.out.size)) _
set_option maxHeartbeats 8000000 in
set_option maxRecDepth 100000 in
theorem ask_ny (w : World) (H : Sh) (S : St) (hR : RAt H w S) (h8 : S.l.length = 8) (n : Nat) (hn : n < 8) (he : S.byE n = 0) (k t : Int) (hkk : ¬ 1 ≤ k) (htt : 0 ≤ t) :
  Calls Tryz.prog 25 #[.pointer (some ⟨H.r, 0, none⟩), .int .i64 n, .int .i64 k, .int .i64 t] w (MPost H w (.int .i64 (S.ask n k t).1) (S.ask n k t).2) := by
 have hj : S.ask n k t = match firstNo [(false, 1), ((S.get n).kind == 0, 206), (decide (t ≤ 1099511627776), 208), (decide ((S.get n).time ≤ t), 207)] with | some c => (c, S) | none => (0, S.put n { S.get n with kind := k, ask := t }) := by
  unfold St.ask
  rw [if_neg (fun z => z he), Int.toNat_natCast]
  by_cases a : k ≤ 3 <;> by_cases b : (S.get n).kind = 0 <;> by_cases c : t ≤ 1099511627776 <;> by_cases d : (S.get n).time ≤ t <;> simp [firstNo, a, b, c, d] <;> (repeat' split) <;> first | rfl | omega
 have ho : ∀ c, firstNo [(false, 1), ((S.get n).kind == 0, 206), (decide (t ≤ 1099511627776), 208), (decide ((S.get n).time ≤ t), 207)] = some c → 0 ≤ c ∧ c < 220 := by
  intro c
  by_cases a : k ≤ 3 <;> by_cases b : (S.get n).kind = 0 <;> by_cases c : t ≤ 1099511627776 <;> by_cases d : (S.get n).time ≤ t <;> simp [firstNo, a, b, c, d] <;> intro e <;> omega
 have HR := Lib.hid hR
 have HJ := Lib.hid hj
 have HO := Lib.hid ho
 have H8 := Lib.hid h8
 have hby := by_yes w H S hR n he
 have HBY := Lib.hid hby
 have hR1 := fun w1 hb1 => hR.below (W' := w1) hb1
 have HR1 := Lib.hid hR1
 have h0 : ¬ (n : Int) < 0 := by omega
 have h8' : ¬ (8 : Int) ≤ (n : Int) := by omega
 have hz0 : (0 : Int) ≤ (n : Int) := by omega
 have hz8 : (n : Int) < 8 := by omega
 clear hR hR1 hj ho h8 hby he
 have hu115 := Tryz.underlying115
 have hu113 := Tryz.underlying113
 have hu112 := Tryz.underlying112
 have hu121 := Tryz.underlying121
 have hu193 := Tryz.underlying193
 have hu117 := Tryz.underlying117
 go_enter Tryz.func25, Tryz.ntmps25
 have hmix : Tryz.prog.follows .mixedOrders = true := by kernel_rfl
 go_wp2_with (go_at_call 63; (with_reducible refine HBY.out.mono ?_); rintro e w1 ⟨rfl, hb1⟩)
 have hRa := HR1.out w1 hb1
 have c1 := hRa.c_kind hn
 have c2 := hRa.c_time hn
 have HB1 := Lib.hid hb1
 clear hRa hb1
 go_wp2_with fail
 refine st_ (n := 31) (S := fun w' => w'.cell? ⟨H.r, 2 + n * 10 + 4, none⟩ = some (.int .i64 (S.get n).kind) ∧ w'.cell? ⟨H.r, 2 + n * 10 + 2, none⟩ = some (.int .i64 (S.get n).time)) (ds := [28, 29]) hmix rfl ⟨c1, c2⟩ (fun hHeld => ?_)
 refine pu_ (i := 0) (N := (some 24)) (v := ?_) (a' := ?_) rfl rfl (by kernel_rfl) (fun _ _ _ h => h) (Or.inl ⟨by rfl, ?_⟩) ?_ ?_
 rotate_left
 ·intro w'
  go_simp
  try with_reducible rfl
 rotate_left
 ·simp only [Act.put, qa, qb, qc]
  rfl
 refine pu_ (i := 1) (N := (some 25)) (v := ?_) (a' := ?_) rfl rfl (by kernel_rfl) (fun _ _ _ h => h) (Or.inl ⟨by rfl, ?_⟩) ?_ ?_
 rotate_left
 ·intro w'
  go_simp
  try with_reducible rfl
 rotate_left
 ·simp only [Act.put, qa, qb, qc]
  rfl
 refine pu_ (i := 2) (N := (some 26)) (v := (.bool false)) (a' := ?_) rfl rfl (by kernel_rfl) (fun _ _ _ h => h) (Or.inl ⟨by rfl, ?_⟩) ?_ ?_
 ·intro w'
  go_simp
  try with_reducible rfl
 rotate_left
 ·simp only [Act.put, qa, qb, qc]
  rfl
 refine pu_ (i := 3) (N := (some 27)) (v := ?_) (a' := ?_) rfl rfl (by kernel_rfl) (fun _ _ _ h => h) (Or.inl ⟨by rfl, ?_⟩) ?_ ?_
 rotate_left
 ·intro w'
  go_simp
  try with_reducible rfl
 rotate_left
 ·simp only [Act.put, qa, qb, qc]
  rfl
 refine pu_ (i := 4) (N := (some 28)) (v := undef) (a' := ?_) rfl rfl (by kernel_rfl) (fun _ _ _ h => h) (Or.inr ⟨by rfl, rfl⟩) ?_ ?_
 rotate_left
 ·simp only [Act.put, qa, qb, qc]
  rfl
 refine pu_ (i := 5) (N := (some 29)) (v := undef) (a' := ?_) rfl rfl (by kernel_rfl) (fun _ _ _ h => h) (Or.inr ⟨by rfl, rfl⟩) ?_ ?_
 rotate_left
 ·simp only [Act.put, qa, qb, qc]
  rfl
 refine pu_ (i := 6) (N := (some 30)) (v := ?_) (a' := ?_) rfl rfl (by kernel_rfl) (fun _ _ _ h => h) (Or.inl ⟨by rfl, ?_⟩) ?_ ?_
 rotate_left
 ·intro w'
  go_simp
  try with_reducible rfl
 rotate_left
 ·simp only [Act.put, qa, qb, qc]
  rfl
 refine pu_ (i := 7) (N := (some 31)) (v := ?_) (a' := ?_) rfl rfl (by kernel_rfl) (fun _ _ _ h => h) (Or.inl ⟨by rfl, ?_⟩) ?_ ?_
 rotate_left
 ·intro w'
  go_simp
  try with_reducible rfl
 rotate_left
 ·simp only [Act.put, qa, qb, qc]
  rfl
 refine pu_ (i := 8) (N := (some 32)) (v := ?_) (a' := ?_) rfl rfl (by kernel_rfl) (fun _ _ _ h => h) (Or.inl ⟨by rfl, ?_⟩) ?_ ?_
 rotate_left
 ·intro w'
  go_simp
  try with_reducible rfl
 rotate_left
 ·simp only [Act.put, qa, qb, qc]
  rfl
 refine pu_ (i := 9) (N := (some 33)) (v := ?_) (a' := ?_) rfl rfl (by kernel_rfl) (fun _ _ _ h => h) (Or.inl ⟨by rfl, ?_⟩) ?_ ?_
 rotate_left
 ·intro w'
  go_simp
  try with_reducible rfl
 rotate_left
 ·simp only [Act.put, qa, qb, qc]
  rfl
 refine pu_ (i := 10) (N := (some 34)) (v := ?_) (a' := ?_) rfl rfl (by kernel_rfl) (fun _ _ _ h => h) (Or.inl ⟨by rfl, ?_⟩) ?_ ?_
 rotate_left
 ·intro w'
  go_simp
  try with_reducible rfl
 rotate_left
 ·simp only [Act.put, qa, qb, qc]
  rfl
 refine tk_ (i := 11) (N := (some 35)) (v := (.int .i64 (S.get n).kind)) (a' := ?_) rfl rfl (by kernel_rfl) (fun _ _ _ h => h) (Or.inl ⟨by rfl, ?_⟩) hHeld ?_ ?_
 ·intro w' hS_
  obtain ⟨zz0, zz1⟩ := hS_
  go_simp
  try with_reducible rfl
 rotate_left
 ·simp only [Act.put, qa, qb, qc]
  rfl
 refine pu_ (i := 12) (N := (some 36)) (v := (.bool ((S.get n).kind == 0))) (a' := ?_) rfl rfl (by kernel_rfl) (fun _ _ _ h => h) (Or.inl ⟨by rfl, ?_⟩) ?_ ?_
 ·intro w'
  go_simp
  try with_reducible rfl
 rotate_left
 ·simp only [Act.put, qa, qb, qc]
  rfl
 refine pu_ (i := 13) (N := (some 37)) (v := ?_) (a' := ?_) rfl rfl (by kernel_rfl) (fun _ _ _ h => h) (Or.inl ⟨by rfl, ?_⟩) ?_ ?_
 rotate_left
 ·intro w'
  go_simp
  try with_reducible rfl
 rotate_left
 ·simp only [Act.put, qa, qb, qc]
  rfl
 refine pu_ (i := 14) (N := (some 38)) (v := ?_) (a' := ?_) rfl rfl (by kernel_rfl) (fun _ _ _ h => h) (Or.inl ⟨by rfl, ?_⟩) ?_ ?_
 rotate_left
 ·intro w'
  go_simp
  try with_reducible rfl
 rotate_left
 ·simp only [Act.put, qa, qb, qc]
  rfl
 refine pu_ (i := 15) (N := (some 39)) (v := (.bool true)) (a' := ?_) rfl rfl (by kernel_rfl) (fun _ _ _ h => h) (Or.inl ⟨by rfl, ?_⟩) ?_ ?_
 ·intro w'
  go_simp
  try with_reducible rfl
 rotate_left
 ·simp only [Act.put, qa, qb, qc]
  rfl
 refine pu_ (i := 16) (N := (some 40)) (v := ?_) (a' := ?_) rfl rfl (by kernel_rfl) (fun _ _ _ h => h) (Or.inl ⟨by rfl, ?_⟩) ?_ ?_
 rotate_left
 ·intro w'
  go_simp
  try with_reducible rfl
 rotate_left
 ·simp only [Act.put, qa, qb, qc]
  rfl
 refine pu_ (i := 17) (N := (some 41)) (v := ?_) (a' := ?_) rfl rfl (by kernel_rfl) (fun _ _ _ h => h) (Or.inl ⟨by rfl, ?_⟩) ?_ ?_
 rotate_left
 ·intro w'
  go_simp
  try with_reducible rfl
 rotate_left
 ·simp only [Act.put, qa, qb, qc]
  rfl
 refine pu_ (i := 18) (N := (some 42)) (v := (.bool (decide (t ≤ 1099511627776)))) (a' := ?_) rfl rfl (by kernel_rfl) (fun _ _ _ h => h) (Or.inl ⟨by rfl, ?_⟩) ?_ ?_
 ·intro w'
  go_simp
  try with_reducible rfl
 rotate_left
 ·simp only [Act.put, qa, qb, qc]
  rfl
 refine pu_ (i := 19) (N := (some 43)) (v := ?_) (a' := ?_) rfl rfl (by kernel_rfl) (fun _ _ _ h => h) (Or.inl ⟨by rfl, ?_⟩) ?_ ?_
 rotate_left
 ·intro w'
  go_simp
  try with_reducible rfl
 rotate_left
 ·simp only [Act.put, qa, qb, qc]
  rfl
 refine pu_ (i := 20) (N := (some 44)) (v := ?_) (a' := ?_) rfl rfl (by kernel_rfl) (fun _ _ _ h => h) (Or.inl ⟨by rfl, ?_⟩) ?_ ?_
 rotate_left
 ·intro w'
  go_simp
  try with_reducible rfl
 rotate_left
 ·simp only [Act.put, qa, qb, qc]
  rfl
 refine pu_ (i := 21) (N := (some 45)) (v := ?_) (a' := ?_) rfl rfl (by kernel_rfl) (fun _ _ _ h => h) (Or.inl ⟨by rfl, ?_⟩) ?_ ?_
 rotate_left
 ·intro w'
  go_simp
  try with_reducible rfl
 rotate_left
 ·simp only [Act.put, qa, qb, qc]
  rfl
 refine pu_ (i := 22) (N := (some 46)) (v := ?_) (a' := ?_) rfl rfl (by kernel_rfl) (fun _ _ _ h => h) (Or.inl ⟨by rfl, ?_⟩) ?_ ?_
 rotate_left
 ·intro w'
  go_simp
  try with_reducible rfl
 rotate_left
 ·simp only [Act.put, qa, qb, qc]
  rfl
 refine pu_ (i := 23) (N := (some 47)) (v := ?_) (a' := ?_) rfl rfl (by kernel_rfl) (fun _ _ _ h => h) (Or.inl ⟨by rfl, ?_⟩) ?_ ?_
 rotate_left
 ·intro w'
  go_simp
  try with_reducible rfl
 rotate_left
 ·simp only [Act.put, qa, qb, qc]
  rfl
 refine pu_ (i := 24) (N := (some 48)) (v := ?_) (a' := ?_) rfl rfl (by kernel_rfl) (fun _ _ _ h => h) (Or.inl ⟨by rfl, ?_⟩) ?_ ?_
 rotate_left
 ·intro w'
  go_simp
  try with_reducible rfl
 rotate_left
 ·simp only [Act.put, qa, qb, qc]
  rfl
 refine tk_ (i := 25) (N := (some 49)) (v := (.int .i64 (S.get n).time)) (a' := ?_) rfl rfl (by kernel_rfl) (fun _ _ _ h => h) (Or.inl ⟨by rfl, ?_⟩) hHeld ?_ ?_
 ·intro w' hS_
  obtain ⟨zz0, zz1⟩ := hS_
  go_simp
  try with_reducible rfl
 rotate_left
 ·simp only [Act.put, qa, qb, qc]
  rfl
 refine pu_ (i := 26) (N := (some 50)) (v := (.bool (decide ((S.get n).time ≤ t)))) (a' := ?_) rfl rfl (by kernel_rfl) (fun _ _ _ h => h) (Or.inl ⟨by rfl, ?_⟩) ?_ ?_
 ·intro w'
  go_simp
  try with_reducible rfl
 rotate_left
 ·simp only [Act.put, qa, qb, qc]
  rfl
 refine pu_ (i := 27) (N := (some 51)) (v := ?_) (a' := ?_) rfl rfl (by kernel_rfl) (fun _ _ _ h => h) (Or.inl ⟨by rfl, ?_⟩) ?_ ?_
 rotate_left
 ·intro w'
  go_simp
  try with_reducible rfl
 rotate_left
 ·simp only [Act.put, qa, qb, qc]
  rfl
 refine la_ (i := 28) (N := (some 52)) rfl rfl (by kernel_rfl) (by decide) (fun K hK => ?_)
 refine value_ (w1 := ?_) (v := ?_) (by rfl) rfl ?_ ?_
 rotate_left 2
 ·go_simp
  constructor
  ·rfl
  ·rfl
 refine hK.out _ _ ?_
 clear hK K
 refine norm_ (a' := ?_) ?_ ?_
 rotate_left
 ·show Act.put _ (some 52) _ = _
  simp only [Act.put, qa, qb, qc]
  rfl
 refine la_ (i := 29) (N := (some 53)) rfl rfl (by kernel_rfl) (by decide) (fun K hK => ?_)
 refine goes_ Tryz.func67 (by kernel_rfl) rfl #[.int .i64 (n : Int), .slice (some ⟨w1.heap.size, 0, none⟩) 4 4] (by rfl) rfl rfl (by simp only [List.map_toArray, List.map_cons, List.map_nil]; rfl) ?_
 refine Calls.mono (all4 _ _ w1.heap.size (false) ((S.get n).kind == 0) (decide (t ≤ 1099511627776)) (decide ((S.get n).time ≤ t)) 1 206 208 207 ?h5) ?_
 case h5 => exact heap_alloc_new w1.drew _
 rintro x w5 ⟨hr5, hb5⟩
 obtain ⟨v5, rfl, hr5⟩ := hr5.ret
 refine ⟨_, rfl, hK.out _ _ ?_⟩
 clear hK K
 refine norm_ (a' := ?_) ?_ ?_
 rotate_left
 ·show Act.put _ (some 53) _ = _
  simp only [Act.put, qa, qb, qc]
  rfl
 refine pu_ (i := 30) (N := (some 11)) (v := ?_) (a' := ?_) rfl rfl (by kernel_rfl) (fun _ _ _ h => h) (Or.inl ⟨by rfl, ?_⟩) ?_ ?_
 rotate_left
 ·intro w'
  go_simp
  try with_reducible rfl
 rotate_left
 ·simp only [Act.put, qa, qb, qc]
  rfl
 refine done_ (by kernel_rfl) ?_
 have hB : Below w.heap.size w w5 := (HB1.out.drew.alloc HB1.out.size _).trans (hb5.mono (by have := HB1.out.size; simp; omega))
 have hr : AllRes w n (firstNo [(false, 1), ((S.get n).kind == 0, 206), (decide (t ≤ 1099511627776), 208), (decide ((S.get n).time ≤ t), 207)]) (.returned v5) w5 := AllRes.mono (w := w) hr5 (by have := HB1.out.size; simp; omega)
 have ho := HO.out
 have hj := HJ.out
 have hR5 := HR.out.below hB
 generalize firstNo [(false, 1), ((S.get n).kind == 0, 206), (decide (t ≤ 1099511627776), 208), (decide ((S.get n).time ≤ t), 207)] = o at hr ho hj
 clear hr5 hb5
 cases o with
 | none =>
  have hv : v5 = .nilIface := by cases hr; rfl
  subst hv
  have d1 := hR5.c_kind hn
  have d2 := hR5.c_ask hn
  have f1 := hR5.free (2 + n * 10 + 4)
  have f2 := hR5.free (2 + n * 10 + 5)
  have HJ2 := Lib.hid hj
  have HR5 := Lib.hid hR5
  have HB := Lib.hid hB
  clear hr ho hj hR5 hB c1 c2
  go_wp2
  go_ret
  rw [HJ2.out]
  have hb2 := blk_put HR5.out.blk H8.out n 4 hn (by decide) (.int .i64 k) { S.get n with kind := k } rfl
  have hg : (S.put n { S.get n with kind := k }).get n = { S.get n with kind := k } := by rw [St.get_put S H8.out n n hn, if_pos rfl]
  have hb3 := blk_put (S := S.put n { S.get n with kind := k }) hb2 (by rw [St.put_l]; exact H8.out) n 5 hn (by decide) (.int .i64 t) { S.get n with kind := k, ask := t } (by rw [hg]; rfl)
  have hpp : (S.put n { S.get n with kind := k }).put n { S.get n with kind := k, ask := t } = S.put n { S.get n with kind := k, ask := t } := by unfold St.put; simp
  rw [hpp] at hb3
  have ht : Tch (fun k => k = H.r) w5 ((w5.setCell ⟨H.r, 2 + n * 10 + 4, none⟩ (.int .i64 k)).setCell ⟨H.r, 2 + n * 10 + 5, none⟩ (.int .i64 t)) := (Tch.setCell (P := fun k => k = H.r) (Tch.refl _ _) (p := ⟨H.r, 2 + n * 10 + 4, none⟩) (.inl rfl) _).setCell (p := ⟨H.r, 2 + n * 10 + 5, none⟩) (.inl rfl) _
  exact MPost.turn HR.out HB.out (HR5.out.turn ht hb3 rfl rfl rfl (put_keeps S H8.out hn _ ⟨rfl, rfl, rfl⟩)) ht _
 | some c =>
  have hcc := ho c rfl
  have henv := hR5.env
  obtain ⟨gg, hg1, hg2, hg3⟩ := hr
  cases hg2
  have HJ2 := Lib.hid hj
  have HR5 := Lib.hid hR5
  have HB := Lib.hid hB
  have her := errno_ref w5 henv gg n c hcc.1 hcc.2 hg3
  have HER := Lib.hid her
  clear ho hj hR5 hB henv hg3 her c1 c2
  go_wp2_with (go_at_call 64; (with_reducible refine HER.out.mono ?_); rintro e w6 ⟨rfl, hb6⟩)
  go_ret
  rw [HJ2.out]
  exact MPost.same HR.out (HB.out.trans (hb6.mono HB.out.size)) _
set_option maxHeartbeats 8000000 in
set_option maxRecDepth 100000 in
theorem ask_nn (w : World) (H : Sh) (S : St) (hR : RAt H w S) (h8 : S.l.length = 8) (n : Nat) (hn : n < 8) (he : S.byE n = 0) (k t : Int) (hkk : ¬ 1 ≤ k) (htt : ¬ 0 ≤ t) :
  Calls Tryz.prog 25 #[.pointer (some ⟨H.r, 0, none⟩), .int .i64 n, .int .i64 k, .int .i64 t] w (MPost H w (.int .i64 (S.ask n k t).1) (S.ask n k t).2) := by
 have hj : S.ask n k t = match firstNo [(false, 1), ((S.get n).kind == 0, 206), (false, 208), (decide ((S.get n).time ≤ t), 207)] with | some c => (c, S) | none => (0, S.put n { S.get n with kind := k, ask := t }) := by
  unfold St.ask
  rw [if_neg (fun z => z he), Int.toNat_natCast]
  by_cases a : k ≤ 3 <;> by_cases b : (S.get n).kind = 0 <;> by_cases c : t ≤ 1099511627776 <;> by_cases d : (S.get n).time ≤ t <;> simp [firstNo, a, b, c, d] <;> (repeat' split) <;> first | rfl | omega
 have ho : ∀ c, firstNo [(false, 1), ((S.get n).kind == 0, 206), (false, 208), (decide ((S.get n).time ≤ t), 207)] = some c → 0 ≤ c ∧ c < 220 := by
  intro c
  by_cases a : k ≤ 3 <;> by_cases b : (S.get n).kind = 0 <;> by_cases c : t ≤ 1099511627776 <;> by_cases d : (S.get n).time ≤ t <;> simp [firstNo, a, b, c, d] <;> intro e <;> omega
 have HR := Lib.hid hR
 have HJ := Lib.hid hj
 have HO := Lib.hid ho
 have H8 := Lib.hid h8
 have hby := by_yes w H S hR n he
 have HBY := Lib.hid hby
 have hR1 := fun w1 hb1 => hR.below (W' := w1) hb1
 have HR1 := Lib.hid hR1
 have h0 : ¬ (n : Int) < 0 := by omega
 have h8' : ¬ (8 : Int) ≤ (n : Int) := by omega
 have hz0 : (0 : Int) ≤ (n : Int) := by omega
 have hz8 : (n : Int) < 8 := by omega
 clear hR hR1 hj ho h8 hby he
 have hu115 := Tryz.underlying115
 have hu113 := Tryz.underlying113
 have hu112 := Tryz.underlying112
 have hu121 := Tryz.underlying121
 have hu193 := Tryz.underlying193
 have hu117 := Tryz.underlying117
 go_enter Tryz.func25, Tryz.ntmps25
 have hmix : Tryz.prog.follows .mixedOrders = true := by kernel_rfl
 go_wp2_with (go_at_call 63; (with_reducible refine HBY.out.mono ?_); rintro e w1 ⟨rfl, hb1⟩)
 have hRa := HR1.out w1 hb1
 have c1 := hRa.c_kind hn
 have c2 := hRa.c_time hn
 have HB1 := Lib.hid hb1
 clear hRa hb1
 go_wp2_with fail
 refine st_ (n := 31) (S := fun w' => w'.cell? ⟨H.r, 2 + n * 10 + 4, none⟩ = some (.int .i64 (S.get n).kind) ∧ w'.cell? ⟨H.r, 2 + n * 10 + 2, none⟩ = some (.int .i64 (S.get n).time)) (ds := [28, 29]) hmix rfl ⟨c1, c2⟩ (fun hHeld => ?_)
 refine pu_ (i := 0) (N := (some 24)) (v := ?_) (a' := ?_) rfl rfl (by kernel_rfl) (fun _ _ _ h => h) (Or.inl ⟨by rfl, ?_⟩) ?_ ?_
 rotate_left
 ·intro w'
  go_simp
  try with_reducible rfl
 rotate_left
 ·simp only [Act.put, qa, qb, qc]
  rfl
 refine pu_ (i := 1) (N := (some 25)) (v := ?_) (a' := ?_) rfl rfl (by kernel_rfl) (fun _ _ _ h => h) (Or.inl ⟨by rfl, ?_⟩) ?_ ?_
 rotate_left
 ·intro w'
  go_simp
  try with_reducible rfl
 rotate_left
 ·simp only [Act.put, qa, qb, qc]
  rfl
 refine pu_ (i := 2) (N := (some 26)) (v := (.bool false)) (a' := ?_) rfl rfl (by kernel_rfl) (fun _ _ _ h => h) (Or.inl ⟨by rfl, ?_⟩) ?_ ?_
 ·intro w'
  go_simp
  try with_reducible rfl
 rotate_left
 ·simp only [Act.put, qa, qb, qc]
  rfl
 refine pu_ (i := 3) (N := (some 27)) (v := ?_) (a' := ?_) rfl rfl (by kernel_rfl) (fun _ _ _ h => h) (Or.inl ⟨by rfl, ?_⟩) ?_ ?_
 rotate_left
 ·intro w'
  go_simp
  try with_reducible rfl
 rotate_left
 ·simp only [Act.put, qa, qb, qc]
  rfl
 refine pu_ (i := 4) (N := (some 28)) (v := undef) (a' := ?_) rfl rfl (by kernel_rfl) (fun _ _ _ h => h) (Or.inr ⟨by rfl, rfl⟩) ?_ ?_
 rotate_left
 ·simp only [Act.put, qa, qb, qc]
  rfl
 refine pu_ (i := 5) (N := (some 29)) (v := undef) (a' := ?_) rfl rfl (by kernel_rfl) (fun _ _ _ h => h) (Or.inr ⟨by rfl, rfl⟩) ?_ ?_
 rotate_left
 ·simp only [Act.put, qa, qb, qc]
  rfl
 refine pu_ (i := 6) (N := (some 30)) (v := ?_) (a' := ?_) rfl rfl (by kernel_rfl) (fun _ _ _ h => h) (Or.inl ⟨by rfl, ?_⟩) ?_ ?_
 rotate_left
 ·intro w'
  go_simp
  try with_reducible rfl
 rotate_left
 ·simp only [Act.put, qa, qb, qc]
  rfl
 refine pu_ (i := 7) (N := (some 31)) (v := ?_) (a' := ?_) rfl rfl (by kernel_rfl) (fun _ _ _ h => h) (Or.inl ⟨by rfl, ?_⟩) ?_ ?_
 rotate_left
 ·intro w'
  go_simp
  try with_reducible rfl
 rotate_left
 ·simp only [Act.put, qa, qb, qc]
  rfl
 refine pu_ (i := 8) (N := (some 32)) (v := ?_) (a' := ?_) rfl rfl (by kernel_rfl) (fun _ _ _ h => h) (Or.inl ⟨by rfl, ?_⟩) ?_ ?_
 rotate_left
 ·intro w'
  go_simp
  try with_reducible rfl
 rotate_left
 ·simp only [Act.put, qa, qb, qc]
  rfl
 refine pu_ (i := 9) (N := (some 33)) (v := ?_) (a' := ?_) rfl rfl (by kernel_rfl) (fun _ _ _ h => h) (Or.inl ⟨by rfl, ?_⟩) ?_ ?_
 rotate_left
 ·intro w'
  go_simp
  try with_reducible rfl
 rotate_left
 ·simp only [Act.put, qa, qb, qc]
  rfl
 refine pu_ (i := 10) (N := (some 34)) (v := ?_) (a' := ?_) rfl rfl (by kernel_rfl) (fun _ _ _ h => h) (Or.inl ⟨by rfl, ?_⟩) ?_ ?_
 rotate_left
 ·intro w'
  go_simp
  try with_reducible rfl
 rotate_left
 ·simp only [Act.put, qa, qb, qc]
  rfl
 refine tk_ (i := 11) (N := (some 35)) (v := (.int .i64 (S.get n).kind)) (a' := ?_) rfl rfl (by kernel_rfl) (fun _ _ _ h => h) (Or.inl ⟨by rfl, ?_⟩) hHeld ?_ ?_
 ·intro w' hS_
  obtain ⟨zz0, zz1⟩ := hS_
  go_simp
  try with_reducible rfl
 rotate_left
 ·simp only [Act.put, qa, qb, qc]
  rfl
 refine pu_ (i := 12) (N := (some 36)) (v := (.bool ((S.get n).kind == 0))) (a' := ?_) rfl rfl (by kernel_rfl) (fun _ _ _ h => h) (Or.inl ⟨by rfl, ?_⟩) ?_ ?_
 ·intro w'
  go_simp
  try with_reducible rfl
 rotate_left
 ·simp only [Act.put, qa, qb, qc]
  rfl
 refine pu_ (i := 13) (N := (some 37)) (v := ?_) (a' := ?_) rfl rfl (by kernel_rfl) (fun _ _ _ h => h) (Or.inl ⟨by rfl, ?_⟩) ?_ ?_
 rotate_left
 ·intro w'
  go_simp
  try with_reducible rfl
 rotate_left
 ·simp only [Act.put, qa, qb, qc]
  rfl
 refine pu_ (i := 14) (N := (some 38)) (v := ?_) (a' := ?_) rfl rfl (by kernel_rfl) (fun _ _ _ h => h) (Or.inl ⟨by rfl, ?_⟩) ?_ ?_
 rotate_left
 ·intro w'
  go_simp
  try with_reducible rfl
 rotate_left
 ·simp only [Act.put, qa, qb, qc]
  rfl
 refine pu_ (i := 15) (N := (some 39)) (v := (.bool false)) (a' := ?_) rfl rfl (by kernel_rfl) (fun _ _ _ h => h) (Or.inl ⟨by rfl, ?_⟩) ?_ ?_
 ·intro w'
  go_simp
  try with_reducible rfl
 rotate_left
 ·simp only [Act.put, qa, qb, qc]
  rfl
 refine pu_ (i := 16) (N := (some 40)) (v := ?_) (a' := ?_) rfl rfl (by kernel_rfl) (fun _ _ _ h => h) (Or.inl ⟨by rfl, ?_⟩) ?_ ?_
 rotate_left
 ·intro w'
  go_simp
  try with_reducible rfl
 rotate_left
 ·simp only [Act.put, qa, qb, qc]
  rfl
 refine pu_ (i := 17) (N := (some 41)) (v := undef) (a' := ?_) rfl rfl (by kernel_rfl) (fun _ _ _ h => h) (Or.inr ⟨by rfl, rfl⟩) ?_ ?_
 rotate_left
 ·simp only [Act.put, qa, qb, qc]
  rfl
 refine pu_ (i := 18) (N := (some 42)) (v := undef) (a' := ?_) rfl rfl (by kernel_rfl) (fun _ _ _ h => h) (Or.inr ⟨by rfl, rfl⟩) ?_ ?_
 rotate_left
 ·simp only [Act.put, qa, qb, qc]
  rfl
 refine pu_ (i := 19) (N := (some 43)) (v := ?_) (a' := ?_) rfl rfl (by kernel_rfl) (fun _ _ _ h => h) (Or.inl ⟨by rfl, ?_⟩) ?_ ?_
 rotate_left
 ·intro w'
  go_simp
  try with_reducible rfl
 rotate_left
 ·simp only [Act.put, qa, qb, qc]
  rfl
 refine pu_ (i := 20) (N := (some 44)) (v := ?_) (a' := ?_) rfl rfl (by kernel_rfl) (fun _ _ _ h => h) (Or.inl ⟨by rfl, ?_⟩) ?_ ?_
 rotate_left
 ·intro w'
  go_simp
  try with_reducible rfl
 rotate_left
 ·simp only [Act.put, qa, qb, qc]
  rfl
 refine pu_ (i := 21) (N := (some 45)) (v := ?_) (a' := ?_) rfl rfl (by kernel_rfl) (fun _ _ _ h => h) (Or.inl ⟨by rfl, ?_⟩) ?_ ?_
 rotate_left
 ·intro w'
  go_simp
  try with_reducible rfl
 rotate_left
 ·simp only [Act.put, qa, qb, qc]
  rfl
 refine pu_ (i := 22) (N := (some 46)) (v := ?_) (a' := ?_) rfl rfl (by kernel_rfl) (fun _ _ _ h => h) (Or.inl ⟨by rfl, ?_⟩) ?_ ?_
 rotate_left
 ·intro w'
  go_simp
  try with_reducible rfl
 rotate_left
 ·simp only [Act.put, qa, qb, qc]
  rfl
 refine pu_ (i := 23) (N := (some 47)) (v := ?_) (a' := ?_) rfl rfl (by kernel_rfl) (fun _ _ _ h => h) (Or.inl ⟨by rfl, ?_⟩) ?_ ?_
 rotate_left
 ·intro w'
  go_simp
  try with_reducible rfl
 rotate_left
 ·simp only [Act.put, qa, qb, qc]
  rfl
 refine pu_ (i := 24) (N := (some 48)) (v := ?_) (a' := ?_) rfl rfl (by kernel_rfl) (fun _ _ _ h => h) (Or.inl ⟨by rfl, ?_⟩) ?_ ?_
 rotate_left
 ·intro w'
  go_simp
  try with_reducible rfl
 rotate_left
 ·simp only [Act.put, qa, qb, qc]
  rfl
 refine tk_ (i := 25) (N := (some 49)) (v := (.int .i64 (S.get n).time)) (a' := ?_) rfl rfl (by kernel_rfl) (fun _ _ _ h => h) (Or.inl ⟨by rfl, ?_⟩) hHeld ?_ ?_
 ·intro w' hS_
  obtain ⟨zz0, zz1⟩ := hS_
  go_simp
  try with_reducible rfl
 rotate_left
 ·simp only [Act.put, qa, qb, qc]
  rfl
 refine pu_ (i := 26) (N := (some 50)) (v := (.bool (decide ((S.get n).time ≤ t)))) (a' := ?_) rfl rfl (by kernel_rfl) (fun _ _ _ h => h) (Or.inl ⟨by rfl, ?_⟩) ?_ ?_
 ·intro w'
  go_simp
  try with_reducible rfl
 rotate_left
 ·simp only [Act.put, qa, qb, qc]
  rfl
 refine pu_ (i := 27) (N := (some 51)) (v := ?_) (a' := ?_) rfl rfl (by kernel_rfl) (fun _ _ _ h => h) (Or.inl ⟨by rfl, ?_⟩) ?_ ?_
 rotate_left
 ·intro w'
  go_simp
  try with_reducible rfl
 rotate_left
 ·simp only [Act.put, qa, qb, qc]
  rfl
 refine la_ (i := 28) (N := (some 52)) rfl rfl (by kernel_rfl) (by decide) (fun K hK => ?_)
 refine value_ (w1 := ?_) (v := ?_) (by rfl) rfl ?_ ?_
 rotate_left 2
 ·go_simp
  constructor
  ·rfl
  ·rfl
 refine hK.out _ _ ?_
 clear hK K
 refine norm_ (a' := ?_) ?_ ?_
 rotate_left
 ·show Act.put _ (some 52) _ = _
  simp only [Act.put, qa, qb, qc]
  rfl
 refine la_ (i := 29) (N := (some 53)) rfl rfl (by kernel_rfl) (by decide) (fun K hK => ?_)
 refine goes_ Tryz.func67 (by kernel_rfl) rfl #[.int .i64 (n : Int), .slice (some ⟨w1.heap.size, 0, none⟩) 4 4] (by rfl) rfl rfl (by simp only [List.map_toArray, List.map_cons, List.map_nil]; rfl) ?_
 refine Calls.mono (all4 _ _ w1.heap.size (false) ((S.get n).kind == 0) (false) (decide ((S.get n).time ≤ t)) 1 206 208 207 ?h5) ?_
 case h5 => exact heap_alloc_new w1.drew _
 rintro x w5 ⟨hr5, hb5⟩
 obtain ⟨v5, rfl, hr5⟩ := hr5.ret
 refine ⟨_, rfl, hK.out _ _ ?_⟩
 clear hK K
 refine norm_ (a' := ?_) ?_ ?_
 rotate_left
 ·show Act.put _ (some 53) _ = _
  simp only [Act.put, qa, qb, qc]
  rfl
 refine pu_ (i := 30) (N := (some 11)) (v := ?_) (a' := ?_) rfl rfl (by kernel_rfl) (fun _ _ _ h => h) (Or.inl ⟨by rfl, ?_⟩) ?_ ?_
 rotate_left
 ·intro w'
  go_simp
  try with_reducible rfl
 rotate_left
 ·simp only [Act.put, qa, qb, qc]
  rfl
 refine done_ (by kernel_rfl) ?_
 have hB : Below w.heap.size w w5 := (HB1.out.drew.alloc HB1.out.size _).trans (hb5.mono (by have := HB1.out.size; simp; omega))
 have hr : AllRes w n (firstNo [(false, 1), ((S.get n).kind == 0, 206), (false, 208), (decide ((S.get n).time ≤ t), 207)]) (.returned v5) w5 := AllRes.mono (w := w) hr5 (by have := HB1.out.size; simp; omega)
 have ho := HO.out
 have hj := HJ.out
 have hR5 := HR.out.below hB
 generalize firstNo [(false, 1), ((S.get n).kind == 0, 206), (false, 208), (decide ((S.get n).time ≤ t), 207)] = o at hr ho hj
 clear hr5 hb5
 cases o with
 | none =>
  have hv : v5 = .nilIface := by cases hr; rfl
  subst hv
  have d1 := hR5.c_kind hn
  have d2 := hR5.c_ask hn
  have f1 := hR5.free (2 + n * 10 + 4)
  have f2 := hR5.free (2 + n * 10 + 5)
  have HJ2 := Lib.hid hj
  have HR5 := Lib.hid hR5
  have HB := Lib.hid hB
  clear hr ho hj hR5 hB c1 c2
  go_wp2
  go_ret
  rw [HJ2.out]
  have hb2 := blk_put HR5.out.blk H8.out n 4 hn (by decide) (.int .i64 k) { S.get n with kind := k } rfl
  have hg : (S.put n { S.get n with kind := k }).get n = { S.get n with kind := k } := by rw [St.get_put S H8.out n n hn, if_pos rfl]
  have hb3 := blk_put (S := S.put n { S.get n with kind := k }) hb2 (by rw [St.put_l]; exact H8.out) n 5 hn (by decide) (.int .i64 t) { S.get n with kind := k, ask := t } (by rw [hg]; rfl)
  have hpp : (S.put n { S.get n with kind := k }).put n { S.get n with kind := k, ask := t } = S.put n { S.get n with kind := k, ask := t } := by unfold St.put; simp
  rw [hpp] at hb3
  have ht : Tch (fun k => k = H.r) w5 ((w5.setCell ⟨H.r, 2 + n * 10 + 4, none⟩ (.int .i64 k)).setCell ⟨H.r, 2 + n * 10 + 5, none⟩ (.int .i64 t)) := (Tch.setCell (P := fun k => k = H.r) (Tch.refl _ _) (p := ⟨H.r, 2 + n * 10 + 4, none⟩) (.inl rfl) _).setCell (p := ⟨H.r, 2 + n * 10 + 5, none⟩) (.inl rfl) _
  exact MPost.turn HR.out HB.out (HR5.out.turn ht hb3 rfl rfl rfl (put_keeps S H8.out hn _ ⟨rfl, rfl, rfl⟩)) ht _
 | some c =>
  have hcc := ho c rfl
  have henv := hR5.env
  obtain ⟨gg, hg1, hg2, hg3⟩ := hr
  cases hg2
  have HJ2 := Lib.hid hj
  have HR5 := Lib.hid hR5
  have HB := Lib.hid hB
  have her := errno_ref w5 henv gg n c hcc.1 hcc.2 hg3
  have HER := Lib.hid her
  clear ho hj hR5 hB henv hg3 her c1 c2
  go_wp2_with (go_at_call 64; (with_reducible refine HER.out.mono ?_); rintro e w6 ⟨rfl, hb6⟩)
  go_ret
  rw [HJ2.out]
  exact MPost.same HR.out (HB.out.trans (hb6.mono HB.out.size)) _
end Go.Proofs.YtehnkebcbomidaaGreatDoor.Rt
