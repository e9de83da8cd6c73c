/- Part of a proof over the given program: Jo, Bo, Tu. -/
import Derived.Test.YtehnkebcbomidaaGreatDoorCb12
set_option linter.unusedVariables false
set_option linter.unusedSimpArgs false
namespace Go.Proofs.YtehnkebcbomidaaGreatDoor.Rt
open Go Go.RowKit Go.Proofs Go.Proofs.YtehnkebcbomidaaGreatDoorW.PrintWords Go.Proofs.YtehnkebcbomidaaGreatDoorW.PrintLast
def MPost (H : Sh) (w : World) (r : Value) (S : St) (e : Ending) (w' : World) : Prop := ∃ H' : Sh, e = .returned r ∧ RAt H' w' S ∧ H'.r = H.r ∧ (∀ k, k < w.heap.size → H.own k = 0 → H'.own k = 0) ∧ Tch (fun k => H.own k ≠ 0) w w'
theorem MPost.same {H : Sh} {w w' : World} {S : St} (h : RAt H w S) (hb : Below w.heap.size w w') (r : Value) : MPost H w r S (.returned r) w' :=
  ⟨H, rfl, h.below hb, rfl, fun _ _ h => h, Tch.of_below hb⟩
theorem MPost.turn {H : Sh} {w w1 w' : World} {S S' : St} (h : RAt H w S) (hb : Below w.heap.size w w1) (h1 : RAt H w' S') (ht : Tch (fun k => k = H.r) w1 w') (r : Value) : MPost H w r S' (.returned r) w' :=
  ⟨H, rfl, h1, rfl, fun _ _ h => h, (Tch.of_below hb).trans ht (fun k hk e => by rw [e, h.o1]; decide)⟩
theorem all2 (w : World) (f : Int) (s : Nat) (b1 b2 : Bool) (e1 e2 : Int) (h : w.heap[s]? = some (.cells #[.bool b1, .int .i64 e1, .bool b2, .int .i64 e2] 121 (0, 0))) :
    Calls Tryz.prog 67 #[.int .i64 f, .slice (some ⟨s, 0, none⟩) 2 2] w fun e w' => AllRes w f (firstNo [(b1, e1), (b2, e2)]) e w' ∧ Below w.heap.size w w' :=
  all_call w f s 2 [(b1, e1), (b2, e2)] (by simp) (by simp) (fun j hj => by
    have : j = 0 ∨ j = 1 := by simp at hj; omega
    rcases this with rfl | rfl <;> simp [World.cell?, h])
theorem put_keeps (S : St) (h8 : S.l.length = 8) {n : Nat} (hn : n < 8) (m : Mem) (hm : m.subs = (S.get n).subs ∧ m.Q = (S.get n).Q ∧ m.P = (S.get n).P) (k : Nat) (hk : k < 8) : ((S.put n m).get k).subs = (S.get k).subs ∧ ((S.put n m).get k).Q = (S.get k).Q ∧ ((S.put n m).get k).P = (S.get k).P := by
  rw [St.get_put S h8 n k hn]
  split
  · rename_i e; subst e; exact hm
  · exact ⟨rfl, rfl, rfl⟩
theorem join_out (w : World) (g : Nat) (f : Int) (h : f < 0 ∨ 8 ≤ f) : Calls Tryz.prog 34 #[.pointer (some ⟨g, 0, none⟩), .int .i64 f] w fun e w' => e = .returned (.int .i64 1) ∧ w' = w := by
  rcases h with h | h
  · go_enter Tryz.func34, Tryz.ntmps34
    go_wp2_with fail
    go_ret
    exact ⟨rfl, rfl⟩
  · have h0 : ¬ f < 0 := by omega
    go_enter Tryz.func34, Tryz.ntmps34
    go_wp2_with fail
    go_ret
    exact ⟨rfl, rfl⟩
set_option maxHeartbeats 4000000 in
set_option maxRecDepth 100000 in
theorem join_in (w : World) (H : Sh) (S : St) (hR : RAt H w S) (h8 : S.l.length = 8) (n : Nat) (hn : n < 8) :
    Calls Tryz.prog 34 #[.pointer (some ⟨H.r, 0, none⟩), .int .i64 n] w (MPost H w (.int .i64 (S.join n).1) (S.join n).2) := by
  have hj : S.join n = match firstNo [(!S.saving, 212), (!(S.get n).is, 200)] with | some c => (c, S) | none => (0, S.put n { S.get n with is := true }) := by
    unfold St.join
    rw [if_neg (by omega), Int.toNat_natCast]
    cases S.saving <;> cases (S.get n).is <;> rfl
  have ho : ∀ c, firstNo [(!S.saving, 212), (!(S.get n).is, 200)] = some c → 0 ≤ c ∧ c < 220 := by
    intro c
    cases S.saving <;> cases (S.get n).is <;> simp [firstNo] <;> intro e <;> omega
  have c1 := hR.c_is hn
  have c2 := hR.c_sv
  have fz := hR.free (2 + n * 10)
  have hgl : H.r < w.heap.size := World.block_lt_of_cell? w _ c2
  have h0 : ¬ (n : Int) < 0 := by omega
  have h8' : ¬ (8 : Int) ≤ (n : Int) := by omega
  have hz0 : (0 : Int) ≤ (n : Int) := by omega
  have hz8 : (n : Int) < 8 := by omega
  have hu115 := Tryz.underlying115
  have hu113 := Tryz.underlying113
  have hu112 := Tryz.underlying112
  have hu121 := Tryz.underlying121
  have hu193 := Tryz.underlying193
  have HR := Lib.hid hR
  have HJ := Lib.hid hj
  have HO := Lib.hid ho
  have H8 := Lib.hid h8
  clear hR hj ho h8
  generalize hbi : (S.get n).is = bi at c1
  generalize hbs : S.saving = bs at c2
  have HBI := Lib.hid hbi
  have HBS := Lib.hid hbs
  clear hbi hbs
  go_enter Tryz.func34, Tryz.ntmps34
  have hmix : Tryz.prog.follows .mixedOrders = true := by kernel_rfl
  go_wp2_with fail
  refine start_ (n := 19) (S := fun w' => w'.cell? ⟨H.r, 2 + n * 10, none⟩ = some (.bool bi) ∧ w'.cell? ⟨H.r, 82, none⟩ = some (.bool bs)) (ds := [16, 17]) #[false, false, false, false, false, false, false, false, false, false, false, false, false, false, false, false, false, false, false] hmix rfl rfl ⟨c1, c2⟩ (fun hHeld => ?_)
  refine pure_ (i := 0) (N := (some 12)) (v := ?_) (a' := ?_) #[true, false, false, false, false, false, false, false, false, false, false, false, false, false, false, false, false, false, false] rfl rfl (by kernel_rfl) (fun _ _ _ h => h) (Or.inl ⟨by rfl, ?_⟩) ?_ ?_
  rotate_left
  · intro w'
    go_simp
    try with_reducible rfl
  rotate_left
  · simp only [Act.put, List.setIfInBounds_toArray, List.set_cons_zero, List.set_cons_succ]
    rfl
  refine pure_ (i := 1) (N := (some 13)) (v := ?_) (a' := ?_) #[true, true, false, false, false, false, false, false, false, false, false, false, false, false, false, false, false, false, false] rfl rfl (by kernel_rfl) (fun _ _ _ h => h) (Or.inl ⟨by rfl, ?_⟩) ?_ ?_
  rotate_left
  · intro w'
    go_simp
    try with_reducible rfl
  rotate_left
  · simp only [Act.put, List.setIfInBounds_toArray, List.set_cons_zero, List.set_cons_succ]
    rfl
  refine pure_ (i := 2) (N := (some 14)) (v := ?_) (a' := ?_) #[true, true, true, false, false, false, false, false, false, false, false, false, false, false, false, false, false, false, false] rfl rfl (by kernel_rfl) (fun _ _ _ h => h) (Or.inl ⟨by rfl, ?_⟩) ?_ ?_
  rotate_left
  · intro w'
    go_simp
    try with_reducible rfl
  rotate_left
  · simp only [Act.put, List.setIfInBounds_toArray, List.set_cons_zero, List.set_cons_succ]
    rfl
  refine pure_ (i := 3) (N := (some 15)) (v := ?_) (a' := ?_) #[true, true, true, true, false, false, false, false, false, false, false, false, false, false, false, false, false, false, false] rfl rfl (by kernel_rfl) (fun _ _ _ h => h) (Or.inl ⟨by rfl, ?_⟩) ?_ ?_
  rotate_left
  · intro w'
    go_simp
    try with_reducible rfl
  rotate_left
  · simp only [Act.put, List.setIfInBounds_toArray, List.set_cons_zero, List.set_cons_succ]
    rfl
  refine take_ (i := 4) (N := (some 16)) (v := ?_) (a' := ?_) #[true, true, true, true, true, false, false, false, false, false, false, false, false, false, false, false, false, false, false] rfl rfl (by kernel_rfl) (fun _ _ _ h => h) (Or.inl ⟨by rfl, ?_⟩) hHeld ?_ ?_
  rotate_left
  · intro w' hS_
    obtain ⟨zz0, zz1⟩ := hS_
    go_simp
    try with_reducible rfl
  rotate_left
  · simp only [Act.put, List.setIfInBounds_toArray, List.set_cons_zero, List.set_cons_succ]
    rfl
  refine pure_ (i := 5) (N := (some 17)) (v := ?_) (a' := ?_) #[true, true, true, true, true, true, false, false, false, false, false, false, false, false, false, false, false, false, false] rfl rfl (by kernel_rfl) (fun _ _ _ h => h) (Or.inl ⟨by rfl, ?_⟩) ?_ ?_
  rotate_left
  · intro w'
    go_simp
    try with_reducible rfl
  rotate_left
  · simp only [Act.put, List.setIfInBounds_toArray, List.set_cons_zero, List.set_cons_succ]
    rfl
  refine pure_ (i := 6) (N := (some 18)) (v := ?_) (a' := ?_) #[true, true, true, true, true, true, true, false, false, false, false, false, false, false, false, false, false, false, false] rfl rfl (by kernel_rfl) (fun _ _ _ h => h) (Or.inl ⟨by rfl, ?_⟩) ?_ ?_
  rotate_left
  · intro w'
    go_simp
    try with_reducible rfl
  rotate_left
  · simp only [Act.put, List.setIfInBounds_toArray, List.set_cons_zero, List.set_cons_succ]
    rfl
  refine pure_ (i := 7) (N := (some 19)) (v := ?_) (a' := ?_) #[true, true, true, true, true, true, true, true, false, false, false, false, false, false, false, false, false, false, false] rfl rfl (by kernel_rfl) (fun _ _ _ h => h) (Or.inl ⟨by rfl, ?_⟩) ?_ ?_
  rotate_left
  · intro w'
    go_simp
    try with_reducible rfl
  rotate_left
  · simp only [Act.put, List.setIfInBounds_toArray, List.set_cons_zero, List.set_cons_succ]
    rfl
  refine pure_ (i := 8) (N := (some 20)) (v := ?_) (a' := ?_) #[true, true, true, true, true, true, true, true, true, false, false, false, false, false, false, false, false, false, false] rfl rfl (by kernel_rfl) (fun _ _ _ h => h) (Or.inl ⟨by rfl, ?_⟩) ?_ ?_
  rotate_left
  · intro w'
    go_simp
    try with_reducible rfl
  rotate_left
  · simp only [Act.put, List.setIfInBounds_toArray, List.set_cons_zero, List.set_cons_succ]
    rfl
  refine pure_ (i := 9) (N := (some 21)) (v := ?_) (a' := ?_) #[true, true, true, true, true, true, true, true, true, true, false, false, false, false, false, false, false, false, false] rfl rfl (by kernel_rfl) (fun _ _ _ h => h) (Or.inl ⟨by rfl, ?_⟩) ?_ ?_
  rotate_left
  · intro w'
    go_simp
    try with_reducible rfl
  rotate_left
  · simp only [Act.put, List.setIfInBounds_toArray, List.set_cons_zero, List.set_cons_succ]
    rfl
  refine pure_ (i := 10) (N := (some 22)) (v := ?_) (a' := ?_) #[true, true, true, true, true, true, true, true, true, true, true, false, false, false, false, false, false, false, false] rfl rfl (by kernel_rfl) (fun _ _ _ h => h) (Or.inl ⟨by rfl, ?_⟩) ?_ ?_
  rotate_left
  · intro w'
    go_simp
    try with_reducible rfl
  rotate_left
  · simp only [Act.put, List.setIfInBounds_toArray, List.set_cons_zero, List.set_cons_succ]
    rfl
  refine pure_ (i := 11) (N := (some 23)) (v := ?_) (a' := ?_) #[true, true, true, true, true, true, true, true, true, true, true, true, false, false, false, false, false, false, false] rfl rfl (by kernel_rfl) (fun _ _ _ h => h) (Or.inl ⟨by rfl, ?_⟩) ?_ ?_
  rotate_left
  · intro w'
    go_simp
    try with_reducible rfl
  rotate_left
  · simp only [Act.put, List.setIfInBounds_toArray, List.set_cons_zero, List.set_cons_succ]
    rfl
  refine pure_ (i := 12) (N := (some 24)) (v := ?_) (a' := ?_) #[true, true, true, true, true, true, true, true, true, true, true, true, true, false, false, false, false, false, false] rfl rfl (by kernel_rfl) (fun _ _ _ h => h) (Or.inl ⟨by rfl, ?_⟩) ?_ ?_
  rotate_left
  · intro w'
    go_simp
    try with_reducible rfl
  rotate_left
  · simp only [Act.put, List.setIfInBounds_toArray, List.set_cons_zero, List.set_cons_succ]
    rfl
  refine take_ (i := 13) (N := (some 25)) (v := ?_) (a' := ?_) #[true, true, true, true, true, true, true, true, true, true, true, true, true, true, false, false, false, false, false] rfl rfl (by kernel_rfl) (fun _ _ _ h => h) (Or.inl ⟨by rfl, ?_⟩) hHeld ?_ ?_
  rotate_left
  · intro w' hS_
    obtain ⟨zz0, zz1⟩ := hS_
    go_simp
    try with_reducible rfl
  rotate_left
  · simp only [Act.put, List.setIfInBounds_toArray, List.set_cons_zero, List.set_cons_succ]
    rfl
  refine pure_ (i := 14) (N := (some 26)) (v := ?_) (a' := ?_) #[true, true, true, true, true, true, true, true, true, true, true, true, true, true, true, false, false, false, false] rfl rfl (by kernel_rfl) (fun _ _ _ h => h) (Or.inl ⟨by rfl, ?_⟩) ?_ ?_
  rotate_left
  · intro w'
    go_simp
    try with_reducible rfl
  rotate_left
  · simp only [Act.put, List.setIfInBounds_toArray, List.set_cons_zero, List.set_cons_succ]
    rfl
  refine pure_ (i := 15) (N := (some 27)) (v := ?_) (a' := ?_) #[true, true, true, true, true, true, true, true, true, true, true, true, true, true, true, true, false, false, false] rfl rfl (by kernel_rfl) (fun _ _ _ h => h) (Or.inl ⟨by rfl, ?_⟩) ?_ ?_
  rotate_left
  · intro w'
    go_simp
    try with_reducible rfl
  rotate_left
  · simp only [Act.put, List.setIfInBounds_toArray, List.set_cons_zero, List.set_cons_succ]
    rfl
  refine last_ (i := 16) (N := (some 28)) #[true, true, true, true, true, true, true, true, true, true, true, true, true, true, true, true, true, false, false] rfl rfl (by kernel_rfl) (by decide) (fun K hK => ?_)
  refine value_ (w1 := ?_) (v := ?_) (by rfl) rfl ?_ ?_
  rotate_left 2
  · go_simp
    constructor
    · rfl
    · rfl
  refine hK.out _ _ ?_
  clear hK K
  refine norm_ (a' := ?_) ?_ ?_
  rotate_left
  · show Act.put _ (some 28) _ = _
    simp only [Act.put, List.setIfInBounds_toArray, List.set_cons_zero, List.set_cons_succ]
    rfl
  refine last_ (i := 17) (N := (some 29)) #[true, true, true, true, true, true, true, true, true, true, true, true, true, true, true, true, true, true, false] rfl rfl (by kernel_rfl) (by decide) (fun K hK => ?_)
  refine goes_ Tryz.func67 (by kernel_rfl) rfl #[.int .i64 (n : Int), .slice (some ⟨w.heap.size, 0, none⟩) 2 2] (by rfl) rfl rfl (by simp only [List.map_toArray, List.map_cons, List.map_nil]; rfl) ?_
  refine Calls.mono (all2 _ _ w.heap.size (!bs) (!bi) 212 200 ?h5) ?_
  case h5 => exact heap_alloc_new w.drew _
  rintro x w5 ⟨hr5, hb5⟩
  obtain ⟨v5, rfl, hr5⟩ := hr5.ret
  refine ⟨_, rfl, hK.out _ _ ?_⟩
  clear hK K
  refine norm_ (a' := ?_) ?_ ?_
  rotate_left
  · show Act.put _ (some 29) _ = _
    simp only [Act.put, List.setIfInBounds_toArray, List.set_cons_zero, List.set_cons_succ]
    rfl
  refine pure_ (i := 18) (N := (some 5)) (v := ?_) (a' := ?_) #[true, true, true, true, true, true, true, true, true, true, true, true, true, true, true, true, true, true, true] rfl rfl (by kernel_rfl) (fun _ _ _ h => h) (Or.inl ⟨by rfl, ?_⟩) ?_ ?_
  rotate_left
  · intro w'
    go_simp
    try with_reducible rfl
  rotate_left
  · simp only [Act.put, List.setIfInBounds_toArray, List.set_cons_zero, List.set_cons_succ]
    rfl
  refine done_ (by kernel_rfl) ?_
  have hB : Below w.heap.size w w5 := (Below.refl _ w).drew.alloc (Nat.le_refl _) _ |>.trans (hb5.mono (by simp))
  have hr : AllRes w n (firstNo [(!bs, 212), (!bi, 200)]) (.returned v5) w5 := AllRes.mono (w := w) hr5 (by simp)
  have ho := HO.out
  have hj := HJ.out
  rw [HBI.out, HBS.out] at ho hj
  have hR5 := HR.out.below hB
  generalize firstNo [(!bs, 212), (!bi, 200)] = o at hr ho hj
  clear hr5 hb5
  cases o with
  | none =>
    have hv : v5 = .nilIface := by cases hr; rfl
    subst hv
    have d1 := hR5.c_is hn
    have f1 := hR5.free (2 + n * 10)
    have HJ2 := Lib.hid hj
    have HR5 := Lib.hid hR5
    have HB := Lib.hid hB
    clear hr ho hj hR5 hB c1 c2 fz
    go_wp2
    go_ret
    rw [HJ2.out]
    have hm : mcells H n { S.get n with is := true } = (mcells H n (S.get n)).set 0 (.bool true) := rfl
    have hb2 := blk_put HR5.out.blk H8.out n 0 hn (by decide) (.bool true) _ hm
    have ht : Tch (fun k => k = H.r) w5 (w5.setCell ⟨H.r, 2 + n * 10, none⟩ (.bool true)) := Tch.setCell (P := fun k => k = H.r) (Tch.refl _ _) (p := ⟨H.r, 2 + n * 10, none⟩) (.inl rfl) _
    exact MPost.turn HR.out HB.out (HR5.out.turn ht hb2 rfl rfl rfl (put_keeps S H8.out hn _ ⟨rfl, rfl, rfl⟩)) ht _
  | some c =>
    have hcc := ho c rfl
    have henv := hR5.env
    obtain ⟨gg, hg1, hg2, hg3⟩ := hr
    cases hg2
    have HJ2 := Lib.hid hj
    have HR5 := Lib.hid hR5
    have HB := Lib.hid hB
    have her := errno_ref w5 henv gg n c hcc.1 hcc.2 hg3
    have HER := Lib.hid her
    clear ho hj hR5 hB c1 c2 fz henv hg3 her
    go_wp2_with (go_at_call 64; (with_reducible refine HER.out.mono ?_); rintro e w6 ⟨rfl, hb6⟩)
    go_ret
    rw [HJ2.out]
    exact MPost.same HR.out (HB.out.trans (hb6.mono HB.out.size)) _
theorem by_rt (w : World) (H : Sh) (S : St) (hR : RAt H w S) (f : Int) :
    Calls Tryz.prog 63 #[.pointer (some ⟨H.r, 0, none⟩), .int .i64 f] w fun e w' => AllRes w f (if S.byE f = 0 then none else some (S.byE f)) e w' ∧ Below w.heap.size w w' := by
  by_cases h : f < 0 ∨ 8 ≤ f
  · have e : S.byE f = 1 := by unfold St.byE; rw [if_pos h]
    rw [e]
    exact by_out w H.r f h
  · obtain ⟨n, rfl⟩ : ∃ n : Nat, f = n := ⟨f.toNat, by omega⟩
    have hn : n < 8 := by omega
    have e : firstNo [((S.get n).is, 201), (!S.saving, 212)] = if S.byE n = 0 then none else some (S.byE n) := by
      unfold St.byE
      rw [if_neg h, Int.toNat_natCast]
      cases (S.get n).is <;> cases S.saving <;> rfl
    rw [← e]
    exact by_call w H.r n (S.get n).is S.saving hn (hR.c_is hn) hR.c_sv
theorem byE_lt (S : St) (f : Int) : 0 ≤ S.byE f ∧ S.byE f < 220 := by
  unfold St.byE
  split
  · omega
  · split
    · omega
    · split <;> omega
theorem by_no (w : World) (H : Sh) (S : St) (hR : RAt H w S) (f : Int) (he : S.byE f ≠ 0) :
    Calls Tryz.prog 63 #[.pointer (some ⟨H.r, 0, none⟩), .int .i64 f] w fun e w' => ∃ g, e = .returned (.iface 180 (.pointer (some ⟨g, 0, none⟩))) ∧ Below w.heap.size w w' ∧ Calls Tryz.prog 64 #[.iface 180 (.pointer (some ⟨g, 0, none⟩))] w' fun e w'' => e = .returned (.int .i64 (S.byE f)) ∧ Below w'.heap.size w' w'' := by
  refine (by_rt w H S hR f).mono ?_
  rintro e w' ⟨h1, h2⟩
  rw [if_neg he] at h1
  obtain ⟨g, h3, h4, h5⟩ := h1
  exact ⟨g, h4, h2, errno_ref w' (hR.below h2).env g f _ (byE_lt S f).1 (byE_lt S f).2 h5⟩
theorem by_yes (w : World) (H : Sh) (S : St) (hR : RAt H w S) (f : Int) (he : S.byE f = 0) :
    Calls Tryz.prog 63 #[.pointer (some ⟨H.r, 0, none⟩), .int .i64 f] w fun e w' => e = .returned .nilIface ∧ Below w.heap.size w w' := by
  refine (by_rt w H S hR f).mono ?_
  rintro e w' ⟨h1, h2⟩
  rw [if_pos he] at h1
  exact ⟨h1, h2⟩
set_option maxHeartbeats 4000000 in
theorem ask_no (w : World) (H : Sh) (S : St) (hR : RAt H w S) (f : Int) (x y : Int) (he : S.byE f ≠ 0) :
    Calls Tryz.prog 25 #[.pointer (some ⟨H.r, 0, none⟩), .int .i64 f, .int .i64 x, .int .i64 y] w fun e w' => e = .returned (.int .i64 (S.byE f)) ∧ Below w.heap.size w w' := by
  have hb := by_no w H S hR f he
  have HB := Lib.hid hb
  clear hb hR he
  go_enter Tryz.func25, Tryz.ntmps25
  go_wp2_with (go_at_call 63; (with_reducible refine HB.out.mono ?_); rintro e w1 ⟨g, rfl, hb1, hc1⟩)
  have HB1 := Lib.hid hb1
  have HC1 := Lib.hid hc1
  clear hb1 hc1
  go_wp2_with (go_at_call 64; (with_reducible refine HC1.out.mono ?_); rintro e w2 ⟨rfl, hb2⟩)
  go_ret
  exact ⟨rfl, HB1.out.trans (hb2.mono HB1.out.size)⟩
set_option maxHeartbeats 4000000 in
theorem regulate_no (w : World) (H : Sh) (S : St) (hR : RAt H w S) (f : Int) (x : Int) (he : S.byE f ≠ 0) :
    Calls Tryz.prog 37 #[.pointer (some ⟨H.r, 0, none⟩), .int .i64 f, .int .i64 x] w fun e w' => e = .returned (.int .i64 (S.byE f)) ∧ Below w.heap.size w w' := by
  have hb := by_no w H S hR f he
  have HB := Lib.hid hb
  clear hb hR he
  go_enter Tryz.func37, Tryz.ntmps37
  go_wp2_with (go_at_call 63; (with_reducible refine HB.out.mono ?_); rintro e w1 ⟨g, rfl, hb1, hc1⟩)
  have HB1 := Lib.hid hb1
  have HC1 := Lib.hid hc1
  clear hb1 hc1
  go_wp2_with (go_at_call 64; (with_reducible refine HC1.out.mono ?_); rintro e w2 ⟨rfl, hb2⟩)
  go_ret
  exact ⟨rfl, HB1.out.trans (hb2.mono HB1.out.size)⟩
set_option maxHeartbeats 4000000 in
theorem constrain_no (w : World) (H : Sh) (S : St) (hR : RAt H w S) (f : Int) (he : S.byE f ≠ 0) :
    Calls Tryz.prog 38 #[.pointer (some ⟨H.r, 0, none⟩), .int .i64 f] w fun e w' => e = .returned (.int .i64 (S.byE f)) ∧ Below w.heap.size w w' := by
  have hb := by_no w H S hR f he
  have HB := Lib.hid hb
  clear hb hR he
  go_enter Tryz.func38, Tryz.ntmps38
  go_wp2_with (go_at_call 63; (with_reducible refine HB.out.mono ?_); rintro e w1 ⟨g, rfl, hb1, hc1⟩)
  have HB1 := Lib.hid hb1
  have HC1 := Lib.hid hc1
  clear hb1 hc1
  go_wp2_with (go_at_call 64; (with_reducible refine HC1.out.mono ?_); rintro e w2 ⟨rfl, hb2⟩)
  go_ret
  exact ⟨rfl, HB1.out.trans (hb2.mono HB1.out.size)⟩
set_option maxHeartbeats 4000000 in
theorem publish_no (w : World) (H : Sh) (S : St) (hR : RAt H w S) (f : Int) (x : Int) (y : Bool) (he : S.byE f ≠ 0) :
    Calls Tryz.prog 35 #[.pointer (some ⟨H.r, 0, none⟩), .int .i64 f, .int .i64 x, .bool y] w fun e w' => e = .returned (.int .i64 (S.byE f)) ∧ Below w.heap.size w w' := by
  have hb := by_no w H S hR f he
  have HB := Lib.hid hb
  clear hb hR he
  go_enter Tryz.func35, Tryz.ntmps35
  go_wp2_with (go_at_call 63; (with_reducible refine HB.out.mono ?_); rintro e w1 ⟨g, rfl, hb1, hc1⟩)
  have HB1 := Lib.hid hb1
  have HC1 := Lib.hid hc1
  clear hb1 hc1
  go_wp2_with (go_at_call 64; (with_reducible refine HC1.out.mono ?_); rintro e w2 ⟨rfl, hb2⟩)
  go_ret
  exact ⟨rfl, HB1.out.trans (hb2.mono HB1.out.size)⟩
set_option maxHeartbeats 4000000 in
theorem subscribe_no (w : World) (H : Sh) (S : St) (hR : RAt H w S) (f : Int) (x : Int) (y : Bool) (he : S.byE f ≠ 0) :
    Calls Tryz.prog 36 #[.pointer (some ⟨H.r, 0, none⟩), .int .i64 f, .int .i64 x, .bool y] w fun e w' => e = .returned (.int .i64 (S.byE f)) ∧ Below w.heap.size w w' := by
  have hb := by_no w H S hR f he
  have HB := Lib.hid hb
  clear hb hR he
  go_enter Tryz.func36, Tryz.ntmps36
  go_wp2_with (go_at_call 63; (with_reducible refine HB.out.mono ?_); rintro e w1 ⟨g, rfl, hb1, hc1⟩)
  have HB1 := Lib.hid hb1
  have HC1 := Lib.hid hc1
  clear hb1 hc1
  go_wp2_with (go_at_call 64; (with_reducible refine HC1.out.mono ?_); rintro e w2 ⟨rfl, hb2⟩)
  go_ret
  exact ⟨rfl, HB1.out.trans (hb2.mono HB1.out.size)⟩
set_option maxHeartbeats 2000000 in
theorem turn_call (w : World) (is : Bool) : Calls Tryz.prog 155 #[.bool is] w fun e w' => e = .returned (.func (.func (if is then 215 else 216)) #[] #[]) ∧ w' = w := by
  cases is with
  | true =>
    go_enter Tryz.func155, Tryz.ntmps155
    go_wp2
    go_ret
    exact ⟨rfl, rfl⟩
  | false =>
    go_enter Tryz.func155, Tryz.ntmps155
    go_wp2
    go_ret
    exact ⟨rfl, rfl⟩
theorem wraps_u32 (n : Int) (h0 : 0 ≤ n) (h1 : n < 2 ^ 32) : IntKind.u32.wrap n = n := by rw [IntKind.wrap_u32]; omega
theorem pow_lt (c : Nat) (hc : c < 16) : 2 ^ c < 4294967296 := Nat.lt_of_lt_of_le (Nat.pow_lt_pow_right (by decide) hc) (by decide)
theorem pow_cast (c : Nat) (hc : c < 16) : ((2 : Int) ^ c % 4294967296) = ((2 ^ c : Nat) : Int) := by
  have h := pow_lt c hc
  rw [show ((2 : Int) ^ c) = ((2 ^ c : Nat) : Int) by norm_cast]
  have h2 : ((2 ^ c : Nat) : Int) < ((4294967296 : Nat) : Int) := Int.ofNat_lt.2 h
  exact Int.emod_eq_of_lt (Int.natCast_nonneg _) h2
theorem or_bits (x c : Nat) (hx : x < 4294967296) (hc : c < 16) : bits .or .u32 (x : Int) (2 ^ c % 4294967296) = (bitSet x c true : Nat) := by
  rw [pow_cast c hc]
  exact (bits_nat .u32 32 (by decide) wraps_u32 x (2 ^ c) hx (pow_lt c hc)).2
theorem andNot_bits (x c : Nat) (hx : x < 4294967296) (hc : c < 16) : bits .andNot .u32 (x : Int) (2 ^ c % 4294967296) = (bitSet x c false : Nat) := by
  rw [pow_cast c hc]
  have h := pow_lt c hc
  have hx' : x % 2 ^ 32 = x := Nat.mod_eq_of_lt hx
  have hy' : 2 ^ c % 2 ^ 32 = 2 ^ c := Nat.mod_eq_of_lt h
  have e : (BitVec.ofNat 32 x &&& ~~~(BitVec.ofNat 32 (2 ^ c))).toNat = x &&& (4294967295 - 2 ^ c) := by
    rw [BitVec.toNat_and, BitVec.toNat_not, BitVec.toNat_ofNat, BitVec.toNat_ofNat, hx', hy']
  have hl : (x &&& (4294967295 - 2 ^ c)) < 2 ^ 32 := Nat.lt_of_le_of_lt Nat.and_le_left hx
  show IntKind.u32.wrap _ = _
  simp only [BitVec.ofInt_natCast]
  show IntKind.u32.wrap (((BitVec.ofNat 32 x &&& ~~~(BitVec.ofNat 32 (2 ^ c))).toNat : Nat) : Int) = _
  have h2 : (((x &&& (4294967295 - 2 ^ c) : Nat)) : Int) < ((4294967296 : Nat) : Int) := Int.ofNat_lt.2 hl
  rw [e, wraps_u32 _ (Int.natCast_nonneg _) h2]
  rfl
set_option maxHeartbeats 2000000 in
theorem turn_on (w : World) (g j : Nat) (x : Nat) (hx : x < 4294967296) (c : Nat) (hc : c < 16) (h : w.cell? ⟨g, j, none⟩ = some (.int .u32 (x : Nat))) (hf : w.frozen? ⟨g, j, none⟩ = false) :
    Calls Tryz.prog 215 #[.pointer (some ⟨g, j, none⟩), .int .i64 c] w fun e w' => e = .returned (.tuple #[]) ∧ w' = w.setCell ⟨g, j, none⟩ (.int .u32 (bitSet x c true : Nat)) := by
  have hu110 := Tryz.underlying110
  have hu157 := Tryz.underlying157
  have hz : (0 : Int) ≤ (c : Int) := by omega
  have hz2 : (c : Int) < 16 := by omega
  go_enter Tryz.func215, Tryz.ntmps215
  go_wp2
  go_end0
  rw [or_bits x c hx hc]
  exact ⟨rfl, rfl⟩
set_option maxHeartbeats 2000000 in
theorem turn_off (w : World) (g j : Nat) (x : Nat) (hx : x < 4294967296) (c : Nat) (hc : c < 16) (h : w.cell? ⟨g, j, none⟩ = some (.int .u32 (x : Nat))) (hf : w.frozen? ⟨g, j, none⟩ = false) :
    Calls Tryz.prog 216 #[.pointer (some ⟨g, j, none⟩), .int .i64 c] w fun e w' => e = .returned (.tuple #[]) ∧ w' = w.setCell ⟨g, j, none⟩ (.int .u32 (bitSet x c false : Nat)) := by
  have hu110 := Tryz.underlying110
  have hu157 := Tryz.underlying157
  have hz : (0 : Int) ≤ (c : Int) := by omega
  have hz2 : (c : Int) < 16 := by omega
  go_enter Tryz.func216, Tryz.ntmps216
  go_wp2
  go_end0
  rw [andNot_bits x c hx hc]
  exact ⟨rfl, rfl⟩
end Go.Proofs.YtehnkebcbomidaaGreatDoor.Rt
