/- Part of a proof over the given program: Ei, Er, Jo, Bo. -/
import Derived.Test.YtehnkebcbomidaaGreatDoorCn13
set_option linter.unusedVariables false
set_option linter.unusedSimpArgs false
section
namespace Go.Proofs.YtehnkebcbomidaaGreatDoor.As
open Go Go.RowKit Go.Extern Go.Extern.Stop Go.Stop Go.Extern.Rtype Go.Lib
set_option maxRecDepth 100000
theorem mComp (v : Value) (w : World) : (Go.method 491 291 v "Comparable").run Tryz.prog w = .ok (341, v) w := by kernel_rfl
theorem comp25 (w : World) : (ReflectliteType.method (fun t => do noPackHeld "Comparable" t; (fun a => Value.bool a.comparable) <$> typeInfo t) #[.agg #[hd 25]]).run Tryz.prog w = .ok (.bool true) w := by kernel_rfl
theorem noIs (v : Value) (xT : TypeId) (w : World) : (Instr.typeAssert (.iface 180 v) xT 303 true).run Tryz.prog w = .ok (.tuple #[.nilIface, .bool false]) w := run_typeAssert_lacksB Tryz.underlying303 (by kernel_rfl) (by kernel_rfl) v xT w
theorem hasUnwrap (v : Value) (xT : TypeId) (w : World) : (Instr.typeAssert (.iface 180 v) xT 298 true).run Tryz.prog w = .ok (.tuple #[.iface 180 v, .bool true]) w := run_typeAssert_hasB Tryz.underlying298 (by kernel_rfl) v xT w
theorem noIs25 (v : Value) (xT : TypeId) (w : World) : (Instr.typeAssert (.iface 25 v) xT 303 true).run Tryz.prog w = .ok (.tuple #[.nilIface, .bool false]) w := run_typeAssert_lacksB Tryz.underlying303 (by kernel_rfl) (by kernel_rfl) v xT w
theorem noUn25 (v : Value) (xT : TypeId) (w : World) : (Instr.typeAssert (.iface 25 v) xT 298 true).run Tryz.prog w = .ok (.tuple #[.nilIface, .bool false]) w := run_typeAssert_lacksB Tryz.underlying298 (by kernel_rfl) (by kernel_rfl) v xT w
theorem noUs25 (v : Value) (xT : TypeId) (w : World) : (Instr.typeAssert (.iface 25 v) xT 300 true).run Tryz.prog w = .ok (.tuple #[.nilIface, .bool false]) w := run_typeAssert_lacksB Tryz.underlying300 (by kernel_rfl) (by kernel_rfl) v xT w
theorem mUnwrap (v : Value) (w : World) : (Go.method 491 180 v "Unwrap").run Tryz.prog w = .ok (325, v) w := by kernel_rfl
theorem eql25 (c e : Int) (w : World) : (binOp .eql 104 (.iface 25 (.int .i64 c)) (.iface 25 (.int .i64 e))).run Tryz.prog w = .ok (.bool (c == e)) w := by
 have hi := Tryz.underlying104
 have hn := Tryz.underlying25
 obtain ⟨i, hinfo, hcomp⟩ : ∃ i, Tryz.prog.info? 25 = some i ∧ i.comparable = true := by
  have h : (Tryz.prog.info? 25).map (·.comparable) = some true := by kernel_rfl
  cases hx : Tryz.prog.info? 25 with
  | none => rw [hx] at h; cases h
  | some i => rw [hx] at h; exact ⟨i, rfl, by simpa using h⟩
 have main : ∀ d, (Op.equalIn (d + 2) 104 (.iface 25 (.int .i64 c)) (.iface 25 (.int .i64 e))).run Tryz.prog w = .ok (c == e) w := fun d => by
  simp [Op.equalIn, run_underlying hi, run_underlying hn, typeInfo, hinfo, hcomp]
 simp only [binOp]
 simp [Op.equal, Op.maxDepth, main 9998]
set_option maxHeartbeats 4000000 in
theorem is_ref (tb : Nat) (c e : Int) (w : World) (h1 : w.cell? ⟨tb, 1, none⟩ = some (.iface 25 (.int .i64 c))) (r : Bool) (hr : (c == e) = r) :
  Calls Tryz.prog 133 #[.iface 180 (.pointer (some ⟨tb, 0, none⟩)), .iface 25 (.int .i64 e)] w fun x w' => x = .returned (.bool r) ∧ w' = w := by
 have hu182 := Tryz.underlying182
 have h202 := @run_callFunc_extern Tryz.prog 202 _ ReflectliteType.typeOf Tryz.func202 (by kernel_rfl) (by kernel_rfl) (by kernel_rfl) (by kernel_rfl)
 have h341 := @run_callFunc_extern Tryz.prog 341 _ (ReflectliteType.method fun t => do noPackHeld "Comparable" t; pure (.bool (← typeInfo t).comparable)) Tryz.func341 (by kernel_rfl) (by kernel_rfl) (by kernel_rfl) (by kernel_rfl)
 have e1 := typeOf22
 have e2 := mComp
 have e3 := comp25
 have e4 := noIs
 have e5 := hasUnwrap
 have e6 := mUnwrap
 have e8 := eql25 c e
 rw [hr] at e8
 have e9 := noIs25
 have e10 := noUn25
 have e11 := noUs25
 have e7 := run_eql_iface_types (P := Tryz.prog) 180 25 (.pointer (some ⟨tb, 0, none⟩)) (.int .i64 e) Tryz.underlying104 (by decide) w
 have HR := Lib.hid hr
 clear hr
 cases r with
 | true =>
  go_enter Tryz.func133, Tryz.ntmps133
  go_wp2
  refine wp_loop_rounds 2 ?_
  rw [rounds_succ]
  go_wp2
  rw [rounds_succ]
  go_wp2
  go_ret
  exact ⟨rfl, rfl⟩
 | false =>
  go_enter Tryz.func133, Tryz.ntmps133
  go_wp2
  refine wp_loop_rounds 2 ?_
  rw [rounds_succ]
  go_wp2
  rw [rounds_succ]
  go_wp2
  go_ret
  exact ⟨rfl, rfl⟩
end Go.Proofs.YtehnkebcbomidaaGreatDoor.As
end
namespace Go.Proofs.YtehnkebcbomidaaGreatDoor.Rt
open Go Go.RowKit Go.Proofs Go.Proofs.YtehnkebcbomidaaGreatDoorW.PrintWords Go.Proofs.YtehnkebcbomidaaGreatDoorW.PrintLast
set_option maxHeartbeats 2000000 in
theorem as_nil (x : Value) (w : World) : Calls Tryz.prog 132 #[.nilIface, x] w fun e w' => e = .returned (.bool false) ∧ w' = w := by
 have hu104 := Tryz.underlying104
 go_enter Tryz.func132, Tryz.ntmps132
 go_wp2
 go_ret
 exact ⟨rfl, rfl⟩
set_option maxHeartbeats 2000000 in
theorem errno_nil (w : World) : Calls Tryz.prog 64 #[.nilIface] w fun e w' => e = .returned (.int .i64 0) ∧ Below w.heap.size w w' := by
 go_enter Tryz.func64, Tryz.ntmps64
 go_wp2_with (go_at_call 132; (with_reducible refine (as_nil _ _).mono ?_); rintro e w1 ⟨rfl, rfl⟩)
 go_ret
 exact ⟨rfl, (Below.refl _ _).alloc (Nat.le_refl _) _⟩
theorem is_any (tb : Nat) (c e : Int) (w : World) (h1 : w.cell? ⟨tb, 1, none⟩ = some (.iface 25 (.int .i64 c))) (r : Bool) (hr : (c == e) = r) :
  Calls Tryz.prog 133 #[.iface 180 (.pointer (some ⟨tb, 0, none⟩)), .iface 25 (.int .i64 e)] w fun x w' => x = .returned (.bool r) ∧ w' = w := As.is_ref tb c e w h1 r hr
set_option maxHeartbeats 4000000 in
theorem errno_ref (w : World) (henv : Env w) (g : Nat) (f c : Int) (hc0 : 0 ≤ c) (hc : c < 220) (hg : w.heap[g]? = some (.cells #[.int .i64 f, .iface 25 (.int .i64 c)] 182 (0, 0))) :
  Calls Tryz.prog 64 #[.iface 180 (.pointer (some ⟨g, 0, none⟩))] w fun e w' => e = .returned (.int .i64 c) ∧ Below w.heap.size w w' := by
 have hgl : g < w.heap.size := (Array.getElem?_eq_some_iff.1 hg).1
 have h0l := World.block_lt_of_cell? w _ henv
 obtain ⟨W, hW⟩ : ∃ W1, W1 = w.alloc (Obj.cells #[.pointer none] 180) := ⟨_, rfl⟩
 have hB1 : Below w.heap.size w W := by rw [hW]; exact (Below.refl _ _).alloc (Nat.le_refl _) _
 have hblk : W.heap[w.heap.size]? = some (.cells #[.pointer none] 180 (0, 0)) := by rw [hW]; exact heap_alloc_new _ _
 have has := As.as_trouble ⟨g, 0, none⟩ w.heap.size (.pointer none) W (pw_cell_below hB1 henv) (by simp [World.cell?, hblk]) (by simp [World.frozen?, hblk])
 obtain ⟨bx, hbx⟩ : ∃ bx, bx = w.heap.size := ⟨_, rfl⟩
 rw [← hbx] at has
 have HAS := Lib.hid has
 have HW := Lib.hid hW
 have HBX := Lib.hid hbx
 have HB1 := Lib.hid hB1
 have HBLK := Lib.hid hblk
 have HG := Lib.hid hg
 clear has hW hB1 hblk hg henv h0l
 clear hbx
 have hu25 := Tryz.underlying25
 have hu180 := Tryz.underlying180
 go_enter Tryz.func64, Tryz.ntmps64
 go_wp2_with fail
 rw [← HW.out, ← HBX.out]
 (with_reducible refine HAS.out.mono ?_)
 rintro e w1 ⟨rfl, hb1⟩
 have hb2 : Below w.heap.size w w1 := by
  have h2 : Below w.heap.size W (W.setCell ⟨bx, 0, none⟩ (.pointer (some ⟨g, 0, none⟩))) := (Below.refl _ _).setCell (by rw [HBX.out]; exact Nat.le_refl _) _
  exact (HB1.out.trans h2).trans (hb1.mono HB1.out.size)
 have hx1 : w1.heap[bx]? = some (.cells #[.pointer (some ⟨g, 0, none⟩)] 180 (0, 0)) := by
  have hlt : bx < W.heap.size := by rw [HW.out, HBX.out]; simp
  rw [hb1.block bx hlt, heap_setCell_same W bx 0 _ 180 _ (by rw [HBX.out]; exact HBLK.out)]
  rfl
 have hg1 : w1.heap[g]? = some (.cells #[.int .i64 f, .iface 25 (.int .i64 c)] 182 (0, 0)) := (hb2.block g hgl).trans HG.out
 have z0 : w1.cell? ⟨bx, 0, none⟩ = some (.pointer (some ⟨g, 0, none⟩)) := by simp [World.cell?, hx1]
 have z1 : w1.cell? ⟨g, 1, none⟩ = some (.iface 25 (.int .i64 c)) := by simp [World.cell?, hg1]
 have HB2 := Lib.hid hb2
 clear hb1 hb2 hx1 hg1
 go_wp2
 go_loop [9] (fun i => ∃ k : Nat, (k : Int) ≤ c ∧ i = .int .i64 k) (fun i => (220 - intOf i).toNat)
 case atStart => exact ⟨0, by omega, rfl⟩
 case round =>
  obtain ⟨k, hk, rfl⟩ := hrel
  have hk2 : (k : Int) < 220 := by omega
  by_cases hkc : (k : Int) = c
  ·have hr : (c == (k : Int)) = true := by simp [hkc]
   have HR := Lib.hid hr
   have HKC := Lib.hid hkc
   clear hr hkc
   go_wp2_with (go_at_call 133; (with_reducible refine (is_any g c _ _ z1 true HR.out).mono ?_); rintro e w2 ⟨rfl, rfl⟩)
   go_ret
   exact ⟨by rw [HKC.out]; rfl, HB2.out⟩
  ·have hr : (c == (k : Int)) = false := by simp; omega
   have HR := Lib.hid hr
   have HKC := Lib.hid hkc
   clear hr hkc
   go_wp2_with (go_at_call 133; (with_reducible refine (is_any g c _ _ z1 false HR.out).mono ?_); rintro e w2 ⟨rfl, rfl⟩)
   go_round
   case rel => exact ⟨k + 1, by have := HKC.out; omega, by go_num⟩
   case measure => simp [intOf]; omega
theorem errno_call (w w0 : World) (henv : Env w) (f : Int) (o : Option Int) (v : Value) (h : AllRes w0 f o (.returned v) w) (hc : ∀ c, o = some c → 0 ≤ c ∧ c < 220) :
  Calls Tryz.prog 64 #[v] w fun e w' => e = .returned (.int .i64 (o.getD 0)) ∧ Below w.heap.size w w' := by
 cases o with
 | none => cases h; exact errno_nil w
 | some c =>
  obtain ⟨g, h1, h2, h3⟩ := h
  cases h2
  exact errno_ref w henv g f c (hc c rfl).1 (hc c rfl).2 h3
def MPost (H : Sh) (w : World) (r : Value) (S : St) (e : Ending) (w' : World) : Prop := ∃ H' : Sh, e = .returned r ∧ RAt H' w' S ∧ H'.r = H.r ∧ (∀ k, k < w.heap.size → H.own k = 0 → H'.own k = 0) ∧ Tch (fun k => H.own k ≠ 0) w w'
theorem MPost.same {H : Sh} {w w' : World} {S : St} (h : RAt H w S) (hb : Below w.heap.size w w') (r : Value) : MPost H w r S (.returned r) w' :=
 ⟨H, rfl, h.below hb, rfl, fun _ _ h => h, Tch.of_below hb⟩
theorem MPost.turn {H : Sh} {w w1 w' : World} {S S' : St} (h : RAt H w S) (hb : Below w.heap.size w w1) (h1 : RAt H w' S') (ht : Tch (fun k => k = H.r) w1 w') (r : Value) : MPost H w r S' (.returned r) w' :=
 ⟨H, rfl, h1, rfl, fun _ _ h => h, (Tch.of_below hb).trans ht (fun k hk e => by rw [e, h.o1]; decide)⟩
theorem all2 (w : World) (f : Int) (s : Nat) (b1 b2 : Bool) (e1 e2 : Int) (h : w.heap[s]? = some (.cells #[.bool b1, .int .i64 e1, .bool b2, .int .i64 e2] 121 (0, 0))) :
  Calls Tryz.prog 67 #[.int .i64 f, .slice (some ⟨s, 0, none⟩) 2 2] w fun e w' => AllRes w f (firstNo [(b1, e1), (b2, e2)]) e w' ∧ Below w.heap.size w w' :=
 all_call w f s 2 [(b1, e1), (b2, e2)] (by simp) (by simp) (fun j hj => by
  have : j = 0 ∨ j = 1 := by simp at hj; omega
  rcases this with rfl | rfl <;> simp [World.cell?, h])
theorem put_keeps (S : St) (h8 : S.l.length = 8) {n : Nat} (hn : n < 8) (m : Mem) (hm : m.subs = (S.get n).subs ∧ m.Q = (S.get n).Q ∧ m.P = (S.get n).P) (k : Nat) (hk : k < 8) : ((S.put n m).get k).subs = (S.get k).subs ∧ ((S.put n m).get k).Q = (S.get k).Q ∧ ((S.put n m).get k).P = (S.get k).P := by
 rw [St.get_put S h8 n k hn]
 split
 ·rename_i e; subst e; exact hm
 ·exact ⟨rfl, rfl, rfl⟩
theorem join_out (w : World) (g : Nat) (f : Int) (h : f < 0 ∨ 8 ≤ f) : Calls Tryz.prog 34 #[.pointer (some ⟨g, 0, none⟩), .int .i64 f] w fun e w' => e = .returned (.int .i64 1) ∧ w' = w := by
 rcases h with h | h
 ·go_enter Tryz.func34, Tryz.ntmps34
  go_wp2_with fail
  go_ret
  exact ⟨rfl, rfl⟩
 ·have h0 : ¬ f < 0 := by omega
  go_enter Tryz.func34, Tryz.ntmps34
  go_wp2_with fail
  go_ret
  exact ⟨rfl, rfl⟩
set_option maxHeartbeats 4000000 in
set_option maxRecDepth 100000 in
theorem join_in (w : World) (H : Sh) (S : St) (hR : RAt H w S) (h8 : S.l.length = 8) (n : Nat) (hn : n < 8) :
  Calls Tryz.prog 34 #[.pointer (some ⟨H.r, 0, none⟩), .int .i64 n] w (MPost H w (.int .i64 (S.join n).1) (S.join n).2) := by
 have hj : S.join n = match firstNo [(!S.saving, 212), (!(S.get n).is, 200)] with | some c => (c, S) | none => (0, S.put n { S.get n with is := true }) := by
  unfold St.join
  rw [if_neg (by omega), Int.toNat_natCast]
  cases S.saving <;> cases (S.get n).is <;> rfl
 have ho : ∀ c, firstNo [(!S.saving, 212), (!(S.get n).is, 200)] = some c → 0 ≤ c ∧ c < 220 := by
  intro c
  cases S.saving <;> cases (S.get n).is <;> simp [firstNo] <;> intro e <;> omega
 have c1 := hR.c_is hn
 have c2 := hR.c_sv
 have fz := hR.free (2 + n * 10)
 have hgl : H.r < w.heap.size := World.block_lt_of_cell? w _ c2
 have h0 : ¬ (n : Int) < 0 := by omega
 have h8' : ¬ (8 : Int) ≤ (n : Int) := by omega
 have hz0 : (0 : Int) ≤ (n : Int) := by omega
 have hz8 : (n : Int) < 8 := by omega
 have hu115 := Tryz.underlying115
 have hu113 := Tryz.underlying113
 have hu112 := Tryz.underlying112
 have hu121 := Tryz.underlying121
 have hu193 := Tryz.underlying193
 have HR := Lib.hid hR
 have HJ := Lib.hid hj
 have HO := Lib.hid ho
 have H8 := Lib.hid h8
 clear hR hj ho h8
 generalize hbi : (S.get n).is = bi at c1
 generalize hbs : S.saving = bs at c2
 have HBI := Lib.hid hbi
 have HBS := Lib.hid hbs
 clear hbi hbs
 go_enter Tryz.func34, Tryz.ntmps34
 have hmix : Tryz.prog.follows .mixedOrders = true := by kernel_rfl
 go_wp2_with fail
 refine st_ (n := 19) (S := fun w' => w'.cell? ⟨H.r, 2 + n * 10, none⟩ = some (.bool bi) ∧ w'.cell? ⟨H.r, 82, none⟩ = some (.bool bs)) (ds := [16, 17]) hmix rfl ⟨c1, c2⟩ (fun hHeld => ?_)
 refine pu_ (i := 0) (N := (some 12)) (v := ?_) (a' := ?_) rfl rfl (by kernel_rfl) (fun _ _ _ h => h) (Or.inl ⟨by rfl, ?_⟩) ?_ ?_
 rotate_left
 ·intro w'
  go_simp
  try with_reducible rfl
 rotate_left
 ·simp only [Act.put, qa, qb, qc]
  rfl
 refine pu_ (i := 1) (N := (some 13)) (v := ?_) (a' := ?_) rfl rfl (by kernel_rfl) (fun _ _ _ h => h) (Or.inl ⟨by rfl, ?_⟩) ?_ ?_
 rotate_left
 ·intro w'
  go_simp
  try with_reducible rfl
 rotate_left
 ·simp only [Act.put, qa, qb, qc]
  rfl
 refine pu_ (i := 2) (N := (some 14)) (v := ?_) (a' := ?_) rfl rfl (by kernel_rfl) (fun _ _ _ h => h) (Or.inl ⟨by rfl, ?_⟩) ?_ ?_
 rotate_left
 ·intro w'
  go_simp
  try with_reducible rfl
 rotate_left
 ·simp only [Act.put, qa, qb, qc]
  rfl
 refine pu_ (i := 3) (N := (some 15)) (v := ?_) (a' := ?_) rfl rfl (by kernel_rfl) (fun _ _ _ h => h) (Or.inl ⟨by rfl, ?_⟩) ?_ ?_
 rotate_left
 ·intro w'
  go_simp
  try with_reducible rfl
 rotate_left
 ·simp only [Act.put, qa, qb, qc]
  rfl
 refine tk_ (i := 4) (N := (some 16)) (v := ?_) (a' := ?_) rfl rfl (by kernel_rfl) (fun _ _ _ h => h) (Or.inl ⟨by rfl, ?_⟩) hHeld ?_ ?_
 rotate_left
 ·intro w' hS_
  obtain ⟨zz0, zz1⟩ := hS_
  go_simp
  try with_reducible rfl
 rotate_left
 ·simp only [Act.put, qa, qb, qc]
  rfl
 refine pu_ (i := 5) (N := (some 17)) (v := ?_) (a' := ?_) rfl rfl (by kernel_rfl) (fun _ _ _ h => h) (Or.inl ⟨by rfl, ?_⟩) ?_ ?_
 rotate_left
 ·intro w'
  go_simp
  try with_reducible rfl
 rotate_left
 ·simp only [Act.put, qa, qb, qc]
  rfl
 refine pu_ (i := 6) (N := (some 18)) (v := ?_) (a' := ?_) rfl rfl (by kernel_rfl) (fun _ _ _ h => h) (Or.inl ⟨by rfl, ?_⟩) ?_ ?_
 rotate_left
 ·intro w'
  go_simp
  try with_reducible rfl
 rotate_left
 ·simp only [Act.put, qa, qb, qc]
  rfl
 refine pu_ (i := 7) (N := (some 19)) (v := ?_) (a' := ?_) rfl rfl (by kernel_rfl) (fun _ _ _ h => h) (Or.inl ⟨by rfl, ?_⟩) ?_ ?_
 rotate_left
 ·intro w'
  go_simp
  try with_reducible rfl
 rotate_left
 ·simp only [Act.put, qa, qb, qc]
  rfl
 refine pu_ (i := 8) (N := (some 20)) (v := ?_) (a' := ?_) rfl rfl (by kernel_rfl) (fun _ _ _ h => h) (Or.inl ⟨by rfl, ?_⟩) ?_ ?_
 rotate_left
 ·intro w'
  go_simp
  try with_reducible rfl
 rotate_left
 ·simp only [Act.put, qa, qb, qc]
  rfl
 refine pu_ (i := 9) (N := (some 21)) (v := ?_) (a' := ?_) rfl rfl (by kernel_rfl) (fun _ _ _ h => h) (Or.inl ⟨by rfl, ?_⟩) ?_ ?_
 rotate_left
 ·intro w'
  go_simp
  try with_reducible rfl
 rotate_left
 ·simp only [Act.put, qa, qb, qc]
  rfl
 refine pu_ (i := 10) (N := (some 22)) (v := ?_) (a' := ?_) rfl rfl (by kernel_rfl) (fun _ _ _ h => h) (Or.inl ⟨by rfl, ?_⟩) ?_ ?_
 rotate_left
 ·intro w'
  go_simp
  try with_reducible rfl
 rotate_left
 ·simp only [Act.put, qa, qb, qc]
  rfl
 refine pu_ (i := 11) (N := (some 23)) (v := ?_) (a' := ?_) rfl rfl (by kernel_rfl) (fun _ _ _ h => h) (Or.inl ⟨by rfl, ?_⟩) ?_ ?_
 rotate_left
 ·intro w'
  go_simp
  try with_reducible rfl
 rotate_left
 ·simp only [Act.put, qa, qb, qc]
  rfl
 refine pu_ (i := 12) (N := (some 24)) (v := ?_) (a' := ?_) rfl rfl (by kernel_rfl) (fun _ _ _ h => h) (Or.inl ⟨by rfl, ?_⟩) ?_ ?_
 rotate_left
 ·intro w'
  go_simp
  try with_reducible rfl
 rotate_left
 ·simp only [Act.put, qa, qb, qc]
  rfl
 refine tk_ (i := 13) (N := (some 25)) (v := ?_) (a' := ?_) rfl rfl (by kernel_rfl) (fun _ _ _ h => h) (Or.inl ⟨by rfl, ?_⟩) hHeld ?_ ?_
 rotate_left
 ·intro w' hS_
  obtain ⟨zz0, zz1⟩ := hS_
  go_simp
  try with_reducible rfl
 rotate_left
 ·simp only [Act.put, qa, qb, qc]
  rfl
 refine pu_ (i := 14) (N := (some 26)) (v := ?_) (a' := ?_) rfl rfl (by kernel_rfl) (fun _ _ _ h => h) (Or.inl ⟨by rfl, ?_⟩) ?_ ?_
 rotate_left
 ·intro w'
  go_simp
  try with_reducible rfl
 rotate_left
 ·simp only [Act.put, qa, qb, qc]
  rfl
 refine pu_ (i := 15) (N := (some 27)) (v := ?_) (a' := ?_) rfl rfl (by kernel_rfl) (fun _ _ _ h => h) (Or.inl ⟨by rfl, ?_⟩) ?_ ?_
 rotate_left
 ·intro w'
  go_simp
  try with_reducible rfl
 rotate_left
 ·simp only [Act.put, qa, qb, qc]
  rfl
 refine la_ (i := 16) (N := (some 28)) rfl rfl (by kernel_rfl) (by decide) (fun K hK => ?_)
 refine value_ (w1 := ?_) (v := ?_) (by rfl) rfl ?_ ?_
 rotate_left 2
 ·go_simp
  constructor
  ·rfl
  ·rfl
 refine hK.out _ _ ?_
 clear hK K
 refine norm_ (a' := ?_) ?_ ?_
 rotate_left
 ·show Act.put _ (some 28) _ = _
  simp only [Act.put, qa, qb, qc]
  rfl
 refine la_ (i := 17) (N := (some 29)) rfl rfl (by kernel_rfl) (by decide) (fun K hK => ?_)
 refine goes_ Tryz.func67 (by kernel_rfl) rfl #[.int .i64 (n : Int), .slice (some ⟨w.heap.size, 0, none⟩) 2 2] (by rfl) rfl rfl (by simp only [List.map_toArray, List.map_cons, List.map_nil]; rfl) ?_
 refine Calls.mono (all2 _ _ w.heap.size (!bs) (!bi) 212 200 ?h5) ?_
 case h5 => exact heap_alloc_new w.drew _
 rintro x w5 ⟨hr5, hb5⟩
 obtain ⟨v5, rfl, hr5⟩ := hr5.ret
 refine ⟨_, rfl, hK.out _ _ ?_⟩
 clear hK K
 refine norm_ (a' := ?_) ?_ ?_
 rotate_left
 ·show Act.put _ (some 29) _ = _
  simp only [Act.put, qa, qb, qc]
  rfl
 refine pu_ (i := 18) (N := (some 5)) (v := ?_) (a' := ?_) rfl rfl (by kernel_rfl) (fun _ _ _ h => h) (Or.inl ⟨by rfl, ?_⟩) ?_ ?_
 rotate_left
 ·intro w'
  go_simp
  try with_reducible rfl
 rotate_left
 ·simp only [Act.put, qa, qb, qc]
  rfl
 refine done_ (by kernel_rfl) ?_
 have hB : Below w.heap.size w w5 := (Below.refl _ w).drew.alloc (Nat.le_refl _) _ |>.trans (hb5.mono (by simp))
 have hr : AllRes w n (firstNo [(!bs, 212), (!bi, 200)]) (.returned v5) w5 := AllRes.mono (w := w) hr5 (by simp)
 have ho := HO.out
 have hj := HJ.out
 rw [HBI.out, HBS.out] at ho hj
 have hR5 := HR.out.below hB
 generalize firstNo [(!bs, 212), (!bi, 200)] = o at hr ho hj
 clear hr5 hb5
 cases o with
 | none =>
  have hv : v5 = .nilIface := by cases hr; rfl
  subst hv
  have d1 := hR5.c_is hn
  have f1 := hR5.free (2 + n * 10)
  have HJ2 := Lib.hid hj
  have HR5 := Lib.hid hR5
  have HB := Lib.hid hB
  clear hr ho hj hR5 hB c1 c2 fz
  go_wp2
  go_ret
  rw [HJ2.out]
  have hm : mcells H n { S.get n with is := true } = (mcells H n (S.get n)).set 0 (.bool true) := rfl
  have hb2 := blk_put HR5.out.blk H8.out n 0 hn (by decide) (.bool true) _ hm
  have ht : Tch (fun k => k = H.r) w5 (w5.setCell ⟨H.r, 2 + n * 10, none⟩ (.bool true)) := Tch.setCell (P := fun k => k = H.r) (Tch.refl _ _) (p := ⟨H.r, 2 + n * 10, none⟩) (.inl rfl) _
  exact MPost.turn HR.out HB.out (HR5.out.turn ht hb2 rfl rfl rfl (put_keeps S H8.out hn _ ⟨rfl, rfl, rfl⟩)) ht _
 | some c =>
  have hcc := ho c rfl
  have henv := hR5.env
  obtain ⟨gg, hg1, hg2, hg3⟩ := hr
  cases hg2
  have HJ2 := Lib.hid hj
  have HR5 := Lib.hid hR5
  have HB := Lib.hid hB
  have her := errno_ref w5 henv gg n c hcc.1 hcc.2 hg3
  have HER := Lib.hid her
  clear ho hj hR5 hB c1 c2 fz henv hg3 her
  go_wp2_with (go_at_call 64; (with_reducible refine HER.out.mono ?_); rintro e w6 ⟨rfl, hb6⟩)
  go_ret
  rw [HJ2.out]
  exact MPost.same HR.out (HB.out.trans (hb6.mono HB.out.size)) _
theorem by_rt (w : World) (H : Sh) (S : St) (hR : RAt H w S) (f : Int) :
  Calls Tryz.prog 63 #[.pointer (some ⟨H.r, 0, none⟩), .int .i64 f] w fun e w' => AllRes w f (if S.byE f = 0 then none else some (S.byE f)) e w' ∧ Below w.heap.size w w' := by
 by_cases h : f < 0 ∨ 8 ≤ f
 ·have e : S.byE f = 1 := by unfold St.byE; rw [if_pos h]
  rw [e]
  exact by_out w H.r f h
 ·obtain ⟨n, rfl⟩ : ∃ n : Nat, f = n := ⟨f.toNat, by omega⟩
  have hn : n < 8 := by omega
  have e : firstNo [((S.get n).is, 201), (!S.saving, 212)] = if S.byE n = 0 then none else some (S.byE n) := by
   unfold St.byE
   rw [if_neg h, Int.toNat_natCast]
   cases (S.get n).is <;> cases S.saving <;> rfl
  rw [← e]
  exact by_call w H.r n (S.get n).is S.saving hn (hR.c_is hn) hR.c_sv
theorem byE_lt (S : St) (f : Int) : 0 ≤ S.byE f ∧ S.byE f < 220 := by
 unfold St.byE
 split
 ·omega
 ·split
  ·omega
  ·split <;> omega
theorem by_no (w : World) (H : Sh) (S : St) (hR : RAt H w S) (f : Int) (he : S.byE f ≠ 0) :
  Calls Tryz.prog 63 #[.pointer (some ⟨H.r, 0, none⟩), .int .i64 f] w fun e w' => ∃ g, e = .returned (.iface 180 (.pointer (some ⟨g, 0, none⟩))) ∧ Below w.heap.size w w' ∧ Calls Tryz.prog 64 #[.iface 180 (.pointer (some ⟨g, 0, none⟩))] w' fun e w'' => e = .returned (.int .i64 (S.byE f)) ∧ Below w'.heap.size w' w'' := by
 refine (by_rt w H S hR f).mono ?_
 rintro e w' ⟨h1, h2⟩
 rw [if_neg he] at h1
 obtain ⟨g, h3, h4, h5⟩ := h1
 exact ⟨g, h4, h2, errno_ref w' (hR.below h2).env g f _ (byE_lt S f).1 (byE_lt S f).2 h5⟩
theorem by_yes (w : World) (H : Sh) (S : St) (hR : RAt H w S) (f : Int) (he : S.byE f = 0) :
  Calls Tryz.prog 63 #[.pointer (some ⟨H.r, 0, none⟩), .int .i64 f] w fun e w' => e = .returned .nilIface ∧ Below w.heap.size w w' := by
 refine (by_rt w H S hR f).mono ?_
 rintro e w' ⟨h1, h2⟩
 rw [if_pos he] at h1
 exact ⟨h1, h2⟩
set_option maxHeartbeats 4000000 in
theorem ask_no (w : World) (H : Sh) (S : St) (hR : RAt H w S) (f : Int) (x y : Int) (he : S.byE f ≠ 0) :
  Calls Tryz.prog 25 #[.pointer (some ⟨H.r, 0, none⟩), .int .i64 f, .int .i64 x, .int .i64 y] w fun e w' => e = .returned (.int .i64 (S.byE f)) ∧ Below w.heap.size w w' := by
 have hb := by_no w H S hR f he
 have HB := Lib.hid hb
 clear hb hR he
 go_enter Tryz.func25, Tryz.ntmps25
 go_wp2_with (go_at_call 63; (with_reducible refine HB.out.mono ?_); rintro e w1 ⟨g, rfl, hb1, hc1⟩)
 have HB1 := Lib.hid hb1
 have HC1 := Lib.hid hc1
 clear hb1 hc1
 go_wp2_with (go_at_call 64; (with_reducible refine HC1.out.mono ?_); rintro e w2 ⟨rfl, hb2⟩)
 go_ret
 exact ⟨rfl, HB1.out.trans (hb2.mono HB1.out.size)⟩
set_option maxHeartbeats 4000000 in
theorem unregulate_no (w : World) (H : Sh) (S : St) (hR : RAt H w S) (f : Int) (he : S.byE f ≠ 0) :
  Calls Tryz.prog 104 #[.pointer (some ⟨H.r, 0, none⟩), .int .i64 f] w fun e w' => e = .returned (.int .i64 (S.byE f)) ∧ Below w.heap.size w w' := by
 have hb := by_no w H S hR f he
 have HB := Lib.hid hb
 clear hb hR he
 go_enter Tryz.func104, Tryz.ntmps104
 go_wp2_with (go_at_call 63; (with_reducible refine HB.out.mono ?_); rintro e w1 ⟨g, rfl, hb1, hc1⟩)
 have HB1 := Lib.hid hb1
 have HC1 := Lib.hid hc1
 clear hb1 hc1
 go_wp2_with (go_at_call 64; (with_reducible refine HC1.out.mono ?_); rintro e w2 ⟨rfl, hb2⟩)
 go_ret
 exact ⟨rfl, HB1.out.trans (hb2.mono HB1.out.size)⟩
set_option maxHeartbeats 4000000 in
theorem regulate_no (w : World) (H : Sh) (S : St) (hR : RAt H w S) (f : Int) (x : Int) (he : S.byE f ≠ 0) :
  Calls Tryz.prog 37 #[.pointer (some ⟨H.r, 0, none⟩), .int .i64 f, .int .i64 x] w fun e w' => e = .returned (.int .i64 (S.byE f)) ∧ Below w.heap.size w w' := by
 have hb := by_no w H S hR f he
 have HB := Lib.hid hb
 clear hb hR he
 go_enter Tryz.func37, Tryz.ntmps37
 go_wp2_with (go_at_call 63; (with_reducible refine HB.out.mono ?_); rintro e w1 ⟨g, rfl, hb1, hc1⟩)
 have HB1 := Lib.hid hb1
 have HC1 := Lib.hid hc1
 clear hb1 hc1
 go_wp2_with (go_at_call 64; (with_reducible refine HC1.out.mono ?_); rintro e w2 ⟨rfl, hb2⟩)
 go_ret
 exact ⟨rfl, HB1.out.trans (hb2.mono HB1.out.size)⟩
set_option maxHeartbeats 4000000 in
theorem constrain_no (w : World) (H : Sh) (S : St) (hR : RAt H w S) (f : Int) (he : S.byE f ≠ 0) :
  Calls Tryz.prog 38 #[.pointer (some ⟨H.r, 0, none⟩), .int .i64 f] w fun e w' => e = .returned (.int .i64 (S.byE f)) ∧ Below w.heap.size w w' := by
 have hb := by_no w H S hR f he
 have HB := Lib.hid hb
 clear hb hR he
 go_enter Tryz.func38, Tryz.ntmps38
 go_wp2_with (go_at_call 63; (with_reducible refine HB.out.mono ?_); rintro e w1 ⟨g, rfl, hb1, hc1⟩)
 have HB1 := Lib.hid hb1
 have HC1 := Lib.hid hc1
 clear hb1 hc1
 go_wp2_with (go_at_call 64; (with_reducible refine HC1.out.mono ?_); rintro e w2 ⟨rfl, hb2⟩)
 go_ret
 exact ⟨rfl, HB1.out.trans (hb2.mono HB1.out.size)⟩
set_option maxHeartbeats 4000000 in
theorem unconstrain_no (w : World) (H : Sh) (S : St) (hR : RAt H w S) (f : Int) (he : S.byE f ≠ 0) :
  Calls Tryz.prog 105 #[.pointer (some ⟨H.r, 0, none⟩), .int .i64 f] w fun e w' => e = .returned (.int .i64 (S.byE f)) ∧ Below w.heap.size w w' := by
 have hb := by_no w H S hR f he
 have HB := Lib.hid hb
 clear hb hR he
 go_enter Tryz.func105, Tryz.ntmps105
 go_wp2_with (go_at_call 63; (with_reducible refine HB.out.mono ?_); rintro e w1 ⟨g, rfl, hb1, hc1⟩)
 have HB1 := Lib.hid hb1
 have HC1 := Lib.hid hc1
 clear hb1 hc1
 go_wp2_with (go_at_call 64; (with_reducible refine HC1.out.mono ?_); rintro e w2 ⟨rfl, hb2⟩)
 go_ret
 exact ⟨rfl, HB1.out.trans (hb2.mono HB1.out.size)⟩
set_option maxHeartbeats 4000000 in
theorem resign_no (w : World) (H : Sh) (S : St) (hR : RAt H w S) (f : Int) (he : S.byE f ≠ 0) :
  Calls Tryz.prog 50 #[.pointer (some ⟨H.r, 0, none⟩), .int .i64 f] w fun e w' => e = .returned (.int .i64 (S.byE f)) ∧ Below w.heap.size w w' := by
 have hb := by_no w H S hR f he
 have HB := Lib.hid hb
 clear hb hR he
 go_enter Tryz.func50, Tryz.ntmps50
 go_wp2_with (go_at_call 63; (with_reducible refine HB.out.mono ?_); rintro e w1 ⟨g, rfl, hb1, hc1⟩)
 have HB1 := Lib.hid hb1
 have HC1 := Lib.hid hc1
 clear hb1 hc1
 go_wp2_with (go_at_call 64; (with_reducible refine HC1.out.mono ?_); rintro e w2 ⟨rfl, hb2⟩)
 go_ret
 exact ⟨rfl, HB1.out.trans (hb2.mono HB1.out.size)⟩
set_option maxHeartbeats 4000000 in
theorem publish_no (w : World) (H : Sh) (S : St) (hR : RAt H w S) (f : Int) (x : Int) (y : Bool) (he : S.byE f ≠ 0) :
  Calls Tryz.prog 35 #[.pointer (some ⟨H.r, 0, none⟩), .int .i64 f, .int .i64 x, .bool y] w fun e w' => e = .returned (.int .i64 (S.byE f)) ∧ Below w.heap.size w w' := by
 have hb := by_no w H S hR f he
 have HB := Lib.hid hb
 clear hb hR he
 go_enter Tryz.func35, Tryz.ntmps35
 go_wp2_with (go_at_call 63; (with_reducible refine HB.out.mono ?_); rintro e w1 ⟨g, rfl, hb1, hc1⟩)
 have HB1 := Lib.hid hb1
 have HC1 := Lib.hid hc1
 clear hb1 hc1
 go_wp2_with (go_at_call 64; (with_reducible refine HC1.out.mono ?_); rintro e w2 ⟨rfl, hb2⟩)
 go_ret
 exact ⟨rfl, HB1.out.trans (hb2.mono HB1.out.size)⟩
set_option maxHeartbeats 4000000 in
theorem subscribe_no (w : World) (H : Sh) (S : St) (hR : RAt H w S) (f : Int) (x : Int) (y : Bool) (he : S.byE f ≠ 0) :
  Calls Tryz.prog 36 #[.pointer (some ⟨H.r, 0, none⟩), .int .i64 f, .int .i64 x, .bool y] w fun e w' => e = .returned (.int .i64 (S.byE f)) ∧ Below w.heap.size w w' := by
 have hb := by_no w H S hR f he
 have HB := Lib.hid hb
 clear hb hR he
 go_enter Tryz.func36, Tryz.ntmps36
 go_wp2_with (go_at_call 63; (with_reducible refine HB.out.mono ?_); rintro e w1 ⟨g, rfl, hb1, hc1⟩)
 have HB1 := Lib.hid hb1
 have HC1 := Lib.hid hc1
 clear hb1 hc1
 go_wp2_with (go_at_call 64; (with_reducible refine HC1.out.mono ?_); rintro e w2 ⟨rfl, hb2⟩)
 go_ret
 exact ⟨rfl, HB1.out.trans (hb2.mono HB1.out.size)⟩
set_option maxHeartbeats 4000000 in
theorem retract_no (w : World) (H : Sh) (S : St) (hR : RAt H w S) (f : Int) (x : Int) (he : S.byE f ≠ 0) :
  Calls Tryz.prog 28 #[.pointer (some ⟨H.r, 0, none⟩), .int .i64 f, .int .i64 x] w fun e w' => e = .returned (.int .i64 (S.byE f)) ∧ Below w.heap.size w w' := by
 have hb := by_no w H S hR f he
 have HB := Lib.hid hb
 clear hb hR he
 go_enter Tryz.func28, Tryz.ntmps28
 go_wp2_with (go_at_call 63; (with_reducible refine HB.out.mono ?_); rintro e w1 ⟨g, rfl, hb1, hc1⟩)
 have HB1 := Lib.hid hb1
 have HC1 := Lib.hid hc1
 clear hb1 hc1
 go_wp2_with (go_at_call 64; (with_reducible refine HC1.out.mono ?_); rintro e w2 ⟨rfl, hb2⟩)
 go_ret
 exact ⟨rfl, HB1.out.trans (hb2.mono HB1.out.size)⟩
end Go.Proofs.YtehnkebcbomidaaGreatDoor.Rt
