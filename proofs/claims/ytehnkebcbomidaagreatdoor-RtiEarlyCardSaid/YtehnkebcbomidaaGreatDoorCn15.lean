/- Part of a proof over the given program: Tu, Tp. -/
import Derived.Test.YtehnkebcbomidaaGreatDoorCn14
set_option linter.unusedVariables false
set_option linter.unusedSimpArgs false
namespace Go.Proofs.YtehnkebcbomidaaGreatDoor.Rt
open Go Go.RowKit Go.Proofs Go.Proofs.YtehnkebcbomidaaGreatDoorW.PrintWords Go.Proofs.YtehnkebcbomidaaGreatDoorW.PrintLast
set_option maxHeartbeats 2000000 in
theorem turn_call (w : World) (is : Bool) : Calls Tryz.prog 155 #[.bool is] w fun e w' => e = .returned (.func (.func (if is then 215 else 216)) #[] #[]) ∧ w' = w := by
 cases is with
 | true =>
  go_enter Tryz.func155, Tryz.ntmps155
  go_wp2
  go_ret
  exact ⟨rfl, rfl⟩
 | false =>
  go_enter Tryz.func155, Tryz.ntmps155
  go_wp2
  go_ret
  exact ⟨rfl, rfl⟩
theorem wraps_u32 (n : Int) (h0 : 0 ≤ n) (h1 : n < 2 ^ 32) : IntKind.u32.wrap n = n := by rw [IntKind.wrap_u32]; omega
theorem pow_lt (c : Nat) (hc : c < 16) : 2 ^ c < 4294967296 := Nat.lt_of_lt_of_le (Nat.pow_lt_pow_right (by decide) hc) (by decide)
theorem pow_cast (c : Nat) (hc : c < 16) : ((2 : Int) ^ c % 4294967296) = ((2 ^ c : Nat) : Int) := by
 have h := pow_lt c hc
 rw [show ((2 : Int) ^ c) = ((2 ^ c : Nat) : Int) by norm_cast]
 have h2 : ((2 ^ c : Nat) : Int) < ((4294967296 : Nat) : Int) := Int.ofNat_lt.2 h
 exact Int.emod_eq_of_lt (Int.natCast_nonneg _) h2
theorem or_bits (x c : Nat) (hx : x < 4294967296) (hc : c < 16) : bits .or .u32 (x : Int) (2 ^ c % 4294967296) = (bitSet x c true : Nat) := by
 rw [pow_cast c hc]
 exact (bits_nat .u32 32 (by decide) wraps_u32 x (2 ^ c) hx (pow_lt c hc)).2
theorem andNot_bits (x c : Nat) (hx : x < 4294967296) (hc : c < 16) : bits .andNot .u32 (x : Int) (2 ^ c % 4294967296) = (bitSet x c false : Nat) := by
 rw [pow_cast c hc]
 have h := pow_lt c hc
 have hx' : x % 2 ^ 32 = x := Nat.mod_eq_of_lt hx
 have hy' : 2 ^ c % 2 ^ 32 = 2 ^ c := Nat.mod_eq_of_lt h
 have e : (BitVec.ofNat 32 x &&& ~~~(BitVec.ofNat 32 (2 ^ c))).toNat = x &&& (4294967295 - 2 ^ c) := by
  rw [BitVec.toNat_and, BitVec.toNat_not, BitVec.toNat_ofNat, BitVec.toNat_ofNat, hx', hy']
 have hl : (x &&& (4294967295 - 2 ^ c)) < 2 ^ 32 := Nat.lt_of_le_of_lt Nat.and_le_left hx
 show IntKind.u32.wrap _ = _
 simp only [BitVec.ofInt_natCast]
 show IntKind.u32.wrap (((BitVec.ofNat 32 x &&& ~~~(BitVec.ofNat 32 (2 ^ c))).toNat : Nat) : Int) = _
 have h2 : (((x &&& (4294967295 - 2 ^ c) : Nat)) : Int) < ((4294967296 : Nat) : Int) := Int.ofNat_lt.2 hl
 rw [e, wraps_u32 _ (Int.natCast_nonneg _) h2]
 rfl
set_option maxHeartbeats 2000000 in
theorem turn_on (w : World) (g j : Nat) (x : Nat) (hx : x < 4294967296) (c : Nat) (hc : c < 16) (h : w.cell? ⟨g, j, none⟩ = some (.int .u32 (x : Nat))) (hf : w.frozen? ⟨g, j, none⟩ = false) :
  Calls Tryz.prog 215 #[.pointer (some ⟨g, j, none⟩), .int .i64 c] w fun e w' => e = .returned (.tuple #[]) ∧ w' = w.setCell ⟨g, j, none⟩ (.int .u32 (bitSet x c true : Nat)) := by
 have hu110 := Tryz.underlying110
 have hu157 := Tryz.underlying157
 have hz : (0 : Int) ≤ (c : Int) := by omega
 have hz2 : (c : Int) < 16 := by omega
 go_enter Tryz.func215, Tryz.ntmps215
 go_wp2
 go_end0
 rw [or_bits x c hx hc]
 exact ⟨rfl, rfl⟩
set_option maxHeartbeats 2000000 in
theorem turn_off (w : World) (g j : Nat) (x : Nat) (hx : x < 4294967296) (c : Nat) (hc : c < 16) (h : w.cell? ⟨g, j, none⟩ = some (.int .u32 (x : Nat))) (hf : w.frozen? ⟨g, j, none⟩ = false) :
  Calls Tryz.prog 216 #[.pointer (some ⟨g, j, none⟩), .int .i64 c] w fun e w' => e = .returned (.tuple #[]) ∧ w' = w.setCell ⟨g, j, none⟩ (.int .u32 (bitSet x c false : Nat)) := by
 have hu110 := Tryz.underlying110
 have hu157 := Tryz.underlying157
 have hz : (0 : Int) ≤ (c : Int) := by omega
 have hz2 : (c : Int) < 16 := by omega
 go_enter Tryz.func216, Tryz.ntmps216
 go_wp2
 go_end0
 rw [andNot_bits x c hx hc]
 exact ⟨rfl, rfl⟩
theorem check_any (w : World) (g : Nat) (v : Value) (above pubs subs : List Nat) (h : TabAt w g v above pubs subs) (f c : Int) (r : Int) (hr : chk f c above.length = r) :
  Calls Tryz.prog 134 #[.pointer (some ⟨g, 0, none⟩), .int .i64 f, .int .i64 c] w fun e w' => e = .returned (.int .i64 r) ∧ w' = w := by subst hr; exact check_call w g v above pubs subs h f c
theorem turn_any (w : World) (g j : Nat) (x : Nat) (hx : x < 4294967296) (c : Nat) (hc : c < 16) (is : Bool) (h : w.cell? ⟨g, j, none⟩ = some (.int .u32 (x : Nat))) (hf : w.frozen? ⟨g, j, none⟩ = false) :
  Calls Tryz.prog (if is then 215 else 216) #[.pointer (some ⟨g, j, none⟩), .int .i64 c] w fun e w' => e = .returned (.tuple #[]) ∧ w' = w.setCell ⟨g, j, none⟩ (.int .u32 (bitSet x c is : Nat)) := by
 cases is with
 | true => exact turn_on w g j x hx c hc h hf
 | false => exact turn_off w g j x hx c hc h hf
theorem enters215 (args : Array Value) (w : World) : (callFunc 215 args).run Tryz.prog w = .ok (.enter 215 args) w := enters_of Tryz.func215 (by kernel_rfl) rfl args w
theorem enters216 (args : Array Value) (w : World) : (callFunc 216 args).run Tryz.prog w = .ok (.enter 216 args) w := enters_of Tryz.func216 (by kernel_rfl) rfl args w
theorem TabAt.cell {W : World} {g : Nat} {v : Value} {above pubs subs : List Nat} (h : TabAt W g v above pubs subs) (j : Nat) (x : Nat) (hx : (pubs ++ subs)[j]? = some x) : W.cell? ⟨g, 1 + j, none⟩ = some (.int .u32 (x : Nat)) := by
 have := cell_of_row W g (1 + j) _ 189 (0, 0) h.blk
 rw [this, show 1 + j = j + 1 by omega, List.getElem?_toArray, List.getElem?_cons_succ, List.getElem?_map, hx]
 rfl
theorem TabAt.free {W : World} {g : Nat} {v : Value} {above pubs subs : List Nat} (h : TabAt W g v above pubs subs) (j : Nat) : W.frozen? ⟨g, j, none⟩ = false := by
 have e := h.blk
 simp [World.frozen?, e]
set_option maxHeartbeats 4000000 in
theorem tpub_no (w : World) (g : Nat) (v : Value) (above pubs subs : List Nat) (h : TabAt w g v above pubs subs) (f c : Int) (is : Bool) (hr : chk f c above.length ≠ 0) :
  Calls Tryz.prog 84 #[.pointer (some ⟨g, 0, none⟩), .int .i64 f, .int .i64 c, .bool is] w fun e w' => e = .returned (.int .i64 (chk f c above.length)) ∧ w' = w := by
 have H := Lib.hid h
 generalize hz : chk f c above.length = z at hr
 have HZ := Lib.hid hz
 have hne : ¬ z = 0 := hr
 clear h hz hr
 go_enter Tryz.func84, Tryz.ntmps84
 go_wp2_with (go_at_call 134; (with_reducible refine (check_any _ g v above pubs subs H.out f c z HZ.out).mono ?_); rintro e w1 ⟨rfl, rfl⟩)
 go_ret
 exact ⟨rfl, rfl⟩
set_option maxHeartbeats 4000000 in
theorem tsub_no (w : World) (g : Nat) (v : Value) (above pubs subs : List Nat) (h : TabAt w g v above pubs subs) (f c : Int) (is : Bool) (hr : chk f c above.length ≠ 0) :
  Calls Tryz.prog 156 #[.pointer (some ⟨g, 0, none⟩), .int .i64 f, .int .i64 c, .bool is] w fun e w' => e = .returned (.int .i64 (chk f c above.length)) ∧ w' = w := by
 have H := Lib.hid h
 generalize hz : chk f c above.length = z at hr
 have HZ := Lib.hid hz
 have hne : ¬ z = 0 := hr
 clear h hz hr
 go_enter Tryz.func156, Tryz.ntmps156
 go_wp2_with (go_at_call 134; (with_reducible refine (check_any _ g v above pubs subs H.out f c z HZ.out).mono ?_); rintro e w1 ⟨rfl, rfl⟩)
 go_ret
 exact ⟨rfl, rfl⟩
set_option maxHeartbeats 4000000 in
set_option maxRecDepth 100000 in
theorem tpub_yes (w : World) (g : Nat) (v : Value) (above pubs subs : List Nat) (h : TabAt w g v above pubs subs) (n : Nat) (hn : n < 8) (c : Nat) (hc : c < above.length) (h16 : above.length ≤ 16) (is : Bool) (x : Nat) (hx : pubs[n]? = some x) (hx2 : x < 4294967296) :
  Calls Tryz.prog 84 #[.pointer (some ⟨g, 0, none⟩), .int .i64 n, .int .i64 c, .bool is] w fun e w' => e = .returned (.int .i64 0) ∧ w' = w.drew.setCell ⟨g, 1 + n, none⟩ (.int .u32 (bitSet x c is : Nat)) := by
 have hz : chk n c above.length = 0 := by unfold chk; rw [if_neg (by omega), if_neg (by omega)]
 have c1 := h.cell n x (by rw [List.getElem?_append_left (by rw [h.p8]; exact hn)]; exact hx)
 have f1 := h.free (1 + n)
 have HZ := Lib.hid hz
 have HX := Lib.hid hx
 have H := Lib.hid h
 have hu189 := Tryz.underlying189
 have hu187 := Tryz.underlying187
 have e215 := enters215
 have e216 := enters216
 have hz0 : (0 : Int) ≤ (n : Int) := by omega
 have hz8 : (n : Int) < 8 := by omega
 clear h hz hx
 go_enter Tryz.func84, Tryz.ntmps84
 have hmix : Tryz.prog.follows .mixedOrders = true := by kernel_rfl
 go_wp2_with (go_at_call 134; (with_reducible refine (check_any _ g v above pubs subs H.out n c 0 HZ.out).mono ?_); rintro e w1 ⟨rfl, rfl⟩)
 refine st_ (n := 9) (S := fun w' => True) (ds := [1, 8]) hmix rfl trivial (fun hHeld => ?_)
 refine pu_ (i := 0) (N := (some 17)) (v := ?_) (a' := ?_) rfl rfl (by kernel_rfl) (fun _ _ _ h => h) (Or.inl ⟨by rfl, ?_⟩) ?_ ?_
 rotate_left
 ·intro w'
  go_simp
  try with_reducible rfl
 rotate_left
 ·simp only [Act.put, qa, qb, qc]
  rfl
 refine pu_ (i := 2) (N := (some 19)) (v := ?_) (a' := ?_) rfl rfl (by kernel_rfl) (fun _ _ _ h => h) (Or.inl ⟨by rfl, ?_⟩) ?_ ?_
 rotate_left
 ·intro w'
  go_simp
  try with_reducible rfl
 rotate_left
 ·simp only [Act.put, qa, qb, qc]
  rfl
 refine pu_ (i := 3) (N := (some 20)) (v := ?_) (a' := ?_) rfl rfl (by kernel_rfl) (fun _ _ _ h => h) (Or.inl ⟨by rfl, ?_⟩) ?_ ?_
 rotate_left
 ·intro w'
  go_simp
  try with_reducible rfl
 rotate_left
 ·simp only [Act.put, qa, qb, qc]
  rfl
 refine pu_ (i := 4) (N := (some 21)) (v := ?_) (a' := ?_) rfl rfl (by kernel_rfl) (fun _ _ _ h => h) (Or.inl ⟨by rfl, ?_⟩) ?_ ?_
 rotate_left
 ·intro w'
  go_simp
  try with_reducible rfl
 rotate_left
 ·simp only [Act.put, qa, qb, qc]
  rfl
 refine pu_ (i := 5) (N := (some 22)) (v := ?_) (a' := ?_) rfl rfl (by kernel_rfl) (fun _ _ _ h => h) (Or.inl ⟨by rfl, ?_⟩) ?_ ?_
 rotate_left
 ·intro w'
  go_simp
  try with_reducible rfl
 rotate_left
 ·simp only [Act.put, qa, qb, qc]
  rfl
 refine pu_ (i := 6) (N := (some 23)) (v := ?_) (a' := ?_) rfl rfl (by kernel_rfl) (fun _ _ _ h => h) (Or.inl ⟨by rfl, ?_⟩) ?_ ?_
 rotate_left
 ·intro w'
  go_simp
  try with_reducible rfl
 rotate_left
 ·simp only [Act.put, qa, qb, qc]
  rfl
 refine pu_ (i := 7) (N := (some 24)) (v := ?_) (a' := ?_) rfl rfl (by kernel_rfl) (fun _ _ _ h => h) (Or.inl ⟨by rfl, ?_⟩) ?_ ?_
 rotate_left
 ·intro w'
  go_simp
  try with_reducible rfl
 rotate_left
 ·simp only [Act.put, qa, qb, qc]
  rfl
 refine la_ (i := 1) (N := (some 18)) rfl rfl (by kernel_rfl) (by decide) (fun K hK => ?_)
 refine goes_ Tryz.func155 (by kernel_rfl) rfl #[.bool is] (by rfl) rfl rfl (by simp only [List.map_toArray, List.map_cons, List.map_nil]; rfl) ?_
 refine (turn_call _ is).mono ?_
 rintro x w5 ⟨rfl, rfl⟩
 refine ⟨_, rfl, hK.out _ _ ?_⟩
 clear hK K
 refine norm_ (a' := ?_) ?_ ?_
 rotate_left
 ·show Act.put _ (some 18) _ = _
  simp only [Act.put, qa, qb, qc]
  rfl
 refine la_ (i := 8) (N := (some 25)) rfl rfl (by kernel_rfl) (by decide) (fun K hK => ?_)
 refine call_ (if is then 215 else 216) #[.pointer (some ⟨g, 1 + n, none⟩), .int .i64 c] (by rfl) rfl (by cases is <;> go_simp) ?_
 refine (turn_any _ g (1 + n) x hx2 c (by omega) is (show World.cell? (World.drew _) _ = _ from c1) (show World.frozen? (World.drew _) _ = _ from f1)).mono ?_
 rintro x w5 ⟨rfl, rfl⟩
 refine ⟨_, rfl, hK.out _ _ ?_⟩
 clear hK K
 refine norm_ (a' := ?_) ?_ ?_
 rotate_left
 ·show Act.put _ (some 25) _ = _
  simp only [Act.put, qa, qb, qc]
  rfl
 refine done_ (by kernel_rfl) ?_
 go_wp2
 all_goals (go_ret; exact ⟨rfl, rfl⟩)
set_option maxHeartbeats 4000000 in
set_option maxRecDepth 100000 in
theorem tsub_yes (w : World) (g : Nat) (v : Value) (above pubs subs : List Nat) (h : TabAt w g v above pubs subs) (n : Nat) (hn : n < 8) (c : Nat) (hc : c < above.length) (h16 : above.length ≤ 16) (is : Bool) (x : Nat) (hx : subs[n]? = some x) (hx2 : x < 4294967296) :
  Calls Tryz.prog 156 #[.pointer (some ⟨g, 0, none⟩), .int .i64 n, .int .i64 c, .bool is] w fun e w' => e = .returned (.int .i64 0) ∧ w' = w.drew.setCell ⟨g, 9 + n, none⟩ (.int .u32 (bitSet x c is : Nat)) := by
 have hz : chk n c above.length = 0 := by unfold chk; rw [if_neg (by omega), if_neg (by omega)]
 have c1 := h.cell (8 + n) x (by rw [List.getElem?_append_right (by rw [h.p8]; omega), h.p8, show 8 + n - 8 = n by omega]; exact hx)
 rw [show 1 + (8 + n) = 9 + n by omega] at c1
 have f1 := h.free (9 + n)
 have HZ := Lib.hid hz
 have HX := Lib.hid hx
 have H := Lib.hid h
 have hu189 := Tryz.underlying189
 have hu187 := Tryz.underlying187
 have e215 := enters215
 have e216 := enters216
 have hz0 : (0 : Int) ≤ (n : Int) := by omega
 have hz8 : (n : Int) < 8 := by omega
 clear h hz hx
 go_enter Tryz.func156, Tryz.ntmps156
 have hmix : Tryz.prog.follows .mixedOrders = true := by kernel_rfl
 go_wp2_with (go_at_call 134; (with_reducible refine (check_any _ g v above pubs subs H.out n c 0 HZ.out).mono ?_); rintro e w1 ⟨rfl, rfl⟩)
 refine st_ (n := 9) (S := fun w' => True) (ds := [1, 8]) hmix rfl trivial (fun hHeld => ?_)
 refine pu_ (i := 0) (N := (some 17)) (v := ?_) (a' := ?_) rfl rfl (by kernel_rfl) (fun _ _ _ h => h) (Or.inl ⟨by rfl, ?_⟩) ?_ ?_
 rotate_left
 ·intro w'
  go_simp
  try with_reducible rfl
 rotate_left
 ·simp only [Act.put, qa, qb, qc]
  rfl
 refine pu_ (i := 2) (N := (some 19)) (v := ?_) (a' := ?_) rfl rfl (by kernel_rfl) (fun _ _ _ h => h) (Or.inl ⟨by rfl, ?_⟩) ?_ ?_
 rotate_left
 ·intro w'
  go_simp
  try with_reducible rfl
 rotate_left
 ·simp only [Act.put, qa, qb, qc]
  rfl
 refine pu_ (i := 3) (N := (some 20)) (v := ?_) (a' := ?_) rfl rfl (by kernel_rfl) (fun _ _ _ h => h) (Or.inl ⟨by rfl, ?_⟩) ?_ ?_
 rotate_left
 ·intro w'
  go_simp
  try with_reducible rfl
 rotate_left
 ·simp only [Act.put, qa, qb, qc]
  rfl
 refine pu_ (i := 4) (N := (some 21)) (v := ?_) (a' := ?_) rfl rfl (by kernel_rfl) (fun _ _ _ h => h) (Or.inl ⟨by rfl, ?_⟩) ?_ ?_
 rotate_left
 ·intro w'
  go_simp
  try with_reducible rfl
 rotate_left
 ·simp only [Act.put, qa, qb, qc]
  rfl
 refine pu_ (i := 5) (N := (some 22)) (v := ?_) (a' := ?_) rfl rfl (by kernel_rfl) (fun _ _ _ h => h) (Or.inl ⟨by rfl, ?_⟩) ?_ ?_
 rotate_left
 ·intro w'
  go_simp
  try with_reducible rfl
 rotate_left
 ·simp only [Act.put, qa, qb, qc]
  rfl
 refine pu_ (i := 6) (N := (some 23)) (v := ?_) (a' := ?_) rfl rfl (by kernel_rfl) (fun _ _ _ h => h) (Or.inl ⟨by rfl, ?_⟩) ?_ ?_
 rotate_left
 ·intro w'
  go_simp
  try with_reducible rfl
 rotate_left
 ·simp only [Act.put, qa, qb, qc]
  rfl
 refine pu_ (i := 7) (N := (some 24)) (v := ?_) (a' := ?_) rfl rfl (by kernel_rfl) (fun _ _ _ h => h) (Or.inl ⟨by rfl, ?_⟩) ?_ ?_
 rotate_left
 ·intro w'
  go_simp
  try with_reducible rfl
 rotate_left
 ·simp only [Act.put, qa, qb, qc]
  rfl
 refine la_ (i := 1) (N := (some 18)) rfl rfl (by kernel_rfl) (by decide) (fun K hK => ?_)
 refine goes_ Tryz.func155 (by kernel_rfl) rfl #[.bool is] (by rfl) rfl rfl (by simp only [List.map_toArray, List.map_cons, List.map_nil]; rfl) ?_
 refine (turn_call _ is).mono ?_
 rintro x w5 ⟨rfl, rfl⟩
 refine ⟨_, rfl, hK.out _ _ ?_⟩
 clear hK K
 refine norm_ (a' := ?_) ?_ ?_
 rotate_left
 ·show Act.put _ (some 18) _ = _
  simp only [Act.put, qa, qb, qc]
  rfl
 refine la_ (i := 8) (N := (some 25)) rfl rfl (by kernel_rfl) (by decide) (fun K hK => ?_)
 refine call_ (if is then 215 else 216) #[.pointer (some ⟨g, 9 + n, none⟩), .int .i64 c] (by rfl) rfl (by cases is <;> go_simp) ?_
 refine (turn_any _ g (9 + n) x hx2 c (by omega) is (show World.cell? (World.drew _) _ = _ from c1) (show World.frozen? (World.drew _) _ = _ from f1)).mono ?_
 rintro x w5 ⟨rfl, rfl⟩
 refine ⟨_, rfl, hK.out _ _ ?_⟩
 clear hK K
 refine norm_ (a' := ?_) ?_ ?_
 rotate_left
 ·show Act.put _ (some 25) _ = _
  simp only [Act.put, qa, qb, qc]
  rfl
 refine done_ (by kernel_rfl) ?_
 go_wp2
 all_goals (go_ret; exact ⟨rfl, rfl⟩)
end Go.Proofs.YtehnkebcbomidaaGreatDoor.Rt
