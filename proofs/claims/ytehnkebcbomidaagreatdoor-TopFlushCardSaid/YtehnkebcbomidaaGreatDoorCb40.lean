/- Part of a proof over the given program: Tf, Ef. -/
import Derived.Test.YtehnkebcbomidaaGreatDoorCb39
import Derived.Test.YtehnkebcbomidaaGreatDoorCb38
set_option linter.unusedVariables false
set_option linter.unusedSimpArgs false
section
namespace Go.Proofs.YtehnkebcbomidaaGreatDoor.Rt
open Go Go.RowKit Go.Proofs Go.Proofs.YtehnkebcbomidaaGreatDoorW.PrintWords Go.Proofs.YtehnkebcbomidaaGreatDoorW.PrintLast Go.Proofs.YtehnkebcbomidaaGreatDoorW.PrintMore
attribute [local go_sem] max2_int min2_int max_two min_two
def U8Row (W : World) (A : Option Addr) (len : Nat) (z : List Int) : Prop := ∀ i, i < len → ∃ x, A = some x ∧ W.cell? (x.add i) = some (.int .u8 (z.getD i 0)) ∧ 0 ≤ z.getD i 0 ∧ z.getD i 0 < 256
structure FlushCalls (K : Nat → Prop) (r : Nat) (x : Int) (z : List Int) (ask : Int) (n : Nat) : Prop where
  se : ∀ i, i < n → ∀ w, Rti K r w (fs x z i) → Calls Tryz.prog 24 #[.pointer (some ⟨r, 0, none⟩), .int .i64 0, .int .i64 0, .int .i64 i, .int .i64 (x + z.getD i 0), .bool true] w (RPost K r w (.tuple #[.int .i64 i, .int .i64 0]) (fs x z (i + 1)))
  ak : ∀ w, Rti K r w (fs x z n) → Calls Tryz.prog 25 #[.pointer (some ⟨r, 0, none⟩), .int .i64 1, .int .i64 3, .int .i64 ask] w (RPost K r w (.int .i64 0) (fsA x z n ask))
  lk : ∀ w, Rti K r w (fsA x z n ask) → Calls Tryz.prog 26 #[.pointer (some ⟨r, 0, none⟩), .int .i64 1] w (GEnd K r w ⟨[], fq x z none_ n, true, min x ask⟩ 0 (fsL x n (min x ask)))
theorem flush_calls (K : Nat → Prop) (r : Nat) {x : Int} {z : List Int} {ask : Int} {n : Nat} (hn : n ≤ 40) (p : FlushOk x z ask n) : FlushCalls K r x z ask n := by
  refine ⟨fun i hi w h => ?_, fun w h => ?_, fun w h => ?_⟩
  · have := h.send (p.ok i (by omega)) (by omega) 0 0 i (x + z.getD i 0) true
    rw [p.se i hi] at this
    exact this
  · have := h.ask (p.ok n (Nat.le_refl _)) 1 3 ask
    rw [p.ak] at this
    exact this
  · have := h.look p.oa 1
    rw [p.lk] at this
    exact this
set_option maxHeartbeats 16000000 in
set_option maxRecDepth 100000 in
theorem flush_walk (W : World) (A : Option Addr) (len cap : Nat) (z : List Int) (ask a : Int) (hz : U8Row W A len z) (hl : len ≤ 40) (k0 : 0 ≤ ask) (k1 : ask < 256) (a0 : 0 ≤ a) (a1 : a < 256) (hE : Env W) :
    Calls Tryz.prog 3 #[.slice A len cap, .int .u8 ask, .int .u8 a] W fun e w' => e = .returned (.bool true) ∧ Below W.heap.size W w' := by
  have hzz : ∀ i, i < len → 0 ≤ z.getD i 0 ∧ z.getD i 0 < 256 := fun i hi => by obtain ⟨_, _, _, h⟩ := hz i hi; exact h
  have hlen : ¬ (40 : Int) < (len : Int) := by omega
  have hwa : IntKind.i64.wrap a = a := by rw [IntKind.wrap_i64]; omega
  have hwk : IntKind.i64.wrap ask = ask := by rw [IntKind.wrap_i64]; omega
  obtain ⟨x, hx⟩ : ∃ x, x = 1 + a % 9 := ⟨_, rfl⟩
  have hx1 : 1 ≤ x := by omega
  have hx9 : x ≤ 9 := by omega
  have HX := Lib.hid hx
  clear hx
  have p := flush_ok (x := x) (ask := ask) (by omega) (by omega) z len hl hzz k0 k1
  have hp := pair_call W hE x 3 (by omega) (by omega) (by omega) (by omega)
  have HZ := Lib.hid hz
  have HP := Lib.hid p
  have HQ := Lib.hid hp
  have hu52 := Tryz.underlying52
  have hu22 := Tryz.underlying22
  have hu5 := Tryz.underlying5
  have hu31 := Tryz.underlying31
  have hu29 := Tryz.underlying29
  clear hz p hE hp hzz
  go_enter Tryz.func3, Tryz.ntmps3
  have hmix : Tryz.prog.follows .mixedOrders = true := by kernel_rfl
  go_wp2_with (go_at_call 23; rw [← HX.out]; (with_reducible refine HQ.out.mono ?_); rintro e w2 ⟨r, rfl, hr2, hb2⟩; have HR2 := Lib.hid hr2; have HB2 := Lib.hid hb2; clear hr2 hb2)
  have HC := Lib.hid (flush_calls (fun k => k < W.heap.size) r hl HP.out)
  go_loopw [10] (fun iv wr => ∃ i : Nat, i ≤ len ∧ iv = .int .i64 i ∧ Rti (fun k => k < W.heap.size) r wr (fs x z i) ∧ Tch (fun k => ¬ k < W.heap.size) w2 wr) (fun iv _ => len - (RowKit.intOf iv).toNat)
  case atStart => exact ⟨0, Nat.zero_le _, rfl, HR2.out, Tch.refl _ _⟩
  case round =>
    obtain ⟨i, hi, rfl, hr, ht⟩ := hrel
    have HR := Lib.hid hr
    have HT := Lib.hid ht
    clear hr ht
    by_cases hil : i < len
    · have hii : (i : Int) < (len : Int) := by omega
      have hi0 : (0 : Int) ≤ (i : Int) := by omega
      obtain ⟨xa, rfl, hxx, hx0, hx1⟩ := HZ.out i hil
      have hxl := World.block_lt_of_cell? W _ hxx
      have hxc : wr.cell? (xa.add i) = some (.int .u8 (z.getD i 0)) := (HT.out.cell (HB2.out.cell hxl ▸ hxx) (fun e => e hxl))
      have hse := HC.out.se i hil wr HR.out
      have HSE := Lib.hid hse
      clear hse hxx
      generalize z.getD i 0 = b at hxc hx0 hx1 HSE
      have hwb : IntKind.i64.wrap b = b := by rw [IntKind.wrap_i64]; omega
      have hwx : IntKind.i64.wrap (x + b) = x + b := by rw [IntKind.wrap_i64]; omega
      go_wp2_with (go_at_call 24; go_loud (with_reducible refine HSE.out.mono ?_); rintro e w8 ⟨rfl, hr8, ht8⟩; have HR8 := Lib.hid hr8; have HT8 := Lib.hid ht8; clear hr8 ht8)
      exact ⟨⟨i + 1, by omega, by go_num, HR8.out, HT.out.trans HT8.out (fun _ _ e => e)⟩, by simp [RowKit.intOf]; omega⟩
    · obtain rfl : i = len := by omega
      have hii : ¬ (i : Int) < (i : Int) := by omega
      go_wp2_with (first | (go_at_call 25; (with_reducible refine (HC.out.ak wr HR.out).mono ?_); rintro e w8 ⟨rfl, hr8, ht8⟩; have HR8 := Lib.hid hr8; have HT8 := Lib.hid ht8; clear hr8 ht8) | (go_at_call 26; (with_reducible refine (HC.out.lk w8 HR8.out).mono ?_); rintro e w9 ⟨vp, vt, rfl, hg⟩; have hgp : World.ownsRow w9 0 41 6 vp 0 [] := hg.p; obtain ⟨PA, pc, rfl⟩ := own_slice hgp; have hgt : World.ownsRow w9 0 41 6 vt (fq x z none_ i).length (flatM (fq x z none_ i)) := hg.t; rw [fq_length, show fn none_ i = i from fn_none i] at hgt; obtain ⟨TA, tc, rfl⟩ := own_slice hgt; have HG := Lib.hid hg; clear hg hgp hgt))
      obtain ⟨w10, hw10⟩ : ∃ w10, w10 = w9.alloc (.cells #[.slice PA 0 pc, .slice TA i tc, .bool true, .int .i64 (min x ask)] 31) := ⟨_, rfl⟩
      have hblk := heap_alloc_new w9 (.cells #[.slice PA 0 pc, .slice TA i tc, .bool true, .int .i64 (min x ask)] 31)
      rw [← hw10] at hblk ⊢
      have hb10 : Below w9.heap.size w9 w10 := by rw [hw10]; exact (Below.refl _ w9).alloc (Nat.le_refl _) _
      obtain ⟨gb, hgb⟩ : ∃ gb, gb = w9.heap.size := ⟨_, rfl⟩
      rw [← hgb] at hblk ⊢
      obtain ⟨y0, y1, y2, y3, _⟩ := g_cells hblk
      have hbo := (HG.out.at_.below (hb10.drew)).boundOf rfl 1
      rw [HP.out.bo] at hbo
      have hmin : min x ask ≤ x := by omega
      have hmin2 : (if ask < x then ask else x) = min x ask := by split <;> omega
      have HBO := Lib.hid hbo
      have HB10 := Lib.hid hb10
      clear hw10 hblk hb10 hgb hbo y0
      refine start_ (n := 31) (S := fun w' => w'.cell? ⟨gb, 1, none⟩ = some (.slice TA i tc) ∧ w'.cell? ⟨gb, 2, none⟩ = some (.bool true) ∧ w'.cell? ⟨gb, 3, none⟩ = some (.int .i64 (min x ask))) (ds := []) #[false, false, false, false, false, false, false, false, false, false, false, false, false, false, false, false, false, false, false, false, false, false, false, false, false, false, false, false, false, false, false] hmix rfl rfl ⟨y1, y2, y3⟩ (fun hHeld => ?_)
      refine pure_ (i := 0) (N := (some 58)) (v := ?_) (a' := ?_) #[true, false, false, false, false, false, false, false, false, false, false, false, false, false, false, false, false, false, false, false, false, false, false, false, false, false, false, false, false, false, false] rfl rfl (by kernel_rfl) (fun _ _ _ h => h) (Or.inl ⟨by rfl, ?_⟩) ?_ ?_
      rotate_left
      · intro w'
        go_simp
        try with_reducible rfl
      rotate_left
      · simp only [Act.put, List.setIfInBounds_toArray, List.set_cons_zero, List.set_cons_succ]
        rfl
      refine pure_ (i := 1) (N := (some 59)) (v := (.bool true)) (a' := ?_) #[true, true, false, false, false, false, false, false, false, false, false, false, false, false, false, false, false, false, false, false, false, false, false, false, false, false, false, false, false, false, false] rfl rfl (by kernel_rfl) (fun _ _ _ h => h) (Or.inl ⟨by rfl, ?_⟩) ?_ ?_
      · intro w'
        go_simp
        try with_reducible rfl
      rotate_left
      · simp only [Act.put, List.setIfInBounds_toArray, List.set_cons_zero, List.set_cons_succ]
        rfl
      refine pure_ (i := 2) (N := (some 60)) (v := ?_) (a' := ?_) #[true, true, true, false, false, false, false, false, false, false, false, false, false, false, false, false, false, false, false, false, false, false, false, false, false, false, false, false, false, false, false] rfl rfl (by kernel_rfl) (fun _ _ _ h => h) (Or.inl ⟨by rfl, ?_⟩) ?_ ?_
      rotate_left
      · intro w'
        go_simp
        try with_reducible rfl
      rotate_left
      · simp only [Act.put, List.setIfInBounds_toArray, List.set_cons_zero, List.set_cons_succ]
        rfl
      refine pure_ (i := 3) (N := (some 61)) (v := ?_) (a' := ?_) #[true, true, true, true, false, false, false, false, false, false, false, false, false, false, false, false, false, false, false, false, false, false, false, false, false, false, false, false, false, false, false] rfl rfl (by kernel_rfl) (fun _ _ _ h => h) (Or.inl ⟨by rfl, ?_⟩) ?_ ?_
      rotate_left
      · intro w'
        go_simp
        try with_reducible rfl
      rotate_left
      · simp only [Act.put, List.setIfInBounds_toArray, List.set_cons_zero, List.set_cons_succ]
        rfl
      refine take_ (i := 4) (N := (some 62)) (v := ?_) (a' := ?_) #[true, true, true, true, true, false, false, false, false, false, false, false, false, false, false, false, false, false, false, false, false, false, false, false, false, false, false, false, false, false, false] rfl rfl (by kernel_rfl) (fun _ _ _ h => h) (Or.inl ⟨by rfl, ?_⟩) hHeld ?_ ?_
      rotate_left
      · intro w' hS_
        obtain ⟨zz0, zz1, zz2⟩ := hS_
        go_simp
        try with_reducible rfl
      rotate_left
      · simp only [Act.put, List.setIfInBounds_toArray, List.set_cons_zero, List.set_cons_succ]
        rfl
      refine pure_ (i := 5) (N := (some 63)) (v := ?_) (a' := ?_) #[true, true, true, true, true, true, false, false, false, false, false, false, false, false, false, false, false, false, false, false, false, false, false, false, false, false, false, false, false, false, false] rfl rfl (by kernel_rfl) (fun _ _ _ h => h) (Or.inl ⟨by rfl, ?_⟩) ?_ ?_
      rotate_left
      · intro w'
        go_simp
        try with_reducible rfl
      rotate_left
      · simp only [Act.put, List.setIfInBounds_toArray, List.set_cons_zero, List.set_cons_succ]
        rfl
      refine pure_ (i := 6) (N := (some 64)) (v := ?_) (a' := ?_) #[true, true, true, true, true, true, true, false, false, false, false, false, false, false, false, false, false, false, false, false, false, false, false, false, false, false, false, false, false, false, false] rfl rfl (by kernel_rfl) (fun _ _ _ h => h) (Or.inl ⟨by rfl, ?_⟩) ?_ ?_
      rotate_left
      · intro w'
        go_simp
        try with_reducible rfl
      rotate_left
      · simp only [Act.put, List.setIfInBounds_toArray, List.set_cons_zero, List.set_cons_succ]
        rfl
      refine pure_ (i := 7) (N := (some 65)) (v := ?_) (a' := ?_) #[true, true, true, true, true, true, true, true, false, false, false, false, false, false, false, false, false, false, false, false, false, false, false, false, false, false, false, false, false, false, false] rfl rfl (by kernel_rfl) (fun _ _ _ h => h) (Or.inl ⟨by rfl, ?_⟩) ?_ ?_
      rotate_left
      · intro w'
        go_simp
        try with_reducible rfl
      rotate_left
      · simp only [Act.put, List.setIfInBounds_toArray, List.set_cons_zero, List.set_cons_succ]
        rfl
      refine take_ (i := 8) (N := (some 66)) (v := ?_) (a' := ?_) #[true, true, true, true, true, true, true, true, true, false, false, false, false, false, false, false, false, false, false, false, false, false, false, false, false, false, false, false, false, false, false] rfl rfl (by kernel_rfl) (fun _ _ _ h => h) (Or.inl ⟨by rfl, ?_⟩) hHeld ?_ ?_
      rotate_left
      · intro w' hS_
        obtain ⟨zz0, zz1, zz2⟩ := hS_
        go_simp
        try with_reducible rfl
      rotate_left
      · simp only [Act.put, List.setIfInBounds_toArray, List.set_cons_zero, List.set_cons_succ]
        rfl
      refine pure_ (i := 9) (N := (some 67)) (v := ?_) (a' := ?_) #[true, true, true, true, true, true, true, true, true, true, false, false, false, false, false, false, false, false, false, false, false, false, false, false, false, false, false, false, false, false, false] rfl rfl (by kernel_rfl) (fun _ _ _ h => h) (Or.inl ⟨by rfl, ?_⟩) ?_ ?_
      rotate_left
      · intro w'
        go_simp
        try with_reducible rfl
      rotate_left
      · simp only [Act.put, List.setIfInBounds_toArray, List.set_cons_zero, List.set_cons_succ]
        rfl
      refine pure_ (i := 10) (N := (some 68)) (v := ?_) (a' := ?_) #[true, true, true, true, true, true, true, true, true, true, true, false, false, false, false, false, false, false, false, false, false, false, false, false, false, false, false, false, false, false, false] rfl rfl (by kernel_rfl) (fun _ _ _ h => h) (Or.inl ⟨by rfl, ?_⟩) ?_ ?_
      rotate_left
      · intro w'
        go_simp
        try with_reducible rfl
      rotate_left
      · simp only [Act.put, List.setIfInBounds_toArray, List.set_cons_zero, List.set_cons_succ]
        rfl
      refine pure_ (i := 11) (N := (some 69)) (v := ?_) (a' := ?_) #[true, true, true, true, true, true, true, true, true, true, true, true, false, false, false, false, false, false, false, false, false, false, false, false, false, false, false, false, false, false, false] rfl rfl (by kernel_rfl) (fun _ _ _ h => h) (Or.inl ⟨by rfl, ?_⟩) ?_ ?_
      rotate_left
      · intro w'
        go_simp
        try with_reducible rfl
      rotate_left
      · simp only [Act.put, List.setIfInBounds_toArray, List.set_cons_zero, List.set_cons_succ]
        rfl
      refine pure_ (i := 12) (N := (some 70)) (v := (.bool true)) (a' := ?_) #[true, true, true, true, true, true, true, true, true, true, true, true, true, false, false, false, false, false, false, false, false, false, false, false, false, false, false, false, false, false, false] rfl rfl (by kernel_rfl) (fun _ _ _ h => h) (Or.inl ⟨by rfl, ?_⟩) ?_ ?_
      · intro w'
        go_simp
        try with_reducible rfl
      rotate_left
      · simp only [Act.put, List.setIfInBounds_toArray, List.set_cons_zero, List.set_cons_succ]
        rfl
      refine pure_ (i := 13) (N := (some 71)) (v := ?_) (a' := ?_) #[true, true, true, true, true, true, true, true, true, true, true, true, true, true, false, false, false, false, false, false, false, false, false, false, false, false, false, false, false, false, false] rfl rfl (by kernel_rfl) (fun _ _ _ h => h) (Or.inl ⟨by rfl, ?_⟩) ?_ ?_
      rotate_left
      · intro w'
        go_simp
        try with_reducible rfl
      rotate_left
      · simp only [Act.put, List.setIfInBounds_toArray, List.set_cons_zero, List.set_cons_succ]
        rfl
      refine pure_ (i := 14) (N := (some 72)) (v := ?_) (a' := ?_) #[true, true, true, true, true, true, true, true, true, true, true, true, true, true, true, false, false, false, false, false, false, false, false, false, false, false, false, false, false, false, false] rfl rfl (by kernel_rfl) (fun _ _ _ h => h) (Or.inl ⟨by rfl, ?_⟩) ?_ ?_
      rotate_left
      · intro w'
        go_simp
        try with_reducible rfl
      rotate_left
      · simp only [Act.put, List.setIfInBounds_toArray, List.set_cons_zero, List.set_cons_succ]
        rfl
      refine pure_ (i := 15) (N := (some 73)) (v := ?_) (a' := ?_) #[true, true, true, true, true, true, true, true, true, true, true, true, true, true, true, true, false, false, false, false, false, false, false, false, false, false, false, false, false, false, false] rfl rfl (by kernel_rfl) (fun _ _ _ h => h) (Or.inl ⟨by rfl, ?_⟩) ?_ ?_
      rotate_left
      · intro w'
        go_simp
        try with_reducible rfl
      rotate_left
      · simp only [Act.put, List.setIfInBounds_toArray, List.set_cons_zero, List.set_cons_succ]
        rfl
      refine take_ (i := 16) (N := (some 74)) (v := ?_) (a' := ?_) #[true, true, true, true, true, true, true, true, true, true, true, true, true, true, true, true, true, false, false, false, false, false, false, false, false, false, false, false, false, false, false] rfl rfl (by kernel_rfl) (fun _ _ _ h => h) (Or.inl ⟨by rfl, ?_⟩) hHeld ?_ ?_
      rotate_left
      · intro w' hS_
        obtain ⟨zz0, zz1, zz2⟩ := hS_
        go_simp
        try with_reducible rfl
      rotate_left
      · simp only [Act.put, List.setIfInBounds_toArray, List.set_cons_zero, List.set_cons_succ]
        rfl
      refine pure_ (i := 17) (N := (some 75)) (v := ?_) (a' := ?_) #[true, true, true, true, true, true, true, true, true, true, true, true, true, true, true, true, true, true, false, false, false, false, false, false, false, false, false, false, false, false, false] rfl rfl (by kernel_rfl) (fun _ _ _ h => h) (Or.inl ⟨by rfl, ?_⟩) ?_ ?_
      rotate_left
      · intro w'
        go_simp
        try with_reducible rfl
      rotate_left
      · simp only [Act.put, List.setIfInBounds_toArray, List.set_cons_zero, List.set_cons_succ]
        rfl
      refine pure_ (i := 18) (N := (some 76)) (v := ?_) (a' := ?_) #[true, true, true, true, true, true, true, true, true, true, true, true, true, true, true, true, true, true, true, false, false, false, false, false, false, false, false, false, false, false, false] rfl rfl (by kernel_rfl) (fun _ _ _ h => h) (Or.inl ⟨by rfl, ?_⟩) ?_ ?_
      rotate_left
      · intro w'
        go_simp
        try with_reducible rfl
      rotate_left
      · simp only [Act.put, List.setIfInBounds_toArray, List.set_cons_zero, List.set_cons_succ]
        rfl
      refine pure_ (i := 19) (N := (some 77)) (v := ?_) (a' := ?_) #[true, true, true, true, true, true, true, true, true, true, true, true, true, true, true, true, true, true, true, true, false, false, false, false, false, false, false, false, false, false, false] rfl rfl (by kernel_rfl) (fun _ _ _ h => h) (Or.inl ⟨by rfl, ?_⟩) ?_ ?_
      rotate_left
      · intro w'
        go_simp
        try with_reducible rfl
      rotate_left
      · simp only [Act.put, List.setIfInBounds_toArray, List.set_cons_zero, List.set_cons_succ]
        rfl
      refine pure_ (i := 20) (N := (some 78)) (v := (.int .i64 (min x ask))) (a' := ?_) #[true, true, true, true, true, true, true, true, true, true, true, true, true, true, true, true, true, true, true, true, true, false, false, false, false, false, false, false, false, false, false] rfl rfl (by kernel_rfl) (fun _ _ _ h => h) (Or.inl ⟨by rfl, ?_⟩) ?_ ?_
      · intro w'
        go_simp
        try with_reducible rfl
      rotate_left
      · simp only [Act.put, List.setIfInBounds_toArray, List.set_cons_zero, List.set_cons_succ]
        rfl
      refine pure_ (i := 21) (N := (some 79)) (v := (.bool true)) (a' := ?_) #[true, true, true, true, true, true, true, true, true, true, true, true, true, true, true, true, true, true, true, true, true, true, false, false, false, false, false, false, false, false, false] rfl rfl (by kernel_rfl) (fun _ _ _ h => h) (Or.inl ⟨by rfl, ?_⟩) ?_ ?_
      · intro w'
        go_simp
        try with_reducible rfl
      rotate_left
      · simp only [Act.put, List.setIfInBounds_toArray, List.set_cons_zero, List.set_cons_succ]
        rfl
      refine pure_ (i := 22) (N := (some 80)) (v := ?_) (a' := ?_) #[true, true, true, true, true, true, true, true, true, true, true, true, true, true, true, true, true, true, true, true, true, true, true, false, false, false, false, false, false, false, false] rfl rfl (by kernel_rfl) (fun _ _ _ h => h) (Or.inl ⟨by rfl, ?_⟩) ?_ ?_
      rotate_left
      · intro w'
        go_simp
        try with_reducible rfl
      rotate_left
      · simp only [Act.put, List.setIfInBounds_toArray, List.set_cons_zero, List.set_cons_succ]
        rfl
      refine pure_ (i := 23) (N := (some 81)) (v := ?_) (a' := ?_) #[true, true, true, true, true, true, true, true, true, true, true, true, true, true, true, true, true, true, true, true, true, true, true, true, false, false, false, false, false, false, false] rfl rfl (by kernel_rfl) (fun _ _ _ h => h) (Or.inl ⟨by rfl, ?_⟩) ?_ ?_
      rotate_left
      · intro w'
        go_simp
        try with_reducible rfl
      rotate_left
      · simp only [Act.put, List.setIfInBounds_toArray, List.set_cons_zero, List.set_cons_succ]
        rfl
      refine pure_ (i := 24) (N := (some 82)) (v := ?_) (a' := ?_) #[true, true, true, true, true, true, true, true, true, true, true, true, true, true, true, true, true, true, true, true, true, true, true, true, true, false, false, false, false, false, false] rfl rfl (by kernel_rfl) (fun _ _ _ h => h) (Or.inl ⟨by rfl, ?_⟩) ?_ ?_
      rotate_left
      · intro w'
        go_simp
        try with_reducible rfl
      rotate_left
      · simp only [Act.put, List.setIfInBounds_toArray, List.set_cons_zero, List.set_cons_succ]
        rfl
      refine pure_ (i := 26) (N := (some 84)) (v := ?_) (a' := ?_) #[true, true, true, true, true, true, true, true, true, true, true, true, true, true, true, true, true, true, true, true, true, true, true, true, true, false, true, false, false, false, false] rfl rfl (by kernel_rfl) (fun _ _ _ h => h) (Or.inl ⟨by rfl, ?_⟩) ?_ ?_
      rotate_left
      · intro w'
        go_simp
        try with_reducible rfl
      rotate_left
      · simp only [Act.put, List.setIfInBounds_toArray, List.set_cons_zero, List.set_cons_succ]
        rfl
      refine take_ (i := 27) (N := (some 85)) (v := ?_) (a' := ?_) #[true, true, true, true, true, true, true, true, true, true, true, true, true, true, true, true, true, true, true, true, true, true, true, true, true, false, true, true, false, false, false] rfl rfl (by kernel_rfl) (fun _ _ _ h => h) (Or.inl ⟨by rfl, ?_⟩) hHeld ?_ ?_
      rotate_left
      · intro w' hS_
        obtain ⟨zz0, zz1, zz2⟩ := hS_
        go_simp
        try with_reducible rfl
      rotate_left
      · simp only [Act.put, List.setIfInBounds_toArray, List.set_cons_zero, List.set_cons_succ]
        rfl
      refine one_ (i := 25) (N := (some 83)) #[true, true, true, true, true, true, true, true, true, true, true, true, true, true, true, true, true, true, true, true, true, true, true, true, true, true, true, true, false, false, false] rfl rfl (by kernel_rfl) (by decide) (fun K hK => ?_)
      refine goes_ Tryz.func27 (by kernel_rfl) rfl #[.pointer (some ⟨r, 0, none⟩), .int .i64 1] (by rfl) rfl rfl (by simp only [List.map_toArray, List.map_cons, List.map_nil]; rfl) ?_
      refine HBO.out.mono ?_
      rintro x11 w11 ⟨rfl, hb11⟩
      refine ⟨_, rfl, hK.out _ _ ⟨pw_cell_below hb11 y1, pw_cell_below hb11 y2, pw_cell_below hb11 y3⟩ (fun hHeld => ?_)⟩
      clear hK K
      refine norm_ (a' := ?_) ?_ ?_
      rotate_left
      · show Act.put _ (some 83) _ = _
        simp only [Act.put, List.setIfInBounds_toArray, List.set_cons_zero, List.set_cons_succ]
        rfl
      refine pure_ (i := 28) (N := (some 86)) (v := (.bool true)) (a' := ?_) #[true, true, true, true, true, true, true, true, true, true, true, true, true, true, true, true, true, true, true, true, true, true, true, true, true, true, true, true, true, false, false] rfl rfl (by kernel_rfl) (fun _ _ _ h => h) (Or.inl ⟨by rfl, ?_⟩) ?_ ?_
      · intro w'
        go_simp
        try with_reducible rfl
      rotate_left
      · simp only [Act.put, List.setIfInBounds_toArray, List.set_cons_zero, List.set_cons_succ]
        rfl
      refine pure_ (i := 29) (N := (some 87)) (v := ?_) (a' := ?_) #[true, true, true, true, true, true, true, true, true, true, true, true, true, true, true, true, true, true, true, true, true, true, true, true, true, true, true, true, true, true, false] rfl rfl (by kernel_rfl) (fun _ _ _ h => h) (Or.inl ⟨by rfl, ?_⟩) ?_ ?_
      rotate_left
      · intro w'
        go_simp
        try with_reducible rfl
      rotate_left
      · simp only [Act.put, List.setIfInBounds_toArray, List.set_cons_zero, List.set_cons_succ]
        rfl
      refine pure_ (i := 30) (N := (some 6)) (v := ?_) (a' := ?_) #[true, true, true, true, true, true, true, true, true, true, true, true, true, true, true, true, true, true, true, true, true, true, true, true, true, true, true, true, true, true, true] rfl rfl (by kernel_rfl) (fun _ _ _ h => h) (Or.inl ⟨by rfl, ?_⟩) ?_ ?_
      rotate_left
      · intro w'
        go_simp
        try with_reducible rfl
      rotate_left
      · simp only [Act.put, List.setIfInBounds_toArray, List.set_cons_zero, List.set_cons_succ]
        rfl
      refine done_ (by kernel_rfl) ?_
      go_wp2
      go_ret
      refine ⟨by first | rfl | simp, ?_⟩
      have ht9 : Tch (fun k => ¬ k < W.heap.size) w2 w9 := ((HT.out.trans HT8.out (fun _ _ e => e))).trans HG.out.tch (fun _ _ e => e)
      have hb11 : Below w9.heap.size w9 w11 := (HB10.out.drew).trans (hb11.mono HB10.out.size)
      have ht11 := ht9.trans (Q := fun _ => False) (Tch.of_below hb11) (fun _ _ e => e.elim)
      exact HB2.out.trans (ht11.below HB2.out.size (fun k hk e => e hk))
end Go.Proofs.YtehnkebcbomidaaGreatDoor.Rt
end
namespace Go.Proofs.YtehnkebcbomidaaGreatDoor.Rt
open Go Go.RowKit Go.Proofs Go.Proofs.YtehnkebcbomidaaGreatDoorW.PrintWords Go.Proofs.YtehnkebcbomidaaGreatDoorW.PrintLast
set_option maxHeartbeats 4000000 in
set_option maxRecDepth 100000 in
theorem flush_row (A : Option Addr) (len cap : Nat) (z : List Int) (ask a : Int) (W : World)
    (w0 : (A = none ∧ len = 0 ∧ cap = 0 ∧ z = []) ∨ ∃ x, A = some x ∧ len ≤ cap ∧ cap ≤ maxLen ∧ z.length = cap ∧ (∀ i, i < z.length → W.cell? (x.add i) = some (.int .u8 (z.getD i 0))) ∧ ∀ n ∈ z, (Lit.int .u8 n).wf = true)
    (w1 : (Lit.int .u8 ask).wf = true) (w2 : (Lit.int .u8 a).wf = true) (hE : Env W) :
    Calls Tryz.prog 3 #[.slice A len cap, .int .u8 ask, .int .u8 a] W fun e w' => e = .returned (.bool true) ∧ Below W.heap.size W w' := by
  obtain ⟨k0, k1⟩ := u8_wf w1
  obtain ⟨a0, a1⟩ := u8_wf w2
  by_cases hl : len ≤ 40
  · refine flush_walk W A len cap z ask a (fun i hi => ?_) hl k0 k1 a0 a1 hE
    rcases w0 with ⟨_, h0, _⟩ | ⟨x, h1, h2, h3, h4, h5, h6⟩
    · omega
    · have hi2 : i < z.length := by omega
      have hw := h6 (z.getD i 0) (by rw [List.getD_eq_getElem?_getD, List.getElem?_eq_getElem hi2]; exact List.getElem_mem hi2)
      exact ⟨x, h1, h5 i hi2, u8_wf hw⟩
  · have hl2 : (40 : Int) < (len : Int) := by omega
    have hu22 := Tryz.underlying22
    go_enter Tryz.func3, Tryz.ntmps3
    go_wp2
    go_ret
    exact ⟨rfl, Below.refl _ _⟩
end Go.Proofs.YtehnkebcbomidaaGreatDoor.Rt
