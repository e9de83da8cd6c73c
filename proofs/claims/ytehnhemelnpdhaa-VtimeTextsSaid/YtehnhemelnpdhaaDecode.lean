/- vtime.Decode of the given program: the key of sixteen bytes, if its time is one. -/
import Derived.Test.YtehnhemelnpdhaaTake
import Derived.Test.YtehnhemelnpdhaaB2
import Derived.Test.YtehnhemelnpdhaaMem
set_option linter.unusedVariables false
set_option linter.unusedSimpArgs false
namespace Go.Proofs.Ytehnhemelnpdhaa.Ext
open Go.RowKit Go.Lib Go.Proofs.YtehnhemelnpdhaaW.PrintWords Go.Proofs.YtehnhemelnpdhaaW.PrintLast Go.Proofs.Ytehnhemelnpdhaa.B Go.Proofs.Ytehnhemelnpdhaa.Mem

/-- a piece's number -/
def piece (s : ByteArray) (a b : Nat) : Int := wrap64 (big ((s.data.toList.drop a).take (b - a)) : Nat)
def vtime_Decode.f (s : ByteArray) : Option (Int × Int × Int × Int) :=
  if s.size = 16 then (if vd (piece s 0 8) = true then some (piece s 0 8, piece s 8 10, piece s 10 16, 0) else some (0, 0, 0, 20)) else some (0, 0, 0, 20)
theorem wrap64_bounds (n : Int) : -9223372036854775808 ≤ wrap64 n ∧ wrap64 n ≤ 9223372036854775807 := by unfold wrap64; omega

set_option maxHeartbeats 2000000 in
set_option maxRecDepth 100000 in
theorem decode_short (s : ByteArray) (w : World) (h : ((s.size : Int) != 16) = true) :
    Calls Try.prog 19 #[.string s] w fun e w' => e = .returned (.tuple #[.agg #[.int .i64 0, .int .i64 0, .int .i64 0], .int .i64 20]) ∧ Below w.heap.size w w' := by
  go_enter Try.func19, Try.ntmps19
  go_wp2
  exact bodyPost_ret (v := .tuple #[.agg #[.int .i64 0, .int .i64 0, .int .i64 0], .int .i64 20]) (by simp [results, Try.results19, go_sem]) rfl ⟨rfl, ((Below.refl _ _).alloc (Nat.le_refl _) _).alloc (by simp) _⟩

set_option maxHeartbeats 4000000 in
set_option maxRecDepth 100000 in
theorem decode_long (s : ByteArray) (w : World) (h : s.size = 16) (r : Value)
    (hr : r = if vd (piece s 0 8) = true then .tuple #[.agg #[.int .i64 (piece s 0 8), .int .i64 (piece s 8 10), .int .i64 (piece s 10 16)], .int .i64 0] else .tuple #[.agg #[.int .i64 0, .int .i64 0, .int .i64 0], .int .i64 20]) :
    Calls Try.prog 19 #[.string s] w fun e w' => e = .returned r ∧ Below w.heap.size w w' := by
  have h16 : ((s.size : Int) != 16) = false := by rw [bne_eq_false_iff_eq]; omega
  have c1 := fun W hc => take_calls w.heap.size s 0 8 _ W rfl hc (by omega) (by omega) (by omega)
  have c2 := fun W hc => take_calls w.heap.size s 8 10 _ W rfl hc (by omega) (by omega) (by omega)
  have c3 := fun W hc => take_calls w.heap.size s 10 16 _ W rfl hc (by omega) (by omega) (by omega)
  change ∀ W, _ → Calls Try.prog 27 _ W fun e w' => e = .returned (.int .i64 (piece s 0 8)) ∧ _ at c1
  change ∀ W, _ → Calls Try.prog 27 _ W fun e w' => e = .returned (.int .i64 (piece s 8 10)) ∧ _ at c2
  change ∀ W, _ → Calls Try.prog 27 _ W fun e w' => e = .returned (.int .i64 (piece s 10 16)) ∧ _ at c3
  have hb : -9223372036854775808 ≤ piece s 0 8 ∧ piece s 0 8 ≤ 9223372036854775807 := wrap64_bounds _
  generalize piece s 0 8 = t at *
  generalize piece s 8 10 = f at *
  generalize piece s 10 16 = q at *
  have C1 := Lib.hid c1; have C2 := Lib.hid c2; have C3 := Lib.hid c3; have HR := Lib.hid hr; have HV := Lib.hid (valid_calls t · (Go.WalkArith.wf_i64 hb)); have HS := Lib.hid h
  clear c1 c2 c3 hr h hb
  generalize vd t = v at *
  have hv : v = true ∨ v = false := by cases v <;> simp
  rcases hv with rfl | rfl
  all_goals
    have hr := HR.out
    simp only [if_true, if_false, Bool.false_eq_true] at hr
    subst hr
    clear HR
    go_enter Try.func19, Try.ntmps19
    go_wp2_with (go_at_call 27; fail)
    refine (C1.out _ (by simp)).mono ?_
    rintro e w1 ⟨rfl, hb1⟩
    have s1 : w.heap.size + 1 + 1 ≤ w1.heap.size := by have := hb1.size; simpa using this
    have q0 : w1.heap[w.heap.size]? = some (.cells #[.string s] 9 (0, 0)) := mb_below hb1 (by simp; omega) (mb_old _ (mb_new _ _))
    have q1 : w1.heap[w.heap.size + 1]? = some (.cells #[.int .i64 0, .int .i64 0, .int .i64 0] 30 (0, 0)) := mb_below hb1 (by simp) (by have := mb_new (w.alloc (.cells #[.string s] 9)) (.cells #[.int .i64 0, .int .i64 0, .int .i64 0] 30); rwa [World.size_alloc] at this)
    have B1 : Below w.heap.size w w1 := (((Below.refl _ _).alloc (Nat.le_refl _) _).alloc (by simp) _).trans (hb1.mono (by simp; omega))
    have HB1 := Lib.hid B1
    have Q0 := Lib.hid q0
    have Q1 := Lib.hid q1
    clear B1 hb1 q0 q1
    go_wp2_with (go_at_call 27; fail)
    refine (C2.out _ (mcell Q0.out 0)).mono ?_
    rintro e w2 ⟨rfl, hb2⟩
    have s2 : w.heap.size + 1 + 1 ≤ w2.heap.size := Nat.le_trans s1 hb2.size
    have q0 := mb_below hb2 (by omega) Q0.out
    have q1 := mb_below hb2 (by omega) Q1.out
    have B2 : Below w.heap.size w w2 := HB1.out.trans (hb2.mono (by omega))
    clear HB1 s1
    have HB2 := Lib.hid B2
    clear B2 hb2 Q0 Q1
    have Q0 := Lib.hid q0
    have Q1 := Lib.hid q1
    clear q0 q1
    go_wp2_with (go_at_call 27; fail)
    refine (C3.out _ (mcell Q0.out 0)).mono ?_
    rintro e w3 ⟨rfl, hb3⟩
    have s3 : w.heap.size + 1 < w3.heap.size := Nat.le_trans s2 hb3.size
    have q1 := mb_below hb3 (by omega) Q1.out
    have B3 : Below w.heap.size w w3 := HB2.out.trans (hb3.mono (by omega))
    clear HB2 s2
    have HB3 := Lib.hid B3
    have m0 : w3.cell? ⟨w.heap.size + 1, 0, none⟩ = some (.int .i64 0) := mcell q1 0
    have m1 : w3.cell? ⟨w.heap.size + 1, 1, none⟩ = some (.int .i64 0) := mcell q1 1
    have m2 : w3.cell? ⟨w.heap.size + 1, 2, none⟩ = some (.int .i64 0) := mcell q1 2
    have z0 := mfrozen q1 0
    have z1 := mfrozen q1 1
    have z2 := mfrozen q1 2
    clear B3 hb3 q1 Q0 Q1
    go_wp2_with (go_at_call 13; refine (HV.out _).mono ?_; rintro e w' ⟨rfl, ⟨nd, rfl⟩⟩)
  · have g0 : (((((w3.alloc (Obj.cells #[Value.int IntKind.i64 t, Value.int IntKind.i64 f, Value.int IntKind.i64 q] 30)).drewN nd).setCell ⟨w.heap.size + 1, 0, none⟩ (.int .i64 t)).setCell ⟨w.heap.size + 1, 1, none⟩ (.int .i64 f)).setCell ⟨w.heap.size + 1, 2, none⟩ (.int .i64 q)).cell? ⟨w.heap.size + 1, 0, none⟩ = some (.int .i64 t) := by go_simp
    have g1 : (((((w3.alloc (Obj.cells #[Value.int IntKind.i64 t, Value.int IntKind.i64 f, Value.int IntKind.i64 q] 30)).drewN nd).setCell ⟨w.heap.size + 1, 0, none⟩ (.int .i64 t)).setCell ⟨w.heap.size + 1, 1, none⟩ (.int .i64 f)).setCell ⟨w.heap.size + 1, 2, none⟩ (.int .i64 q)).cell? ⟨w.heap.size + 1, 1, none⟩ = some (.int .i64 f) := by go_simp
    have g2 : (((((w3.alloc (Obj.cells #[Value.int IntKind.i64 t, Value.int IntKind.i64 f, Value.int IntKind.i64 q] 30)).drewN nd).setCell ⟨w.heap.size + 1, 0, none⟩ (.int .i64 t)).setCell ⟨w.heap.size + 1, 1, none⟩ (.int .i64 f)).setCell ⟨w.heap.size + 1, 2, none⟩ (.int .i64 q)).cell? ⟨w.heap.size + 1, 2, none⟩ = some (.int .i64 q) := by go_simp
    have BB : Below w.heap.size w (((((w3.alloc (Obj.cells #[Value.int IntKind.i64 t, Value.int IntKind.i64 f, Value.int IntKind.i64 q] 30)).drewN nd).setCell ⟨w.heap.size + 1, 0, none⟩ (.int .i64 t)).setCell ⟨w.heap.size + 1, 1, none⟩ (.int .i64 f)).setCell ⟨w.heap.size + 1, 2, none⟩ (.int .i64 q)) := (((pw_below_drewN (HB3.out.alloc (by omega) _) nd).setCell (by simp) _).setCell (by simp) _).setCell (by simp) _
    exact bodyPost_ret (v := .tuple #[.agg #[.int .i64 t, .int .i64 f, .int .i64 q], .int .i64 0]) (by simp [results, Try.results19, go_sem, g0, g1, g2]) rfl ⟨rfl, BB⟩
  · have g0 : (((((w3.alloc (Obj.cells #[Value.int IntKind.i64 t, Value.int IntKind.i64 f, Value.int IntKind.i64 q] 30)).drewN nd).setCell ⟨w.heap.size + 1, 0, none⟩ (.int .i64 0)).setCell ⟨w.heap.size + 1, 1, none⟩ (.int .i64 0)).setCell ⟨w.heap.size + 1, 2, none⟩ (.int .i64 0)).cell? ⟨w.heap.size + 1, 0, none⟩ = some (.int .i64 0) := by go_simp
    have g1 : (((((w3.alloc (Obj.cells #[Value.int IntKind.i64 t, Value.int IntKind.i64 f, Value.int IntKind.i64 q] 30)).drewN nd).setCell ⟨w.heap.size + 1, 0, none⟩ (.int .i64 0)).setCell ⟨w.heap.size + 1, 1, none⟩ (.int .i64 0)).setCell ⟨w.heap.size + 1, 2, none⟩ (.int .i64 0)).cell? ⟨w.heap.size + 1, 1, none⟩ = some (.int .i64 0) := by go_simp
    have g2 : (((((w3.alloc (Obj.cells #[Value.int IntKind.i64 t, Value.int IntKind.i64 f, Value.int IntKind.i64 q] 30)).drewN nd).setCell ⟨w.heap.size + 1, 0, none⟩ (.int .i64 0)).setCell ⟨w.heap.size + 1, 1, none⟩ (.int .i64 0)).setCell ⟨w.heap.size + 1, 2, none⟩ (.int .i64 0)).cell? ⟨w.heap.size + 1, 2, none⟩ = some (.int .i64 0) := by go_simp
    have BB : Below w.heap.size w (((((w3.alloc (Obj.cells #[Value.int IntKind.i64 t, Value.int IntKind.i64 f, Value.int IntKind.i64 q] 30)).drewN nd).setCell ⟨w.heap.size + 1, 0, none⟩ (.int .i64 0)).setCell ⟨w.heap.size + 1, 1, none⟩ (.int .i64 0)).setCell ⟨w.heap.size + 1, 2, none⟩ (.int .i64 0)) := (((pw_below_drewN (HB3.out.alloc (by omega) _) nd).setCell (by simp) _).setCell (by simp) _).setCell (by simp) _
    exact bodyPost_ret (v := .tuple #[.agg #[.int .i64 0, .int .i64 0, .int .i64 0], .int .i64 20]) (by simp [results, Try.results19, go_sem, g0, g1, g2]) rfl ⟨rfl, BB⟩
theorem vtime_Decode.calls (a0 : ByteArray) (r1 : Int) (r2 : Int) (r3 : Int) (r4 : Int) (w : World) (h : vtime_Decode.f a0 = some (r1, r2, r3, r4)) :
    Calls Try.prog 19 #[.string a0] w fun e w' => e = .returned (.tuple #[.agg #[.int .i64 r1, .int .i64 r2, .int .i64 r3], .int .i64 r4]) ∧ Below w.heap.size w w' := by
  unfold vtime_Decode.f at h
  by_cases c : a0.size = 16
  · rw [if_pos c] at h
    by_cases v : vd (piece a0 0 8) = true
    · rw [if_pos v] at h
      simp only [Option.some.injEq, Prod.mk.injEq] at h
      obtain ⟨rfl, rfl, rfl, rfl⟩ := h
      exact decode_long a0 w c _ (by rw [if_pos v])
    · rw [if_neg v] at h
      simp only [Option.some.injEq, Prod.mk.injEq] at h
      obtain ⟨rfl, rfl, rfl, rfl⟩ := h
      exact decode_long a0 w c _ (by rw [if_neg v])
  · rw [if_neg c] at h
    simp only [Option.some.injEq, Prod.mk.injEq] at h
    obtain ⟨rfl, rfl, rfl, rfl⟩ := h
    exact decode_short a0 w (by rw [bne_iff_ne]; omega)
end Go.Proofs.Ytehnhemelnpdhaa.Ext
