/- past: the walk of PastFull. -/
import Derived.Test.YtemedggbodkhcaaParts
set_option linter.unusedVariables false
set_option linter.unusedSimpArgs false
namespace Go.Proofs.Ytemedggbodkhcaa.Past
open Go.RowKit Go.Proofs.YtemedggbodkhcaaW.PrintWords Go.Proofs.YtemedggbodkhcaaW.PrintLast
theorem push_n_full (w : World) (B g : Nat) (A : Option Addr) (c : Nat) (fl : Int) (L : List Ent) (h : PastAt w B g A c fl L) (hr : NoO L) (t f s d cl bd ah se st : Int) (h1 : fl ≤ t) (h2 : ∀ l, L.getLast? = some l → kc l.t l.f l.s t f s < 0) (h3 : L.length = 64) :
    Calls Try.prog 9 #[.pointer (some ⟨g, 0, none⟩), .agg #[.int .i64 t, .int .i64 f, .int .i64 s, .int .i64 d, .int .i64 cl, .int .i64 bd, .int .i64 ah, .int .i64 se, .int .i64 st, .slice none 0 0]] w fun x w' => x = .returned (.int .i64 2) ∧ Below w.heap.size w w' :=
  push_full w B g A c fl L h (hr.rds w) ⟨t, f, s, d, cl, bd, ah, se, st, none, 0, 0⟩ [] (.inl ⟨rfl, rfl⟩) h1 h2 h3
/-- an entry of a time alone -/
def entT (t : Int) : Ent := ⟨t, 0, 0, 0, 0, 0, 0, 0, 0, none, 0, 0⟩
/-- entries of the times from b on -/
def run (b : Int) (k : Nat) : List Ent := (List.range k).map (fun i : Nat => entT (b + (i : Int)))
theorem run_succ (b : Int) (k : Nat) : run b (k + 1) = run b k ++ [entT (b + k)] := by simp [run, List.range_succ]
theorem run_len (b : Int) (k : Nat) : (run b k).length = k := by simp [run]
theorem run_get (b : Int) (k i : Nat) (h : i < (run b k).length) : (run b k)[i] = entT (b + i) := by simp [run]
theorem run_noO (b : Int) (k : Nat) : NoO (run b k) := fun e he => by
  simp only [run, List.mem_map] at he
  obtain ⟨i, _, rfl⟩ := he
  rfl
theorem run_last (M : List Ent) (b : Int) (k : Nat) (hM : ∀ e ∈ M, e.t < b) (l : Ent) (hl : (M ++ run b k).getLast? = some l) (u : Int) (hu : b + k ≤ u) : kc l.t l.f l.s u 0 0 < 0 := by
  have hm := List.mem_of_getLast? hl
  rw [kc_lt]
  rcases List.mem_append.1 hm with h | h
  · have := hM l h; omega
  · simp only [run, List.mem_map, List.mem_range] at h
    obtain ⟨i, hi, rfl⟩ := h
    simp only [entT]
    omega
theorem run_mono (b : Int) (k : Nat) : MonoT (run b k) := by
  intro t x y hx hy hxy
  rw [run_get, run_get]
  simp only [entT]
  omega
theorem bool_cases (b : Bool) : b = true ∨ b = false := by cases b <;> simp
set_option maxHeartbeats 4000000 in
set_option maxRecDepth 100000 in
theorem full_walk (W : World) (sb : Bool) (p : Int) (hp : (Lit.int .u8 p).wf = true) :
    Calls Try.prog 5 #[.bool sb, .int .u8 p] W fun e W' => e = .returned (.bool true) ∧ Below W.heap.size W W' := by
  have hu32 := Try.underlying32
  have hu65 := Try.underlying65
  have hu35 := Try.underlying35
  have hu27 := Try.underlying27
  have hu29 := Try.underlying29
  obtain ⟨hp0, hp1⟩ : 0 ≤ p ∧ p ≤ 255 := by
    have := hp
    simp only [Lit.wf, Bool.and_eq_true, decide_eq_true_eq] at this
    exact this
  clear hp
  obtain ⟨k, hk⟩ : ∃ k : Nat, (k : Int) = p % 65 := ⟨(p % 65).toNat, by omega⟩
  have hk64 : k ≤ 64 := by omega
  have HK := Lib.hid hk
  clear hk
  go_enter Try.func5, Try.ntmps5
  go_wp2_with fail
  refine (new_n W W.heap.size (Nat.le_refl _)).mono ?_
  rintro e w1 ⟨gp, rfl, hP1, hb1, hg1⟩
  have HP1 := Lib.hid hP1
  have HB1 := Lib.hid hb1
  clear hP1 hb1
  go_wp2_with fail
  go_loopw [6] (fun i wr => ∃ (A : Option Addr) (c j : Nat), j ≤ 64 ∧ i = .int .i64 j ∧ PastAt wr W.heap.size gp A c 0 (run 0 j) ∧ Below W.heap.size W wr) (fun i _ => 64 - (intOf i).toNat)
  case atStart => exact ⟨none, 0, 0, Nat.zero_le _, rfl, HP1.out, HB1.out⟩
  case round =>
    obtain ⟨A, c, j, hj, rfl, hP, hB⟩ := hrel
    by_cases hjl : j < 64
    · have hlen := run_len 0 j
      have HPU := Lib.hid (push_n wr W.heap.size gp A c 0 (run 0 j) hP (run_noO 0 j) j 0 0 0 0 0 0 0 0 (by omega) (fun l hl => run_last [] 0 j (by simp) l hl j (by omega)) (by omega))
      have HB := Lib.hid hB
      clear hP hB hlen
      have hji : (j : Int) < 64 := by omega
      go_wp2_with fail
      refine HPU.out.mono ?_
      rintro e w3 ⟨A3, c3, rfl, hP3, _, hB3, _⟩
      have HP3 := Lib.hid hP3
      have HB3 := Lib.hid (HB.out.trans hB3)
      clear hP3 hB3
      go_wp2_with fail
      exact ⟨⟨A3, c3, j + 1, hjl, by go_num, by rw [run_succ, Int.zero_add]; exact HP3.out, HB3.out⟩, by simp [intOf]; omega⟩
    · obtain rfl : j = 64 := by omega
      obtain ⟨W1, hW1⟩ : ∃ W1, W1 = wr.alloc (.cells #[.int .i64 1000, .int .i64 0, .int .i64 0, .int .i64 0, .int .i64 0, .int .i64 0, .int .i64 0, .int .i64 0, .int .i64 0, .slice none 0 0] 32) := ⟨_, rfl⟩
      have hB01 : Below wr.heap.size wr W1 := by rw [hW1]; exact (Below.refl _ wr).alloc (Nat.le_refl _) _
      have HPU := Lib.hid (push_n_full W1 W.heap.size gp A c 0 (run 0 64) (hP.below hB01) (run_noO 0 64) 1000 0 0 0 0 0 0 0 0 (by omega) (fun l hl => run_last [] 0 64 (by simp) l hl 1000 (by omega)) (run_len 0 64))
      have HP := Lib.hid (hP.below hB01)
      have HB := Lib.hid (hB.trans (hB01.mono hB.size))
      have HW1 := Lib.hid hW1
      clear hP hB hB01 hW1
      go_wp2_with fail
      rw [← HW1.out]
      refine HPU.out.mono ?_
      rintro e w2 ⟨rfl, hb2⟩
      have HP2 := Lib.hid (HP.out.below hb2)
      have HB2 := Lib.hid (HB.out.trans (hb2.mono HB.out.size))
      clear hb2
      go_wp2_with fail
      refine (len_at _ _ _ _ _ _ _ HP2.out).mono ?_
      rintro e w3 ⟨rfl, rfl⟩
      rw [run_len]
      have hrun : ∀ e ∈ run 0 64, e.t < 1000 := fun e he => by
        simp only [run, List.mem_map, List.mem_range] at he
        obtain ⟨i, hi, rfl⟩ := he
        simp only [entT]
        omega
      have HRUN := Lib.hid hrun
      clear hrun
      rcases bool_cases sb with rfl | rfl
      · go_wp2_with fail
        refine (settle_n _ W.heap.size gp _ _ _ _ HP2.out (p % 65) (run_mono 0 64 _)).mono ?_
        rintro e w4 ⟨k1, A1, c1, A4, c4, rfl, h1, h2, h3, _, hP4, _, hB4, _⟩
        obtain rfl : k1 = k := by
          have hkk := HK.out
          rw [run_len] at h1
          rcases Nat.lt_trichotomy k1 k with h | h | h
          · have := h3 k1 (by rw [run_len]; omega) (Nat.le_refl _)
            rw [run_get] at this
            simp only [entT] at this
            omega
          · exact h
          · have := h2 k (by rw [run_len]; omega) h
            rw [run_get] at this
            simp only [entT] at this
            omega
        have hbe : ((k1 : Int) != p % 65) = false := by rw [bne_eq_false_iff_eq]; exact HK.out
        obtain ⟨M, hM⟩ : ∃ M, M = (run 0 64).drop k1 := ⟨_, rfl⟩
        obtain ⟨fl, hfl⟩ : ∃ fl, fl = max 0 (p % 65) := ⟨_, rfl⟩
        have hMl : M.length = 64 - k1 := by rw [hM, List.length_drop, run_len]
        have hMt : ∀ e ∈ M, e.t < 1000 := fun e he => HRUN.out e (by rw [hM] at he; exact List.mem_of_mem_drop he)
        have hMn : NoO M := by rw [hM]; exact (run_noO 0 64).drop k1
        have hfl1 : fl ≤ 1000 := by omega
        rw [← hM, ← hfl] at hP4
        have HP4 := Lib.hid hP4
        have HB4 := Lib.hid (HB2.out.trans hB4)
        have HMl := Lib.hid hMl
        have HMt := Lib.hid hMt
        have HMn := Lib.hid hMn
        clear hM hMl hMt hMn hP4 hB4 h1 h2 h3 hfl
        go_wp2_with fail
        go_loopw [10] (fun i wr => ∃ (A : Option Addr) (c j : Nat), j ≤ k1 ∧ i = .int .i64 j ∧ PastAt wr W.heap.size gp A c fl (M ++ run 1000 j) ∧ Below W.heap.size W wr) (fun i _ => k1 - (intOf i).toNat)
        case atStart => exact ⟨_, _, 0, Nat.zero_le _, rfl, by simpa [run] using HP4.out, HB4.out⟩
        case round =>
          obtain ⟨A, c, j, hj, rfl, hP, hB⟩ := hrel
          by_cases hjl : j < k1
          · have HPU := Lib.hid (push_n wr W.heap.size gp A c fl _ hP (fun e he => (List.mem_append.1 he).elim (HMn.out e) (run_noO 1000 j e)) (1000 + j) 0 0 0 0 0 0 0 0 (by omega) (fun l hl => run_last M 1000 j HMt.out l hl _ (Int.le_refl _)) (by rw [List.length_append, HMl.out, run_len]; omega))
            have HB := Lib.hid hB
            clear hP hB
            have hji : (j : Int) < p % 65 := by have := HK.out; omega
            go_wp2_with fail
            refine HPU.out.mono ?_
            rintro e w5 ⟨A3, c3, rfl, hP3, _, hB3, _⟩
            have HP3 := Lib.hid hP3
            have HB3 := Lib.hid (HB.out.trans hB3)
            clear hP3 hB3
            go_wp2_with fail
            exact ⟨⟨A3, c3, j + 1, hjl, by go_num, by rw [run_succ, ← List.append_assoc]; exact HP3.out, HB3.out⟩, by simp [intOf]; omega⟩
          · obtain rfl : j = k1 := by omega
            have HPU := Lib.hid (push_n_full wr W.heap.size gp A c fl _ hP (fun e he => (List.mem_append.1 he).elim (HMn.out e) (run_noO 1000 _ e)) 5000 0 0 0 0 0 0 0 0 (by omega) (fun l hl => run_last M 1000 _ HMt.out l hl _ (by omega)) (by rw [List.length_append, HMl.out, run_len]; omega))
            have HB := Lib.hid hB
            have hbs := hB.size
            clear hP hB
            have hji : p % 65 ≤ (j : Int) := by have := HK.out; omega
            go_wp2_with fail
            refine HPU.out.mono ?_
            rintro e w5 ⟨rfl, hb5⟩
            go_wp2_with fail
            go_ret
            exact ⟨rfl, HB.out.trans (hb5.mono hbs)⟩
      · go_wp2_with fail
        refine (back_at _ W.heap.size gp _ _ 0 (run 0 64) HP2.out (64 - p % 65) (-1) 0 ?_).mono ?_
        · intro x y hx hy hxy h
          rw [run_get] at h ⊢
          rw [kc_lt] at h ⊢
          simp only [entT] at h ⊢
          omega
        rintro e w4 ⟨k1, A1, c1, rfl, h1, h2, h3, _, hP4, _, hB4⟩
        obtain rfl : k1 = 64 - k := by
          have hkk := HK.out
          rw [run_len] at h1
          rcases Nat.lt_trichotomy k1 (64 - k) with h | h | h
          · have := h3 k1 (by rw [run_len]; omega) (Nat.le_refl _)
            rw [run_get] at this
            have h4 : kc (entT (0 + (k1 : Int))).t (entT (0 + (k1 : Int))).f (entT (0 + (k1 : Int))).s (64 - p % 65) (-1) 0 < 0 := by
              rw [kc_lt]
              simp only [entT]
              omega
            omega
          · exact h
          · have := h2 (64 - k) (by rw [run_len]; omega) h
            rw [run_get, kc_lt] at this
            simp only [entT] at this
            omega
        have hgo : (run 0 64).length - (64 - k) = k := by rw [run_len]; omega
        rw [hgo]
        have hbe : ((k : Int) != p % 65) = false := by rw [bne_eq_false_iff_eq]; exact HK.out
        obtain ⟨M, hM⟩ : ∃ M, M = (run 0 64).take (64 - k) := ⟨_, rfl⟩
        obtain ⟨fl, hfl⟩ : ∃ fl : Int, fl = 0 := ⟨_, rfl⟩
        have hMl : M.length = 64 - k := by rw [hM, List.length_take, run_len]; omega
        have hMt : ∀ e ∈ M, e.t < 1000 := fun e he => HRUN.out e (by rw [hM] at he; exact List.mem_of_mem_take he)
        have hMn : NoO M := by rw [hM]; exact (run_noO 0 64).take _
        have hfl1 : fl ≤ 1000 := by omega
        have hB4' := hB4 W.heap.size HP2.out.2.2.1 HB2.out.size
        rw [← hM, ← hfl] at hP4
        have HP4 := Lib.hid hP4
        have HB4 := Lib.hid (HB2.out.trans hB4')
        have HMl := Lib.hid hMl
        have HMt := Lib.hid hMt
        have HMn := Lib.hid hMn
        clear hM hMl hMt hMn hP4 hB4 hB4' h1 h2 h3 hfl hgo
        go_wp2_with fail
        go_loopw [10] (fun i wr => ∃ (A : Option Addr) (c j : Nat), j ≤ k ∧ i = .int .i64 j ∧ PastAt wr W.heap.size gp A c fl (M ++ run 1000 j) ∧ Below W.heap.size W wr) (fun i _ => k - (intOf i).toNat)
        case atStart => exact ⟨_, _, 0, Nat.zero_le _, rfl, by simpa [run] using HP4.out, HB4.out⟩
        case round =>
          obtain ⟨A, c, j, hj, rfl, hP, hB⟩ := hrel
          by_cases hjl : j < k
          · have HPU := Lib.hid (push_n wr W.heap.size gp A c fl _ hP (fun e he => (List.mem_append.1 he).elim (HMn.out e) (run_noO 1000 j e)) (1000 + j) 0 0 0 0 0 0 0 0 (by omega) (fun l hl => run_last M 1000 j HMt.out l hl _ (Int.le_refl _)) (by rw [List.length_append, HMl.out, run_len]; omega))
            have HB := Lib.hid hB
            clear hP hB
            have hji : (j : Int) < p % 65 := by have := HK.out; omega
            go_wp2_with fail
            refine HPU.out.mono ?_
            rintro e w5 ⟨A3, c3, rfl, hP3, _, hB3, _⟩
            have HP3 := Lib.hid hP3
            have HB3 := Lib.hid (HB.out.trans hB3)
            clear hP3 hB3
            go_wp2_with fail
            exact ⟨⟨A3, c3, j + 1, hjl, by go_num, by rw [run_succ, ← List.append_assoc]; exact HP3.out, HB3.out⟩, by simp [intOf]; omega⟩
          · obtain rfl : j = k := by omega
            have HPU := Lib.hid (push_n_full wr W.heap.size gp A c fl _ hP (fun e he => (List.mem_append.1 he).elim (HMn.out e) (run_noO 1000 _ e)) 5000 0 0 0 0 0 0 0 0 (by omega) (fun l hl => run_last M 1000 _ HMt.out l hl _ (by omega)) (by rw [List.length_append, HMl.out, run_len]; omega))
            have HB := Lib.hid hB
            have hbs := hB.size
            clear hP hB
            have hji : p % 65 ≤ (j : Int) := by have := HK.out; omega
            go_wp2_with fail
            refine HPU.out.mono ?_
            rintro e w5 ⟨rfl, hb5⟩
            go_wp2_with fail
            go_ret
            exact ⟨rfl, HB.out.trans (hb5.mono hbs)⟩
end Go.Proofs.Ytemedggbodkhcaa.Past
