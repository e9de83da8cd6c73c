/- LinesFields: the walk. -/
import Derived.Test.YtkjghjffdjjedaaDoorWrap
set_option linter.unusedVariables false
set_option linter.unusedSimpArgs false
namespace Go.Proofs.YtkjghjffdjjedaaDoor.Enc
open Go Go.RowKit Go.Lib Go.Proofs Go.Proofs.YtkjghjffdjjedaaDoorW.PrintWords Go.Proofs.YtkjghjffdjjedaaDoorW.PrintLast
theorem reads_one (f : ByteArray) (W : World) (B : Nat) (h0 : W.cell? ⟨B, 0, none⟩ = some (.string f)) (h1 : W.cell? ⟨B + 1, 0, none⟩ = some (.slice (some ⟨B, 0, none⟩) 1 1)) : Reads W (.slice (some ⟨B + 1, 0, none⟩) 1 1) [[f]] := by
  have hin : Kd.string.C W (some ⟨B, 0, none⟩) 1 [f] := ⟨rfl, by decide, fun _ => ⟨_, rfl, fun j p hj => by
    cases j with
    | zero =>
      cases hj
      refine ⟨[.string f], rfl, rfl, fun i u hu => ?_⟩
      cases i with
      | zero => cases hu; exact h0
      | succ i => simp at hu
    | succ j => simp at hj⟩⟩
  refine ⟨_, 1, rfl, Nat.le_refl _, rfl, by simp, fun _ => ⟨_, rfl, fun j p hj => ?_⟩⟩
  cases j with
  | zero =>
    cases hj
    refine ⟨[.slice (some ⟨B, 0, none⟩) 1 1], rfl, ⟨_, 1, rfl, Nat.le_refl _, hin⟩, fun i u hu => ?_⟩
    cases i with
    | zero => cases hu; exact h1
    | succ i => simp at hu
  | succ j => simp at hj
theorem escB_nox (c : UInt8) : ∀ x ∈ escB c, x ≠ 44 ∧ x ≠ 10 := by
  intro x hx
  unfold escB at hx
  split at hx
  · simp at hx; rcases hx with rfl | rfl | rfl <;> decide
  · split at hx
    · simp at hx; rcases hx with rfl | rfl | rfl <;> decide
    · split at hx
      · simp at hx; rcases hx with rfl | rfl | rfl <;> decide
      · rename_i h1 h2 h3
        simp at hx; subst hx; exact ⟨h2, h3⟩
theorem escS_no (f : List UInt8) : ∀ x ∈ escS f, x ≠ 44 ∧ x ≠ 10 := by
  intro x hx
  obtain ⟨c, _, h⟩ := List.mem_flatMap.1 hx
  exact escB_nox c x h
theorem escS_len (f : List UInt8) : f.length ≤ (escS f).length ∧ (escS f).length ≤ 3 * f.length := by
  induction f with
  | nil => exact ⟨Nat.le_refl _, Nat.le_refl _⟩
  | cons c f ih =>
    have hb : 1 ≤ (escB c).length ∧ (escB c).length ≤ 3 := by
      unfold escB
      split
      · exact ⟨by decide, by decide⟩
      · split
        · exact ⟨by decide, by decide⟩
        · split
          · exact ⟨by decide, by decide⟩
          · exact ⟨by simp, by simp⟩
    have e : (escS (c :: f)).length = (escB c).length + (escS f).length := by simp [escS]
    rw [e]; simp only [List.length_cons]; omega
theorem bt_bl (l : List UInt8) (i : Nat) (h : i < l.length) : bt (bl l) (i : Int) = ((l[i]).toNat : Int) := by
  have hd : (bl l).data.toList.drop i = l[i] :: l.drop (i + 1) := by rw [bl_data]; exact List.drop_eq_getElem_cons h
  exact bt_nat (bl l) i l[i] _ hd
/-- one field alone, as it is written -/
theorem one_field (f : ByteArray) : ∃ t : ByteArray, encF [[f]] = (t, 0) ∧ f.size + 1 ≤ t.size ∧ t.size ≤ 3 * f.size + 1 ∧ bt t ((t.size - 1 : Nat) : Int) = 10 ∧ ∀ i : Nat, i + 1 < t.size → bt t (i : Int) ≠ 44 ∧ bt t (i : Int) ≠ 10 := by
  have hne : ∀ r ∈ ([[f]] : List (List ByteArray)), r ≠ [] := by simp
  have e : encT (toL [[f]]) = escS f.data.toList ++ [10] := by simp [encT, toL, encR, tailE]
  refine ⟨bl (escS f.data.toList ++ [10]), by rw [encF_ok hne, e], ?_⟩
  have hl := escS_len f.data.toList
  have hf : f.data.toList.length = f.size := by simp
  rw [hf] at hl
  have hs : (bl (escS f.data.toList ++ [10])).size = (escS f.data.toList).length + 1 := by rw [bl_size]; simp
  rw [hs]
  refine ⟨by omega, by omega, ?_, ?_⟩
  · rw [Nat.add_sub_cancel, bt_bl _ _ (by simp)]
    simp
  · intro i hi
    have hi' : i < (escS f.data.toList).length := by omega
    rw [bt_bl _ _ (by simp; omega), List.getElem_append_left hi']
    have := escS_no _ _ (List.getElem_mem hi')
    exact ⟨fun h => this.1 ((u44 _).1 h), fun h => this.2 ((u10 _).1 h)⟩
set_option maxHeartbeats 4000000 in
set_option maxRecDepth 100000 in
theorem fields_walk (f : ByteArray) (w : World) (hs : f.size ≤ 140737488351232) (hE : EnvD w) : Calls Tryd.prog 7 #[.string f] w fun e w' => e = .returned (.bool true) ∧ Below w.heap.size w w' := by
  have hu22 := Tryd.underlying22
  have hu9 := Tryd.underlying9
  have hu27 := Tryd.underlying27
  have hu35 := Tryd.underlying35
  by_cases hbig : f.size ≤ 1024
  · obtain ⟨t, he, hz1, hz2, hb10, hbi⟩ := one_field f
    have hdec : decF t = ([[f]], 0, 0) := by have := dec_enc (rows := [[f]]) (by rw [he]); rw [he] at this; exact this
    have hal : (allE [[f]] ([[f]] : List (List ByteArray)).length).length ≤ 140737488355328 := by rw [(enc_size he).1]; omega
    have hbt : ∀ (n : Nat) (h : n < t.size), ((t[n]'h).toNat : Int) = bt t (n : Int) := fun n h => bt_at t n h
    have HEN := Lib.hid he
    have HD := Lib.hid hdec
    have HAL := Lib.hid hal
    have HE := Lib.hid hE
    have HBI := Lib.hid hbi
    clear he hdec hal hE hbi
    go_enter Tryd.func7, Tryd.ntmps7
    go_wp2_with fail
    obtain ⟨W2, hW2⟩ : ∃ W2, W2 = (w.alloc (Obj.cells #[Value.string f] 9)).alloc (Obj.cells #[Value.slice (some ⟨w.heap.size, 0, none⟩) 1 1] 35) := ⟨_, rfl⟩
    rw [← hW2]
    have hb2 : Below w.heap.size w W2 := by rw [hW2]; exact ((Below.refl _ w).alloc (Nat.le_refl _) _).alloc (by simp) _
    have hc0 : W2.cell? ⟨w.heap.size, 0, none⟩ = some (.string f) := by rw [hW2]; exact ((Boxed.new w 9 (.string f)).alloc _).cell
    have hc1 : W2.cell? ⟨w.heap.size + 1, 0, none⟩ = some (.slice (some ⟨w.heap.size, 0, none⟩) 1 1) := by
      have h := Boxed.new (w.alloc (Obj.cells #[Value.string f] 9)) 35 (.slice (some ⟨w.heap.size, 0, none⟩) 1 1)
      rw [World.size_alloc] at h
      rw [hW2]; exact h.cell
    have hrd := reads_one f W2 w.heap.size hc0 hc1
    have hE2 := HE.out.below hb2
    have hen := enc_call [[f]] _ W2 hrd HAL.out (by simp)
    rw [HEN.out] at hen
    have HB2 := Lib.hid hb2
    have HRD := Lib.hid hrd
    have HE2 := Lib.hid hE2
    have HEN2 := Lib.hid hen
    have HC0 := Lib.hid hc0
    have HC1 := Lib.hid hc1
    have HW2 := Lib.hid hW2
    clear hb2 hrd hE2 hen hc0 hc1 hW2
    go_wp2_with (go_at_call 14; refine HEN2.out.mono ?_)
    rintro e w3 rfl hb3
    have hb3' := HB2.out.trans (hb3.mono HB2.out.size)
    have hrd3 := HRD.out.below hb3
    have hE3 := HE2.out.below hb3
    have hdc := dec_call t w3 (by omega) hE3
    rw [HD.out] at hdc
    simp only at hdc
    have HB3 := Lib.hid hb3
    have HB3W := Lib.hid hb3'
    have HRD3 := Lib.hid hrd3
    have HE3 := Lib.hid hE3
    have HDC := Lib.hid hdc
    clear hb3 hb3' hrd3 hE3 hdc
    have e1 : ¬ ((t.size : Int) < (f.size : Int) + 1) := by omega
    have e2 : ¬ (3 * (f.size : Int) + 1 < (t.size : Int)) := by omega
    have e3 : 0 < t.size := by omega
    go_wp2
    go_loopw [6] (fun i wr => ∃ j : Nat, j + 1 ≤ t.size ∧ i = .int .i64 j ∧ wr = w3) (fun i _ => t.size - (RowKit.intOf i).toNat)
    case atStart => exact ⟨0, e3, rfl, rfl⟩
    case round =>
      obtain ⟨j, hj, rfl, rfl⟩ := hrel
      by_cases hjl : j + 1 < t.size
      · obtain ⟨n1, n2⟩ := HBI.out j hjl
        have hji : (j : Int) + 1 < (t.size : Int) := by omega
        have hjt : j < t.size := by omega
        go_wp2
        · rename_i h; exfalso; simp [n1, n2] at h
        · exact ⟨⟨j + 1, by omega, by simp, trivial⟩, by simp [RowKit.intOf]; omega⟩
      · have hji : ¬ (j : Int) + 1 < (t.size : Int) := by omega
        go_wp2_with (go_at_call 16; refine HDC.out.mono ?_)
        rintro e w4 v rfl hv hb4
        have hb4' := HB3W.out.trans (hb4.mono HB3W.out.size)
        have hrd4 := HRD3.out.below hb4
        have hsm := same_call [[f]] v _ w4 hv hrd4 (by simp) (by simp)
        have HV := Lib.hid hv
        have HB4 := Lib.hid hb4
        have HB4W := Lib.hid hb4'
        have HRD4 := Lib.hid hrd4
        have HSM := Lib.hid hsm
        clear hv hb4 hb4' hrd4 hsm
        go_wp2_with (go_at_call 17; refine HSM.out.mono ?_)
        rintro e w5 ⟨rfl, hdr⟩
        have hb5 := HB4W.out.trans (hdr.below.mono HB4W.out.size)
        have HDR := Lib.hid hdr
        have HB5 := Lib.hid hb5
        clear hdr hb5
        go_wp2
        go_ret
        exact ⟨rfl, HB5.out⟩
  · go_enter Tryd.func7, Tryd.ntmps7
    go_wp2_with fail
    go_ret
    exact ⟨rfl, Below.refl _ _⟩
end Go.Proofs.YtkjghjffdjjedaaDoor.Enc
