/- Part of a proof over the given program: Lx, Lq, En, Ep. -/
import Derived.Test.YtehnkebcbomidaaGreatDoorCp31
import Derived.Test.YtehnkebcbomidaaGreatDoorCp32
import Derived.Test.YtehnkebcbomidaaGreatDoorCp30
import Derived.Test.YtehnkebcbomidaaGreatDoorCp11
import Derived.Test.YtehnkebcbomidaaGreatDoorRows
import Derived.LaidHandle
import Derived.LaidLaws
import Derived.Handed
section
set_option linter.unusedVariables false
set_option linter.unusedSimpArgs false
namespace Go.Proofs.YtehnkebcbomidaaGreatDoor.Rt
open Go Go.RowKit Go.Proofs
theorem look_call (w : World) (H : Sh) (S : St) {N : Int} (hR : RAt H w S) (ok : S.Ok N) (f : Int) :
    Calls Tryz.prog 26 #[.pointer (some ⟨H.r, 0, none⟩), .int .i64 f] w (LPost H w (S.look f).1 (S.look f).2.1 (S.look f).2.2) := by
  by_cases he : S.byE f = 0
  · obtain ⟨n, rfl, hn⟩ := yes_in he
    cases hc : (S.get n).con with
    | false => exact look_F w H S hR ok n hn he hc
    | true => exact look_T w H S hR ok n hn he hc
  · have e : S.look f = (⟨[], [], false, 0⟩, S.byE f, S) := by
      unfold St.look
      rw [if_pos he]
    rw [e]
    exact look_no w H S hR f he
theorem Rti.look {K : Nat → Prop} {r : Nat} {w : World} {S : St} {N : Int} (h : Rti K r w S) (ok : S.Ok N) (f : Int) : Calls Tryz.prog 26 #[.pointer (some ⟨r, 0, none⟩), .int .i64 f] w (GEnd K r w (S.look f).1 (S.look f).2.1 (S.look f).2.2) :=
  h.look_of (fun H hR hr => by subst hr; exact look_call w H S hR ok f)
end Go.Proofs.YtehnkebcbomidaaGreatDoor.Rt
end
section
set_option linter.unusedVariables false
set_option linter.unusedSimpArgs false
namespace Go.Proofs.YtehnkebcbomidaaGreatDoor.Rt
open Go Go.RowKit Go.Proofs Go.Proofs.YtehnkebcbomidaaGreatDoorW.PrintWords Go.Proofs.YtehnkebcbomidaaGreatDoorW.PrintLast
theorem Below.refl_alloc (w : World) (o : Obj) : Below w.heap.size w (w.alloc o) := (Below.refl _ w).alloc (Nat.le_refl _) _
theorem look_calls (K : Nat → Prop) (r : Nat) {ask : Int} (p : PlainOks ask) (h5 : 5 ≤ ask) (z : List Int) (i : Nat) (hi : i ≤ 64) : ∀ w, Rti K r w (tri p2 ma (mb ask (pms z i))) → Calls Tryz.prog 26 #[.pointer (some ⟨r, 0, none⟩), .int .i64 1] w (GEnd K r w ⟨pms z i, [], false, 0⟩ 0 (tri p2 ma (mb ask []))) := fun w h => by
  have := h.look (plain_oki p z i hi) 1
  rw [tri_look ask (pms z i) h5] at this
  exact this
def sJ (j : Nat) : St := if j = 0 then nw3 else if j = 1 then tri z0 { is := true } {} else tri z0 { is := true } { is := true }
set_option maxHeartbeats 16000000 in
set_option maxRecDepth 100000 in
theorem plain_walk (W : World) (A : Option Addr) (len cap : Nat) (z : List Int) (t : Int) (hz : U16Row W A len z) (hlc : len ≤ 64) (t0 : 0 ≤ t) (t1 : t < 65536) (hE : Env W) :
    Calls Tryz.prog 6 #[.slice A len cap, .int .u16 t] W fun e w' => e = .returned (.bool true) ∧ Below W.heap.size W w' := by
  have p := plain_oks (ask := 10 + t) (by omega) (by omega)
  have hlen : ¬ (64 : Int) < (len : Int) := by omega
  have hlen2 : (len : Int) ≤ 64 := by omega
  have hwr : IntKind.i64.wrap (10 + t) = 10 + t := by rw [IntKind.wrap_i64]; omega
  have HZ := Lib.hid hz
  have HP := Lib.hid p
  have HNW := Lib.hid (new3_call W hE)
  have HE := Lib.hid hE
  have hu52 := Tryz.underlying52
  have hu49 := Tryz.underlying49
  have hu50 := Tryz.underlying50
  have hu31 := Tryz.underlying31
  have hu29 := Tryz.underlying29
  have hu41 := Tryz.underlying41
  have hu39 := Tryz.underlying39
  clear hz p hE
  go_enter Tryz.func6, Tryz.ntmps6
  have hmix : Tryz.prog.follows .mixedOrders = true := by kernel_rfl
  go_wp2_with (first | (go_at_call 33; (with_reducible refine (classes_call W).mono ?_); rintro e w1 ⟨rfl, rfl⟩) | (go_at_call 32; (with_reducible refine HNW.out.mono ?_); rintro e w2 ⟨r, rfl, hr2, hb2⟩; have HR2 := Lib.hid hr2; have HB2 := Lib.hid hb2; clear hr2 hb2))
  have HC := Lib.hid (plain_calls (fun k => k < W.heap.size) r HP.out z)
  go_loopw [7] (fun iv wr => ∃ j : Nat, j ≤ 2 ∧ iv = .int .i64 j ∧ Rti (fun k => k < W.heap.size) r wr (sJ j) ∧ Tch (fun k => ¬ k < W.heap.size) w2 wr) (fun iv _ => 2 - (RowKit.intOf iv).toNat)
  case atStart => exact ⟨0, by omega, rfl, HR2.out, Tch.refl _ _⟩
  case round =>
    obtain ⟨j, hj, rfl, hr, ht⟩ := hrel
    by_cases hj2 : j < 2
    · have hji : (j : Int) < 2 := by omega
      have HR := Lib.hid hr
      have HT := Lib.hid ht
      clear hr ht
      have hjc : Calls Tryz.prog 34 #[.pointer (some ⟨r, 0, none⟩), .int .i64 j] wr (RPost (fun k => k < W.heap.size) r wr (.int .i64 0) (sJ (j + 1))) := by
        have : j = 0 ∨ j = 1 := by omega
        rcases this with rfl | rfl
        · exact HC.out.j0 wr HR.out
        · exact HC.out.j1 wr HR.out
      have HJC := Lib.hid hjc
      clear hjc
      go_wp2_with (go_at_call 34; (with_reducible refine HJC.out.mono ?_); rintro e w3 ⟨rfl, hr3, ht3⟩; have HR3 := Lib.hid hr3; have HT3 := Lib.hid ht3; clear hr3 ht3)
      exact ⟨⟨j + 1, by omega, by go_num, HR3.out, HT.out.trans HT3.out (fun _ _ e => e)⟩, by simp [RowKit.intOf]; omega⟩
    · obtain rfl : j = 2 := by omega
      have hji : ¬ (2 : Int) < 2 := by omega
      have hr : Rti (fun k => k < W.heap.size) r wr (tri z0 { is := true } { is := true }) := hr
      have HR := Lib.hid hr
      have HT := Lib.hid ht
      clear hr ht
      go_wp2_with (first | (go_at_call 35; (with_reducible refine (HC.out.pu wr HR.out).mono ?_); rintro e w3 ⟨rfl, hr3, ht3⟩; have HR3 := Lib.hid hr3; have HT3 := Lib.hid ht3; clear hr3 ht3) | (go_at_call 36; (with_reducible refine (HC.out.su w3 HR3.out).mono ?_); rintro e w4 ⟨rfl, hr4, ht4⟩; have HR4 := Lib.hid hr4; have HT4 := Lib.hid ht4; clear hr4 ht4) | (go_at_call 37; (with_reducible refine (HC.out.re w4 HR4.out).mono ?_); rintro e w5 ⟨rfl, hr5, ht5⟩; have HR5 := Lib.hid hr5; have HT5 := Lib.hid ht5; clear hr5 ht5) | (go_at_call 38; (with_reducible refine (HC.out.co w5 HR5.out).mono ?_); rintro e w6 ⟨rfl, hr6, ht6⟩; have HR6 := Lib.hid hr6; have HT6 := Lib.hid ht6; clear hr6 ht6) | (go_at_call 25; refine (HC.out.ak w6 HR6.out).mono ?_; rintro e w7 ⟨rfl, hr7, ht7⟩; have HR7 := Lib.hid hr7; have HT7 := Lib.hid ht7; clear hr7 ht7))
      have hT7 : Tch (fun k => ¬ k < W.heap.size) w2 w7 := ((((HT.out.trans HT3.out (fun _ _ e => e)).trans HT4.out (fun _ _ e => e)).trans HT5.out (fun _ _ e => e)).trans HT6.out (fun _ _ e => e)).trans HT7.out (fun _ _ e => e)
      have HTT := Lib.hid hT7
      clear hT7
      obtain ⟨wo, hwo⟩ : ∃ wo, wo = wr := ⟨_, rfl⟩
      subst hwo
      go_loopw [8] (fun iv wr => ∃ i : Nat, i ≤ len ∧ iv = .int .i64 i ∧ Rti (fun k => k < W.heap.size) r wr (tri p2 ma (mb (10 + t) (pms z i))) ∧ Tch (fun k => ¬ k < W.heap.size) w2 wr) (fun iv _ => len - (RowKit.intOf iv).toNat)
      case atStart => exact ⟨0, Nat.zero_le _, rfl, HR7.out, HTT.out⟩
      case round =>
        obtain ⟨i, hi, rfl, hr, ht⟩ := hrel
        have HR := Lib.hid hr
        have HT := Lib.hid ht
        clear hr ht
        by_cases hil : i < len
        · have hii : (i : Int) < (len : Int) := by omega
          have hi0 : (0 : Int) ≤ (i : Int) := by omega
          obtain ⟨x, rfl, hx, hx0, hx1⟩ := HZ.out i hil
          have hxl := World.block_lt_of_cell? W _ hx
          have hxc : wr.cell? (x.add i) = some (.int .u16 (z.getD i 0)) := (HT.out.cell (HB2.out.cell hxl ▸ hx) (fun e => e hxl))
          have hse := HC.out.se i (by omega) wr HR.out
          have HSE := Lib.hid hse
          clear hse hx
          generalize z.getD i 0 = b at hxc hx0 hx1 HSE
          have hmod : Int.tmod b 1000 = b % 1000 := Int.tmod_eq_emod_of_nonneg hx0
          go_wp2_with (go_at_call 24; refine HSE.out.mono ?_; rintro e w8 ⟨rfl, hr8, ht8⟩; have HR8 := Lib.hid hr8; have HT8 := Lib.hid ht8; clear hr8 ht8)
          exact ⟨⟨i + 1, by omega, by go_num, HR8.out, HT.out.trans HT8.out (fun _ _ e => e)⟩, by simp [RowKit.intOf]; omega⟩
        · obtain rfl : i = len := by omega
          have hii : ¬ (i : Int) < (i : Int) := by omega
          have hlk := look_calls (fun k => k < W.heap.size) r HP.out (by omega) z i hlc wr HR.out
          have HLK := Lib.hid hlk
          clear hlk
          go_wp2_with (go_at_call 26; (with_reducible refine HLK.out.mono ?_); rintro e w9 ⟨vp, vt, rfl, hg⟩; have hgp : World.ownsRow w9 0 41 6 vp (pms z i).length (flatM (pms z i)) := hg.p; rw [pms_length] at hgp; obtain ⟨PA, pc, rfl⟩ := own_slice hgp; have hgt : World.ownsRow w9 0 41 6 vt 0 [] := hg.t; obtain ⟨TA, tc, rfl⟩ := own_slice hgt; have HGP := Lib.hid hgp; have HG := Lib.hid hg; clear hg hgp hgt)
          obtain ⟨w10, hw10⟩ : ∃ w10, w10 = w9.alloc (.cells #[.slice PA i pc, .slice TA 0 tc, .bool false, .int .i64 0] 31) := ⟨_, rfl⟩
          have hblk := heap_alloc_new w9 (.cells #[.slice PA i pc, .slice TA 0 tc, .bool false, .int .i64 0] 31)
          rw [← hw10] at hblk ⊢
          have hb10 : Below w9.heap.size w9 w10 := by rw [hw10]; exact (Below.refl _ w9).alloc (Nat.le_refl _) _
          obtain ⟨gb, hgb⟩ : ∃ gb, gb = w9.heap.size := ⟨_, rfl⟩
          rw [← hgb] at hblk ⊢
          have HBLK := Lib.hid hblk
          have HB10 := Lib.hid hb10
          obtain ⟨wo, hwo⟩ : ∃ wo, wo = wr := ⟨_, rfl⟩
          subst hwo
          clear hw10 hblk hb10 hgb
          go_loopw [13] (fun iv wr => ∃ k : Nat, k ≤ i ∧ iv = .int .i64 k ∧ Below w10.heap.size w10 wr) (fun iv _ => i - (RowKit.intOf iv).toNat)
          case atStart => exact ⟨0, Nat.zero_le _, rfl, Below.refl _ _⟩
          case round =>
            obtain ⟨k, hk, rfl, hbr⟩ := hrel
            have HBR := Lib.hid hbr
            have hs0 : wr.cell? ⟨gb, 0, none⟩ = some (.slice PA i pc) := pw_cell_below hbr (g_cells HBLK.out).1
            clear hbr
            by_cases hki : k < i
            · have hkk : (k : Int) < (i : Int) := by omega
              have hk0 : (0 : Int) ≤ (k : Int) := by omega
              obtain ⟨x, rfl, hx, hx0, hx1⟩ := HZ.out k hki
              have hxl := World.block_lt_of_cell? W _ hx
              have ht9 : Tch (fun k => ¬ k < W.heap.size) w2 w9 := HT.out.trans HG.out.tch (fun _ _ e => e)
              have hb9r : Below w9.heap.size w9 wr := HB10.out.trans (HBR.out.mono HB10.out.size)
              have hxc : wr.cell? (x.add k) = some (.int .u16 (z.getD k 0)) := pw_cell_below hb9r (ht9.cell (HB2.out.cell hxl ▸ hx) (fun e => e hxl))
              obtain ⟨pg, rfl, e0, e1, e2, e3, e4, e5⟩ := row_m (Q := pms z i) (base := 0) (c := pc) (by rw [pms_length]; exact HGP.out) k (by rw [pms_length]; exact hki)
              rw [pms_get z i k hki] at e1 e3 e5
              have e1 := pw_cell_below hb9r e1
              have e3 := pw_cell_below hb9r e3
              have e5 := pw_cell_below hb9r e5
              have e1 : wr.cell? ⟨pg, k * 6 + 1, none⟩ = some (.int .i64 0) := e1
              have e3 : wr.cell? ⟨pg, k * 6 + 3, none⟩ = some (.int .i64 1) := e3
              have e5 : wr.cell? ⟨pg, k * 6 + 5, none⟩ = some (.int .i64 (z.getD k 0 % 1000)) := e5
              clear e0 e2 e4 hx ht9 hb9r
              generalize z.getD k 0 = b at hxc hx0 hx1 e5
              have hmod : Int.tmod b 1000 = b % 1000 := Int.tmod_eq_emod_of_nonneg hx0
              have hwb : IntKind.i64.wrap b = b := by rw [IntKind.wrap_i64]; omega
              go_wp2_with fail
              refine start_ (n := 32) (S := fun w' => w'.cell? ⟨gb, 0, none⟩ = some (.slice (some ⟨pg, 0, none⟩) i pc) ∧ w'.cell? ⟨pg, k * 6 + 1, none⟩ = some (.int .i64 0) ∧ w'.cell? ⟨pg, k * 6 + 3, none⟩ = some (.int .i64 1) ∧ w'.cell? ⟨pg, k * 6 + 5, none⟩ = some (.int .i64 (b % 1000)) ∧ w'.cell? (x.add k) = some (.int .u16 b)) (ds := []) #[false, false, false, false, false, false, false, false, false, false, false, false, false, false, false, false, false, false, false, false, false, false, false, false, false, false, false, false, false, false, false, false] hmix rfl rfl ⟨hs0, e1, e3, e5, hxc⟩ (fun hHeld => ?_)
              refine pure_ (i := 0) (N := (some 119)) (v := ?_) (a' := ?_) #[true, false, false, false, false, false, false, false, false, false, false, false, false, false, false, false, false, false, false, false, false, false, false, false, false, false, false, false, false, false, false, false] rfl rfl (by kernel_rfl) (fun _ _ _ h => h) (Or.inl ⟨by rfl, ?_⟩) ?_ ?_
              rotate_left
              · intro w'
                go_simp
                try with_reducible rfl
              rotate_left
              · simp only [Act.put, List.setIfInBounds_toArray, List.set_cons_zero, List.set_cons_succ]
                rfl
              refine take_ (i := 1) (N := (some 120)) (v := ?_) (a' := ?_) #[true, true, false, false, false, false, false, false, false, false, false, false, false, false, false, false, false, false, false, false, false, false, false, false, false, false, false, false, false, false, false, false] rfl rfl (by kernel_rfl) (fun _ _ _ h => h) (Or.inl ⟨by rfl, ?_⟩) hHeld ?_ ?_
              rotate_left
              · intro w' hS_
                obtain ⟨zz0, zz1, zz2, zz3, zz4⟩ := hS_
                go_simp
                try with_reducible rfl
              rotate_left
              · simp only [Act.put, List.setIfInBounds_toArray, List.set_cons_zero, List.set_cons_succ]
                rfl
              refine pure_ (i := 2) (N := (some 121)) (v := ?_) (a' := ?_) #[true, true, true, false, false, false, false, false, false, false, false, false, false, false, false, false, false, false, false, false, false, false, false, false, false, false, false, false, false, false, false, false] rfl rfl (by kernel_rfl) (fun _ _ _ h => h) (Or.inl ⟨by rfl, ?_⟩) ?_ ?_
              rotate_left
              · intro w'
                go_simp
                try with_reducible rfl
              rotate_left
              · simp only [Act.put, List.setIfInBounds_toArray, List.set_cons_zero, List.set_cons_succ]
                rfl
              refine pure_ (i := 3) (N := (some 122)) (v := ?_) (a' := ?_) #[true, true, true, true, false, false, false, false, false, false, false, false, false, false, false, false, false, false, false, false, false, false, false, false, false, false, false, false, false, false, false, false] rfl rfl (by kernel_rfl) (fun _ _ _ h => h) (Or.inl ⟨by rfl, ?_⟩) ?_ ?_
              rotate_left
              · intro w'
                go_simp
                try with_reducible rfl
              rotate_left
              · simp only [Act.put, List.setIfInBounds_toArray, List.set_cons_zero, List.set_cons_succ]
                rfl
              refine pure_ (i := 4) (N := (some 123)) (v := ?_) (a' := ?_) #[true, true, true, true, true, false, false, false, false, false, false, false, false, false, false, false, false, false, false, false, false, false, false, false, false, false, false, false, false, false, false, false] rfl rfl (by kernel_rfl) (fun _ _ _ h => h) (Or.inl ⟨by rfl, ?_⟩) ?_ ?_
              rotate_left
              · intro w'
                go_simp
                try with_reducible rfl
              rotate_left
              · simp only [Act.put, List.setIfInBounds_toArray, List.set_cons_zero, List.set_cons_succ]
                rfl
              refine take_ (i := 5) (N := (some 124)) (v := ?_) (a' := ?_) #[true, true, true, true, true, true, false, false, false, false, false, false, false, false, false, false, false, false, false, false, false, false, false, false, false, false, false, false, false, false, false, false] rfl rfl (by kernel_rfl) (fun _ _ _ h => h) (Or.inl ⟨by rfl, ?_⟩) hHeld ?_ ?_
              rotate_left
              · intro w' hS_
                obtain ⟨zz0, zz1, zz2, zz3, zz4⟩ := hS_
                go_simp
                try with_reducible rfl
              rotate_left
              · simp only [Act.put, List.setIfInBounds_toArray, List.set_cons_zero, List.set_cons_succ]
                rfl
              refine pure_ (i := 6) (N := (some 125)) (v := ?_) (a' := ?_) #[true, true, true, true, true, true, true, false, false, false, false, false, false, false, false, false, false, false, false, false, false, false, false, false, false, false, false, false, false, false, false, false] rfl rfl (by kernel_rfl) (fun _ _ _ h => h) (Or.inl ⟨by rfl, ?_⟩) ?_ ?_
              rotate_left
              · intro w'
                go_simp
                try with_reducible rfl
              rotate_left
              · simp only [Act.put, List.setIfInBounds_toArray, List.set_cons_zero, List.set_cons_succ]
                rfl
              refine pure_ (i := 7) (N := (some 126)) (v := ?_) (a' := ?_) #[true, true, true, true, true, true, true, true, false, false, false, false, false, false, false, false, false, false, false, false, false, false, false, false, false, false, false, false, false, false, false, false] rfl rfl (by kernel_rfl) (fun _ _ _ h => h) (Or.inl ⟨by rfl, ?_⟩) ?_ ?_
              rotate_left
              · intro w'
                go_simp
                try with_reducible rfl
              rotate_left
              · simp only [Act.put, List.setIfInBounds_toArray, List.set_cons_zero, List.set_cons_succ]
                rfl
              refine pure_ (i := 8) (N := (some 127)) (v := ?_) (a' := ?_) #[true, true, true, true, true, true, true, true, true, false, false, false, false, false, false, false, false, false, false, false, false, false, false, false, false, false, false, false, false, false, false, false] rfl rfl (by kernel_rfl) (fun _ _ _ h => h) (Or.inl ⟨by rfl, ?_⟩) ?_ ?_
              rotate_left
              · intro w'
                go_simp
                try with_reducible rfl
              rotate_left
              · simp only [Act.put, List.setIfInBounds_toArray, List.set_cons_zero, List.set_cons_succ]
                rfl
              refine take_ (i := 9) (N := (some 128)) (v := ?_) (a' := ?_) #[true, true, true, true, true, true, true, true, true, true, false, false, false, false, false, false, false, false, false, false, false, false, false, false, false, false, false, false, false, false, false, false] rfl rfl (by kernel_rfl) (fun _ _ _ h => h) (Or.inl ⟨by rfl, ?_⟩) hHeld ?_ ?_
              rotate_left
              · intro w' hS_
                obtain ⟨zz0, zz1, zz2, zz3, zz4⟩ := hS_
                go_simp
                try with_reducible rfl
              rotate_left
              · simp only [Act.put, List.setIfInBounds_toArray, List.set_cons_zero, List.set_cons_succ]
                rfl
              refine pure_ (i := 10) (N := (some 129)) (v := (.int .i64 b)) (a' := ?_) #[true, true, true, true, true, true, true, true, true, true, true, false, false, false, false, false, false, false, false, false, false, false, false, false, false, false, false, false, false, false, false, false] rfl rfl (by kernel_rfl) (fun _ _ _ h => h) (Or.inl ⟨by rfl, ?_⟩) ?_ ?_
              · intro w'
                go_simp
                try with_reducible rfl
              rotate_left
              · simp only [Act.put, List.setIfInBounds_toArray, List.set_cons_zero, List.set_cons_succ]
                rfl
              refine pure_ (i := 11) (N := (some 130)) (v := (.int .i64 (b % 1000))) (a' := ?_) #[true, true, true, true, true, true, true, true, true, true, true, true, false, false, false, false, false, false, false, false, false, false, false, false, false, false, false, false, false, false, false, false] rfl rfl (by kernel_rfl) (fun _ _ _ h => h) (Or.inl ⟨by rfl, ?_⟩) ?_ ?_
              · intro w'
                go_simp
                try with_reducible rfl
              rotate_left
              · simp only [Act.put, List.setIfInBounds_toArray, List.set_cons_zero, List.set_cons_succ]
                rfl
              refine pure_ (i := 12) (N := (some 131)) (v := (.bool false)) (a' := ?_) #[true, true, true, true, true, true, true, true, true, true, true, true, true, false, false, false, false, false, false, false, false, false, false, false, false, false, false, false, false, false, false, false] rfl rfl (by kernel_rfl) (fun _ _ _ h => h) (Or.inl ⟨by rfl, ?_⟩) ?_ ?_
              · intro w'
                go_simp
                try with_reducible rfl
              rotate_left
              · simp only [Act.put, List.setIfInBounds_toArray, List.set_cons_zero, List.set_cons_succ]
                rfl
              refine pure_ (i := 13) (N := (some 132)) (v := ?_) (a' := ?_) #[true, true, true, true, true, true, true, true, true, true, true, true, true, true, false, false, false, false, false, false, false, false, false, false, false, false, false, false, false, false, false, false] rfl rfl (by kernel_rfl) (fun _ _ _ h => h) (Or.inl ⟨by rfl, ?_⟩) ?_ ?_
              rotate_left
              · intro w'
                go_simp
                try with_reducible rfl
              rotate_left
              · simp only [Act.put, List.setIfInBounds_toArray, List.set_cons_zero, List.set_cons_succ]
                rfl
              refine pure_ (i := 14) (N := (some 133)) (v := ?_) (a' := ?_) #[true, true, true, true, true, true, true, true, true, true, true, true, true, true, true, false, false, false, false, false, false, false, false, false, false, false, false, false, false, false, false, false] rfl rfl (by kernel_rfl) (fun _ _ _ h => h) (Or.inl ⟨by rfl, ?_⟩) ?_ ?_
              rotate_left
              · intro w'
                go_simp
                try with_reducible rfl
              rotate_left
              · simp only [Act.put, List.setIfInBounds_toArray, List.set_cons_zero, List.set_cons_succ]
                rfl
              refine take_ (i := 15) (N := (some 134)) (v := ?_) (a' := ?_) #[true, true, true, true, true, true, true, true, true, true, true, true, true, true, true, true, false, false, false, false, false, false, false, false, false, false, false, false, false, false, false, false] rfl rfl (by kernel_rfl) (fun _ _ _ h => h) (Or.inl ⟨by rfl, ?_⟩) hHeld ?_ ?_
              rotate_left
              · intro w' hS_
                obtain ⟨zz0, zz1, zz2, zz3, zz4⟩ := hS_
                go_simp
                try with_reducible rfl
              rotate_left
              · simp only [Act.put, List.setIfInBounds_toArray, List.set_cons_zero, List.set_cons_succ]
                rfl
              refine pure_ (i := 16) (N := (some 135)) (v := ?_) (a' := ?_) #[true, true, true, true, true, true, true, true, true, true, true, true, true, true, true, true, true, false, false, false, false, false, false, false, false, false, false, false, false, false, false, false] rfl rfl (by kernel_rfl) (fun _ _ _ h => h) (Or.inl ⟨by rfl, ?_⟩) ?_ ?_
              rotate_left
              · intro w'
                go_simp
                try with_reducible rfl
              rotate_left
              · simp only [Act.put, List.setIfInBounds_toArray, List.set_cons_zero, List.set_cons_succ]
                rfl
              refine pure_ (i := 17) (N := (some 136)) (v := ?_) (a' := ?_) #[true, true, true, true, true, true, true, true, true, true, true, true, true, true, true, true, true, true, false, false, false, false, false, false, false, false, false, false, false, false, false, false] rfl rfl (by kernel_rfl) (fun _ _ _ h => h) (Or.inl ⟨by rfl, ?_⟩) ?_ ?_
              rotate_left
              · intro w'
                go_simp
                try with_reducible rfl
              rotate_left
              · simp only [Act.put, List.setIfInBounds_toArray, List.set_cons_zero, List.set_cons_succ]
                rfl
              refine pure_ (i := 18) (N := (some 137)) (v := ?_) (a' := ?_) #[true, true, true, true, true, true, true, true, true, true, true, true, true, true, true, true, true, true, true, false, false, false, false, false, false, false, false, false, false, false, false, false] rfl rfl (by kernel_rfl) (fun _ _ _ h => h) (Or.inl ⟨by rfl, ?_⟩) ?_ ?_
              rotate_left
              · intro w'
                go_simp
                try with_reducible rfl
              rotate_left
              · simp only [Act.put, List.setIfInBounds_toArray, List.set_cons_zero, List.set_cons_succ]
                rfl
              refine take_ (i := 19) (N := (some 138)) (v := ?_) (a' := ?_) #[true, true, true, true, true, true, true, true, true, true, true, true, true, true, true, true, true, true, true, true, false, false, false, false, false, false, false, false, false, false, false, false] rfl rfl (by kernel_rfl) (fun _ _ _ h => h) (Or.inl ⟨by rfl, ?_⟩) hHeld ?_ ?_
              rotate_left
              · intro w' hS_
                obtain ⟨zz0, zz1, zz2, zz3, zz4⟩ := hS_
                go_simp
                try with_reducible rfl
              rotate_left
              · simp only [Act.put, List.setIfInBounds_toArray, List.set_cons_zero, List.set_cons_succ]
                rfl
              refine pure_ (i := 20) (N := (some 139)) (v := (.bool false)) (a' := ?_) #[true, true, true, true, true, true, true, true, true, true, true, true, true, true, true, true, true, true, true, true, true, false, false, false, false, false, false, false, false, false, false, false] rfl rfl (by kernel_rfl) (fun _ _ _ h => h) (Or.inl ⟨by rfl, ?_⟩) ?_ ?_
              · intro w'
                go_simp
                try with_reducible rfl
              rotate_left
              · simp only [Act.put, List.setIfInBounds_toArray, List.set_cons_zero, List.set_cons_succ]
                rfl
              refine pure_ (i := 21) (N := (some 140)) (v := ?_) (a' := ?_) #[true, true, true, true, true, true, true, true, true, true, true, true, true, true, true, true, true, true, true, true, true, true, false, false, false, false, false, false, false, false, false, false] rfl rfl (by kernel_rfl) (fun _ _ _ h => h) (Or.inl ⟨by rfl, ?_⟩) ?_ ?_
              rotate_left
              · intro w'
                go_simp
                try with_reducible rfl
              rotate_left
              · simp only [Act.put, List.setIfInBounds_toArray, List.set_cons_zero, List.set_cons_succ]
                rfl
              refine pure_ (i := 22) (N := (some 141)) (v := ?_) (a' := ?_) #[true, true, true, true, true, true, true, true, true, true, true, true, true, true, true, true, true, true, true, true, true, true, true, false, false, false, false, false, false, false, false, false] rfl rfl (by kernel_rfl) (fun _ _ _ h => h) (Or.inl ⟨by rfl, ?_⟩) ?_ ?_
              rotate_left
              · intro w'
                go_simp
                try with_reducible rfl
              rotate_left
              · simp only [Act.put, List.setIfInBounds_toArray, List.set_cons_zero, List.set_cons_succ]
                rfl
              refine pure_ (i := 23) (N := (some 142)) (v := ?_) (a' := ?_) #[true, true, true, true, true, true, true, true, true, true, true, true, true, true, true, true, true, true, true, true, true, true, true, true, false, false, false, false, false, false, false, false] rfl rfl (by kernel_rfl) (fun _ _ _ h => h) (Or.inl ⟨by rfl, ?_⟩) ?_ ?_
              rotate_left
              · intro w'
                go_simp
                try with_reducible rfl
              rotate_left
              · simp only [Act.put, List.setIfInBounds_toArray, List.set_cons_zero, List.set_cons_succ]
                rfl
              refine take_ (i := 24) (N := (some 143)) (v := ?_) (a' := ?_) #[true, true, true, true, true, true, true, true, true, true, true, true, true, true, true, true, true, true, true, true, true, true, true, true, true, false, false, false, false, false, false, false] rfl rfl (by kernel_rfl) (fun _ _ _ h => h) (Or.inl ⟨by rfl, ?_⟩) hHeld ?_ ?_
              rotate_left
              · intro w' hS_
                obtain ⟨zz0, zz1, zz2, zz3, zz4⟩ := hS_
                go_simp
                try with_reducible rfl
              rotate_left
              · simp only [Act.put, List.setIfInBounds_toArray, List.set_cons_zero, List.set_cons_succ]
                rfl
              refine pure_ (i := 25) (N := (some 144)) (v := ?_) (a' := ?_) #[true, true, true, true, true, true, true, true, true, true, true, true, true, true, true, true, true, true, true, true, true, true, true, true, true, true, false, false, false, false, false, false] rfl rfl (by kernel_rfl) (fun _ _ _ h => h) (Or.inl ⟨by rfl, ?_⟩) ?_ ?_
              rotate_left
              · intro w'
                go_simp
                try with_reducible rfl
              rotate_left
              · simp only [Act.put, List.setIfInBounds_toArray, List.set_cons_zero, List.set_cons_succ]
                rfl
              refine pure_ (i := 26) (N := (some 145)) (v := ?_) (a' := ?_) #[true, true, true, true, true, true, true, true, true, true, true, true, true, true, true, true, true, true, true, true, true, true, true, true, true, true, true, false, false, false, false, false] rfl rfl (by kernel_rfl) (fun _ _ _ h => h) (Or.inl ⟨by rfl, ?_⟩) ?_ ?_
              rotate_left
              · intro w'
                go_simp
                try with_reducible rfl
              rotate_left
              · simp only [Act.put, List.setIfInBounds_toArray, List.set_cons_zero, List.set_cons_succ]
                rfl
              refine pure_ (i := 27) (N := (some 146)) (v := ?_) (a' := ?_) #[true, true, true, true, true, true, true, true, true, true, true, true, true, true, true, true, true, true, true, true, true, true, true, true, true, true, true, true, false, false, false, false] rfl rfl (by kernel_rfl) (fun _ _ _ h => h) (Or.inl ⟨by rfl, ?_⟩) ?_ ?_
              rotate_left
              · intro w'
                go_simp
                try with_reducible rfl
              rotate_left
              · simp only [Act.put, List.setIfInBounds_toArray, List.set_cons_zero, List.set_cons_succ]
                rfl
              refine pure_ (i := 28) (N := (some 147)) (v := ?_) (a' := ?_) #[true, true, true, true, true, true, true, true, true, true, true, true, true, true, true, true, true, true, true, true, true, true, true, true, true, true, true, true, true, false, false, false] rfl rfl (by kernel_rfl) (fun _ _ _ h => h) (Or.inl ⟨by rfl, ?_⟩) ?_ ?_
              rotate_left
              · intro w'
                go_simp
                try with_reducible rfl
              rotate_left
              · simp only [Act.put, List.setIfInBounds_toArray, List.set_cons_zero, List.set_cons_succ]
                rfl
              refine take_ (i := 29) (N := (some 148)) (v := ?_) (a' := ?_) #[true, true, true, true, true, true, true, true, true, true, true, true, true, true, true, true, true, true, true, true, true, true, true, true, true, true, true, true, true, true, false, false] rfl rfl (by kernel_rfl) (fun _ _ _ h => h) (Or.inl ⟨by rfl, ?_⟩) hHeld ?_ ?_
              rotate_left
              · intro w' hS_
                obtain ⟨zz0, zz1, zz2, zz3, zz4⟩ := hS_
                go_simp
                try with_reducible rfl
              rotate_left
              · simp only [Act.put, List.setIfInBounds_toArray, List.set_cons_zero, List.set_cons_succ]
                rfl
              refine pure_ (i := 30) (N := (some 149)) (v := (.bool false)) (a' := ?_) #[true, true, true, true, true, true, true, true, true, true, true, true, true, true, true, true, true, true, true, true, true, true, true, true, true, true, true, true, true, true, true, false] rfl rfl (by kernel_rfl) (fun _ _ _ h => h) (Or.inl ⟨by rfl, ?_⟩) ?_ ?_
              · intro w'
                go_simp
                try with_reducible rfl
              rotate_left
              · simp only [Act.put, List.setIfInBounds_toArray, List.set_cons_zero, List.set_cons_succ]
                rfl
              refine pure_ (i := 31) (N := (some 150)) (v := ?_) (a' := ?_) #[true, true, true, true, true, true, true, true, true, true, true, true, true, true, true, true, true, true, true, true, true, true, true, true, true, true, true, true, true, true, true, true] rfl rfl (by kernel_rfl) (fun _ _ _ h => h) (Or.inl ⟨by rfl, ?_⟩) ?_ ?_
              rotate_left
              · intro w'
                go_simp
                try with_reducible rfl
              rotate_left
              · simp only [Act.put, List.setIfInBounds_toArray, List.set_cons_zero, List.set_cons_succ]
                rfl
              refine done_ (by kernel_rfl) ?_
              go_wp2
              exact ⟨⟨k + 1, by omega, by go_num, HBR.out.trans ((Below.refl _ wr).drew.mono HBR.out.size)⟩, by simp [RowKit.intOf]; omega⟩
            · obtain rfl : k = i := by omega
              have hkk : ¬ (k : Int) < (k : Int) := by omega
              have hr9 : Rti (fun k => k < W.heap.size) r w9 (tri p2 ma (mb (10 + t) (pms z 0))) := HG.out.at_.fewer (fun k hk => .inl hk)
              have hb9r : Below w9.heap.size w9 wr := HB10.out.trans (HBR.out.mono HB10.out.size)
              have hlk2 := look_calls (fun k => k < W.heap.size) r HP.out (by omega) z 0 (by omega) wr (hr9.below hb9r)
              have HLK2 := Lib.hid hlk2
              have HB9R := Lib.hid hb9r
              clear hlk2 hr9 hb9r
              go_wp2_with (first | (go_at_call 26; (with_reducible refine HLK2.out.mono ?_); rintro e w11 ⟨vp, vt, rfl, hg⟩; have hgp : World.ownsRow w11 0 41 6 vp 0 [] := hg.p; obtain ⟨PA2, pc2, rfl⟩ := own_slice hgp; have hgt : World.ownsRow w11 0 41 6 vt 0 [] := hg.t; obtain ⟨TA2, tc2, rfl⟩ := own_slice hgt; have HG2 := Lib.hid hg; clear hg hgp hgt) | (go_at_call 39; refine ((HG2.out.at_.below (Below.refl_alloc _ _)).time 1).mono ?_; rintro e w12 ⟨rfl, hb12⟩; have HB12 := Lib.hid hb12; clear hb12))
              go_ret
              refine ⟨by first | rfl | simp, ?_⟩
              have ht9 : Tch (fun k => ¬ k < W.heap.size) w2 w9 := HT.out.trans HG.out.tch (fun _ _ e => e)
              have htr : Tch (fun k => ¬ k < W.heap.size) w2 wr := ht9.trans (Q := fun _ => False) (Tch.of_below HB9R.out) (fun _ _ e => e.elim)
              have ht11 : Tch (fun k => ¬ k < W.heap.size) w2 w11 := htr.trans HG2.out.tch (fun _ _ e => e)
              have ht12 := (ht11.trans (Q := fun _ => False) (Tch.of_below (Below.refl_alloc w11 _)) (fun _ _ e => e.elim)).trans (Q := fun _ => False) (Tch.of_below HB12.out) (fun _ _ e => e.elim)
              exact HB2.out.trans (ht12.below HB2.out.size (fun k hk e => e hk))
end Go.Proofs.YtehnkebcbomidaaGreatDoor.Rt
end
section
set_option linter.unusedVariables false
set_option linter.unusedSimpArgs false
namespace Go.Proofs.YtehnkebcbomidaaGreatDoor.Rt
open Go Go.RowKit Go.Proofs Go.Proofs.YtehnkebcbomidaaGreatDoorW.PrintWords Go.Proofs.YtehnkebcbomidaaGreatDoorW.PrintLast
theorem laid_handle {P : Program} {l : List (String × DataW Unit)} {w : World} (h : laidMetH P l w) {x : String × DataW Unit} (hx : x ∈ l) (hs : x.2.handleName?.isSome = true) (hf : x.2.funcsIn? = none) :
    ∃ name u ty, x.2.handleName? = some name ∧ (P.cutTypes.find? (·.1 == "internal/reflectlite.rtype")).map (·.2) = some u ∧ ty < P.types.size ∧ P.rowNamed ty name = true ∧
      w.var? P x.1 = some #[.iface u (.agg #[typeHandle P ty])] := by
  have hx2 : x ∈ l.filter (fun x => x.2.handleName?.isSome) := List.mem_filter.2 ⟨hx, hs⟩
  unfold laidMetH at h
  revert h hx2
  generalize l.filter (fun x => x.2.handleName?.isSome) = fl
  intro h hx2
  cases fl with
  | nil => cases hx2
  | cons a t => have h3 := h.2 x hx2; rw [hf] at h3; exact h3
theorem only104 : (List.range Tryz.prog.types.size).all (fun t => !Tryz.prog.rowNamed t [101, 114, 114, 111, 114] || t == 104) = true := by kernel_rfl
theorem rt291 : (Tryz.prog.cutTypes.find? (·.1 == "internal/reflectlite.rtype")).map (·.2) = some 291 := by kernel_rfl
theorem envZ {l : List (String × DataW Unit)} {W : World} (hx : ("errors.errorType", Rows.laid_errors_errorType) ∈ l) (h : laidMetH Tryz.prog l W) : Env W := by
  obtain ⟨name, u, ty, h1, h2, h3, h4, h5⟩ := laid_handle h hx rfl rfl
  have e1 : name = [101, 114, 114, 111, 114] := (Option.some.inj h1).symm
  subst e1
  have e2 : u = 291 := (Option.some.inj (rt291.symm.trans h2)).symm
  subst e2
  have e3 : ty = 104 := by
    have := List.all_eq_true.1 only104 ty (List.mem_range.2 h3)
    rw [h4] at this
    simpa using this
  subst e3
  have e : typeHandle Tryz.prog 104 = .pointer (some ⟨9, 104, none⟩) := by kernel_rfl
  rw [e] at h5
  have := World.var?_cell (g := 0) (by kernel_rfl) h5 0
  unfold Env
  simpa using this
theorem u16_wf {x : Int} (h : (Lit.int .u16 x).wf = true) : 0 ≤ x ∧ x < 65536 := by
  have e1 : IntKind.u16.min = 0 := by decide
  have e2 : IntKind.u16.max = 65535 := by decide
  unfold Lit.wf at h
  simp only [Bool.and_eq_true, decide_eq_true_eq, e1, e2] at h
  omega
end Go.Proofs.YtehnkebcbomidaaGreatDoor.Rt
end
section
set_option linter.unusedVariables false
set_option linter.unusedSimpArgs false
namespace Go.Proofs.YtehnkebcbomidaaGreatDoor.Rt
open Go Go.RowKit Go.Proofs Go.Proofs.YtehnkebcbomidaaGreatDoorW.PrintWords Go.Proofs.YtehnkebcbomidaaGreatDoorW.PrintLast
set_option maxHeartbeats 4000000 in
set_option maxRecDepth 100000 in
theorem plain_row (A : Option Addr) (len cap : Nat) (z : List Int) (t : Int) (W : World)
    (w0 : (A = none ∧ len = 0 ∧ cap = 0 ∧ z = []) ∨ ∃ x, A = some x ∧ len ≤ cap ∧ cap ≤ maxLen ∧ z.length = cap ∧ (∀ i, i < z.length → W.cell? (x.add i) = some (.int .u16 (z.getD i 0))) ∧ ∀ n ∈ z, (Lit.int .u16 n).wf = true)
    (w1 : (Lit.int .u16 t).wf = true) (hE : Env W) :
    Calls Tryz.prog 6 #[.slice A len cap, .int .u16 t] W fun e w' => e = .returned (.bool true) ∧ Below W.heap.size W w' := by
  obtain ⟨t0, t1⟩ := u16_wf w1
  by_cases hl : len ≤ 64
  · refine plain_walk W A len cap z t (fun i hi => ?_) hl t0 t1 hE
    rcases w0 with ⟨_, h0, _⟩ | ⟨x, h1, h2, h3, h4, h5, h6⟩
    · omega
    · have hi2 : i < z.length := by omega
      have hw := h6 (z.getD i 0) (by rw [List.getD_eq_getElem?_getD, List.getElem?_eq_getElem hi2]; exact List.getElem_mem hi2)
      exact ⟨x, h1, h5 i hi2, u16_wf hw⟩
  · have hl2 : (64 : Int) < (len : Int) := by omega
    have hu49 := Tryz.underlying49
    go_enter Tryz.func6, Tryz.ntmps6
    go_wp2
    go_ret
    exact ⟨rfl, Below.refl _ _⟩
end Go.Proofs.YtehnkebcbomidaaGreatDoor.Rt
end
