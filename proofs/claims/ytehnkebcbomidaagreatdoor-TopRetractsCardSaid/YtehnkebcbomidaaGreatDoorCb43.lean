/- Part of a proof over the given program: Rv, Tr, Eg. -/
import Derived.Test.YtehnkebcbomidaaGreatDoorCb42
import Derived.Test.YtehnkebcbomidaaGreatDoorCb38
import Derived.Deep.Slices
import Derived.ChangeArms
import Derived.OpenShut
set_option linter.unusedVariables false
set_option linter.unusedSimpArgs false
namespace Go.Proofs.YtehnkebcbomidaaGreatDoor.Rt
open Go Go.RowKit Go.Proofs
theorem Rti.retract {K : Nat → Prop} {r : Nat} {w : World} {S : St} {N : Int} (h : Rti K r w S) (ok : S.Ok N) (f x : Int) : Calls Tryz.prog 28 #[.pointer (some ⟨r, 0, none⟩), .int .i64 f, .int .i64 x] w (RPost K r w (.int .i64 (S.retract f x).1) (S.retract f x).2) := h.of (fun H hR hr => by
  subst hr
  by_cases he : S.byE f = 0
  · obtain ⟨n, rfl, hn⟩ := yes_in he
    exact retract_yes w H S hR ok n hn he x
  · refine (retract_no w H S hR f x he).mono (fun e w' h => MPost.no hR ?_ h)
    unfold St.retract
    rw [if_pos he])
end Go.Proofs.YtehnkebcbomidaaGreatDoor.Rt
namespace Go.Proofs.YtehnkebcbomidaaGreatDoor.Rt
open Go Go.RowKit Go.Proofs Go.Proofs.YtehnkebcbomidaaGreatDoorW.PrintWords Go.Proofs.YtehnkebcbomidaaGreatDoorW.PrintLast
def BysRow (W : World) (A : Option Addr) (len : Nat) (z : List Int) : Prop := ∀ i, i < len → ∃ x, A = some x ∧ W.cell? (x.add i) = some (.int .u8 (z.getD i 0)) ∧ 0 ≤ z.getD i 0 ∧ z.getD i 0 < 256
def BosRow (W : World) (A : Option Addr) (len : Nat) (b : Nat → Bool) : Prop := ∀ i, i < len → ∃ x, A = some x ∧ W.cell? (x.add i) = some (.bool (b i))
def bk (len : Nat) (b : Nat → Bool) (i : Nat) : Bool := decide (i < len) && b i
structure RetrCalls (K : Nat → Prop) (r : Nat) (x : Int) (z : List Int) (B : Nat → Bool) (n : Nat) (t : Int) : Prop where
  se : ∀ i, i < n → ∀ w, Rti K r w (rs x z B i) → Calls Tryz.prog 24 #[.pointer (some ⟨r, 0, none⟩), .int .i64 0, .int .i64 0, .int .i64 i, .int .i64 (x + z.getD i 0), .bool true] w (RPost K r w (.tuple #[.int .i64 i, .int .i64 0]) (rsm x z B i))
  r0 : ∀ i, i < n → B i = true → ∀ w, Rti K r w (rsm x z B i) → Calls Tryz.prog 28 #[.pointer (some ⟨r, 0, none⟩), .int .i64 0, .int .i64 i] w (RPost K r w (.int .i64 0) (rs x z B (i + 1)))
  r1 : ∀ i, i < n → B i = true → ∀ w, Rti K r w (rs x z B (i + 1)) → Calls Tryz.prog 28 #[.pointer (some ⟨r, 0, none⟩), .int .i64 0, .int .i64 i] w (RPost K r w (.int .i64 209) (rs x z B (i + 1)))
  r2 : ∀ i, i < n → B i = true → ∀ w, Rti K r w (rs x z B (i + 1)) → Calls Tryz.prog 28 #[.pointer (some ⟨r, 0, none⟩), .int .i64 1, .int .i64 i] w (RPost K r w (.int .i64 209) (rs x z B (i + 1)))
  ak : ∀ w, Rti K r w (rs x z B n) → Calls Tryz.prog 25 #[.pointer (some ⟨r, 0, none⟩), .int .i64 0, .int .i64 1, .int .i64 500] w (RPost K r w (.int .i64 0) (rsA x z B n))
  bk : ∀ w, Rti K r w (rsA x z B n) → Calls Tryz.prog 25 #[.pointer (some ⟨r, 0, none⟩), .int .i64 1, .int .i64 3, .int .i64 500] w (RPost K r w (.int .i64 0) (rsB x z B n))
  lk : ∀ w, Rti K r w (rsB x z B n) → Calls Tryz.prog 26 #[.pointer (some ⟨r, 0, none⟩), .int .i64 1] w (GEnd K r w ⟨[], fq x z B n, true, t⟩ 0 (rsL x n t))
theorem retr_calls (K : Nat → Prop) (r : Nat) {x : Int} {z : List Int} {B : Nat → Bool} {n : Nat} {t : Int} (hn : n ≤ 40) (p : RetractOk x z B n t) : RetrCalls K r x z B n t := by
  refine ⟨fun i hi w h => ?_, fun i hi hB w h => ?_, fun i hi hB w h => ?_, fun i hi hB w h => ?_, fun w h => ?_, fun w h => ?_, fun w h => ?_⟩
  · have := h.send (p.ok i (by omega)) (by omega) 0 0 i (x + z.getD i 0) true
    rw [p.se i hi] at this
    exact this
  · have := h.retract (p.om i hi) 0 i
    rw [p.r0 i hi hB] at this
    exact this
  · have := h.retract (p.ok (i + 1) (by omega)) 0 i
    rw [p.r1 i hi hB] at this
    exact this
  · have := h.retract (p.ok (i + 1) (by omega)) 1 i
    rw [p.r2 i hi hB] at this
    exact this
  · have := h.ask (p.ok n (Nat.le_refl _)) 0 1 500
    rw [p.ak] at this
    exact this
  · have := h.ask p.oa 1 3 500
    rw [p.bk] at this
    exact this
  · have := h.look p.ob 1
    rw [p.lk] at this
    exact this
theorem retr_last (K : Nat → Prop) (r : Nat) {x : Int} {z : List Int} {B : Nat → Bool} {n : Nat} {t : Int} (p : RetractOk x z B n t) (h : Int) (w : World) (hr : Rti K r w (rsL x n t)) : Calls Tryz.prog 28 #[.pointer (some ⟨r, 0, none⟩), .int .i64 0, .int .i64 h] w (RPost K r w (.int .i64 209) (rsL x n t)) := by
  have := hr.retract p.ol 0 h
  rw [p.rl h] at this
  exact this
set_option maxHeartbeats 16000000 in
set_option maxRecDepth 100000 in
theorem retr_walk (W : World) (A : Option Addr) (len cap : Nat) (z : List Int) (A2 : Option Addr) (len2 cap2 : Nat) (bs : Nat → Bool) (a : Int) (hz : BysRow W A len z) (hb : BosRow W A2 len2 bs) (hl : len ≤ 40) (a0 : 0 ≤ a) (a1 : a < 256) (hE : Env W) :
    Calls Tryz.prog 4 #[.slice A len cap, .slice A2 len2 cap2, .int .u8 a] W fun e w' => e = .returned (.bool true) ∧ Below W.heap.size W w' := by
  have hzz : ∀ i, i < len → 0 ≤ z.getD i 0 ∧ z.getD i 0 < 256 := fun i hi => by obtain ⟨_, _, _, h⟩ := hz i hi; exact h
  have hlen : ¬ (40 : Int) < (len : Int) := by omega
  have hwa : IntKind.i64.wrap a = a := by rw [IntKind.wrap_i64]; omega
  obtain ⟨x, hx⟩ : ∃ x, x = 1 + a % 9 := ⟨_, rfl⟩
  have hx1 : 1 ≤ x := by omega
  have hx9 : x ≤ 9 := by omega
  have HX := Lib.hid hx
  clear hx
  obtain ⟨t, p⟩ := retract_ok (x := x) hx1 hx9 z (bk len2 bs) len hl hzz
  have hp := pair_call W hE x 3 (by omega) (by omega) (by omega) (by omega)
  have HZ := Lib.hid hz
  have HB := Lib.hid hb
  have HP := Lib.hid p
  have HQ := Lib.hid hp
  have HBK := Lib.hid (show ∀ i, bk len2 bs i = (decide (i < len2) && bs i) from fun _ => rfl)
  generalize bk len2 bs = B at HP HBK
  have hu52 := Tryz.underlying52
  have hu22 := Tryz.underlying22
  have hu36 := Tryz.underlying36
  have hu4 := Tryz.underlying4
  have hu5 := Tryz.underlying5
  have hu31 := Tryz.underlying31
  have hu29 := Tryz.underlying29
  have hu41 := Tryz.underlying41
  have hu39 := Tryz.underlying39
  clear hz p hE hp hzz hb
  go_enter Tryz.func4, Tryz.ntmps4
  have hmix : Tryz.prog.follows .mixedOrders = true := by kernel_rfl
  go_wp2_with (go_at_call 23; rw [← HX.out]; (with_reducible refine HQ.out.mono ?_); rintro e w2 ⟨r, rfl, hr2, hb2⟩; have HR2 := Lib.hid hr2; have HB2 := Lib.hid hb2; clear hr2 hb2)
  have HC := Lib.hid (retr_calls (fun k => k < W.heap.size) r hl HP.out)
  go_loopw [9, 10] (fun nv iv wr => ∃ i : Nat, i ≤ len ∧ iv = .int .i64 i ∧ nv = .int .i64 (fn B i : Nat) ∧ Rti (fun k => k < W.heap.size) r wr (rs x z B i) ∧ Tch (fun k => ¬ k < W.heap.size) w2 wr) (fun _ iv _ => len - (RowKit.intOf iv).toNat)
  case atStart => exact ⟨0, Nat.zero_le _, rfl, rfl, HR2.out, Tch.refl _ _⟩
  case round =>
    obtain ⟨i, hi, rfl, rfl, hr, ht⟩ := hrel
    have HR := Lib.hid hr
    have HT := Lib.hid ht
    clear hr ht
    by_cases hil : i < len
    · have hii : (i : Int) < (len : Int) := by omega
      have hi0 : (0 : Int) ≤ (i : Int) := by omega
      obtain ⟨xa, rfl, hxx, hx0, hxb⟩ := HZ.out i hil
      have hxl := World.block_lt_of_cell? W _ hxx
      have hxc : wr.cell? (xa.add i) = some (.int .u8 (z.getD i 0)) := (HT.out.cell (HB2.out.cell hxl ▸ hxx) (fun e => e hxl))
      have hse := HC.out.se i hil wr HR.out
      have HSE := Lib.hid hse
      have hnl := fn_le B i
      have hns : fn B (i + 1) = if B i then fn B i else fn B i + 1 := rfl
      have HNS := Lib.hid hns
      generalize fn B i = nn at hnl HNS ⊢
      have hwn : IntKind.i64.wrap ((nn : Int) + 1) = ((nn + 1 : Nat) : Int) := by rw [IntKind.wrap_i64]; omega
      clear hse hxx hns
      generalize z.getD i 0 = b at hxc hx0 hxb HSE
      have hwb : IntKind.i64.wrap b = b := by rw [IntKind.wrap_i64]; omega
      have hwx : IntKind.i64.wrap (x + b) = x + b := by rw [IntKind.wrap_i64]; omega
      by_cases hi2 : i < len2
      · have hii2 : (i : Int) < (len2 : Int) := by omega
        obtain ⟨ya, rfl, hy⟩ := HB.out i hi2
        have hyl := World.block_lt_of_cell? W _ hy
        have hyk : ∀ w', Tch (fun k => ¬ k < W.heap.size) w2 w' → w'.cell? (ya.add i) = some (.bool (bs i)) := fun w' h => h.cell (HB2.out.cell hyl ▸ hy) (fun e => e hyl)
        have hbi : B i = bs i := by rw [HBK.out i]; simp [hi2]
        generalize bs i = bi at hyk hbi
        have HYK := Lib.hid hyk
        have HBI := Lib.hid hbi
        clear hyk hbi hy
        cases bi with
        | true =>
          go_wp2_with (first | (go_at_call 24; (with_reducible refine HSE.out.mono ?_); rintro e w8 ⟨rfl, hr8, ht8⟩; have hy8 := HYK.out w8 (HT.out.trans ht8 (fun _ _ e => e)); have HR8 := Lib.hid hr8; have HT8 := Lib.hid ht8; clear hr8 ht8) | (go_at_call 28; (with_reducible refine (HC.out.r0 i hil HBI.out w8 HR8.out).mono ?_); rintro e x1 ⟨rfl, hr1, ht1⟩; have HR1 := Lib.hid hr1; have HT1 := Lib.hid ht1; clear hr1 ht1) | (go_at_call 28; (with_reducible refine (HC.out.r1 i hil HBI.out x1 HR1.out).mono ?_); rintro e x2 ⟨rfl, hr1, ht1⟩; have HR3 := Lib.hid hr1; have HT3 := Lib.hid ht1; clear hr1 ht1) | (go_at_call 28; (with_reducible refine (HC.out.r2 i hil HBI.out x2 HR3.out).mono ?_); rintro e x3 ⟨rfl, hr1, ht1⟩; have HR4 := Lib.hid hr1; have HT4 := Lib.hid ht1; clear hr1 ht1))
          exact ⟨⟨i + 1, by omega, by go_num, by rw [HNS.out, HBI.out]; rfl, HR4.out, (((HT.out.trans HT8.out (fun _ _ e => e)).trans HT1.out (fun _ _ e => e)).trans HT3.out (fun _ _ e => e)).trans HT4.out (fun _ _ e => e)⟩, by simp [RowKit.intOf]; omega⟩
        | false =>
          go_wp2_with (go_at_call 24; (with_reducible refine HSE.out.mono ?_); rintro e w8 ⟨rfl, hr8, ht8⟩; have hy8 := HYK.out w8 (HT.out.trans ht8 (fun _ _ e => e)); have HR8 := Lib.hid hr8; have HT8 := Lib.hid ht8; clear hr8 ht8)
          exact ⟨⟨i + 1, by omega, by go_num, by rw [HNS.out, HBI.out]; rfl, by rw [← HP.out.ke i hil HBI.out]; exact HR8.out, HT.out.trans HT8.out (fun _ _ e => e)⟩, by simp [RowKit.intOf]; omega⟩
      · have hii2 : ¬ (i : Int) < (len2 : Int) := by omega
        have hbi : B i = false := by rw [HBK.out i]; simp [hi2]
        have HBI := Lib.hid hbi
        clear hbi
        go_wp2_with (go_at_call 24; (with_reducible refine HSE.out.mono ?_); rintro e w8 ⟨rfl, hr8, ht8⟩; have HR8 := Lib.hid hr8; have HT8 := Lib.hid ht8; clear hr8 ht8)
        exact ⟨⟨i + 1, by omega, by go_num, by rw [HNS.out, HBI.out]; rfl, by rw [← HP.out.ke i hil HBI.out]; exact HR8.out, HT.out.trans HT8.out (fun _ _ e => e)⟩, by simp [RowKit.intOf]; omega⟩
    · obtain rfl : i = len := by omega
      have hii : ¬ (i : Int) < (i : Int) := by omega
      have hql : (fq x z B i).length = fn B i := fq_length x z B i
      have HQL := Lib.hid hql
      have hnl := fn_le B i
      generalize hnn : fn B i = nn at HQL hnl ⊢
      clear hql hnn
      go_wp2_with (first | (go_at_call 25; (with_reducible refine (HC.out.ak wr HR.out).mono ?_); rintro e w7 ⟨rfl, hr8, ht8⟩; have HR7 := Lib.hid hr8; have HT7 := Lib.hid ht8; clear hr8 ht8) | (go_at_call 25; (with_reducible refine (HC.out.bk w7 HR7.out).mono ?_); rintro e w8 ⟨rfl, hr8, ht8⟩; have HR8 := Lib.hid hr8; have HT8 := Lib.hid ht8; clear hr8 ht8) | (go_at_call 26; (with_reducible refine (HC.out.lk w8 HR8.out).mono ?_); rintro e w9 ⟨vp, vt, rfl, hg⟩; have hgp : World.ownsRow w9 0 41 6 vp 0 [] := hg.p; obtain ⟨PA, pc, rfl⟩ := own_slice hgp; have hgt : World.ownsRow w9 0 41 6 vt (fq x z B i).length (flatM (fq x z B i)) := hg.t; rw [HQL.out] at hgt; obtain ⟨TA, tc, rfl⟩ := own_slice hgt; have HG := Lib.hid hg; have HGT := Lib.hid hgt; clear hg hgp hgt))
      have hrk := HG.out.at_.keep (.cells #[.slice PA 0 pc, .slice TA nn tc, .bool true, .int .i64 t] 31)
      obtain ⟨w10, hw10⟩ : ∃ w10, w10 = w9.alloc (.cells #[.slice PA 0 pc, .slice TA nn tc, .bool true, .int .i64 t] 31) := ⟨_, rfl⟩
      have hblk := heap_alloc_new w9 (.cells #[.slice PA 0 pc, .slice TA nn tc, .bool true, .int .i64 t] 31)
      rw [← hw10] at hblk hrk ⊢
      have hb10 : Below w9.heap.size w9 w10 := by rw [hw10]; exact (Below.refl _ w9).alloc (Nat.le_refl _) _
      obtain ⟨gb, hgb⟩ : ∃ gb, gb = w9.heap.size := ⟨_, rfl⟩
      rw [← hgb] at hblk hrk ⊢
      obtain ⟨K, hK⟩ : ∃ K : Nat → Prop, K = fun k => (k < W.heap.size ∨ (Value.slice PA 0 pc).ownBlock = some k ∨ (Value.slice TA nn tc).ownBlock = some k) ∨ k = gb := ⟨_, rfl⟩
      have hKW : ∀ k, k < W.heap.size → K k := fun k hk => by rw [hK]; exact .inl (.inl hk)
      have hKT : ∀ k, (Value.slice TA nn tc).ownBlock = some k → K k := fun k hk => by rw [hK]; exact .inl (.inr (.inr hk))
      have hKg : K gb := by rw [hK]; exact .inr rfl
      rw [← hK] at hrk
      have HRK := Lib.hid hrk
      have HKW := Lib.hid hKW
      have HKT := Lib.hid hKT
      have HKG := Lib.hid hKg
      have HBLK := Lib.hid hblk
      have HB10 := Lib.hid hb10
      have ht10 : Tch (fun k => ¬ k < W.heap.size) w2 w10 := ((((HT.out.trans HT7.out (fun _ _ e => e)).trans HT8.out (fun _ _ e => e)).trans HG.out.tch (fun _ _ e => e))).trans (Q := fun _ => False) (Tch.of_below hb10) (fun _ _ e => e.elim)
      have HT10 := Lib.hid ht10
      obtain ⟨y0, y1, y2, y3, _⟩ := g_cells hblk
      obtain ⟨wo, hwo⟩ : ∃ wo, wo = wr := ⟨_, rfl⟩
      subst hwo
      clear hw10 hb10 hgb hK hKW hKT hKg hrk ht10 y0 y3 hblk
      go_wp2
      go_loopw [15] (fun iv wr => ∃ k : Nat, k ≤ nn ∧ iv = .int .i64 k ∧ Rti K r wr (rsL x i t) ∧ Tch (fun k => ¬ K k) w10 wr) (fun iv _ => nn - (RowKit.intOf iv).toNat)
      case atStart => exact ⟨0, Nat.zero_le _, rfl, HRK.out, Tch.refl _ _⟩
      case round =>
        obtain ⟨k, hk, rfl, hr, ht⟩ := hrel
        have hs1 : wr.cell? ⟨gb, 1, none⟩ = some (.slice TA nn tc) := ht.cell (g_cells HBLK.out).2.1 (fun e => e HKG.out)
        by_cases hkn : k < nn
        · have hkk : (k : Int) < (nn : Int) := by omega
          have hk0 : (0 : Int) ≤ (k : Int) := by omega
          have hkq : k < (fq x z B i).length := by rw [HQL.out]; exact hkn
          obtain ⟨pg, hpg, e0, e1, e2, e3, e4, e5⟩ := row_m (Q := fq x z B i) (base := 0) (c := tc) (by rw [HQL.out]; exact HGT.out) k hkq
          subst hpg
          have hKp : K pg := HKT.out pg rfl
          have e2 := ht.cell (pw_cell_below HB10.out e2) (fun e => e hKp)
          have e5 := ht.cell (pw_cell_below HB10.out e5) (fun e => e hKp)
          obtain ⟨j, hj1, hj2, hj3⟩ := (fq_mem x z B i _).1 (List.getElem_mem hkq)
          rw [hj3] at e2 e5
          have e2' : wr.cell? ⟨pg, k * 6 + 2, none⟩ = some (.int .i64 (j : Int)) := e2
          have e5' : wr.cell? ⟨pg, k * 6 + 5, none⟩ = some (.int .i64 (j : Int)) := e5
          clear e2 e5
          have hrl := retr_last K r HP.out j wr hr
          have HRL := Lib.hid hrl
          have HTT := Lib.hid ht
          have hj0 : (0 : Int) ≤ (j : Int) := by omega
          by_cases hj4 : j < len2
          · have hjj : (j : Int) < (len2 : Int) := by omega
            obtain ⟨ya, rfl, hy⟩ := HB.out j hj4
            have hyl := World.block_lt_of_cell? W _ hy
            have hy : wr.cell? (ya.add j) = some (.bool (bs j)) := ht.cell (HT10.out.cell (HB2.out.cell hyl ▸ hy) (fun e => e hyl)) (fun e => e (HKW.out _ hyl))
            have hbj : bs j = false := by
              have := HBK.out j
              rw [hj2] at this
              simpa [hj4] using this.symm
            rw [hbj] at hy
            clear hj3 hr ht hrl hbj e0 e1 e3 e4
            go_wp2_with (go_at_call 28; (with_reducible refine HRL.out.mono ?_); rintro e x1 ⟨rfl, hr1, ht1⟩; have HR1 := Lib.hid hr1; have HT1 := Lib.hid ht1; clear hr1 ht1)
            exact ⟨⟨k + 1, by omega, by go_num, HR1.out, HTT.out.trans HT1.out (fun _ _ e => e)⟩, by simp [RowKit.intOf]; omega⟩
          · have hjj : ¬ (j : Int) < (len2 : Int) := by omega
            clear hj3 hr ht hrl e0 e1 e3 e4
            go_wp2_with (go_at_call 28; (with_reducible refine HRL.out.mono ?_); rintro e x1 ⟨rfl, hr1, ht1⟩; have HR1 := Lib.hid hr1; have HT1 := Lib.hid ht1; clear hr1 ht1)
            exact ⟨⟨k + 1, by omega, by go_num, HR1.out, HTT.out.trans HT1.out (fun _ _ e => e)⟩, by simp [RowKit.intOf]; omega⟩
        · obtain rfl : k = nn := by omega
          have hkk : ¬ (k : Int) < (k : Int) := by omega
          have HTT := Lib.hid ht
          clear hr ht
          go_wp2
          go_ret
          refine ⟨by first | rfl | simp, ?_⟩
          have ht11 : Tch (fun k => ¬ k < W.heap.size) w2 wr := HT10.out.trans HTT.out (fun k _ e hk => e (HKW.out k hk))
          exact HB2.out.trans (ht11.below HB2.out.size (fun k hk e => e hk))
theorem cells4 : Tryz.prog.cellsOf 4 = 1 := by kernel_rfl
theorem bools_in {H : Type} {enc : TypeId × Value → H} {W : World} {base : Nat} {spare : Nat → Bool} {held : Bool} {A : Option Addr} {len cap : Nat} {x : DataW H} {p : List MemPlace} (hx : DataW.Trod enc Tryz.prog W base spare held 36 (.slice A len cap) x p) : ∃ b, BosRow W A len b := by
  obtain ⟨fuel, hf⟩ := hx
  rcases Go.Deep.open_slice Tryz.underlying36 hf with ⟨h, _⟩ | ⟨a, l, c, m, n, D, Pl, h, hb, hl, hm, hmm, _, hi⟩
  · simp [Value.cells] at h
    obtain ⟨rfl, rfl, rfl⟩ := h
    exact ⟨fun _ => false, fun i hi => absurd hi (Nat.not_lt_zero _)⟩
  · simp [Value.cells] at h
    obtain ⟨rfl, rfl, rfl⟩ := h
    have hlm : len ≤ m := by rw [hmm]; split <;> omega
    have hall : ∀ i : Nat, ∃ b : Bool, i < len → W.cell? (a.add i) = some (.bool b) := fun i => by
      by_cases hil : i < len
      · obtain ⟨cs, hc, ht⟩ := hi i (by omega)
        obtain ⟨b, rfl, _⟩ := DataW.trod_bool Tryz.underlying4 ht
        obtain ⟨_, hcl, hat⟩ := World.cells?_some hc
        have := hat 0 (by rw [cells4]; decide)
        rw [Go.Deep.add_add, cells4, show i * 1 + 0 = i by omega] at this
        exact ⟨b, fun _ => this⟩
      · exact ⟨false, fun h => absurd h hil⟩
    obtain ⟨f, hf⟩ := Classical.axiomOfChoice hall
    exact ⟨f, fun i hi => ⟨a, rfl, hf i hi⟩⟩
set_option maxHeartbeats 4000000 in
set_option maxRecDepth 100000 in
theorem retr_row {H : Type} {enc : TypeId × Value → H} {base : Nat} {spare : Nat → Bool} {held : Bool} {xd : DataW H} {p : List MemPlace} (A : Option Addr) (len cap : Nat) (z : List Int) (A2 : Option Addr) (len2 cap2 : Nat) (a : Int) (W : World)
    (w0 : (A = none ∧ len = 0 ∧ cap = 0 ∧ z = []) ∨ ∃ x, A = some x ∧ len ≤ cap ∧ cap ≤ maxLen ∧ z.length = cap ∧ (∀ i, i < z.length → W.cell? (x.add i) = some (.int .u8 (z.getD i 0))) ∧ ∀ n ∈ z, (Lit.int .u8 n).wf = true)
    (k1 : DataW.Trod enc Tryz.prog W base spare held 36 (.slice A2 len2 cap2) xd p) (w2 : (Lit.int .u8 a).wf = true) (hE : Env W) :
    Calls Tryz.prog 4 #[.slice A len cap, .slice A2 len2 cap2, .int .u8 a] W fun e w' => e = .returned (.bool true) ∧ Below W.heap.size W w' := by
  obtain ⟨a0, a1⟩ := u8_wf w2
  obtain ⟨b, hb⟩ := bools_in k1
  clear k1
  by_cases hl : len ≤ 40
  · refine retr_walk W A len cap z A2 len2 cap2 b a (fun i hi => ?_) hb hl a0 a1 hE
    rcases w0 with ⟨_, h0, _⟩ | ⟨x, h1, h2, h3, h4, h5, h6⟩
    · omega
    · have hi2 : i < z.length := by omega
      have hw := h6 (z.getD i 0) (by rw [List.getD_eq_getElem?_getD, List.getElem?_eq_getElem hi2]; exact List.getElem_mem hi2)
      exact ⟨x, h1, h5 i hi2, u8_wf hw⟩
  · have hl2 : (40 : Int) < (len : Int) := by omega
    have hu22 := Tryz.underlying22
    go_enter Tryz.func4, Tryz.ntmps4
    go_wp2
    go_ret
    exact ⟨rfl, Below.refl _ _⟩
end Go.Proofs.YtehnkebcbomidaaGreatDoor.Rt
