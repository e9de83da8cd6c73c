/- past: the walk of PastParts. -/
import Derived.Test.YtemedggbodkhcaaLawB
import Derived.Deep.QuietTactic
import Derived.BigQuiet
import Derived.IntWalk
set_option linter.unusedVariables false
set_option linter.unusedSimpArgs false
namespace Go.Proofs.Ytemedggbodkhcaa.Past
open Go.RowKit Go.Proofs.YtemedggbodkhcaaW.PrintWords Go.Proofs.YtemedggbodkhcaaW.PrintLast
theorem PastAt.apart {w : World} {B g g' : Nat} {A : Option Addr} {c : Nat} {fl : Int} {L : List Ent} {cs : Array Value} {fr : Nat × Nat} (h : PastAt w B g A c fl L) (h' : w.heap[g']? = some (.cells cs 65 fr)) : ablk A ≠ some g' := by
  intro e
  rw [← ablk_own A L.length c] at e
  rcases h.2.1.2 with ⟨q, _⟩ | ⟨b, cap, cur, q, _, hb, _⟩
  · rw [q] at e; simp [Value.ownBlock] at e
  · rw [q] at e
    simp only [Value.ownBlock, Option.some.injEq] at e
    subst e
    rw [h'] at hb
    injection hb with hb
    injection hb with _ hb
    exact absurd hb (by decide)
theorem entsA_succ0 (z : List Int) (k : Nat) : entsA 0 z (k + 1) = entsA 0 z k ++ [⟨sumTo z (k + 1), 0, k, 0, 0, 0, 0, 0, k, none, 0, 0⟩] := by
  rw [entsA_succ]
  simp [entA]
/-- times rise -/
def MonoT (L : List Ent) : Prop := ∀ (t : Int) x y (hx : x < L.length) (hy : y < L.length), x ≤ y → ¬ (L[x].t < t) → ¬ (L[y].t < t)
theorem drop_mono {L : List Ent} {t : Int} (h : ∀ x y (hx : x < L.length) (hy : y < L.length), x ≤ y → ¬ (L[x].t < t) → ¬ (L[y].t < t)) (k : Nat) :
    ∀ x y (hx : x < (L.drop k).length) (hy : y < (L.drop k).length), x ≤ y → ¬ ((L.drop k)[x].t < t) → ¬ ((L.drop k)[y].t < t) := by
  intro x y hx hy hxy
  rw [List.getElem_drop, List.getElem_drop]
  exact h _ _ _ _ (by omega)
theorem own_keep {w w' : World} {S : Nat → Prop} {base : Nat} {e : TypeId} {size n : Nat} {v : Value} {xs : List Value} (h : w.ownsRow base e size v n xs) (hk : Kept w w' S) (hS : ∀ b, v.ownBlock = some b → ¬ S b) : w'.ownsRow base e size v n xs :=
  own_move h (fun b hb => hk.2 b (own_lt h b hb) (hS b hb))
theorem parts_eq {L : List Ent} {k1 k2 k3 : Nat} {m M : Int} (hmM : m ≤ M) (h1 : k1 ≤ L.length) (h2 : ∀ i (hi : i < L.length), i < k1 → L[i].t < m) (h4 : k2 ≤ (L.drop k1).length)
    (h5 : ∀ i (hi : i < (L.drop k1).length), i < k2 → (L.drop k1)[i].t < M) (h6 : ∀ i (hi : i < (L.drop k1).length), k2 ≤ i → M ≤ (L.drop k1)[i].t) (h7 : k3 ≤ L.length)
    (h8 : ∀ i (hi : i < L.length), i < k3 → L[i].t < M) (h9 : ∀ i (hi : i < L.length), k3 ≤ i → M ≤ L[i].t) : k3 = k1 + k2 := by
  have hl : (L.drop k1).length = L.length - k1 := List.length_drop
  rcases Nat.lt_trichotomy k3 (k1 + k2) with h | h | h
  · exfalso
    have a := h9 k3 (by omega) (Nat.le_refl _)
    rcases Nat.lt_or_ge k3 k1 with h' | h'
    · have b := h2 k3 (by omega) h'
      omega
    · have b := h5 (k3 - k1) (by omega) (by omega)
      rw [List.getElem_drop] at b
      have e : k1 + (k3 - k1) = k3 := by omega
      simp only [e] at b
      omega
  · exact h
  · exfalso
    have a := h8 (k1 + k2) (by omega) h
    have b := h6 k2 (by omega) (Nat.le_refl _)
    rw [List.getElem_drop] at b
    omega
theorem drewN_two (w : World) (n m : Nat) : (w.drewN n).drewN m = w.drewN (n + m) := by simp [World.drewN, Nat.add_assoc]
theorem u16_bd {p : Int} (h : (Lit.int .u16 p).wf = true) : 0 ≤ p ∧ p ≤ 65535 := by
  have := h
  simp only [Lit.wf, Bool.and_eq_true, decide_eq_true_eq] at this
  exact this
set_option maxHeartbeats 4000000 in
set_option maxRecDepth 100000 in
theorem parts_walk (W : World) (a : Option Addr) (len cap : Nat) (z : List Int) (p q : Int) (hz : U8 W a len cap z) (hp : (Lit.int .u16 p).wf = true) (hq : (Lit.int .u16 q).wf = true) :
    Calls Try.prog 3 #[.slice a len cap, .int .u16 p, .int .u16 q] W fun e W' => e = .returned (.bool true) ∧ Below W.heap.size W W' := by
  have hu32 := Try.underlying32
  have hu65 := Try.underlying65
  have hu35 := Try.underlying35
  have hu27 := Try.underlying27
  have hu29 := Try.underlying29
  have hu22 := Try.underlying22
  obtain ⟨hp0, hp1⟩ := u16_bd hp
  obtain ⟨hq0, hq1⟩ := u16_bd hq
  have hbd := hz.bd
  have HBD := Lib.hid hbd
  have HZ := Lib.hid hz
  clear hz hbd hp hq
  by_cases hl : len ≤ 60
  · go_enter Try.func3, Try.ntmps3
    go_wp2_with fail
    refine (new_n W W.heap.size (Nat.le_refl _)).mono ?_
    rintro e w1 ⟨gp, rfl, hP1, hb1, hg1⟩
    have hz1 := hb1.size
    have HP1 := Lib.hid hP1
    have HB1 := Lib.hid hb1
    clear hP1 hb1
    go_wp2_with fail
    refine (new_n w1 W.heap.size hz1).mono ?_
    rintro e w2 ⟨gq, rfl, hP2, hb2, hg2⟩
    have hgl := HP1.out.lt.1
    have HQ2 := Lib.hid hP2
    have HP2 := Lib.hid (HP1.out.below hb2)
    have HB2 := Lib.hid (HB1.out.trans (hb2.mono hz1))
    clear hP2 hb2
    go_wp2_with fail
    go_loopw [9, 10] (fun t i wr => ∃ (Ap : Option Addr) (cp : Nat) (Aq : Option Addr) (cq k : Nat), k ≤ len ∧ i = .int .i64 k ∧ t = .int .i64 (sumTo z k) ∧ PastAt wr W.heap.size gp Ap cp 0 (entsA 0 z k) ∧ PastAt wr W.heap.size gq Aq cq 0 (entsA 0 z k) ∧ (∀ b, ablk Ap = some b → ablk Aq ≠ some b) ∧ Below W.heap.size W wr) (fun _ i _ => len - (intOf i).toNat)
    case atStart => exact ⟨none, 0, none, 0, 0, Nat.zero_le _, rfl, rfl, HP2.out, HQ2.out, (fun b h => by cases h), HB2.out⟩
    case round =>
      obtain ⟨Ap, cp, Aq, cq, k, hk, rfl, rfl, hP, hQ, hap, hB⟩ := hrel
      by_cases hlt : k < len
      · obtain ⟨x, rfl, hlc, hcell⟩ := HZ.out.cell k hlt
        have hcell2 := (hB.cell (p := x.add k) (World.block_lt_of_cell? W _ hcell)).trans hcell
        have hzk := HBD.out k hlt
        have hs0 := sumTo_bd z len HBD.out k hk
        have hsuc : sumTo z k + z.getD k 0 = sumTo z (k + 1) := rfl
        obtain ⟨hz0', hz1'⟩ := hzk
        obtain ⟨hs0', hs1'⟩ := hs0
        obtain ⟨W1, hW1⟩ : ∃ W1, W1 = wr.alloc (.cells #[.int .i64 (sumTo z (k + 1)), .int .i64 0, .int .i64 k, .int .i64 0, .int .i64 0, .int .i64 0, .int .i64 0, .int .i64 0, .int .i64 k, .slice none 0 0] 32) := ⟨_, rfl⟩
        have hB01 : Below wr.heap.size wr W1 := by rw [hW1]; exact (Below.refl _ wr).alloc (Nat.le_refl _) _
        have hs1 := hB01.size
        have bE : W1.heap[wr.heap.size]? = some (.cells #[.int .i64 (sumTo z (k + 1)), .int .i64 0, .int .i64 k, .int .i64 0, .int .i64 0, .int .i64 0, .int .i64 0, .int .i64 0, .int .i64 k, .slice none 0 0] 32 (0, 0)) := by rw [hW1]; exact blk_new' _ _
        have hlen := entsA_len 0 z k
        have hpush1 := push_n W1 W.heap.size gp Ap cp 0 (entsA 0 z k) (hP.below hB01) (entsA_noO 0 z k) (sumTo z (k + 1)) 0 k 0 0 0 0 0 k (sumTo_bd z len HBD.out (k + 1) hlt).1 (fun l hl => entsA_last 0 z len k HBD.out hlt l hl) (by rw [hlen]; omega)
        have HPU := Lib.hid hpush1
        have HSU := Lib.hid hsuc
        have HW1 := Lib.hid hW1
        have BE := Lib.hid bE
        have HPa := Lib.hid hP
        have HQa := Lib.hid (hQ.below hB01)
        have HQ0 := Lib.hid hQ
        have HAP := Lib.hid hap
        have HBa := Lib.hid (hB.trans (hB01.mono hB.size))
        have hsz := hB.size
        have HL := Lib.hid hlen
        clear hpush1 hsuc hW1 bE hP hQ hap hB hB01 hcell hlen
        have hki : (k : Int) < (len : Int) := by omega
        generalize z.getD k 0 = v at *
        generalize sumTo z k = s at *
        go_wp2_with fail
        rw [HSU.out, ← HW1.out]
        refine HPU.out.mono ?_
        rintro e w3 ⟨Ap', cp', rfl, hP3, hK3, hB3, hA3⟩
        have hle := HPa.out.lt
        have hqe := HQa.out.lt
        have hnfe : ¬ FP gp Ap wr.heap.size := fun h => by
          rcases h with h | h
          · have := hle.1; omega
          · have := (hle.2.1 _ h).2; omega
        have hnfq : ¬ FP gp Ap gq := fun h => by
          rcases h with h | h
          · omega
          · exact HPa.out.apart HQ0.out.1 h
        have bE2 := blk_kept BE.out hK3 hnfe
        have E0 := mcell bE2 0
        have E1 := mcell bE2 1
        have E2 := mcell bE2 2
        have E3 := mcell bE2 3
        have E4 := mcell bE2 4
        have E5 := mcell bE2 5
        have E6 := mcell bE2 6
        have E7 := mcell bE2 7
        have E8 := mcell bE2 8
        have E9 := mcell bE2 9
        simp at E0 E1 E2 E3 E4 E5 E6 E7 E8 E9
        have hQ3 := HQa.out.kept hK3 hnfq (fun b hb h => by
          rcases h with h | h
          · exact HQ0.out.apart HPa.out.1 (by rw [← h]; exact hb)
          · exact HAP.out b h hb)
        have hpush2 := push_n w3 W.heap.size gq Aq cq 0 (entsA 0 z k) hQ3 (entsA_noO 0 z k) (sumTo z (k + 1)) 0 k 0 0 0 0 0 k (sumTo_bd z len HBD.out (k + 1) hlt).1 (fun l hl => entsA_last 0 z len k HBD.out hlt l hl) (by rw [HL.out]; omega)
        have HPU2 := Lib.hid hpush2
        have HP3 := Lib.hid hP3
        have HQ3 := Lib.hid hQ3
        have HK3 := Lib.hid hK3
        have HB3 := Lib.hid hB3
        have HA3 := Lib.hid hA3
        clear bE2 hQ3 hpush2 hP3 hK3 hB3 hA3 hnfe hnfq hle hqe
        go_wp2_with fail
        refine HPU2.out.mono ?_
        rintro e w4 ⟨Aq', cq', rfl, hQ4, hK4, hB4, hA4⟩
        have hle := HP3.out.lt
        have hqe := HQ3.out.lt
        have hnfp : ¬ FP gq Aq gp := fun h => by
          rcases h with h | h
          · omega
          · exact HQ3.out.apart HP3.out.1 h
        have hP4 := HP3.out.kept hK4 hnfp (fun b hb h => by
          rcases h with h | h
          · exact HP3.out.apart HQ3.out.1 (by rw [← h]; exact hb)
          · rcases HA3.out with q | q
            · exact HAP.out b (by rw [← q]; exact hb) h
            · have := q b hb
              have := (HQa.out.lt.2.1 b h).2
              omega)
        have hap4 : ∀ b, ablk Ap' = some b → ablk Aq' ≠ some b := fun b hb h => by
          rcases hA4 with q | q
          · rw [q] at h
            rcases HA3.out with q' | q'
            · exact HAP.out b (by rw [← q']; exact hb) h
            · have := q' b hb
              have := (HQa.out.lt.2.1 b h).2
              omega
          · have := q b h
            have := (HP3.out.lt.2.1 b hb).2
            omega
        have HP4 := Lib.hid hP4
        have HQ4 := Lib.hid hQ4
        have HAP4 := Lib.hid hap4
        have HB4 := Lib.hid (HBa.out.trans ((HB3.out.trans hB4)))
        clear hP4 hQ4 hap4 hK4 hB4 hA4 hnfp hle hqe
        go_wp2_with fail
        refine ⟨⟨Ap', cp', Aq', cq', k + 1, hlt, by go_num, rfl, by rw [entsA_succ0]; exact HP4.out, by rw [entsA_succ0]; exact HQ4.out, HAP4.out, HB4.out⟩, by simp [intOf]; omega⟩
      · obtain rfl : k = len := by omega
        obtain ⟨L, hL⟩ : ∃ L, L = entsA 0 z k := ⟨_, rfl⟩
        rw [← hL] at hP hQ
        have hLl : L.length = k := by rw [hL]; exact entsA_len 0 z k
        have hno : NoO L := by rw [hL]; exact entsA_noO 0 z k
        have hmono : MonoT L := by rw [hL]; exact fun t => entsA_mono 0 z k HBD.out t
        have hst : ∀ i (hi : i < L.length), L[i].st = i := by
          subst hL
          intro i hi
          rw [entsA_get]
          rfl
        have HLE := Lib.hid hL
        have HP := Lib.hid hP
        have HQ := Lib.hid hQ
        have HAP := Lib.hid hap
        have HB := Lib.hid hB
        have HM := Lib.hid hmono
        have HST := Lib.hid hst
        have HLL := Lib.hid hLl
        have HNO := Lib.hid hno
        clear hL hP hQ hap hB hmono hst hLl hno
        have hgne : gp ≠ gq := by have := HP.out.lt.1; omega
        go_wp2_with fail
        refine (settle_n wr W.heap.size gp _ _ 0 L HP.out (min p q) (HM.out _)).mono ?_
        rintro e w5 ⟨k1, A1, c1, A2, c2, rfl, h1, h2, h3, ho1, hP5, hK5, hB5, hs5⟩
        have hQ5 := HQ.out.kept hK5 (fun h => hgne h.symm) (fun b hb h => HQ.out.apart HP.out.1 (by rw [← h]; exact hb))
        have hgpl := HP.out.lt.1
        have HO1 := Lib.hid ho1
        have HP5 := Lib.hid hP5
        have HQ5 := Lib.hid hQ5
        have HB5 := Lib.hid (HB.out.trans hB5)
        have H2 := Lib.hid h2
        have H3 := Lib.hid h3
        clear ho1 hP5 hQ5 hB5 hs5 h2 h3
        go_wp2_with fail
        refine (settle_n w5 W.heap.size gp _ _ _ (L.drop k1) HP5.out (max p q) (drop_mono (HM.out _) k1)).mono ?_
        rintro e w6 ⟨k2, A3, c3, A4, c4, rfl, h4, h5, h6, ho3, hP6, hK6, hB6, hs6⟩
        have hQ6 := HQ5.out.kept hK6 (fun h => hgne h.symm) (fun b hb h => HQ5.out.apart HP5.out.1 (by rw [← h]; exact hb))
        have ho16 := own_keep HO1.out hK6 (fun b hb h => by have := own_base HO1.out b hb; omega)
        have hgpl5 := HP5.out.lt.1
        have hgql5 := HQ5.out.lt.1
        have HO16 := Lib.hid ho16
        have HO3 := Lib.hid ho3
        have HP6 := Lib.hid hP6
        have HQ6 := Lib.hid hQ6
        have HB6 := Lib.hid (HB5.out.trans hB6)
        have H5 := Lib.hid h5
        have H6 := Lib.hid h6
        have hz56 := hB6.size
        clear ho16 ho3 hP6 hQ6 hB6 hs6 h5 h6 hK5 hK6
        go_wp2_with fail
        refine (settle_n w6 W.heap.size gq _ _ _ L HQ6.out (max p q) (HM.out _)).mono ?_
        rintro e w7 ⟨k3, A5, c5, A6, c6, rfl, h7, h8, h9, ho5, hQ7, hK7, hB7, hs7⟩
        have hP7 := HP6.out.kept hK7 hgne (fun b hb h => HP6.out.apart HQ6.out.1 (by rw [← h]; exact hb))
        have hk3 : k3 = k1 + k2 := parts_eq (by omega) h1 H2.out h4 H5.out H6.out h7 h8 h9
        have ho37 := own_keep HO3.out hK7 (fun b hb h => by have := own_base HO3.out b hb; omega)
        have ho17 := own_keep HO16.out hK7 (fun b hb h => by
          have := own_lt HO1.out b hb
          have := HQ.out.lt.1
          have := own_base HO16.out b hb
          omega)
        have hlp : ((L.drop k1).drop k2).length = k - k3 := by simp only [List.length_drop]; have := HLL.out; omega
        have hlq : (L.drop k3).length = k - k3 := by simp only [List.length_drop]; have := HLL.out; omega
        have hfp : max (max 0 (min p q)) (max p q) = max p q := by omega
        have hfq : max 0 (max p q) = max p q := by omega
        have hkn : (((k1 : Int) + (k2 : Int)) != (k3 : Int)) = false := by rw [bne_eq_false_iff_eq]; omega
        have HLP := Lib.hid hlp
        have HLQ := Lib.hid hlq
        have HFP := Lib.hid hfp
        have HFQ := Lib.hid hfq
        have HK3 := Lib.hid hk3
        have HO37 := Lib.hid ho37
        have HO17 := Lib.hid ho17
        have HO5 := Lib.hid ho5
        have HP7 := Lib.hid hP7
        have HQ7 := Lib.hid hQ7
        have HB7 := Lib.hid (HB6.out.trans hB7)
        clear ho37 ho17 hlp hlq hfp hfq hk3 ho5 hP7 hQ7 hB7 hs7 h8 h9 hK7
        have hk1c : k1 ≤ 64 := by have := HLL.out; omega
        have hk2c : k2 ≤ 64 := by have := HLL.out; simp only [List.length_drop] at h4; omega
        have hk3c : k3 ≤ 64 := by have := HLL.out; omega
        go_wp2_with fail
        refine (len_at _ _ _ _ _ _ _ HP7.out).mono ?_
        rintro e w8 ⟨rfl, rfl⟩
        rw [HLP.out]
        go_wp2_with fail
        refine (len_at _ _ _ _ _ _ _ HQ7.out).mono ?_
        rintro e w9 ⟨rfl, rfl⟩
        rw [HLQ.out]
        go_wp2_with fail
        refine (floor_at _ _ _ _ _ _ _ HP7.out).mono ?_
        rintro e w10 ⟨rfl, rfl⟩
        rw [HFP.out]
        go_wp2_with fail
        refine (floor_at _ _ _ _ _ _ _ HQ7.out).mono ?_
        rintro e w11 ⟨rfl, rfl⟩
        rw [HFQ.out]
        go_wp2_with fail
        refine (floor_at _ _ _ _ _ _ _ HP7.out).mono ?_
        rintro e w12 ⟨rfl, rfl⟩
        rw [HFP.out]
        go_wp2_with fail
        go_loopw [15] (fun i wr => ∃ (j n : Nat), j ≤ k3 ∧ i = .int .i64 j ∧ wr = w12.drewN n) (fun i _ => k3 - (intOf i).toNat)
        case atStart => exact ⟨0, 0, Nat.zero_le _, rfl, rfl⟩
        case round =>
          obtain ⟨j, n, hj, rfl, hwr⟩ := hrel
          have HWR := Lib.hid hwr
          clear hwr
          by_cases hjk : j < k3
          · have hjL : j < L.length := by omega
            obtain ⟨b5, rfl, hc5, hz5⟩ := ent_cell HO5.out (by simp; omega) j 8 (by simp; omega) (.int .i64 j) (by rw [List.getElem_take]; simp only [Ent.cells]; rw [HST.out j hjL]; rfl)
            replace hz5 : wr.cell? ⟨b5, j * 10 + 8, none⟩ = some (.int .i64 j) := by rw [HWR.out]; exact hz5
            have hjki : (j : Int) < (k3 : Int) := by omega
            by_cases hj1 : j < k1
            · obtain ⟨b1, rfl, hc1, hz1⟩ := ent_cell HO17.out (by simp; omega) j 8 (by simp; omega) (.int .i64 j) (by rw [List.getElem_take]; simp only [Ent.cells]; rw [HST.out j hjL]; rfl)
              replace hz1 : wr.cell? ⟨b1, j * 10 + 8, none⟩ = some (.int .i64 j) := by rw [HWR.out]; exact hz1
              have hjk1 : (j : Int) < (k1 : Int) := by omega
              have hd1 : decide (k1 ≤ j) = false := decide_eq_false (by omega)
              go_wp2_with fail
              go_quiet (fail)
              go_wp2_with fail
              refine ⟨⟨j + 1, n + nq, hjk, by go_num, by rw [HWR.out, drewN_two]⟩, by simp [intOf]; omega⟩
            · have hk2' : k2 ≤ (L.drop k1).length := h4
              have hlt' : ((L.drop k1).take k2).length = k2 := by rw [List.length_take]; omega
              have hjj : j - k1 < k2 := by have := HK3.out; omega
              obtain ⟨b3, rfl, hc3, hz3⟩ := ent_cell HO37.out hlt' (j - k1) 8 (by omega) (.int .i64 j) (by
                rw [List.getElem_take, List.getElem_drop]
                simp only [Ent.cells]
                rw [HST.out (k1 + (j - k1)) (by omega)]
                show some (Value.int .i64 ((k1 + (j - k1) : Nat) : Int)) = _
                rw [show k1 + (j - k1) = j by omega])
              replace hz3 : wr.cell? ⟨b3, (j - k1) * 10 + 8, none⟩ = some (.int .i64 j) := by rw [HWR.out]; exact hz3
              have hw : IntKind.i64.wrap ((j : Int) - (k1 : Int)) = ((j - k1 : Nat) : Int) := by rw [IntWalk.i64_in _ (by omega)]; omega
              have HJ := Lib.hid (rfl : j - k1 = j - k1)
              have hjj' : ((j - k1 : Nat) : Int) < (k2 : Int) := by omega
              have hd1 : decide (k1 ≤ j) = true := decide_eq_true (by omega)
              have hd2 : decide (j < k1) = false := decide_eq_false (by omega)
              clear hlt' hk2'
              generalize j - k1 = jj at *
              go_wp2_with fail
              go_quiet (fail)
              go_wp2_with fail
              refine ⟨⟨j + 1, n + nq, hjk, by go_num, by rw [HWR.out, drewN_two]⟩, by simp [intOf]; omega⟩
          · obtain rfl : j = k3 := by omega
            have hPe : PastAt wr W.heap.size gp A4 c4 (max p q) ((L.drop k1).drop k2) := by rw [HWR.out, ← HFP.out]; exact HP7.out
            have HPE := Lib.hid (push_n_early wr W.heap.size gp _ _ _ _ hPe ((HNO.out.drop k1).drop k2) (-1) 0 0 0 0 0 0 0 0 (by omega))
            have hbw : Below W.heap.size W wr := by rw [HWR.out]; exact pw_below_drewN HB7.out n
            have HBW := Lib.hid hbw
            have hsw := hbw.size
            clear hPe hbw
            go_wp2_with fail
            refine HPE.out.mono ?_
            rintro e w13 ⟨rfl, hb13⟩
            go_wp2_with fail
            go_ret
            exact ⟨rfl, HBW.out.trans (hb13.mono hsw)⟩
  · have hlt : 60 < len := by omega
    go_enter Try.func3, Try.ntmps3
    go_wp2
    go_ret
    exact ⟨rfl, Below.refl _ _⟩
end Go.Proofs.Ytemedggbodkhcaa.Past
