/- past: the walk of PastBack. -/
import Derived.Test.YtemedggbodkhcaaBackW
import Derived.Deep.RegionHeld3
import Derived.IntWalk
import Derived.Deep.QuietTactic
import Derived.BigQuiet
set_option linter.unusedVariables false
set_option linter.unusedSimpArgs false
namespace Go.Proofs.Ytemedggbodkhcaa.Past
open Go.RowKit Go.Proofs.YtemedggbodkhcaaW.PrintWords Go.Proofs.YtemedggbodkhcaaW.PrintLast
attribute [local go_sem high] RefCmp.eqA29
set_option maxHeartbeats 4000000 in
set_option maxRecDepth 100000 in
theorem back_walk (W : World) (a : Option Addr) (len cap : Nat) (z : List Int) (p : Int) (hz : U8 W a len cap z) (hp : (Lit.int .u8 p).wf = true) :
    Calls Try.prog 4 #[.slice a len cap, .int .u8 p] W fun e W' => e = .returned (.bool true) ∧ Below W.heap.size W W' := by
  have hu32 := Try.underlying32
  have hu65 := Try.underlying65
  have hu35 := Try.underlying35
  have hu27 := Try.underlying27
  have hu29 := Try.underlying29
  have hu22 := Try.underlying22
  obtain ⟨i0, hi, hiz0, hiz1, hiz2⟩ := info_parts info32
  obtain ⟨hp0, hp1⟩ := u8_bd hp
  have hbd := hz.bd
  have HBD := Lib.hid hbd
  have HZ := Lib.hid hz
  clear hz hbd hp
  by_cases hl : len ≤ 60
  · go_enter Try.func4, Try.ntmps4
    go_wp2_with fail
    refine (new_n W W.heap.size (Nat.le_refl _)).mono ?_
    rintro e w1 ⟨gp, rfl, hP1, hb1, hg1⟩
    have hz1 := hb1.size
    have hgl1 := hP1.lt.1
    obtain ⟨w2, hw2⟩ : ∃ w2, w2 = w1.alloc (.cells #[] 32) := ⟨_, rfl⟩
    have hb12 : Below w1.heap.size w1 w2 := by rw [hw2]; exact (Below.refl _ _).alloc (Nat.le_refl _) _
    have HO2 : Hid (w2.ownsRow W.heap.size 32 10 (.slice (some ⟨w1.heap.size, 0, none⟩) 0 0) 0 []) := Lib.hid (by rw [hw2]; exact own_mono (World.ownsRow_lit (base := w1.heap.size) (e := 32) (size := 10) w1 #[] 0 (Nat.le_refl _) (by unfold maxLen; omega) rfl) hz1)
    have HP2 := Lib.hid (hP1.below hb12)
    have HB2 := Lib.hid (hb1.trans (hb12.mono hz1))
    have HW2 := Lib.hid hw2
    clear hP1 hb1 hb12 hw2
    go_wp2_with fail
    rw [← HW2.out]
    go_loopw [6, 7, 8] (fun t al i wr => ∃ (A : Option Addr) (c : Nat) (Aa : Option Addr) (ca k : Nat), k ≤ len ∧ i = .int .i64 k ∧ t = .int .i64 (sumTo z k) ∧ al = .slice Aa k ca ∧ PastAt wr W.heap.size gp A c 0 (entsA 1 z k) ∧ wr.ownsRow W.heap.size 32 10 (.slice Aa k ca) k (flat (entsA 1 z k)) ∧ (∀ b, ablk A = some b → ablk Aa ≠ some b) ∧ Below W.heap.size W wr) (fun _ _ i _ => len - (intOf i).toNat)
    case atStart => exact ⟨none, 0, _, 0, 0, Nat.zero_le _, rfl, rfl, rfl, HP2.out, HO2.out, (fun b h => by cases h), HB2.out⟩
    case round =>
      obtain ⟨Ap, cp, Aa, ca, k, hk, rfl, rfl, rfl, hP, hO, hap, hB⟩ := hrel
      by_cases hlt : k < len
      · obtain ⟨x, rfl, hlc, hcell⟩ := HZ.out.cell k hlt
        have hcell2 := (hB.cell (p := x.add k) (World.block_lt_of_cell? W _ hcell)).trans hcell
        have hzk := HBD.out k hlt
        have hs0 := sumTo_bd z len HBD.out k hk
        have hsuc : sumTo z k + z.getD k 0 = sumTo z (k + 1) := rfl
        obtain ⟨hz0', hz1'⟩ := hzk
        obtain ⟨hs0', hs1'⟩ := hs0
        obtain ⟨W1, hW1⟩ : ∃ W1, W1 = wr.alloc (.cells #[.int .i64 (sumTo z (k + 1)), .int .i64 0, .int .i64 k, .int .i64 0, .int .i64 0, .int .i64 k, .int .i64 0, .int .i64 0, .int .i64 k, .slice none 0 0] 32) := ⟨_, rfl⟩
        have hB01 : Below wr.heap.size wr W1 := by rw [hW1]; exact (Below.refl _ wr).alloc (Nat.le_refl _) _
        have hs1 := hB01.size
        have bE : W1.heap[wr.heap.size]? = some (.cells #[.int .i64 (sumTo z (k + 1)), .int .i64 0, .int .i64 k, .int .i64 0, .int .i64 0, .int .i64 k, .int .i64 0, .int .i64 0, .int .i64 k, .slice none 0 0] 32 (0, 0)) := by rw [hW1]; exact blk_new' _ _
        have hlen := entsA_len 1 z k
        have hpush1 := push_n W1 W.heap.size gp Ap cp 0 (entsA 1 z k) (hP.below hB01) (entsA_noO 1 z k) (sumTo z (k + 1)) 0 k 0 0 k 0 0 k (sumTo_bd z len HBD.out (k + 1) hlt).1 (fun l hl => entsA_last 1 z len k HBD.out hlt l hl) (by rw [hlen]; omega)
        have HPU := Lib.hid hpush1
        have HSU := Lib.hid hsuc
        have HW1 := Lib.hid hW1
        have BE := Lib.hid bE
        have HPa := Lib.hid hP
        have HOa := Lib.hid hO
        have HO1 := Lib.hid (own_below hO hB01)
        have HAP := Lib.hid hap
        have HBa := Lib.hid (hB.trans (hB01.mono hB.size))
        have hsz := hB.size
        have HL := Lib.hid hlen
        clear hpush1 hsuc hW1 bE hP hO hap hB hB01 hcell hlen
        have hki : (k : Int) < (len : Int) := by omega
        generalize z.getD k 0 = v at *
        generalize sumTo z k = s at *
        go_wp2_with fail
        rw [HSU.out, ← HW1.out]
        refine HPU.out.mono ?_
        rintro e w3 ⟨Ap', cp', rfl, hP3, hK3, hB3, hA3⟩
        have hle := HPa.out.lt
        have hnfe : ¬ FP gp Ap wr.heap.size := fun h => by
          rcases h with h | h
          · have := hle.1; omega
          · have := (hle.2.1 _ h).2; omega
        have bE2 := blk_kept BE.out hK3 hnfe
        have E0 := mcell bE2 0
        have E1 := mcell bE2 1
        have E2 := mcell bE2 2
        have E3 := mcell bE2 3
        have E4 := mcell bE2 4
        have E5 := mcell bE2 5
        have E6 := mcell bE2 6
        have E7 := mcell bE2 7
        have E8 := mcell bE2 8
        have E9 := mcell bE2 9
        simp at E0 E1 E2 E3 E4 E5 E6 E7 E8 E9
        have hO3 := own_keep HO1.out hK3 (fun b hb h => by
          rw [ablk_own] at hb
          rcases h with h | h
          · exact own_apart HOa.out HPa.out.1 (by decide) (by rw [← h]; exact hb)
          · exact HAP.out b h hb)
        have hap3 : ∀ b, ablk Ap' = some b → ablk Aa ≠ some b := fun b hb e => by
          rcases hA3 with q | q
          · exact HAP.out b (by rw [← q]; exact hb) e
          · have h1 := q b hb
            have h2 := own_lt HO1.out b (by rw [ablk_own]; exact e)
            omega
        have HP3 := Lib.hid hP3
        have HO3 := Lib.hid hO3
        have HAP3 := Lib.hid hap3
        have HB3 := Lib.hid (HBa.out.trans hB3)
        have hsz3 := hB3.size
        have HN := Lib.hid (World.news_of_block (heap_alloc_new w3 (.cells #[.int .i64 (sumTo z (k + 1)), .int .i64 0, .int .i64 k, .int .i64 0, .int .i64 0, .int .i64 k, .int .i64 0, .int .i64 0, .int .i64 k, .slice none 0 0] 32)))
        clear bE2 hP3 hK3 hB3 hA3 hnfe hle hO3 hap3
        go_wp2_with (at_builtin; go_loud (refine wpList_append_lies _ rfl (.tmp 46) (.tmp 48) 35 rfl W.heap.size 32 i0 _ 10 96 Try.underlying35 hi hiz0 hiz1 hiz2 rfl (by decide) (.slice Aa k ca) k (flat (entsA 1 z k)) rfl (HO3.out.alloc _) ⟨w3.heap.size, 0, none⟩ 1 1 [.int .i64 (sumTo z (k + 1)), .int .i64 0, .int .i64 k, .int .i64 0, .int .i64 0, .int .i64 k, .int .i64 0, .int .i64 0, .int .i64 k, .slice none 0 0] (by rfl) rfl (by simpa using HN.out) (by simp [Value.oneCell']) (by decide) (by unfold maxLen; omega) (by omega) (by simp; omega) (w3.heap.size + 1) (by simp) ?_); go_loud (intro gA capA w4 hown hg hat hlt4))
        have hK34 : Kept w3 w4 (fun b => ablk Aa = some b) := Kept.of_grown hg ((Kept.refl w3 _).alloc _) (fun b hb => .inl (by rw [ablk_own] at hb; exact hb))
        have hP4 := HP3.out.kept hK34 (fun h => own_apart HO3.out HP3.out.1 (by decide) h) (fun b hb h => HAP3.out b hb h)
        have hfl : flat (entsA 1 z k) ++ [.int .i64 (sumTo z (k + 1)), .int .i64 0, .int .i64 k, .int .i64 0, .int .i64 0, .int .i64 k, .int .i64 0, .int .i64 0, .int .i64 k, .slice none 0 0] = flat (entsA 1 z (k + 1)) := by
          rw [entsA_succ1, flat_append]
          rfl
        rw [hfl] at hown
        have hap4 : ∀ b, ablk Ap' = some b → ablk (some (⟨gA, 0, none⟩ : Addr)) ≠ some b := fun b hb e => by
          have e' : gA = b := Option.some.inj e
          rcases hat with q | q
          · exact HAP3.out b hb (by rw [← ablk_own Aa k ca, q, e'])
          · have := (HP3.out.lt.2.1 b hb).2
            omega
        have hB4 : Below W.heap.size W w4 := (HB3.out.alloc HB3.out.size _).grown hg (by simp; omega) (fun q hq => own_base HO3.out q hq)
        exact ⟨⟨Ap', cp', some ⟨gA, 0, none⟩, capA, k + 1, hlt, by go_num, rfl, rfl, (by rw [entsA_succ1]; exact hP4), hown, hap4, hB4⟩, by simp [intOf]; omega⟩
      · obtain rfl : k = len := by omega
        obtain ⟨W1, hW1⟩ : ∃ W1, W1 = wr.alloc (.cells #[.int .i64 (p * 8), .int .i64 0, .int .i64 0] 27) := ⟨_, rfl⟩
        have hB01 : Below wr.heap.size wr W1 := by rw [hW1]; exact (Below.refl _ wr).alloc (Nat.le_refl _) _
        have hs1 := hB01.size
        have bK : W1.heap[wr.heap.size]? = some (.cells #[.int .i64 (p * 8), .int .i64 0, .int .i64 0] 27 (0, 0)) := by rw [hW1]; exact blk_new' _ _
        have hmono : ∀ x y (hx : x < (entsA 1 z k).length) (hy : y < (entsA 1 z k).length), x ≤ y → ¬ (kc ((entsA 1 z k)[x]).t ((entsA 1 z k)[x]).f ((entsA 1 z k)[x]).s (p * 8) 0 0 < 0) → ¬ (kc ((entsA 1 z k)[y]).t ((entsA 1 z k)[y]).f ((entsA 1 z k)[y]).s (p * 8) 0 0 < 0) := by
          intro x y hx hy hxy h
          rw [entsA_len] at hx hy
          rw [entsA_get] at h ⊢
          have := sumTo_mono z k HBD.out (x + 1) (y + 1) (by omega) (by omega)
          rw [kc_lt] at h ⊢
          simp only [entA] at h ⊢
          omega
        have hBA := back_at W1 W.heap.size gp cp Ap 0 (entsA 1 z k) (hP.below hB01) (p * 8) 0 0 hmono
        have hszr := hB.size
        have hgw := hP.lt.1
        have HBA := Lib.hid hBA
        have HW1 := Lib.hid hW1
        have HK0 := Lib.hid bK
        have HP1 := Lib.hid (hP.below hB01)
        have HO1 := Lib.hid (own_below hO hB01)
        have HAP := Lib.hid hap
        have HB1 := Lib.hid (hB.trans (hB01.mono hszr))
        have hlen := entsA_len 1 z k
        have HLE := Lib.hid hlen
        have K0 := mcell bK 0
        have K1 := mcell bK 1
        have K2 := mcell bK 2
        simp at K0 K1 K2
        rw [hW1] at K0 K1 K2
        clear hmono hBA hW1 bK hP hO hap hB hB01 hlen
        go_wp2_with fail
        rw [← HW1.out]
        refine HBA.out.mono ?_
        rintro e w5 ⟨k1, A1, c1, rfl, h1, h2, h3, ho, hP5, hK5, hB5⟩
        rw [HLE.out] at h1 ho
        rw [HLE.out]
        have hgl := HP1.out.lt.1
        have hB5' := hB5 W.heap.size HP1.out.2.2.1 (by omega)
        have hbk : BK W.heap.size gp z k k1 A1 c1 Aa ca wr.heap.size (p * 8) Ap cp k1 w5 := by
          have hl1 := (HP1.out).lt
          refine ⟨by rw [← entsA_take 1 z k k1 h1]; exact hP5, own_mono ho (by omega), own_keep HO1.out hK5 (fun b hb h => own_apart HO1.out HP1.out.1 (by decide) (by rw [← h, ← hb, ablk_own])), blk_kept HK0.out hK5 (fun e => by omega), fun b hb e => ?_, HAP.out⟩
          have h4 := own_base ho b (by rw [ablk_own]; exact e)
          have h5 := (hl1.2.1 b hb).2
          omega
        have HBK := Lib.hid hbk
        have HB5 := Lib.hid (HB1.out.trans hB5')
        have H2 := Lib.hid h2
        have H3 := Lib.hid h3
        clear hbk hB5 hB5' ho hP5 hK5 h2 h3 K0 K1 K2
        go_wp2_with fail
        refine (len_at _ _ _ _ _ _ _ HBK.out.past).mono ?_
        rintro e w6 ⟨rfl, rfl⟩
        rw [entsA_len]
        have hkk : ((k1 : Int) + ((k - k1 : Nat) : Int) != (k : Int)) = false := by rw [bne_eq_false_iff_eq]; omega
        have hkc : k - k1 ≤ 60 := by omega
        go_wp2_with fail
        obtain ⟨wo, hwo⟩ : ∃ wo, wo = wr := ⟨_, rfl⟩
        subst hwo
        go_loopw [13] (fun i wr => ∃ (A : Option Addr) (c q : Nat), k1 ≤ q ∧ q ≤ k ∧ ((q < k ∧ i = .int .i64 ((k - 1 - q : Nat) : Int)) ∨ (q = k ∧ i = .int .i64 (-1))) ∧ BK W.heap.size gp z k k1 A1 c1 Aa ca wo.heap.size (p * 8) A c q wr ∧ Below W.heap.size W wr) (fun i _ => (intOf i + 1).toNat)
        case atStart =>
          refine ⟨Ap, cp, k1, Nat.le_refl _, h1, ?_, HBK.out, HB5.out⟩
          by_cases hk1 : k1 < k
          · exact .inl ⟨hk1, by congr 1; omega⟩
          · exact .inr ⟨by omega, by congr 1; omega⟩
        case round =>
          obtain ⟨A, c, q, hq1, hq2, hi2, hbk, hB⟩ := hrel
          rcases hi2 with ⟨hqk, rfl⟩ | ⟨hqk, rfl⟩
          · obtain ⟨m, hm⟩ : ∃ m, m = k - 1 - q := ⟨_, rfl⟩
            have hml : m < ((entsA 1 z k).drop k1).reverse.length := by simp [entsA_len]; omega
            have hcellm : ∀ j u, (entA 1 z q).cells[j]? = some u → ∃ b, A1 = some ⟨b, 0, none⟩ ∧ k - k1 ≤ c1 ∧ wr.cell? ⟨b, m * 10 + j, none⟩ = some u := by
              intro j u hu
              refine ent_cell hbk.gone (by simp [entsA_len]) m j hml u ?_
              subst hm
              rw [rev_get (entsA_len 1 z k) hq1 hqk hml, entsA_get]
              exact hu
            rw [entA1_cells] at hcellm
            obtain ⟨b1, rfl, hcc, _⟩ := hcellm 0 _ rfl
            have hcs : ∀ j u, ([.int .i64 (sumTo z (q + 1)), .int .i64 0, .int .i64 q, .int .i64 0, .int .i64 0, .int .i64 q, .int .i64 0, .int .i64 0, .int .i64 q, .slice none 0 0] : List Value)[j]? = some u → wr.cell? ⟨b1, m * 10 + j, none⟩ = some u := by
              intro j u hu
              obtain ⟨b, e, _, h⟩ := hcellm j u hu
              cases e
              exact h
            have d0 := hcs 0 _ rfl
            have d1 := hcs 1 _ rfl
            have d2 := hcs 2 _ rfl
            have d3 := hcs 3 _ rfl
            have d4 := hcs 4 _ rfl
            have d5 := hcs 5 _ rfl
            have d6 := hcs 6 _ rfl
            have d7 := hcs 7 _ rfl
            have d8 := hcs 8 _ rfl
            have d9 := hcs 9 _ rfl
            rw [Nat.add_zero] at d0
            have K0 := mcell hbk.key 0
            have K1 := mcell hbk.key 1
            have K2 := mcell hbk.key 2
            simp at K0 K1 K2
            have hcmp : decide (kc (sumTo z (q + 1)) 0 q (p * 8) 0 0 < 0) = false := by
              have := H3.out q (by rw [entsA_len]; exact hqk) hq1
              rw [entsA_get] at this
              simp only [entA] at this
              exact decide_eq_false (by omega)
            have hNF := hbk.notFP
            have hnk := hNF.1
            have hnb := hNF.2.1 b1 rfl
            have hPU : ∀ w5, Below wr.drew.heap.size wr.drew w5 → Calls Try.prog 9 #[.pointer (some ⟨gp, 0, none⟩), .agg #[.int .i64 (sumTo z (q + 1)), .int .i64 0, .int .i64 q, .int .i64 0, .int .i64 0, .int .i64 q, .int .i64 0, .int .i64 0, .int .i64 q, .slice none 0 0]] w5 (PushP w5 W.heap.size gp A 0 (entsA 1 z q) ⟨sumTo z (q + 1), 0, q, 0, 0, q, 0, 0, q, none, 0, 0⟩) := fun w5 hb => by
              have hlen := entsA_len 1 z q
              exact push_n w5 W.heap.size gp A c 0 (entsA 1 z q) (hbk.past.below ⟨hb.os, hb.tape, hb.output, hb.size, hb.block⟩) (entsA_noO 1 z q) (sumTo z (q + 1)) 0 q 0 0 q 0 0 q (sumTo_bd z k HBD.out (q + 1) hqk).1 (fun l hl => entsA_last 1 z k q HBD.out hqk l hl) (by rw [hlen]; omega)
            have HPU := Lib.hid hPU
            have HBK2 := Lib.hid hbk
            have HB2' := Lib.hid hB
            have hwsub : IntKind.i64.wrap (((k : Int) - 1) - (m : Int)) = (q : Int) := by rw [IntWalk.i64_in _ (by omega)]; omega
            have hmlt : (m : Int) < ((k - k1 : Nat) : Int) := by omega
            have hmlt2 : m < k - k1 := by omega
            have HM := Lib.hid hm
            have hk1w : IntKind.i64.wrap ((k : Int) - 1) = (k : Int) - 1 := IntWalk.i64_in _ (by omega)
            rw [← hm]
            clear hcellm hcs hml hNF hPU hbk hB hm
            go_wp2_with fail
            go_region_held3 (fun w' => w'.cell? ⟨b1, m * 10, none⟩ = some (.int .i64 (sumTo z (q + 1))) ∧ w'.cell? ⟨b1, m * 10 + 1, none⟩ = some (.int .i64 0) ∧ w'.cell? ⟨b1, m * 10 + 2, none⟩ = some (.int .i64 q) ∧ w'.cell? ⟨b1, m * 10 + 3, none⟩ = some (.int .i64 0) ∧ w'.cell? ⟨b1, m * 10 + 4, none⟩ = some (.int .i64 0) ∧ w'.cell? ⟨b1, m * 10 + 5, none⟩ = some (.int .i64 q) ∧ w'.cell? ⟨b1, m * 10 + 6, none⟩ = some (.int .i64 0) ∧ w'.cell? ⟨b1, m * 10 + 7, none⟩ = some (.int .i64 0) ∧ w'.cell? ⟨b1, m * 10 + 8, none⟩ = some (.int .i64 q) ∧ w'.cell? ⟨b1, m * 10 + 9, none⟩ = some (.slice none 0 0) ∧ w'.cell? ⟨wo.heap.size, 0, none⟩ = some (.int .i64 (p * 8)) ∧ w'.cell? ⟨wo.heap.size, 1, none⟩ = some (.int .i64 0) ∧ w'.cell? ⟨wo.heap.size, 2, none⟩ = some (.int .i64 0))
              ((go_split_ands; refine ⟨?_, ?_, ?_, ?_, ?_, ?_, ?_, ?_, ?_, ?_, ?_, ?_, ?_⟩ <;> first | assumption | exact pw_cell_below hb5 (by assumption) | exact cell_kept (by assumption) hK6 (by assumption)))
              (first | (go_at_call 14; refine (RefCmp.ref_cmp _ _ _ _ _ _ _).mono ?_; rintro e w5 ⟨rfl, hb5⟩) | (go_at_call 9; refine (HPU.out _ hb5).mono ?_; rintro e w6 ⟨A6, c6, rfl, hP6, hK6, hB6, hA6⟩))
            have hb5' : Below wr.heap.size wr w5 := ⟨hb5.os, hb5.tape, hb5.output, hb5.size, hb5.block⟩
            have hBKn := (HBK2.out.below hb5').push (by rw [entsA_succ1]; exact hP6) hK6 hA6
            have HBKn := Lib.hid hBKn
            have HB6 := Lib.hid (HB2'.out.trans ((hb5'.mono HB2'.out.size).trans hB6))
            clear hBKn hb5' hb5 hP6 hK6 hB6 hA6
            go_wp2_with fail
            refine ⟨⟨A6, c6, q + 1, by omega, by omega, ?_, HBKn.out, HB6.out⟩, by (simp [intOf]) <;> omega⟩
            have := HM.out
            by_cases hqk' : q + 1 < k
            · exact .inl ⟨hqk', by congr 1; omega⟩
            · exact .inr ⟨by omega, by congr 1; omega⟩
          · subst hqk
            have HBK2 := Lib.hid hbk
            have HB2' := Lib.hid hB
            clear hbk hB
            go_wp2_with fail
            go_loopw [14] (fun i wr => ∃ j : Nat, j ≤ k1 ∧ i = .int .i64 j ∧ BK W.heap.size gp z q k1 A1 c1 Aa ca wo.heap.size (p * 8) A c q wr ∧ Below W.heap.size W wr) (fun i _ => k1 - (intOf i).toNat)
            case atStart => exact ⟨0, Nat.zero_le _, rfl, HBK2.out, HB2'.out⟩
            case round =>
              obtain ⟨j, hj, rfl, hbk, hB⟩ := hrel
              by_cases hjk : j < k1
              · obtain ⟨ba, rfl, hcca, hcs⟩ := all_cells hbk.all (entsA_len 1 z q) j (by omega)
                rw [entsA_get, entA1_cells] at hcs
                have d0 := hcs 0 _ rfl
                have d1 := hcs 1 _ rfl
                have d2 := hcs 2 _ rfl
                rw [Nat.add_zero] at d0
                have K0 := mcell hbk.key 0
                have K1 := mcell hbk.key 1
                have K2 := mcell hbk.key 2
                simp at K0 K1 K2
                have hcmp : decide (0 ≤ kc (sumTo z (j + 1)) 0 j (p * 8) 0 0) = false := by
                  have := H2.out j (by rw [entsA_len]; omega) hjk
                  rw [entsA_get] at this
                  simp only [entA] at this
                  exact decide_eq_false (by omega)
                have HBK3 := Lib.hid hbk
                have HB3' := Lib.hid hB
                have hjq : (j : Int) < (q : Int) := by omega
                have hjk1 : (j : Int) < (k1 : Int) := by omega
                clear hcs hbk hB
                go_wp2_with fail
                go_region_held3 (fun w' => w'.cell? ⟨ba, j * 10, none⟩ = some (.int .i64 (sumTo z (j + 1))) ∧ w'.cell? ⟨ba, j * 10 + 1, none⟩ = some (.int .i64 0) ∧ w'.cell? ⟨ba, j * 10 + 2, none⟩ = some (.int .i64 j) ∧ w'.cell? ⟨wo.heap.size, 0, none⟩ = some (.int .i64 (p * 8)) ∧ w'.cell? ⟨wo.heap.size, 1, none⟩ = some (.int .i64 0) ∧ w'.cell? ⟨wo.heap.size, 2, none⟩ = some (.int .i64 0))
                  ((go_split_ands; refine ⟨?_, ?_, ?_, ?_, ?_, ?_⟩ <;> first | assumption | exact pw_cell_below hb5 (by assumption)))
                  (first | (go_at_call 14; refine (RefCmp.ref_cmp _ _ _ _ _ _ _).mono ?_; rintro e w5 ⟨rfl, hb5⟩))
                have hb5' : Below wr.heap.size wr w5 := ⟨hb5.os, hb5.tape, hb5.output, hb5.size, hb5.block⟩
                have HBKn := Lib.hid (HBK3.out.below hb5')
                have HB6 := Lib.hid (HB3'.out.trans (hb5'.mono HB3'.out.size))
                clear hb5' hb5
                go_wp2_with fail
                exact ⟨⟨j + 1, hjk, by go_num, HBKn.out, HB6.out⟩, by simp [intOf]; omega⟩
              · obtain rfl : j = k1 := by omega
                have HSE := Lib.hid (settle_n wr W.heap.size gp _ _ _ _ hbk.past 1099511627776 (entsA_mono 1 z q HBD.out _))
                have HBK3 := Lib.hid hbk
                have HB3' := Lib.hid hB
                clear hbk hB
                go_wp2_with fail
                refine HSE.out.mono ?_
                rintro e w5 ⟨k5, A5, c5, A6, c6, rfl, h5, h6, h7, ho5, hP5, hK5, hB5, _⟩
                have hk5 : k5 = q := by
                  rw [entsA_len] at h5
                  rcases Nat.lt_or_ge k5 q with h | h
                  · exfalso
                    have := h7 k5 (by rw [entsA_len]; exact h) (Nat.le_refl _)
                    rw [entsA_get] at this
                    have hbd2 := sumTo_bd z q HBD.out (k5 + 1) (by omega)
                    simp only [entA] at this
                    omega
                  · omega
                rw [hk5] at ho5 hP5
                rw [hk5]
                have hall5 := own_keep HBK3.out.all hK5 (fun b hb h => own_apart HBK3.out.all HBK3.out.past.1 (by decide) (by rw [← h, ← hb, ablk_own]))
                have HO5 := Lib.hid ho5
                have HP5 := Lib.hid hP5
                have HALL := Lib.hid hall5
                have HB5' := Lib.hid (HB3'.out.trans hB5)
                clear ho5 hP5 hall5 hB5 h6 h7 h5 hk5
                go_wp2_with fail
                go_loopw [16] (fun s wr => ∃ (i n : Nat), i ≤ q ∧ s = .int .i64 i ∧ wr = w5.drewN n) (fun s _ => q - (intOf s).toNat)
                case atStart => exact ⟨0, 0, Nat.zero_le _, rfl, rfl⟩
                case round =>
                  obtain ⟨i, n, hi, rfl, hwr⟩ := hrel
                  have HWR := Lib.hid hwr
                  clear hwr
                  by_cases hiq : i < q
                  · obtain ⟨ba, rfl, hcca, hcs'⟩ := all_cells HALL.out (entsA_len 1 z q) i hiq
                    rw [entsA_get, entA1_cells] at hcs'
                    obtain ⟨b5, rfl, hcc5, hcs5'⟩ := all_cells HO5.out (by rw [List.length_take, entsA_len]; omega) i hiq
                    rw [List.getElem_take, entsA_get, entA1_cells] at hcs5'
                    have hcs : ∀ j u, ([.int .i64 (sumTo z (i + 1)), .int .i64 0, .int .i64 i, .int .i64 0, .int .i64 0, .int .i64 i, .int .i64 0, .int .i64 0, .int .i64 i, .slice none 0 0] : List Value)[j]? = some u → wr.cell? ⟨ba, i * 10 + j, none⟩ = some u := fun j u hu => by rw [HWR.out]; exact hcs' j u hu
                    have hcs5 : ∀ j u, ([.int .i64 (sumTo z (i + 1)), .int .i64 0, .int .i64 i, .int .i64 0, .int .i64 0, .int .i64 i, .int .i64 0, .int .i64 0, .int .i64 i, .slice none 0 0] : List Value)[j]? = some u → wr.cell? ⟨b5, i * 10 + j, none⟩ = some u := fun j u hu => by rw [HWR.out]; exact hcs5' j u hu
                    have d0 := hcs 0 _ rfl
                    have d1 := hcs 1 _ rfl
                    have d2 := hcs 2 _ rfl
                    have d3 := hcs 3 _ rfl
                    have d4 := hcs 4 _ rfl
                    have d5 := hcs 5 _ rfl
                    have d8 := hcs 8 _ rfl
                    have f0 := hcs5 0 _ rfl
                    have f1 := hcs5 1 _ rfl
                    have f2 := hcs5 2 _ rfl
                    have f3 := hcs5 3 _ rfl
                    have f4 := hcs5 4 _ rfl
                    have f5 := hcs5 5 _ rfl
                    have f8 := hcs5 8 _ rfl
                    rw [Nat.add_zero] at d0 f0
                    have hiq' : (i : Int) < (q : Int) := by omega
                    clear hcs hcs' hcs5 hcs5'
                    go_wp2_with fail
                    go_quiet (fail)
                    go_wp2_with fail
                    exact ⟨⟨i + 1, n + nq, hiq, by go_num, by rw [HWR.out, drewN_two]⟩, by simp [intOf]; omega⟩
                  · obtain rfl : i = q := by omega
                    have hPe : PastAt wr W.heap.size gp A6 c6 (max 0 1099511627776) ((entsA 1 z i).drop i) := by rw [HWR.out]; exact HP5.out
                    have HPE := Lib.hid (push_n_early wr W.heap.size gp _ _ _ _ hPe ((entsA_noO 1 z i).drop i) 0 0 0 0 0 0 0 0 0 (by omega))
                    have hbw : Below W.heap.size W wr := by rw [HWR.out]; exact pw_below_drewN HB5'.out n
                    have HBW := Lib.hid hbw
                    have hsw := hbw.size
                    clear hPe hbw
                    go_wp2_with fail
                    refine HPE.out.mono ?_
                    rintro e w13 ⟨rfl, hb13⟩
                    go_wp2_with fail
                    go_ret
                    exact ⟨rfl, HBW.out.trans (hb13.mono hsw)⟩
  · have hlt : 60 < len := by omega
    go_enter Try.func4, Try.ntmps4
    go_wp2
    go_ret
    exact ⟨rfl, Below.refl _ _⟩
end Go.Proofs.Ytemedggbodkhcaa.Past
