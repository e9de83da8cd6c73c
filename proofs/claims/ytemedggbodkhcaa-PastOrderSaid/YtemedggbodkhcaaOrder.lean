/- past: the walk of PastOrder. -/
import Derived.Test.YtemedggbodkhcaaOrd
import Derived.Deep.RegionHeld3
import Derived.IntWalk
import Derived.Deep.QuietTactic
import Derived.BigQuiet
set_option linter.unusedVariables false
set_option linter.unusedSimpArgs false
namespace Go.Proofs.Ytemedggbodkhcaa.Past
open Go.RowKit Go.Proofs.YtemedggbodkhcaaW.PrintWords Go.Proofs.YtemedggbodkhcaaW.PrintLast
theorem add_split (x : Addr) (n j : Nat) (hj : 0 < j) : x.add (n + j) = ⟨(x.add n).block, (x.add n).off + j, none⟩ := by
  unfold Addr.add
  rw [if_neg (by omega)]
  split
  · rename_i h; subst h; simp
  · simp [Nat.add_assoc]
theorem past_drew {w : World} {B g : Nat} {A : Option Addr} {c : Nat} {fl : Int} {L : List Ent} (h : PastAt w B g A c fl L) : PastAt w.drew B g A c fl L := h
theorem past_drewN {w : World} {B g : Nat} {A : Option Addr} {c : Nat} {fl : Int} {L : List Ent} (h : PastAt w B g A c fl L) (n : Nat) : PastAt (w.drewN n) B g A c fl L := h
theorem bool_two (b : Bool) : b = true ∨ b = false := by cases b <;> simp
set_option maxHeartbeats 8000000 in
set_option maxRecDepth 100000 in
theorem order_walk (W : World) (a : Option Addr) (cap : Nat) (len : Nat) (hb : Bool) (hcap : len ≤ cap)
    (hv : Calls Try.prog 15 #[.slice a len cap] W fun e w' => e = .returned (.bool hb) ∧ Below W.heap.size W w') (hs : hb = false → len ≤ 200 ∧ Steps W a len) :
    Calls Try.prog 6 #[.slice a len cap] W fun e W' => e = .returned (.bool true) ∧ Below W.heap.size W W' := by
  have hu32 := Try.underlying32
  have hu65 := Try.underlying65
  have hu35 := Try.underlying35
  have hu27 := Try.underlying27
  have hu29 := Try.underlying29
  have hu45 := Try.underlying45
  have hu43 := Try.underlying43
  have hu47 := Try.underlying47
  obtain ⟨i0, hi, hiz0, hiz1, hiz2⟩ := info_parts info27
  have HV := Lib.hid hv
  have HS := Lib.hid hs
  clear hv hs
  go_enter Try.func6, Try.ntmps6
  go_wp2_with fail
  refine HV.out.mono ?_
  rintro e w1 ⟨rfl, hb1⟩
  rcases bool_two hb with rfl | rfl
  · go_wp2_with fail
    go_ret
    exact ⟨rfl, hb1⟩
  · obtain ⟨hl200, hst⟩ := HS.out rfl
    have HST := Lib.hid hst
    have hz1 := hb1.size
    clear hst
    go_wp2_with fail
    refine (new_n w1 W.heap.size hz1).mono ?_
    rintro e w2 ⟨gp, rfl, hP2, hb2, hg2⟩
    have hgl := hP2.lt.1
    have hz2 := hb2.size
    obtain ⟨w3, hw3⟩ : ∃ w3, w3 = w2.alloc (.cells #[] 27) := ⟨_, rfl⟩
    have hb23 : Below w2.heap.size w2 w3 := by rw [hw3]; exact (Below.refl _ _).alloc (Nat.le_refl _) _
    have HO3 : Hid (w3.ownsRow W.heap.size 27 3 (.slice (some ⟨w2.heap.size, 0, none⟩) 0 0) 0 []) := Lib.hid (by rw [hw3]; exact own_mono (World.ownsRow_lit (base := w2.heap.size) (e := 27) (size := 3) w2 #[] 0 (Nat.le_refl _) (by unfold maxLen; omega) rfl) (by omega))
    have HOR : Hid (OR W gp none 0 0 [] [] (some ⟨w2.heap.size, 0, none⟩) 0 [] 0 w3) := Lib.hid ⟨⟨hP2.below hb23, .nil⟩, HO3.out, ⟨List.Pairwise.nil, (fun e he => by cases he), by omega⟩, ⟨List.Pairwise.nil, (fun e he => by cases he)⟩, by simp, (hb1.trans (hb2.mono hz1)).trans (hb23.mono (by omega))⟩
    have HW3 := Lib.hid hw3
    clear hP2 hb1 hb2 hb23 hw3
    go_wp2_with fail
    rw [← HW3.out]
    go_loopw [4, 5] (fun gn i wr => ∃ (A : Option Addr) (c : Nat) (fl : Int) (L : List Ent) (M : List (List Value)) (Ag : Option Addr) (cg : Nat) (G : List Ent) (k : Nat), k ≤ len ∧ i = .int .i64 k ∧ gn = .slice Ag G.length cg ∧ OR W gp A c fl L M Ag cg G k wr) (fun _ i _ => len - (intOf i).toNat)
    case atStart => exact ⟨none, 0, 0, [], [], _, 0, [], 0, Nat.zero_le _, rfl, rfl, HOR.out⟩
    case round =>
      obtain ⟨A, c, fl, L, M, Ag, cg, G, k, hk, rfl, rfl, hor⟩ := hrel
      have HOR2 := Lib.hid hor
      have hGb : G.length ≤ 64 * k := hor.bd
      clear hor
      by_cases hlt : k < len
      · have hki : (k : Int) < (len : Int) := by omega
        obtain ⟨x, kd, e, ms, rfl, hcs', hrd⟩ := HST.out k hlt
        obtain ⟨t, f, s, d, cl, bd, ah, se, st, oa, on_, oc⟩ := e
        simp only [Ent.cells, Ent.o] at hcs' hrd
        have hcs : ∀ j u, ([.int .i64 kd, .int .i64 t, .int .i64 f, .int .i64 s, .int .i64 d, .int .i64 cl, .int .i64 bd, .int .i64 ah, .int .i64 se, .int .i64 st, .slice oa on_ oc] : List Value)[j]? = some u → wr.cell? (x.add (k * 11 + j)) = some u := fun j u hu => pw_cell_below HOR2.out.below (hcs' j u hu)
        have d0 := hcs 0 _ rfl
        rw [Nat.add_zero] at d0
        have d1 := hcs 1 _ rfl
        rw [add_split x (k * 11) 1 (by decide)] at d1
        have d2 := hcs 2 _ rfl
        rw [add_split x (k * 11) 2 (by decide)] at d2
        have d3 := hcs 3 _ rfl
        rw [add_split x (k * 11) 3 (by decide)] at d3
        have d4 := hcs 4 _ rfl
        rw [add_split x (k * 11) 4 (by decide)] at d4
        have d5 := hcs 5 _ rfl
        rw [add_split x (k * 11) 5 (by decide)] at d5
        have d6 := hcs 6 _ rfl
        rw [add_split x (k * 11) 6 (by decide)] at d6
        have d7 := hcs 7 _ rfl
        rw [add_split x (k * 11) 7 (by decide)] at d7
        have d8 := hcs 8 _ rfl
        rw [add_split x (k * 11) 8 (by decide)] at d8
        have d9 := hcs 9 _ rfl
        rw [add_split x (k * 11) 9 (by decide)] at d9
        have d10 := hcs 10 _ rfl
        rw [add_split x (k * 11) 10 (by decide)] at d10
        have HRD := Lib.hid (hrd.below HOR2.out.below)
        clear hcs hcs' hrd
        by_cases hk0 : kd = 0
        · subst hk0
          have HPU := Lib.hid (push_q wr W.heap.size gp A c fl L M _ HOR2.out.po HOR2.out.gone_lt ⟨t, f, s, d, cl, bd, ah, se, st, oa, on_, oc⟩ ms HRD.out)
          simp only [Ent.val] at HPU
          go_wp2_with fail
          refine HPU.out.mono ?_
          rintro e w4 hpq
          obtain ⟨v, A', c', L', M', rfl, hor⟩ := HOR2.out.push hpq
          have HOR3 := Lib.hid hor
          clear hpq hor
          have hL64 : L'.length ≤ 64 := HOR3.out.po.past.2.2.2
          have hz4 := HOR3.out.below.size
          go_wp2_with fail
          refine (keys_at _ _ _ _ _ _ _ HOR3.out.po.past).mono ?_
          rintro e w7 ⟨A7, c7, rfl, ho7, hb7⟩
          have HOR4 := Lib.hid (HOR3.out.belows hb7)
          have HO7 := Lib.hid ho7
          clear hb7 ho7
          go_wp2_with fail
          obtain ⟨wo, hwo⟩ : ∃ wo, wo = wr := ⟨_, rfl⟩
          subst hwo
          go_loopw [9] (fun i wr => ∃ m : Nat, m ≤ L'.length ∧ i = .int .i64 m ∧ Below w7.heap.size w7 wr) (fun i _ => L'.length - (intOf i).toNat)
          case atStart => exact ⟨0, Nat.zero_le _, rfl, Below.refl _ _⟩
          case round =>
            obtain ⟨m, hm, rfl, hbm⟩ := hrel
            by_cases hml : m < L'.length
            · obtain ⟨b7, rfl, hc7, e0', e1', e2'⟩ := key_cells HO7.out rfl m hml
              have e0 := pw_cell_below hbm e0'
              have e1 := pw_cell_below hbm e1'
              have e2 := pw_cell_below hbm e2'
              have hfl := HOR4.out.inv.floor _ (List.getElem_mem hml)
              have HORw := Lib.hid (HOR4.out.belows hbm)
              have HBM := Lib.hid hbm
              have hmi : (m : Int) < (L'.length : Int) := by omega
              by_cases hm0 : m = 0
              · have hd1 : decide (L'[m].t < fl) = false := decide_eq_false (by omega)
                have hd2 : decide (0 < m) = false := decide_eq_false (by omega)
                have hd3 : decide ((0 : Int) < (m : Int)) = false := decide_eq_false (by omega)
                have HM0 := Lib.hid hm0
                clear hm0 e0' e1' e2' hbm e1 e2 hfl
                generalize L'[m] = em at *
                go_wp2_with fail
                go_quiet ((go_at_call 12; exact Calls.quiet_of_same (floor_at _ _ _ _ _ fl _ (past_drewN HORw.out.po.past _))))
                go_wp2_with fail
                exact ⟨⟨m + 1, hml, by go_num, pw_below_drewN HBM.out nq⟩, by simp [intOf]; omega⟩
              · obtain ⟨m', hm'⟩ : ∃ m', m = m' + 1 := ⟨m - 1, by omega⟩
                have hml' : m' < L'.length := by omega
                obtain ⟨b7', hb7', _, p0', p1', p2'⟩ := key_cells HO7.out rfl m' hml'
                obtain rfl : b7 = b7' := by cases hb7'; rfl
                have p0 := pw_cell_below hbm p0'
                have p1 := pw_cell_below hbm p1'
                have p2 := pw_cell_below hbm p2'
                have hkc := pw_get HOR4.out.inv.sorted m' m hml' hml (by omega)
                have hd1 : decide (L'[m].t < fl) = false := decide_eq_false (by omega)
                have hd2 : decide (0 < m) = true := decide_eq_true (by omega)
                have hd3 : decide ((0 : Int) < (m : Int)) = true := decide_eq_true (by omega)
                have hd4 : decide (0 ≤ kc L'[m'].t L'[m'].f L'[m'].s L'[m].t L'[m].f L'[m].s) = false := decide_eq_false (by omega)
                have hw : IntKind.i64.wrap ((m : Int) - 1) = ((m' : Nat) : Int) := by rw [IntWalk.i64_in _ (by omega)]; omega
                have hmi' : (m' : Int) < (L'.length : Int) := by omega
                have HM0 := Lib.hid hm'
                clear hm0 hm' e0' e1' e2' p0' p1' p2' hbm hb7' hkc hfl
                generalize L'[m] = em at *
                generalize L'[m'] = ep at *
                go_wp2_with fail
                go_region_held3 (fun w' => w'.cell? ⟨b7, m * 3, none⟩ = some (.int .i64 em.t) ∧ w'.cell? ⟨b7, m * 3 + 1, none⟩ = some (.int .i64 em.f) ∧ w'.cell? ⟨b7, m * 3 + 2, none⟩ = some (.int .i64 em.s) ∧ w'.cell? ⟨b7, m' * 3, none⟩ = some (.int .i64 ep.t) ∧ w'.cell? ⟨b7, m' * 3 + 1, none⟩ = some (.int .i64 ep.f) ∧ w'.cell? ⟨b7, m' * 3 + 2, none⟩ = some (.int .i64 ep.s))
                  ((go_split_ands; refine ⟨?_, ?_, ?_, ?_, ?_, ?_⟩ <;> first | assumption | exact pw_cell_below hb8 (by assumption)))
                  (first | (go_at_call 12; refine (floor_at _ _ _ _ _ fl _ (past_drew HORw.out.po.past)).mono ?_; rintro e w5 ⟨rfl, rfl⟩) | (go_at_call 14; refine (RefCmp.ref_cmp _ _ _ _ _ _ _).mono ?_; rintro e w8 ⟨rfl, hb8⟩))
                have hb8' : Below wr.heap.size wr w8 := ⟨hb8.os, hb8.tape, hb8.output, hb8.size, hb8.block⟩
                have HB8 := Lib.hid (HBM.out.trans (hb8'.mono HBM.out.size))
                clear hb8 hb8'
                go_wp2_with fail
                exact ⟨⟨m + 1, hml, by go_num, HB8.out⟩, by simp [intOf]; omega⟩
            · have HBM := Lib.hid hbm
              clear hbm
              go_wp2_with fail
              refine ⟨⟨A', c', fl, L', M', Ag, cg, G, k + 1, hlt, by go_num, rfl, HOR4.out.belows HBM.out⟩, by simp [intOf]; omega⟩
        · have hb0 : (kd == 0) = false := by rw [beq_eq_false_iff_ne]; exact hk0
          by_cases hk1 : kd = 1
          · subst hk1
            have HBA := Lib.hid (back_q wr W.heap.size gp c A fl L M _ HOR2.out.po t f s (HOR2.out.inv.monoK t f s))
            clear hk0
            go_wp2_with fail
            refine HBA.out.mono ?_
            rintro e w4 hpq
            obtain ⟨v, L', M', rfl, hor⟩ := HOR2.out.back hpq
            have HOR3 := Lib.hid hor
            clear hpq hor
            have hL64 : L'.length ≤ 64 := HOR3.out.po.past.2.2.2
            have hz4 := HOR3.out.below.size
            go_wp2_with fail
            refine (keys_at _ _ _ _ _ _ _ HOR3.out.po.past).mono ?_
            rintro e w7 ⟨A7, c7, rfl, ho7, hb7⟩
            have HOR4 := Lib.hid (HOR3.out.belows hb7)
            have HO7 := Lib.hid ho7
            clear hb7 ho7
            go_wp2_with fail
            obtain ⟨wo, hwo⟩ : ∃ wo, wo = wr := ⟨_, rfl⟩
            subst hwo
            go_loopw [9] (fun i wr => ∃ m : Nat, m ≤ L'.length ∧ i = .int .i64 m ∧ Below w7.heap.size w7 wr) (fun i _ => L'.length - (intOf i).toNat)
            case atStart => exact ⟨0, Nat.zero_le _, rfl, Below.refl _ _⟩
            case round =>
              obtain ⟨m, hm, rfl, hbm⟩ := hrel
              by_cases hml : m < L'.length
              · obtain ⟨b7, rfl, hc7, e0', e1', e2'⟩ := key_cells HO7.out rfl m hml
                have e0 := pw_cell_below hbm e0'
                have e1 := pw_cell_below hbm e1'
                have e2 := pw_cell_below hbm e2'
                have hfl := HOR4.out.inv.floor _ (List.getElem_mem hml)
                have HORw := Lib.hid (HOR4.out.belows hbm)
                have HBM := Lib.hid hbm
                have hmi : (m : Int) < (L'.length : Int) := by omega
                by_cases hm0 : m = 0
                · have hd1 : decide (L'[m].t < fl) = false := decide_eq_false (by omega)
                  have hd2 : decide (0 < m) = false := decide_eq_false (by omega)
                  have hd3 : decide ((0 : Int) < (m : Int)) = false := decide_eq_false (by omega)
                  have HM0 := Lib.hid hm0
                  clear hm0 e0' e1' e2' hbm e1 e2 hfl
                  generalize L'[m] = em at *
                  go_wp2_with fail
                  go_quiet ((go_at_call 12; exact Calls.quiet_of_same (floor_at _ _ _ _ _ fl _ (past_drewN HORw.out.po.past _))))
                  go_wp2_with fail
                  exact ⟨⟨m + 1, hml, by go_num, pw_below_drewN HBM.out nq⟩, by simp [intOf]; omega⟩
                · obtain ⟨m', hm'⟩ : ∃ m', m = m' + 1 := ⟨m - 1, by omega⟩
                  have hml' : m' < L'.length := by omega
                  obtain ⟨b7', hb7', _, p0', p1', p2'⟩ := key_cells HO7.out rfl m' hml'
                  obtain rfl : b7 = b7' := by cases hb7'; rfl
                  have p0 := pw_cell_below hbm p0'
                  have p1 := pw_cell_below hbm p1'
                  have p2 := pw_cell_below hbm p2'
                  have hkc := pw_get HOR4.out.inv.sorted m' m hml' hml (by omega)
                  have hd1 : decide (L'[m].t < fl) = false := decide_eq_false (by omega)
                  have hd2 : decide (0 < m) = true := decide_eq_true (by omega)
                  have hd3 : decide ((0 : Int) < (m : Int)) = true := decide_eq_true (by omega)
                  have hd4 : decide (0 ≤ kc L'[m'].t L'[m'].f L'[m'].s L'[m].t L'[m].f L'[m].s) = false := decide_eq_false (by omega)
                  have hw : IntKind.i64.wrap ((m : Int) - 1) = ((m' : Nat) : Int) := by rw [IntWalk.i64_in _ (by omega)]; omega
                  have hmi' : (m' : Int) < (L'.length : Int) := by omega
                  have HM0 := Lib.hid hm'
                  clear hm0 hm' e0' e1' e2' p0' p1' p2' hbm hb7' hkc hfl
                  generalize L'[m] = em at *
                  generalize L'[m'] = ep at *
                  go_wp2_with fail
                  go_region_held3 (fun w' => w'.cell? ⟨b7, m * 3, none⟩ = some (.int .i64 em.t) ∧ w'.cell? ⟨b7, m * 3 + 1, none⟩ = some (.int .i64 em.f) ∧ w'.cell? ⟨b7, m * 3 + 2, none⟩ = some (.int .i64 em.s) ∧ w'.cell? ⟨b7, m' * 3, none⟩ = some (.int .i64 ep.t) ∧ w'.cell? ⟨b7, m' * 3 + 1, none⟩ = some (.int .i64 ep.f) ∧ w'.cell? ⟨b7, m' * 3 + 2, none⟩ = some (.int .i64 ep.s))
                    ((go_split_ands; refine ⟨?_, ?_, ?_, ?_, ?_, ?_⟩ <;> first | assumption | exact pw_cell_below hb8 (by assumption)))
                    (first | (go_at_call 12; refine (floor_at _ _ _ _ _ fl _ (past_drew HORw.out.po.past)).mono ?_; rintro e w5 ⟨rfl, rfl⟩) | (go_at_call 14; refine (RefCmp.ref_cmp _ _ _ _ _ _ _).mono ?_; rintro e w8 ⟨rfl, hb8⟩))
                  have hb8' : Below wr.heap.size wr w8 := ⟨hb8.os, hb8.tape, hb8.output, hb8.size, hb8.block⟩
                  have HB8 := Lib.hid (HBM.out.trans (hb8'.mono HBM.out.size))
                  clear hb8 hb8'
                  go_wp2_with fail
                  exact ⟨⟨m + 1, hml, by go_num, HB8.out⟩, by simp [intOf]; omega⟩
              · have HBM := Lib.hid hbm
                clear hbm
                go_wp2_with fail
                refine ⟨⟨A, c, fl, L', M', Ag, cg, G, k + 1, hlt, by go_num, rfl, HOR4.out.belows HBM.out⟩, by simp [intOf]; omega⟩
          · have hb1 : (kd == 1) = false := by rw [beq_eq_false_iff_ne]; exact hk1
            by_cases hk2 : kd = 2
            · subst hk2
              have HSE := Lib.hid (settle_q wr W.heap.size gp c A fl L M _ HOR2.out.po t HOR2.out.inv.monoT_at)
              clear hk0 hk1
              go_wp2_with fail
              refine HSE.out.mono ?_
              rintro e w4 ⟨k1, A1, c1, A2, c2, rfl, h1, h2, h3, ho, hPO, _, hK, hB, hA2⟩
              have hL64 : L.length ≤ 64 := HOR2.out.po.past.2.2.2
              have hSl : (L.take k1).length = k1 := by rw [List.length_take]; omega
              have hos : OS W gp A2 c2 (max fl t) (L.drop k1) (M.drop k1) Ag cg G (L.take k1) A1 c1 0 w4 := by
                refine ⟨hPO, ?_, ?_, HOR2.out.below.trans hB⟩
                · rw [Nat.add_zero, List.take_zero, List.append_nil]
                  exact own_keep HOR2.out.gone hK (fun b hb e => own_noFP HOR2.out.gone HOR2.out.po.past (by decide) (by decide) b (by rw [← ablk_own Ag G.length cg]; exact hb) (.inl e))
                · rw [hSl]
                  exact own_mono ho HOR2.out.below.size
              have HOS := Lib.hid hos
              have HINV := Lib.hid (HOR2.out.inv.settle HOR2.out.invg h2 h3)
              have HSL := Lib.hid hSl
              clear hos ho hPO hK hB hA2 h2 h3 hSl
              obtain ⟨wp, hwp⟩ : ∃ wp, wp = wr := ⟨_, rfl⟩
              subst hwp
              go_wp2_with fail
              go_loopw [4, 7] (fun gn q wr => ∃ (Ag : Option Addr) (cg j : Nat), j ≤ k1 ∧ q = .int .i64 j ∧ gn = .slice Ag (G.length + j) cg ∧ OS W gp A2 c2 (max fl t) (L.drop k1) (M.drop k1) Ag cg G (L.take k1) A1 c1 j wr) (fun _ q _ => k1 - (intOf q).toNat)
              case atStart => exact ⟨Ag, cg, 0, Nat.zero_le _, rfl, rfl, HOS.out⟩
              case round =>
                obtain ⟨Ag2, cg2, j, hj, rfl, rfl, hos⟩ := hrel
                by_cases hjk : j < k1
                · have hjS : j < (L.take k1).length := by rw [HSL.out]; exact hjk
                  obtain ⟨b1, rfl, hcc, hcs⟩ := all_cells hos.set rfl j hjS
                  have happ := OS.app (w' := wr) (gA := 0) (capA := 0) (o := .cells #[] 27) hos hjS
                  obtain ⟨em, hem⟩ : ∃ em, em = (L.take k1)[j] := ⟨_, rfl⟩
                  rw [← hem] at hcs
                  have f0 := hcs 0 _ rfl
                  have f1 := hcs 1 _ rfl
                  have f2 := hcs 2 _ rfl
                  rw [Nat.add_zero] at f0
                  have HEM := Lib.hid hem
                  have HOS2 := Lib.hid hos
                  have hzr := hos.below.size
                  have HN := Lib.hid (World.news_of_block (heap_alloc_new wr (.cells #[.int .i64 em.t, .int .i64 em.f, .int .i64 em.s] 27)))
                  have hjk' : (j : Int) < (k1 : Int) := by omega
                  have hl1 : (L.take k1).length ≤ c1 := hcc
                  have hk1c : k1 ≤ c1 := by have := HSL.out; omega
                  clear happ hcs hem hos hcc hl1
                  go_wp2_with (at_builtin; go_loud (refine wpList_append_lies _ rfl (.tmp 64) (.tmp 71) 45 rfl W.heap.size 27 i0 _ 3 24 Try.underlying45 hi hiz0 hiz1 hiz2 rfl (by decide) (.slice Ag2 (G.length + j) cg2) (G.length + j) (keyCells (G ++ (L.take k1).take j)) rfl (HOS2.out.gone.alloc _) ⟨wr.heap.size, 0, none⟩ 1 1 [.int .i64 em.t, .int .i64 em.f, .int .i64 em.s] (by rfl) rfl (by simpa using HN.out) (by simp [Value.oneCell']) (by decide) (by unfold maxLen; omega) (by omega) (by simp; omega) (wr.heap.size + 1) (by simp) ?_); go_loud (intro gA capA w5 hown hg hat hlt5))
                  exact ⟨⟨some ⟨gA, 0, none⟩, capA, j + 1, hjk, by go_num, rfl, HOS2.out.app hjS (by rw [← HEM.out]; exact hown) hg hat⟩, by simp [intOf]; omega⟩
                · obtain rfl : j = k1 := by omega
                  obtain ⟨fl', L', M', G', hG', hor⟩ : ∃ (fl' : Int) (L' : List Ent) (M' : List (List Value)) (G' : List Ent), G'.length = G.length + j ∧ OR W gp A2 c2 fl' L' M' Ag2 cg2 G' (k + 1) wr := by
                    have hgo := hos.gone
                    rw [List.take_take, Nat.min_self] at hgo
                    have hln : (G ++ L.take j).length = G.length + j := by rw [List.length_append, HSL.out]
                    exact ⟨max fl t, L.drop j, M.drop j, G ++ L.take j, hln, ⟨hos.po, by rw [hln]; exact hgo, HINV.out.1, HINV.out.2, by rw [hln]; omega, hos.below⟩⟩
                  have HG := Lib.hid hG'
                  clear hL64 hG'
                  have HOR3 := Lib.hid hor
                  clear hor hos
                  have hL64 : L'.length ≤ 64 := HOR3.out.po.past.2.2.2
                  have hz4 := HOR3.out.below.size
                  go_wp2_with fail
                  refine (keys_at _ _ _ _ _ _ _ HOR3.out.po.past).mono ?_
                  rintro e w7 ⟨A7, c7, rfl, ho7, hb7⟩
                  have HOR4 := Lib.hid (HOR3.out.belows hb7)
                  have HO7 := Lib.hid ho7
                  clear hb7 ho7
                  go_wp2_with fail
                  obtain ⟨wo, hwo⟩ : ∃ wo, wo = wr := ⟨_, rfl⟩
                  subst hwo
                  go_loopw [9] (fun i wr => ∃ m : Nat, m ≤ L'.length ∧ i = .int .i64 m ∧ Below w7.heap.size w7 wr) (fun i _ => L'.length - (intOf i).toNat)
                  case atStart => exact ⟨0, Nat.zero_le _, rfl, Below.refl _ _⟩
                  case round =>
                    obtain ⟨m, hm, rfl, hbm⟩ := hrel
                    by_cases hml : m < L'.length
                    · obtain ⟨b7, rfl, hc7, e0', e1', e2'⟩ := key_cells HO7.out rfl m hml
                      have e0 := pw_cell_below hbm e0'
                      have e1 := pw_cell_below hbm e1'
                      have e2 := pw_cell_below hbm e2'
                      have hfl := HOR4.out.inv.floor _ (List.getElem_mem hml)
                      have HORw := Lib.hid (HOR4.out.belows hbm)
                      have HBM := Lib.hid hbm
                      have hmi : (m : Int) < (L'.length : Int) := by omega
                      by_cases hm0 : m = 0
                      · have hd1 : decide (L'[m].t < fl') = false := decide_eq_false (by omega)
                        have hd2 : decide (0 < m) = false := decide_eq_false (by omega)
                        have hd3 : decide ((0 : Int) < (m : Int)) = false := decide_eq_false (by omega)
                        have HM0 := Lib.hid hm0
                        clear hm0 e0' e1' e2' hbm e1 e2 hfl
                        generalize L'[m] = em at *
                        go_wp2_with fail
                        go_quiet ((go_at_call 12; exact Calls.quiet_of_same (floor_at _ _ _ _ _ fl' _ (past_drewN HORw.out.po.past _))))
                        go_wp2_with fail
                        exact ⟨⟨m + 1, hml, by go_num, pw_below_drewN HBM.out nq⟩, by simp [intOf]; omega⟩
                      · obtain ⟨m', hm'⟩ : ∃ m', m = m' + 1 := ⟨m - 1, by omega⟩
                        have hml' : m' < L'.length := by omega
                        obtain ⟨b7', hb7', _, p0', p1', p2'⟩ := key_cells HO7.out rfl m' hml'
                        obtain rfl : b7 = b7' := by cases hb7'; rfl
                        have p0 := pw_cell_below hbm p0'
                        have p1 := pw_cell_below hbm p1'
                        have p2 := pw_cell_below hbm p2'
                        have hkc := pw_get HOR4.out.inv.sorted m' m hml' hml (by omega)
                        have hd1 : decide (L'[m].t < fl') = false := decide_eq_false (by omega)
                        have hd2 : decide (0 < m) = true := decide_eq_true (by omega)
                        have hd3 : decide ((0 : Int) < (m : Int)) = true := decide_eq_true (by omega)
                        have hd4 : decide (0 ≤ kc L'[m'].t L'[m'].f L'[m'].s L'[m].t L'[m].f L'[m].s) = false := decide_eq_false (by omega)
                        have hw : IntKind.i64.wrap ((m : Int) - 1) = ((m' : Nat) : Int) := by rw [IntWalk.i64_in _ (by omega)]; omega
                        have hmi' : (m' : Int) < (L'.length : Int) := by omega
                        have HM0 := Lib.hid hm'
                        clear hm0 hm' e0' e1' e2' p0' p1' p2' hbm hb7' hkc hfl
                        generalize L'[m] = em at *
                        generalize L'[m'] = ep at *
                        go_wp2_with fail
                        go_region_held3 (fun w' => w'.cell? ⟨b7, m * 3, none⟩ = some (.int .i64 em.t) ∧ w'.cell? ⟨b7, m * 3 + 1, none⟩ = some (.int .i64 em.f) ∧ w'.cell? ⟨b7, m * 3 + 2, none⟩ = some (.int .i64 em.s) ∧ w'.cell? ⟨b7, m' * 3, none⟩ = some (.int .i64 ep.t) ∧ w'.cell? ⟨b7, m' * 3 + 1, none⟩ = some (.int .i64 ep.f) ∧ w'.cell? ⟨b7, m' * 3 + 2, none⟩ = some (.int .i64 ep.s))
                          ((go_split_ands; refine ⟨?_, ?_, ?_, ?_, ?_, ?_⟩ <;> first | assumption | exact pw_cell_below hb8 (by assumption)))
                          (first | (go_at_call 12; refine (floor_at _ _ _ _ _ fl' _ (past_drew HORw.out.po.past)).mono ?_; rintro e w5 ⟨rfl, rfl⟩) | (go_at_call 14; refine (RefCmp.ref_cmp _ _ _ _ _ _ _).mono ?_; rintro e w8 ⟨rfl, hb8⟩))
                        have hb8' : Below wr.heap.size wr w8 := ⟨hb8.os, hb8.tape, hb8.output, hb8.size, hb8.block⟩
                        have HB8 := Lib.hid (HBM.out.trans (hb8'.mono HBM.out.size))
                        clear hb8 hb8'
                        go_wp2_with fail
                        exact ⟨⟨m + 1, hml, by go_num, HB8.out⟩, by simp [intOf]; omega⟩
                    · have HBM := Lib.hid hbm
                      clear hbm
                      go_wp2_with fail
                      refine ⟨⟨A2, c2, fl', L', M', Ag2, cg2, G', k + 1, hlt, by go_num, (by rw [HG.out]), HOR4.out.belows HBM.out⟩, by simp [intOf]; omega⟩
            · have hb2 : (kd == 2) = false := by rw [beq_eq_false_iff_ne]; exact hk2
              have HOR3 := Lib.hid HOR2.out.next
              clear hk0 hk1 hk2
              have hL64 : L.length ≤ 64 := HOR3.out.po.past.2.2.2
              have hz4 := HOR3.out.below.size
              go_wp2_with fail
              refine (keys_at _ _ _ _ _ _ _ HOR3.out.po.past).mono ?_
              rintro e w7 ⟨A7, c7, rfl, ho7, hb7⟩
              have HOR4 := Lib.hid (HOR3.out.belows hb7)
              have HO7 := Lib.hid ho7
              clear hb7 ho7
              go_wp2_with fail
              obtain ⟨wo, hwo⟩ : ∃ wo, wo = wr := ⟨_, rfl⟩
              subst hwo
              go_loopw [9] (fun i wr => ∃ m : Nat, m ≤ L.length ∧ i = .int .i64 m ∧ Below w7.heap.size w7 wr) (fun i _ => L.length - (intOf i).toNat)
              case atStart => exact ⟨0, Nat.zero_le _, rfl, Below.refl _ _⟩
              case round =>
                obtain ⟨m, hm, rfl, hbm⟩ := hrel
                by_cases hml : m < L.length
                · obtain ⟨b7, rfl, hc7, e0', e1', e2'⟩ := key_cells HO7.out rfl m hml
                  have e0 := pw_cell_below hbm e0'
                  have e1 := pw_cell_below hbm e1'
                  have e2 := pw_cell_below hbm e2'
                  have hfl := HOR4.out.inv.floor _ (List.getElem_mem hml)
                  have HORw := Lib.hid (HOR4.out.belows hbm)
                  have HBM := Lib.hid hbm
                  have hmi : (m : Int) < (L.length : Int) := by omega
                  by_cases hm0 : m = 0
                  · have hd1 : decide (L[m].t < fl) = false := decide_eq_false (by omega)
                    have hd2 : decide (0 < m) = false := decide_eq_false (by omega)
                    have hd3 : decide ((0 : Int) < (m : Int)) = false := decide_eq_false (by omega)
                    have HM0 := Lib.hid hm0
                    clear hm0 e0' e1' e2' hbm e1 e2 hfl
                    generalize L[m] = em at *
                    go_wp2_with fail
                    go_quiet ((go_at_call 12; exact Calls.quiet_of_same (floor_at _ _ _ _ _ fl _ (past_drewN HORw.out.po.past _))))
                    go_wp2_with fail
                    exact ⟨⟨m + 1, hml, by go_num, pw_below_drewN HBM.out nq⟩, by simp [intOf]; omega⟩
                  · obtain ⟨m', hm'⟩ : ∃ m', m = m' + 1 := ⟨m - 1, by omega⟩
                    have hml' : m' < L.length := by omega
                    obtain ⟨b7', hb7', _, p0', p1', p2'⟩ := key_cells HO7.out rfl m' hml'
                    obtain rfl : b7 = b7' := by cases hb7'; rfl
                    have p0 := pw_cell_below hbm p0'
                    have p1 := pw_cell_below hbm p1'
                    have p2 := pw_cell_below hbm p2'
                    have hkc := pw_get HOR4.out.inv.sorted m' m hml' hml (by omega)
                    have hd1 : decide (L[m].t < fl) = false := decide_eq_false (by omega)
                    have hd2 : decide (0 < m) = true := decide_eq_true (by omega)
                    have hd3 : decide ((0 : Int) < (m : Int)) = true := decide_eq_true (by omega)
                    have hd4 : decide (0 ≤ kc L[m'].t L[m'].f L[m'].s L[m].t L[m].f L[m].s) = false := decide_eq_false (by omega)
                    have hw : IntKind.i64.wrap ((m : Int) - 1) = ((m' : Nat) : Int) := by rw [IntWalk.i64_in _ (by omega)]; omega
                    have hmi' : (m' : Int) < (L.length : Int) := by omega
                    have HM0 := Lib.hid hm'
                    clear hm0 hm' e0' e1' e2' p0' p1' p2' hbm hb7' hkc hfl
                    generalize L[m] = em at *
                    generalize L[m'] = ep at *
                    go_wp2_with fail
                    go_region_held3 (fun w' => w'.cell? ⟨b7, m * 3, none⟩ = some (.int .i64 em.t) ∧ w'.cell? ⟨b7, m * 3 + 1, none⟩ = some (.int .i64 em.f) ∧ w'.cell? ⟨b7, m * 3 + 2, none⟩ = some (.int .i64 em.s) ∧ w'.cell? ⟨b7, m' * 3, none⟩ = some (.int .i64 ep.t) ∧ w'.cell? ⟨b7, m' * 3 + 1, none⟩ = some (.int .i64 ep.f) ∧ w'.cell? ⟨b7, m' * 3 + 2, none⟩ = some (.int .i64 ep.s))
                      ((go_split_ands; refine ⟨?_, ?_, ?_, ?_, ?_, ?_⟩ <;> first | assumption | exact pw_cell_below hb8 (by assumption)))
                      (first | (go_at_call 12; refine (floor_at _ _ _ _ _ fl _ (past_drew HORw.out.po.past)).mono ?_; rintro e w5 ⟨rfl, rfl⟩) | (go_at_call 14; refine (RefCmp.ref_cmp _ _ _ _ _ _ _).mono ?_; rintro e w8 ⟨rfl, hb8⟩))
                    have hb8' : Below wr.heap.size wr w8 := ⟨hb8.os, hb8.tape, hb8.output, hb8.size, hb8.block⟩
                    have HB8 := Lib.hid (HBM.out.trans (hb8'.mono HBM.out.size))
                    clear hb8 hb8'
                    go_wp2_with fail
                    exact ⟨⟨m + 1, hml, by go_num, HB8.out⟩, by simp [intOf]; omega⟩
                · have HBM := Lib.hid hbm
                  clear hbm
                  go_wp2_with fail
                  refine ⟨⟨A, c, fl, L, M, Ag, cg, G, k + 1, hlt, by go_num, rfl, HOR4.out.belows HBM.out⟩, by simp [intOf]; omega⟩
      · obtain rfl : k = len := by omega
        obtain ⟨wo, hwo⟩ : ∃ wo, wo = wr := ⟨_, rfl⟩
        subst hwo
        go_wp2_with fail
        go_loopw [10] (fun i wr => ∃ m : Nat, m ≤ G.length ∧ i = .int .i64 m ∧ Below wo.heap.size wo wr) (fun i _ => G.length - (intOf i).toNat)
        case atStart => exact ⟨0, Nat.zero_le _, rfl, Below.refl _ _⟩
        case round =>
          obtain ⟨m, hm, rfl, hbm⟩ := hrel
          by_cases hml : m < G.length
          · obtain ⟨b7, rfl, hc7, e0', e1', e2'⟩ := key_cells HOR2.out.gone rfl m hml
            have e0 := pw_cell_below hbm e0'
            have e1 := pw_cell_below hbm e1'
            have e2 := pw_cell_below hbm e2'
            have hfl := HOR2.out.invg.floor _ (List.getElem_mem hml)
            have HORw := Lib.hid (HOR2.out.belows hbm)
            have HBM := Lib.hid hbm
            have hmi : (m : Int) < (G.length : Int) := by omega
            by_cases hm0 : m = 0
            · have hd1 : decide (fl ≤ G[m].t) = false := decide_eq_false (by omega)
              have hd2 : decide (0 < m) = false := decide_eq_false (by omega)
              have hd3 : decide ((0 : Int) < (m : Int)) = false := decide_eq_false (by omega)
              have HM0 := Lib.hid hm0
              clear hm0 e0' e1' e2' hbm e1 e2 hfl
              generalize G[m] = em at *
              go_wp2_with fail
              go_quiet ((go_at_call 12; exact Calls.quiet_of_same (floor_at _ _ _ _ _ fl _ (past_drewN HORw.out.po.past _))))
              go_wp2_with fail
              exact ⟨⟨m + 1, hml, by go_num, pw_below_drewN HBM.out nq⟩, by simp [intOf]; omega⟩
            · obtain ⟨m', hm'⟩ : ∃ m', m = m' + 1 := ⟨m - 1, by omega⟩
              have hml' : m' < G.length := by omega
              obtain ⟨b7', hb7', _, p0', p1', p2'⟩ := key_cells HOR2.out.gone rfl m' hml'
              obtain rfl : b7 = b7' := by cases hb7'; rfl
              have p0 := pw_cell_below hbm p0'
              have p1 := pw_cell_below hbm p1'
              have p2 := pw_cell_below hbm p2'
              have hkc := pw_get HOR2.out.invg.sorted m' m hml' hml (by omega)
              have hd1 : decide (fl ≤ G[m].t) = false := decide_eq_false (by omega)
              have hd2 : decide (0 < m) = true := decide_eq_true (by omega)
              have hd3 : decide ((0 : Int) < (m : Int)) = true := decide_eq_true (by omega)
              have hd4 : decide (0 ≤ kc G[m'].t G[m'].f G[m'].s G[m].t G[m].f G[m].s) = false := decide_eq_false (by omega)
              have hw : IntKind.i64.wrap ((m : Int) - 1) = ((m' : Nat) : Int) := by rw [IntWalk.i64_in _ (by omega)]; omega
              have hmi' : (m' : Int) < (G.length : Int) := by omega
              have HM0 := Lib.hid hm'
              clear hm0 hm' e0' e1' e2' p0' p1' p2' hbm hb7' hkc hfl
              generalize G[m] = em at *
              generalize G[m'] = ep at *
              go_wp2_with fail
              go_region_held3 (fun w' => w'.cell? ⟨b7, m * 3, none⟩ = some (.int .i64 em.t) ∧ w'.cell? ⟨b7, m * 3 + 1, none⟩ = some (.int .i64 em.f) ∧ w'.cell? ⟨b7, m * 3 + 2, none⟩ = some (.int .i64 em.s) ∧ w'.cell? ⟨b7, m' * 3, none⟩ = some (.int .i64 ep.t) ∧ w'.cell? ⟨b7, m' * 3 + 1, none⟩ = some (.int .i64 ep.f) ∧ w'.cell? ⟨b7, m' * 3 + 2, none⟩ = some (.int .i64 ep.s))
                ((go_split_ands; refine ⟨?_, ?_, ?_, ?_, ?_, ?_⟩ <;> first | assumption | exact pw_cell_below hb8 (by assumption)))
                (first | (go_at_call 12; refine (floor_at _ _ _ _ _ fl _ (past_drew HORw.out.po.past)).mono ?_; rintro e w5 ⟨rfl, rfl⟩) | (go_at_call 14; refine (RefCmp.ref_cmp _ _ _ _ _ _ _).mono ?_; rintro e w8 ⟨rfl, hb8⟩))
              have hb8' : Below wr.heap.size wr w8 := ⟨hb8.os, hb8.tape, hb8.output, hb8.size, hb8.block⟩
              have HB8 := Lib.hid (HBM.out.trans (hb8'.mono HBM.out.size))
              clear hb8 hb8'
              go_wp2_with fail
              exact ⟨⟨m + 1, hml, by go_num, HB8.out⟩, by simp [intOf]; omega⟩
          · have HORw := Lib.hid (HOR2.out.belows hbm)
            have HPE := Lib.hid (push_early wr W.heap.size gp A c fl L HORw.out.po.past HORw.out.po.outs.rds ⟨-9, 0, 0, 0, 0, 0, 0, 0, 0, none, 0, 0⟩ [] (.inl ⟨⟨0, rfl⟩, rfl⟩) (by have := HORw.out.inv.pos; show (-9 : Int) < fl; omega))
            simp only [Ent.val] at HPE
            clear hbm
            go_wp2_with fail
            refine HPE.out.mono ?_
            rintro e w9 ⟨rfl, hb9⟩
            go_wp2_with fail
            go_ret
            exact ⟨rfl, HORw.out.below.trans (hb9.mono HORw.out.below.size)⟩
end Go.Proofs.Ytemedggbodkhcaa.Past
