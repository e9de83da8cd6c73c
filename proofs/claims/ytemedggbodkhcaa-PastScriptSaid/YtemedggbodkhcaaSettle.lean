/- past.Settle. -/
import Derived.Test.YtemedggbodkhcaaMany
set_option linter.unusedVariables false
set_option linter.unusedSimpArgs false
namespace Go.Proofs.Ytemedggbodkhcaa.Past
open Go.RowKit Go.Proofs.YtemedggbodkhcaaW.PrintWords Go.Proofs.YtemedggbodkhcaaW.PrintLast

theorem flat_append (L M : List Ent) : flat (L ++ M) = flat L ++ flat M := by simp [flat]
theorem flat_take (L : List Ent) (k : Nat) : flat (L.take k) = (flat L).take (k * 10) := by
  rcases Nat.le_total k L.length with h | h
  · have := flat_append (L.take k) (L.drop k)
    rw [List.take_append_drop] at this
    rw [this, List.take_left' (by rw [flat_len, List.length_take]; omega)]
  · rw [List.take_of_length_le h, List.take_of_length_le (by rw [flat_len]; omega)]
theorem flat_drop (L : List Ent) (k : Nat) : flat (L.drop k) = (flat L).drop (k * 10) := by
  rcases Nat.le_total k L.length with h | h
  · have := flat_append (L.take k) (L.drop k)
    rw [List.take_append_drop] at this
    rw [this, List.drop_left' (by rw [flat_len, List.length_take]; omega)]
  · rw [List.drop_of_length_le h, List.drop_of_length_le (by rw [flat_len]; omega)]; rfl
theorem flat_one (L : List Ent) : ∀ u ∈ flat L, u.oneCell' = true := by
  intro u hu
  simp only [flat, List.mem_flatMap] at hu
  obtain ⟨e, _, he⟩ := hu
  exact cells_one e u he
/-- the memory of a past whose slice lies in block b -/
theorem PastAt.read {w : World} {B g b c : Nat} {fl : Int} {L : List Ent} (h : PastAt w B g (some ⟨b, 0, none⟩) c fl L) (k : Nat) (hk : k ≤ L.length) :
    RdE w (some ⟨b, 0, none⟩) k (flat (L.take k)) ∧ RdE w (some ⟨b, k * 10, none⟩) (L.length - k) (flat (L.drop k)) ∧ L.length ≤ c := by
  have hc : ∀ j u, (flat L)[j]? = some u → w.cell? ⟨b, j, none⟩ = some u := fun j u hj => by
    have := h.2.1.cells rfl j u hj
    rwa [add_plain] at this
  have hp : ∀ (o j : Nat), (⟨b, o, none⟩ : Addr).add j = ⟨b, o + j, none⟩ := fun o j => by unfold Addr.add; split <;> simp_all
  refine ⟨⟨by rw [flat_len, List.length_take]; omega, fun _ => ⟨_, rfl, fun j u hj => ?_⟩, flat_one _⟩, ⟨by rw [flat_len, List.length_drop], fun _ => ⟨_, rfl, fun j u hj => ?_⟩, flat_one _⟩, ?_⟩
  · rw [add_plain]
    rw [flat_take, List.getElem?_take] at hj
    split at hj
    · exact hc j u hj
    · cases hj
  · rw [hp]
    rw [flat_drop, List.getElem?_drop] at hj
    exact hc _ u hj
  · rcases h.2.1.2 with ⟨q, _⟩ | ⟨b', cap', cur, q, _, _, h5, _⟩
    · cases q
    · cases q; exact h5
theorem own_mono {w : World} {b b' : Nat} {e : TypeId} {size n : Nat} {v : Value} {xs : List Value} (h : w.ownsRow b e size v n xs) (hb : b' ≤ b) : w.ownsRow b' e size v n xs :=
  ⟨h.1, h.2.imp id (fun ⟨g, cap, cur, h1, h2, h3⟩ => ⟨g, cap, cur, h1, Nat.le_trans hb h2, h3⟩)⟩
theorem rdE_zero {w w' : World} {A A' : Option Addr} {n : Nat} {cs : List Value} (hn : n = 0) (h : RdE w A n cs) : RdE w' A' n cs := by
  refine ⟨h.1, fun h0 => absurd h0 (by omega), h.2.2⟩
/-- what Settle comes to, out of what its calls came to -/
theorem settle_fin {w w1 w2 w3 : World} {B g c k c1 c2 : Nat} {fl t m : Int} {A A1 A2 : Option Addr} {L : List Ent} (hBw : B ≤ w.heap.size) (hgl : g < w.heap.size) (hb0 : Below w.heap.size w w1) (hb1 : Below w1.heap.size w1 w2) (hb2 : Below w2.heap.size w2 w3)
    (ho1 : w2.ownsRow w1.heap.size 32 10 (.slice A1 k c1) k (flat (L.take k))) (ho2 : w3.ownsRow w2.heap.size 32 10 (.slice A2 (L.length - k) c2) (L.length - k) (flat (L.drop k))) (h : PastAt w3 B g A c fl L) (hm : m = max fl t) :
    ((w3.setCell ⟨g, 1, none⟩ (.slice A2 (L.length - k) c2)).setCell ⟨g, 0, none⟩ (.int .i64 m)).ownsRow w.heap.size 32 10 (.slice A1 k c1) k (flat (L.take k)) ∧
    PastAt ((w3.setCell ⟨g, 1, none⟩ (.slice A2 (L.length - k) c2)).setCell ⟨g, 0, none⟩ (.int .i64 m)) B g A2 c2 (max fl t) (L.drop k) ∧
    Kept w ((w3.setCell ⟨g, 1, none⟩ (.slice A2 (L.length - k) c2)).setCell ⟨g, 0, none⟩ (.int .i64 m)) (fun q => q = g) ∧
    (∀ B', B' ≤ g → B' ≤ w.heap.size → Below B' w ((w3.setCell ⟨g, 1, none⟩ (.slice A2 (L.length - k) c2)).setCell ⟨g, 0, none⟩ (.int .i64 m))) ∧
    (∀ q, (Value.slice A2 (L.length - k) c2).ownBlock = some q → w.heap.size ≤ q ∧ (Value.slice A1 k c1).ownBlock ≠ some q) := by
  have z0 := hb0.size
  have z1 := hb1.size
  have z2 := hb2.size
  have hb13 : Below w.heap.size w w3 := (hb0.trans (hb1.mono z0)).trans (hb2.mono (by omega))
  have hfar : ∀ q, q ≠ g → ((w3.setCell ⟨g, 1, none⟩ (.slice A2 (L.length - k) c2)).setCell ⟨g, 0, none⟩ (.int .i64 m)).heap[q]? = w3.heap[q]? := fun q hq => (Below.heap_setCell _ _ _ q hq).trans (Below.heap_setCell _ _ _ q hq)
  have k1 := own_base ho1
  have k2 := own_base ho2
  have l1 := own_lt ho1
  refine ⟨own_mono (own_move ho1 (fun q hq => (hfar q (by have := k1 q hq; omega)).trans (hb2.block q (l1 q hq)))) z0, ⟨?_, ?_, h.2.2.1, by have := h.2.2.2; simp; omega⟩, ?_, ?_, fun q hq => ⟨by have := k2 q hq; omega, fun e => by have := k2 q hq; have := l1 q e; omega⟩⟩
  · have e1 := blk_set h.1 1 (.slice A2 (L.length - k) c2)
    have e2 := blk_set e1 0 (.int .i64 m)
    rw [hm] at e2 ⊢
    rw [List.length_drop]
    simpa using e2
  · rw [List.length_drop]
    exact own_mono (own_move ho2 (fun q hq => hfar q (by have := k2 q hq; omega))) (by omega)
  · exact ((Kept.of_below hb13 (fun q => q = g)).setCell (p := ⟨g, 1, none⟩) (Or.inl (Eq.refl g)) _).setCell (p := ⟨g, 0, none⟩) (Or.inl (Eq.refl g)) _
  · intro B' h1 h2
    exact ((hb13.mono h2).setCell (p := ⟨g, 1, none⟩) h1 _).setCell (p := ⟨g, 0, none⟩) h1 _
/-- what Settle says -/
def SettleP (w : World) (B g : Nat) (fl t : Int) (L : List Ent) (x : Ending) (w' : World) : Prop := ∃ k A1 c1 A2 c2, x = .returned (.slice A1 k c1) ∧ k ≤ L.length ∧ (∀ i (hi : i < L.length), i < k → L[i].t < t) ∧ (∀ i (hi : i < L.length), k ≤ i → t ≤ L[i].t) ∧ w'.ownsRow w.heap.size 32 10 (.slice A1 k c1) k (flat (L.take k)) ∧ PastAt w' B g A2 c2 (max fl t) (L.drop k) ∧ Kept w w' (fun q => q = g) ∧ (∀ B', B' ≤ g → B' ≤ w.heap.size → Below B' w w') ∧ (∀ q, (Value.slice A2 (L.length - k) c2).ownBlock = some q → w.heap.size ≤ q ∧ (Value.slice A1 k c1).ownBlock ≠ some q)
set_option maxHeartbeats 600000 in
set_option maxRecDepth 100000 in
theorem settle_some (w : World) (B g b c : Nat) (fl : Int) (L : List Ent) (h : PastAt w B g (some ⟨b, 0, none⟩) c fl L) (t : Int) (hBw : B ≤ w.heap.size)
    (hm : ∀ x y (hx : x < L.length) (hy : y < L.length), x ≤ y → ¬ (L[x].t < t) → ¬ (L[y].t < t)) :
    Calls Try.prog 10 #[.pointer (some ⟨g, 0, none⟩), .int .i64 t] w (SettleP w B g fl t L) := by
  have hu65 := Try.underlying65
  have hu35 := Try.underlying35
  have hu27 := Try.underlying27
  have hM := many29 w B g (some ⟨b, 0, none⟩) c fl L h t 0 0 hm
  have HM := Lib.hid hM
  have HP := Lib.hid h
  have hn := h.2.2.2
  have hgl := blk_lt h.1
  clear hM h hm
  go_enter Try.func10, Try.ntmps10
  go_wp2_with fail
  refine HM.out.mono ?_
  rintro x w1 ⟨k, rfl, h1, h2, h3, h4⟩
  have P1 := HP.out.below h4
  have r1 := P1.read k h1
  have G1 := mcell P1.1 1
  simp at G1
  have hkL : (k : Int) ≤ (L.length : Int) := by omega
  have hkc : (k : Int) ≤ (c : Int) := by have := r1.2.2; omega
  have RA := Lib.hid r1.1
  have RB := Lib.hid r1.2.1
  have hLc := r1.2.2
  have HP1 := Lib.hid P1
  clear r1 P1
  by_cases hck : c = k
  · skip
    go_wp2_with fail
    with_reducible refine (clone30 _ _ _ _ _ RA.out (by omega)).mono ?_
    rintro x w2 ⟨A1, c1, rfl, ho1, hb1⟩
    have P2 := HP1.out.below hb1
    have G2 := mcell P2.1 1
    simp at G2
    have HP2 := Lib.hid P2
    have HO1 := Lib.hid ho1
    clear G1 P2 ho1
    go_wp2_with fail
    with_reducible refine (clone30 _ _ _ _ _ (show RdE w2 (some ⟨b, 0, none⟩) (L.length - k) (flat (L.drop k)) from rdE_zero (by omega) RB.out) (by omega)).mono ?_
    rintro x w3 ⟨A2, c2, rfl, ho2, hb2⟩
    have P3 := HP2.out.below hb2
    have G0 := mcell P3.1 0
    have G1 := mcell P3.1 1
    have F0 := mfrozen P3.1 0
    have F1 := mfrozen P3.1 1
    simp at G0 G1
    have B3 := P3.1
    have hgb := P3.2.2.1
    have HP3 := Lib.hid P3
    have HO2 := Lib.hid ho2
    have HB3 := Lib.hid B3
    clear P3 ho2 B3
    go_wp2_with fail
    all_goals
      go_ret
      have hfin := settle_fin (t := t) hBw hgl h4 hb1 hb2 HO1.out HO2.out HP3.out (m := _) (by first | exact (Int.max_eq_right (by omega)).symm | exact (Int.max_eq_left (by omega)).symm)
      exact ⟨k, A1, c1, A2, c2, rfl, h1, h2, h3, hfin.1, hfin.2⟩
  · skip
    go_wp2_with fail
    with_reducible refine (clone30 _ _ _ _ _ RA.out (by omega)).mono ?_
    rintro x w2 ⟨A1, c1, rfl, ho1, hb1⟩
    have P2 := HP1.out.below hb1
    have G2 := mcell P2.1 1
    simp at G2
    have HP2 := Lib.hid P2
    have HO1 := Lib.hid ho1
    clear G1 P2 ho1
    go_wp2_with fail
    with_reducible refine (clone30 _ _ _ _ _ (RB.out.below hb1) (by omega)).mono ?_
    rintro x w3 ⟨A2, c2, rfl, ho2, hb2⟩
    have P3 := HP2.out.below hb2
    have G0 := mcell P3.1 0
    have G1 := mcell P3.1 1
    have F0 := mfrozen P3.1 0
    have F1 := mfrozen P3.1 1
    simp at G0 G1
    have B3 := P3.1
    have hgb := P3.2.2.1
    have HP3 := Lib.hid P3
    have HO2 := Lib.hid ho2
    have HB3 := Lib.hid B3
    clear P3 ho2 B3
    go_wp2_with fail
    all_goals
      go_ret
      have hfin := settle_fin (t := t) hBw hgl h4 hb1 hb2 HO1.out HO2.out HP3.out (m := _) (by first | exact (Int.max_eq_right (by omega)).symm | exact (Int.max_eq_left (by omega)).symm)
      exact ⟨k, A1, c1, A2, c2, rfl, h1, h2, h3, hfin.1, hfin.2⟩
set_option maxHeartbeats 1000000 in
set_option maxRecDepth 100000 in
theorem settle_none (w : World) (B g c : Nat) (fl : Int) (L : List Ent) (h : PastAt w B g none c fl L) (t : Int) (hBw : B ≤ w.heap.size) :
    Calls Try.prog 10 #[.pointer (some ⟨g, 0, none⟩), .int .i64 t] w (SettleP w B g fl t L) := by
  have hu65 := Try.underlying65
  have hu35 := Try.underlying35
  have hu27 := Try.underlying27
  obtain ⟨rfl, rfl⟩ : L = [] ∧ c = 0 := by
    have hl := h.2.1.1
    rcases h.2.1.2 with ⟨e, e2⟩ | ⟨b', cap', cur, e, _⟩
    · injection e with _ e1 e3
      exact ⟨List.eq_nil_of_length_eq_zero e1, e3⟩
    · cases e
  have hM := many29 w B g none 0 fl [] h t 0 0 (by intro a b ha; cases ha)
  have HM := Lib.hid hM
  have HP := Lib.hid h
  have hgl := blk_lt h.1
  clear hM h
  go_enter Try.func10, Try.ntmps10
  go_wp2_with fail
  refine HM.out.mono ?_
  rintro x w1 ⟨k, rfl, h1, h2, h3, h4⟩
  obtain rfl : k = 0 := by simpa using h1
  have P1 := HP.out.below h4
  have G1 := mcell P1.1 1
  simp at G1
  have HP1 := Lib.hid P1
  clear P1 h1 h2 h3
  go_wp2_with fail
  with_reducible refine (clone30_nil _ _ _).mono ?_
  rintro x w2 ⟨rfl, rfl⟩
  go_wp2_with fail
  with_reducible refine (clone30_nil _ _ _).mono ?_
  rintro x w3 ⟨rfl, rfl⟩
  have G0 := mcell HP1.out.1 0
  have F0 := mfrozen HP1.out.1 0
  have F1 := mfrozen HP1.out.1 1
  simp at G0
  go_wp2_with fail
  all_goals
    go_ret
    have hfin := settle_fin (L := []) (k := 0) (c1 := 0) (c2 := 0) (A1 := none) (A2 := none) (t := t) hBw hgl h4 (Below.refl _ _) (Below.refl _ _) (World.ownsRow_nil _ _ _ _) (World.ownsRow_nil _ _ _ _) HP1.out (m := _) (by first | exact (Int.max_eq_right (by omega)).symm | exact (Int.max_eq_left (by omega)).symm)
    exact ⟨0, none, 0, none, 0, rfl, Nat.le_refl _, fun i hi => (by cases hi), fun i hi => (by cases hi), hfin.1, hfin.2⟩
theorem settle_at (w : World) (B g c : Nat) (A : Option Addr) (fl : Int) (L : List Ent) (h : PastAt w B g A c fl L) (t : Int) (hBw : B ≤ w.heap.size)
    (hm : ∀ x y (hx : x < L.length) (hy : y < L.length), x ≤ y → ¬ (L[x].t < t) → ¬ (L[y].t < t)) :
    Calls Try.prog 10 #[.pointer (some ⟨g, 0, none⟩), .int .i64 t] w (SettleP w B g fl t L) := by
  rcases h.2.1.2 with ⟨e, e2⟩ | ⟨b', cap', cur, e, _⟩
  · injection e with e0 _ _
    subst e0
    exact settle_none w B g c fl L h t hBw
  · injection e with e0 _ _
    subst e0
    exact settle_some w B g b' c fl L h t hBw hm
end Go.Proofs.Ytemedggbodkhcaa.Past
