/- past.Back. -/
import Derived.Test.YtemedggbodkhcaaRev
set_option linter.unusedVariables false
set_option linter.unusedSimpArgs false
namespace Go.Proofs.Ytemedggbodkhcaa.Past
open Go.RowKit Go.Proofs.YtemedggbodkhcaaW.PrintWords Go.Proofs.YtemedggbodkhcaaW.PrintLast
theorem reverse_nil (w : World) : Calls Try.prog 31 #[.slice none 0 0] w fun x w' => x = .returned (.tuple #[]) ∧ w' = w := AnyQ.slices_Reverse_empty Try.reverse31 none 0 w
set_option maxHeartbeats 1000000 in
set_option maxRecDepth 100000 in
theorem back_some (w : World) (B g b c : Nat) (fl : Int) (L : List Ent) (h : PastAt w B g (some ⟨b, 0, none⟩) c fl L) (k0 k1 k2 : Int)
    (hm : ∀ a b (ha : a < L.length) (hb : b < L.length), a ≤ b → ¬ (kc (L[a]).t (L[a]).f (L[a]).s k0 k1 k2 < 0) → ¬ (kc (L[b]).t (L[b]).f (L[b]).s k0 k1 k2 < 0)) :
    Calls Try.prog 13 #[.pointer (some ⟨g, 0, none⟩), .agg #[.int .i64 k0, .int .i64 k1, .int .i64 k2]] w (BackP w B g c (some ⟨b, 0, none⟩) fl L k0 k1 k2) := by
  have hu65 := Try.underlying65
  have hu35 := Try.underlying35
  have hu27 := Try.underlying27
  obtain ⟨W0, hW0⟩ : ∃ W0, W0 = w.alloc (.cells #[.int .i64 k0, .int .i64 k1, .int .i64 k2] 27) := ⟨_, rfl⟩
  have hB0 : Below w.heap.size w W0 := by rw [hW0]; exact (Below.refl _ w).alloc (Nat.le_refl _) _
  have hM := many26 W0 B g (some ⟨b, 0, none⟩) c fl L (h.below hB0) k0 k1 k2 hm
  have HM := Lib.hid hM
  have HP := Lib.hid (h.below hB0)
  have HB0 := Lib.hid hB0
  have hs0 := hB0.size
  have hn := h.2.2.2
  have hgl := blk_lt h.1
  clear hM h hm hB0
  go_enter Try.func13, Try.ntmps13
  go_wp2_with fail
  rw [← hW0]
  have HW := Lib.hid hW0
  clear hW0
  refine HM.out.mono ?_
  rintro x w1 ⟨k, rfl, h1, h2, h3, h4'⟩
  have P1 := HP.out.below h4'
  have h4 := HB0.out.trans (h4'.mono hs0)
  have hz0 := h4.size
  clear h4'
  have r1 := P1.read k h1
  have G1 := mcell P1.1 1
  simp at G1
  have hkL : (k : Int) ≤ (L.length : Int) := by omega
  have hkc : (k : Int) ≤ (c : Int) := by have := r1.2.2; omega
  have RB := Lib.hid r1.2.1
  have hLc := r1.2.2
  have HP1 := Lib.hid P1
  clear r1 P1
  by_cases hck : c = k
  · skip
    go_wp2_with fail
    with_reducible refine (clone30 _ _ _ _ _ (show RdE w1 (some ⟨b, 0, none⟩) (L.length - k) (flat (L.drop k)) from rdE_zero (by omega) RB.out) (by omega)).mono ?_
    rintro x w2 ⟨A1, c1, rfl, ho1, hb1⟩
    have P2 := HP1.out.below hb1
    have HP2 := Lib.hid P2
    clear G1 P2
    have hR := reverse_any w2 _ _ _ _ (L.drop k) ho1 (by simp) (by omega)
    have HR := Lib.hid hR
    clear hR
    go_wp2_with fail
    refine HR.out.mono ?_
    rintro x w3 ⟨rfl, ho3, hk3, hB3⟩
    have hz1 := hb1.size
    have B3 := (hk3.2 g (blk_lt HP2.out.1) (by have := hz0; omega)).trans HP2.out.1
    have G1 := mcell B3 1
    have F1 := mfrozen B3 1
    simp at G1
    have HO3 := Lib.hid ho3
    have HK3 := Lib.hid hk3
    have HB3 := Lib.hid hB3
    clear ho3 hk3 hB3 ho1 B3
    go_wp2_with fail
    go_ret
    replace hck := hck.symm
    subst hck
    have hfin := back_fin hgl h4 hb1 HO3.out HK3.out HB3.out HP1.out (.inl (by simp)) h1
    exact ⟨k, A1, c1, rfl, h1, h2, h3, hfin⟩
  · skip
    go_wp2_with fail
    with_reducible refine (clone30 _ _ _ _ _ (RB.out) (by omega)).mono ?_
    rintro x w2 ⟨A1, c1, rfl, ho1, hb1⟩
    have P2 := HP1.out.below hb1
    have HP2 := Lib.hid P2
    clear G1 P2
    have hR := reverse_any w2 _ _ _ _ (L.drop k) ho1 (by simp) (by omega)
    have HR := Lib.hid hR
    clear hR
    go_wp2_with fail
    refine HR.out.mono ?_
    rintro x w3 ⟨rfl, ho3, hk3, hB3⟩
    have hz1 := hb1.size
    have B3 := (hk3.2 g (blk_lt HP2.out.1) (by have := hz0; omega)).trans HP2.out.1
    have G1 := mcell B3 1
    have F1 := mfrozen B3 1
    simp at G1
    have HO3 := Lib.hid ho3
    have HK3 := Lib.hid hk3
    have HB3 := Lib.hid hB3
    clear ho3 hk3 hB3 ho1 B3
    go_wp2_with fail
    go_ret
    have hfin := back_fin hgl h4 hb1 HO3.out HK3.out HB3.out HP1.out (.inl (by simp)) h1
    exact ⟨k, A1, c1, rfl, h1, h2, h3, hfin⟩
set_option maxHeartbeats 1000000 in
set_option maxRecDepth 100000 in
theorem back_none (w : World) (B g c : Nat) (fl : Int) (L : List Ent) (h : PastAt w B g none c fl L) (k0 k1 k2 : Int) :
    Calls Try.prog 13 #[.pointer (some ⟨g, 0, none⟩), .agg #[.int .i64 k0, .int .i64 k1, .int .i64 k2]] w (BackP w B g c none fl L k0 k1 k2) := by
  have hu65 := Try.underlying65
  have hu35 := Try.underlying35
  have hu27 := Try.underlying27
  obtain ⟨rfl, rfl⟩ : L = [] ∧ c = 0 := by
    have hl := h.2.1.1
    rcases h.2.1.2 with ⟨e, e2⟩ | ⟨b', cap', cur, e, _⟩
    · injection e with _ e1 e3
      exact ⟨List.eq_nil_of_length_eq_zero e1, e3⟩
    · cases e
  obtain ⟨W0, hW0⟩ : ∃ W0, W0 = w.alloc (.cells #[.int .i64 k0, .int .i64 k1, .int .i64 k2] 27) := ⟨_, rfl⟩
  have hB0 : Below w.heap.size w W0 := by rw [hW0]; exact (Below.refl _ w).alloc (Nat.le_refl _) _
  have hM := many26 W0 B g none 0 fl [] (h.below hB0) k0 k1 k2 (by intro a b ha; cases ha)
  have HM := Lib.hid hM
  have HP := Lib.hid (h.below hB0)
  have HB0 := Lib.hid hB0
  have hs0 := hB0.size
  have hgl := blk_lt h.1
  clear hM h hB0
  go_enter Try.func13, Try.ntmps13
  go_wp2_with fail
  rw [← hW0]
  have HW := Lib.hid hW0
  clear hW0
  refine HM.out.mono ?_
  rintro x w1 ⟨k, rfl, h1, h2, h3, h4'⟩
  obtain rfl : k = 0 := by simpa using h1
  have P1 := HP.out.below h4'
  have h4 := HB0.out.trans (h4'.mono hs0)
  clear h4'
  have G1 := mcell P1.1 1
  have F1 := mfrozen P1.1 1
  simp at G1
  have HP1 := Lib.hid P1
  clear P1 h1 h2 h3
  go_wp2_with fail
  with_reducible refine (clone30_nil _ _ _).mono ?_
  rintro x w2 ⟨rfl, rfl⟩
  go_wp2_with fail
  with_reducible refine (reverse_nil _).mono ?_
  rintro x w3 ⟨rfl, rfl⟩
  go_wp2_with fail
  go_ret
  have hfin := back_fin (L := []) (k := 0) (c1 := 0) (A1 := none) hgl h4 (Below.refl _ _) (World.ownsRow_nil _ _ _ _) (Kept.refl _ _) (fun B w0 hb _ => hb) HP1.out (.inr rfl) (Nat.le_refl _)
  exact ⟨0, none, 0, rfl, Nat.le_refl _, fun i hi => (by cases hi), fun i hi => (by cases hi), hfin⟩
theorem back_at (w : World) (B g c : Nat) (A : Option Addr) (fl : Int) (L : List Ent) (h : PastAt w B g A c fl L) (k0 k1 k2 : Int)
    (hm : ∀ a b (ha : a < L.length) (hb : b < L.length), a ≤ b → ¬ (kc (L[a]).t (L[a]).f (L[a]).s k0 k1 k2 < 0) → ¬ (kc (L[b]).t (L[b]).f (L[b]).s k0 k1 k2 < 0)) :
    Calls Try.prog 13 #[.pointer (some ⟨g, 0, none⟩), .agg #[.int .i64 k0, .int .i64 k1, .int .i64 k2]] w (BackP w B g c A fl L k0 k1 k2) := by
  rcases h.2.1.2 with ⟨e, e2⟩ | ⟨b', cap', cur, e, _⟩
  · injection e with e0 _ _
    subst e0
    exact back_none w B g c fl L h k0 k1 k2
  · injection e with e0 _ _
    subst e0
    exact back_some w B g b' c fl L h k0 k1 k2 hm
end Go.Proofs.Ytemedggbodkhcaa.Past
