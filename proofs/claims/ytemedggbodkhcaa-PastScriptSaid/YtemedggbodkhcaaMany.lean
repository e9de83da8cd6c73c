/- past.many: how many entries stand on the near side of a key, by each of the two searches. -/
import Derived.Test.YtemedggbodkhcaaSearch
import Derived.StillTailTactics
set_option linter.unusedVariables false
set_option linter.unusedSimpArgs false
namespace Go.Proofs.Ytemedggbodkhcaa.Past
open Go.RowKit Go.Proofs.YtemedggbodkhcaaW.PrintWords Go.Proofs.YtemedggbodkhcaaW.PrintLast
set_option maxHeartbeats 4000000 in
set_option maxRecDepth 100000 in
theorem clo26 (W : World) (B g : Nat) (A : Option Addr) (c : Nat) (fl : Int) (L : List Ent) (h : PastAt W B g A c fl L) (bb bp bk : Nat) (k0 k1 k2 : Int)
    (hb : W.cell? ⟨bb, 0, none⟩ = some (.func (.func 26) #[] #[])) (hp : W.cell? ⟨bp, 0, none⟩ = some (.pointer (some ⟨g, 0, none⟩))) (hk : W.heap[bk]? = some (.cells #[.int .i64 k0, .int .i64 k1, .int .i64 k2] 27 (0, 0))) (i : Nat) (hi : i < L.length) :
    Calls Try.prog 35 #[.int .i64 i, .pointer (some ⟨bb, 0, none⟩), .pointer (some ⟨bp, 0, none⟩), .pointer (some ⟨bk, 0, none⟩)] W fun x w' => x = .returned (.bool (!decide (kc (L[i]).t (L[i]).f (L[i]).s k0 k1 k2 < 0))) ∧ Below W.heap.size W w' := by
  have hu32 := Try.underlying32
  have hu65 := Try.underlying65
  have hu35 := Try.underlying35
  have hu27 := Try.underlying27
  obtain ⟨b, rfl, hb1, hb2, hC, hc⟩ := h.cells i hi
  generalize L[i] = e at hc ⊢
  obtain ⟨t, f, s, d, cl, bd, ah, se, st, oa, on_, oc⟩ := e
  have G1 := mcell h.1 1
  have K0 := mcell hk 0
  have K1 := mcell hk 1
  have K2 := mcell hk 2
  simp at G1 K0 K1 K2
  have hn := h.2.2.2
  simp only [Ent.cells] at hc
  have hcs : ∀ j v, ([.int .i64 t, .int .i64 f, .int .i64 s, .int .i64 d, .int .i64 cl, .int .i64 bd, .int .i64 ah, .int .i64 se, .int .i64 st, .slice oa on_ oc] : List Value)[j]? = some v → W.cell? ⟨b, i * 10 + j, none⟩ = some v := fun j v hv => (hc j (by have := (List.getElem?_eq_some_iff.1 hv).1; exact this)).trans hv
  have d0 := hcs 0 _ rfl
  have d1 := hcs 1 _ rfl
  have d2 := hcs 2 _ rfl
  have d3 := hcs 3 _ rfl
  have d4 := hcs 4 _ rfl
  have d5 := hcs 5 _ rfl
  have d6 := hcs 6 _ rfl
  have d7 := hcs 7 _ rfl
  have d8 := hcs 8 _ rfl
  have d9 := hcs 9 _ rfl
  rw [Nat.add_zero] at d0
  clear hcs hc h hC hk
  generalize L.length = n at *
  have hlt : (i : Int) < (n : Int) := by omega
  go_enter Try.func35, Try.ntmps35
  go_wp2
  go_still_tail 9, (by kernel_rfl)
  change wpList _ _ _ _ _ W.drew
  have hBD : Below W.heap.size W W.drew := below_drew1 (Below.refl _ _)
  have c1 := ahead_at ⟨t, f, s, d, cl, bd, ah, se, st, oa, on_, oc⟩ k0 k1 k2 W.drew
  simp only [Ent.val] at c1
  have HC := Lib.hid c1
  have HB := Lib.hid hBD
  generalize W.drew = W1 at *
  clear c1 hBD G1 K0 K1 K2 d0 d1 d2 d3 d4 d5 d6 d7 d8 d9 hb hp
  go_wp2_with (go_at_call 26; refine HC.out.mono ?_; rintro x w1 ⟨rfl, hb⟩)
  go_ret
  exact ⟨rfl, HB.out.trans (hb.mono HB.out.size)⟩
set_option maxHeartbeats 4000000 in
set_option maxRecDepth 100000 in
theorem clo29 (W : World) (B g : Nat) (A : Option Addr) (c : Nat) (fl : Int) (L : List Ent) (h : PastAt W B g A c fl L) (bb bp bk : Nat) (k0 k1 k2 : Int)
    (hb : W.cell? ⟨bb, 0, none⟩ = some (.func (.func 29) #[] #[])) (hp : W.cell? ⟨bp, 0, none⟩ = some (.pointer (some ⟨g, 0, none⟩))) (hk : W.heap[bk]? = some (.cells #[.int .i64 k0, .int .i64 k1, .int .i64 k2] 27 (0, 0))) (i : Nat) (hi : i < L.length) :
    Calls Try.prog 35 #[.int .i64 i, .pointer (some ⟨bb, 0, none⟩), .pointer (some ⟨bp, 0, none⟩), .pointer (some ⟨bk, 0, none⟩)] W fun x w' => x = .returned (.bool (!decide ((L[i]).t < k0))) ∧ Below W.heap.size W w' := by
  have hu32 := Try.underlying32
  have hu65 := Try.underlying65
  have hu35 := Try.underlying35
  have hu27 := Try.underlying27
  obtain ⟨b, rfl, hb1, hb2, hC, hc⟩ := h.cells i hi
  generalize L[i] = e at hc ⊢
  obtain ⟨t, f, s, d, cl, bd, ah, se, st, oa, on_, oc⟩ := e
  have G1 := mcell h.1 1
  have K0 := mcell hk 0
  have K1 := mcell hk 1
  have K2 := mcell hk 2
  simp at G1 K0 K1 K2
  have hn := h.2.2.2
  simp only [Ent.cells] at hc
  have hcs : ∀ j v, ([.int .i64 t, .int .i64 f, .int .i64 s, .int .i64 d, .int .i64 cl, .int .i64 bd, .int .i64 ah, .int .i64 se, .int .i64 st, .slice oa on_ oc] : List Value)[j]? = some v → W.cell? ⟨b, i * 10 + j, none⟩ = some v := fun j v hv => (hc j (by have := (List.getElem?_eq_some_iff.1 hv).1; exact this)).trans hv
  have d0 := hcs 0 _ rfl
  have d1 := hcs 1 _ rfl
  have d2 := hcs 2 _ rfl
  have d3 := hcs 3 _ rfl
  have d4 := hcs 4 _ rfl
  have d5 := hcs 5 _ rfl
  have d6 := hcs 6 _ rfl
  have d7 := hcs 7 _ rfl
  have d8 := hcs 8 _ rfl
  have d9 := hcs 9 _ rfl
  rw [Nat.add_zero] at d0
  clear hcs hc h hC hk
  generalize L.length = n at *
  have hlt : (i : Int) < (n : Int) := by omega
  go_enter Try.func35, Try.ntmps35
  go_wp2
  go_still_tail 9, (by kernel_rfl)
  change wpList _ _ _ _ _ W.drew
  have hBD : Below W.heap.size W W.drew := below_drew1 (Below.refl _ _)
  have c1 := early_at ⟨t, f, s, d, cl, bd, ah, se, st, oa, on_, oc⟩ k0 k1 k2 W.drew
  simp only [Ent.val] at c1
  have HC := Lib.hid c1
  have HB := Lib.hid hBD
  generalize W.drew = W1 at *
  clear c1 hBD G1 K0 K1 K2 d0 d1 d2 d3 d4 d5 d6 d7 d8 d9 hb hp
  go_wp2_with (go_at_call 29; refine HC.out.mono ?_; rintro x w1 ⟨rfl, hb⟩)
  go_ret
  exact ⟨rfl, HB.out.trans (hb.mono HB.out.size)⟩
set_option maxHeartbeats 4000000 in
set_option maxRecDepth 100000 in
theorem many26 (w : World) (B g : Nat) (A : Option Addr) (c : Nat) (fl : Int) (L : List Ent) (h : PastAt w B g A c fl L) (k0 k1 k2 : Int)
    (hm : ∀ a b (ha : a < L.length) (hb : b < L.length), a ≤ b → ¬ (kc (L[a]).t (L[a]).f (L[a]).s k0 k1 k2 < 0) → ¬ (kc (L[b]).t (L[b]).f (L[b]).s k0 k1 k2 < 0)) :
    Calls Try.prog 28 #[.pointer (some ⟨g, 0, none⟩), .func (.func 26) #[] #[], .agg #[.int .i64 k0, .int .i64 k1, .int .i64 k2]] w fun x w' => ∃ k : Nat, x = .returned (.int .i64 k) ∧ k ≤ L.length ∧ (∀ i (hi : i < L.length), i < k → (kc (L[i]).t (L[i]).f (L[i]).s k0 k1 k2 < 0)) ∧ (∀ i (hi : i < L.length), k ≤ i → ¬ (kc (L[i]).t (L[i]).f (L[i]).s k0 k1 k2 < 0)) ∧ Below w.heap.size w w' := by
  have hu65 := Try.underlying65
  have hu35 := Try.underlying35
  have hu27 := Try.underlying27
  obtain ⟨W0, hW0⟩ : ∃ W0, W0 = ((w.alloc (.cells #[.pointer (some ⟨g, 0, none⟩)] 24)).alloc (.cells #[.func (.func 26) #[] #[]] 69)).alloc (.cells #[.int .i64 k0, .int .i64 k1, .int .i64 k2] 27) := ⟨_, rfl⟩
  have hs0 : W0.heap.size = w.heap.size + 3 := by rw [hW0]; simp
  have hB0 : Below w.heap.size w W0 := by rw [hW0]; exact (((Below.refl _ w).alloc (Nat.le_refl _) _).alloc (by simp) _).alloc (by simp; omega) _
  have hP : PastAt W0 B g A c fl L := h.below hB0
  have b0 : W0.heap[w.heap.size]? = some (.cells #[.pointer (some ⟨g, 0, none⟩)] 24 (0, 0)) := by rw [hW0]; exact blk_old' _ (blk_old' _ (blk_new' _ _))
  have b1 : W0.heap[w.heap.size + 1]? = some (.cells #[.func (.func 26) #[] #[]] 69 (0, 0)) := by
    rw [hW0]
    have := blk_new' (w.alloc (.cells #[.pointer (some ⟨g, 0, none⟩)] 24)) (.cells #[.func (.func 26) #[] #[]] 69)
    rw [World.size_alloc] at this
    exact blk_old' _ this
  have b2 : W0.heap[w.heap.size + 2]? = some (.cells #[.int .i64 k0, .int .i64 k1, .int .i64 k2] 27 (0, 0)) := by
    rw [hW0]
    have := blk_new' ((w.alloc (.cells #[.pointer (some ⟨g, 0, none⟩)] 24)).alloc (.cells #[.func (.func 26) #[] #[]] 69)) (.cells #[.int .i64 k0, .int .i64 k1, .int .i64 k2] 27)
    rwa [World.size_alloc, World.size_alloc] at this
  have hS := search34 #[.pointer (some ⟨w.heap.size + 1, 0, none⟩), .pointer (some ⟨w.heap.size, 0, none⟩), .pointer (some ⟨w.heap.size + 2, 0, none⟩)] L.length (fun i => if hi : i < L.length then !decide (kc (L[i]).t (L[i]).f (L[i]).s k0 k1 k2 < 0) else true) W0 (by have := h.2.2.2; omega)
    (fun W i hb hi => by
      have := clo26 W B g A c fl L (hP.below hb) (w.heap.size + 1) w.heap.size (w.heap.size + 2) k0 k1 k2 ((mcell ((hb.block _ (by omega)).trans b1) 0).trans rfl) ((mcell ((hb.block _ (by omega)).trans b0) 0).trans rfl) ((hb.block _ (by omega)).trans b2) i hi
      simp only [hi, dite_true]
      exact this)
    (fun a b hab hb hp => by
      have ha : a < L.length := by omega
      simp only [ha, hb, dite_true, Bool.not_eq_true', decide_eq_false_iff_not] at hp ⊢
      exact hm a b ha hb hab hp)
  have HS := Lib.hid hS
  have HB := Lib.hid hB0
  have G1 := mcell hP.1 1
  have p0 := mcell b0 0
  simp at G1 p0
  rw [hW0] at G1 p0
  have hn := h.2.2.2
  clear hS hB0 hP b0 b1 b2 hm h
  go_enter Try.func28, Try.ntmps28
  go_wp2_with (go_at_call 34; rw [← hW0]; refine HS.out.mono ?_; rintro x w1 ⟨k, rfl, h1, h2, h3, h4⟩)
  go_ret
  refine ⟨k, rfl, h1, fun i hi hk => ?_, fun i hi hk => ?_, HB.out.trans (h4.mono (by omega))⟩
  · have := h2 i hk
    simp only [hi, dite_true, Bool.not_eq_false', decide_eq_true_eq] at this
    exact this
  · have := h3 i hk hi
    simp only [hi, dite_true, Bool.not_eq_true', decide_eq_false_iff_not] at this
    first | exact this | exact Int.not_lt.1 this
set_option maxHeartbeats 4000000 in
set_option maxRecDepth 100000 in
theorem many29 (w : World) (B g : Nat) (A : Option Addr) (c : Nat) (fl : Int) (L : List Ent) (h : PastAt w B g A c fl L) (k0 k1 k2 : Int)
    (hm : ∀ a b (ha : a < L.length) (hb : b < L.length), a ≤ b → ¬ ((L[a]).t < k0) → ¬ ((L[b]).t < k0)) :
    Calls Try.prog 28 #[.pointer (some ⟨g, 0, none⟩), .func (.func 29) #[] #[], .agg #[.int .i64 k0, .int .i64 k1, .int .i64 k2]] w fun x w' => ∃ k : Nat, x = .returned (.int .i64 k) ∧ k ≤ L.length ∧ (∀ i (hi : i < L.length), i < k → ((L[i]).t < k0)) ∧ (∀ i (hi : i < L.length), k ≤ i → ¬ ((L[i]).t < k0)) ∧ Below w.heap.size w w' := by
  have hu65 := Try.underlying65
  have hu35 := Try.underlying35
  have hu27 := Try.underlying27
  obtain ⟨W0, hW0⟩ : ∃ W0, W0 = ((w.alloc (.cells #[.pointer (some ⟨g, 0, none⟩)] 24)).alloc (.cells #[.func (.func 29) #[] #[]] 69)).alloc (.cells #[.int .i64 k0, .int .i64 k1, .int .i64 k2] 27) := ⟨_, rfl⟩
  have hs0 : W0.heap.size = w.heap.size + 3 := by rw [hW0]; simp
  have hB0 : Below w.heap.size w W0 := by rw [hW0]; exact (((Below.refl _ w).alloc (Nat.le_refl _) _).alloc (by simp) _).alloc (by simp; omega) _
  have hP : PastAt W0 B g A c fl L := h.below hB0
  have b0 : W0.heap[w.heap.size]? = some (.cells #[.pointer (some ⟨g, 0, none⟩)] 24 (0, 0)) := by rw [hW0]; exact blk_old' _ (blk_old' _ (blk_new' _ _))
  have b1 : W0.heap[w.heap.size + 1]? = some (.cells #[.func (.func 29) #[] #[]] 69 (0, 0)) := by
    rw [hW0]
    have := blk_new' (w.alloc (.cells #[.pointer (some ⟨g, 0, none⟩)] 24)) (.cells #[.func (.func 29) #[] #[]] 69)
    rw [World.size_alloc] at this
    exact blk_old' _ this
  have b2 : W0.heap[w.heap.size + 2]? = some (.cells #[.int .i64 k0, .int .i64 k1, .int .i64 k2] 27 (0, 0)) := by
    rw [hW0]
    have := blk_new' ((w.alloc (.cells #[.pointer (some ⟨g, 0, none⟩)] 24)).alloc (.cells #[.func (.func 29) #[] #[]] 69)) (.cells #[.int .i64 k0, .int .i64 k1, .int .i64 k2] 27)
    rwa [World.size_alloc, World.size_alloc] at this
  have hS := search34 #[.pointer (some ⟨w.heap.size + 1, 0, none⟩), .pointer (some ⟨w.heap.size, 0, none⟩), .pointer (some ⟨w.heap.size + 2, 0, none⟩)] L.length (fun i => if hi : i < L.length then !decide ((L[i]).t < k0) else true) W0 (by have := h.2.2.2; omega)
    (fun W i hb hi => by
      have := clo29 W B g A c fl L (hP.below hb) (w.heap.size + 1) w.heap.size (w.heap.size + 2) k0 k1 k2 ((mcell ((hb.block _ (by omega)).trans b1) 0).trans rfl) ((mcell ((hb.block _ (by omega)).trans b0) 0).trans rfl) ((hb.block _ (by omega)).trans b2) i hi
      simp only [hi, dite_true]
      exact this)
    (fun a b hab hb hp => by
      have ha : a < L.length := by omega
      simp only [ha, hb, dite_true, Bool.not_eq_true', decide_eq_false_iff_not] at hp ⊢
      exact hm a b ha hb hab hp)
  have HS := Lib.hid hS
  have HB := Lib.hid hB0
  have G1 := mcell hP.1 1
  have p0 := mcell b0 0
  simp at G1 p0
  rw [hW0] at G1 p0
  have hn := h.2.2.2
  clear hS hB0 hP b0 b1 b2 hm h
  go_enter Try.func28, Try.ntmps28
  go_wp2_with (go_at_call 34; rw [← hW0]; refine HS.out.mono ?_; rintro x w1 ⟨k, rfl, h1, h2, h3, h4⟩)
  go_ret
  refine ⟨k, rfl, h1, fun i hi hk => ?_, fun i hi hk => ?_, HB.out.trans (h4.mono (by omega))⟩
  · have := h2 i hk
    simp only [hi, dite_true, Bool.not_eq_false', decide_eq_true_eq] at this
    exact this
  · have := h3 i hk hi
    simp only [hi, dite_true, Bool.not_eq_true', decide_eq_false_iff_not] at this
    first | exact this | exact Int.not_lt.1 this
end Go.Proofs.Ytemedggbodkhcaa.Past
