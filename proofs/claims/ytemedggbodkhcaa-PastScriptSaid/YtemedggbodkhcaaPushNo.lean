/- past.Push: an entry that is refused. -/
import Derived.Test.YtemedggbodkhcaaPush
set_option linter.unusedVariables false
set_option linter.unusedSimpArgs false
namespace Go.Proofs.Ytemedggbodkhcaa.Past
open Go.RowKit Go.Proofs.YtemedggbodkhcaaW.PrintWords Go.Proofs.YtemedggbodkhcaaW.PrintLast
set_option maxHeartbeats 4000000 in
set_option maxRecDepth 100000 in
theorem push_early (w : World) (B g : Nat) (A : Option Addr) (c : Nat) (fl : Int) (L : List Ent) (h : PastAt w B g A c fl L) (hr : Rds w L) (e : Ent) (ms : List Value) (he : Rd w e.o ms)
    (h1 : e.t < fl) :
    Calls Try.prog 9 #[.pointer (some ⟨g, 0, none⟩), e.val] w fun x w' => x = .returned (.int .i64 110) ∧ Below w.heap.size w w' := by
  have hu32 := Try.underlying32
  have hu65 := Try.underlying65
  have hu35 := Try.underlying35
  have hu29 := Try.underlying29
  have hu27 := Try.underlying27
  have hn := h.2.2.2
  obtain ⟨i0, hi, hz0, hz1, hz2⟩ := info_parts info32
  have hBg := h.2.2.1
  have hAo := own_lt h.2.1
  have hneG := h.ne
  have hneE : some w.heap.size ≠ (Value.slice A L.length c).ownBlock := fun q => Nat.lt_irrefl _ (own_lt h.2.1 _ q.symm)
  obtain ⟨W0, hW0⟩ : ∃ W0, W0 = w.alloc (.cells #[.int .i64 e.t, .int .i64 e.f, .int .i64 e.s, .int .i64 e.d, .int .i64 e.cl, .int .i64 e.bd, .int .i64 e.ah, .int .i64 e.se, .int .i64 e.st, .slice e.oa e.on_ e.oc] 32) := ⟨_, rfl⟩
  have hB0 : Below w.heap.size w W0 := by rw [hW0]; exact (Below.refl _ w).alloc (Nat.le_refl _) _
  have hs0 : W0.heap.size = w.heap.size + 1 := by rw [hW0]; simp
  have gE : W0.heap[w.heap.size]? = some (.cells #[.int .i64 e.t, .int .i64 e.f, .int .i64 e.s, .int .i64 e.d, .int .i64 e.cl, .int .i64 e.bd, .int .i64 e.ah, .int .i64 e.se, .int .i64 e.st, .slice e.oa e.on_ e.oc] 32 (0, 0)) := by rw [hW0]; exact blk_new' _ _
  have gG : W0.heap[g]? = some (.cells #[.int .i64 fl, .slice A L.length c] 65 (0, 0)) := by rw [hW0]; exact blk_old' _ h.1
  have hPast : PastAt W0 B g A c fl L := ⟨gG, by rw [hW0]; exact h.2.1.alloc _, h.2.2⟩
  have hr0 : Rds W0 L := fun x hx => by obtain ⟨m, hm⟩ := hr x hx; exact ⟨m, hm.below hB0⟩
  have hlast := last_at W0 B g A c fl L hPast hr0
  obtain ⟨em, hem⟩ : ∃ em, em = L.isEmpty := ⟨_, rfl⟩
  rw [← hem] at hlast
  have HM := Lib.hid hem
  have HL := Lib.hid hlast
  clear hem
  have HE := Lib.hid (he.below hB0)
  have HP := Lib.hid hPast
  have HB := Lib.hid hB0
  have GE := Lib.hid gE
  have GG := Lib.hid gG
  have hgl := blk_lt h.1
  clear hlast hPast hB0 gE gG hr0 he hr h
  obtain ⟨t, f, s, d, cl, bd, ah, se, st, oa, on_, oc⟩ := e
  simp only [Ent.val, Ent.o] at *
  go_enter Try.func9, Try.ntmps9
  go_wp2_with (first
    | (go_at_call 22; rw [← hW0]; refine HL.out.mono ?_; rintro x w1 ⟨⟨t1, f1, s1, d1, cl1, bd1, ah1, se1, st1, oa1, on1, oc1⟩, rfl, hl1, hb1⟩; simp only [Ent.val] at *;
       have m0 := (hb1.block _ (by omega)).trans GE.out; have m1 := (hb1.block _ (by omega)).trans GG.out))
  have m2 := blk_old' (Obj.cells #[.int .i64 t1, .int .i64 f1, .int .i64 s1, .int .i64 d1, .int .i64 cl1, .int .i64 bd1, .int .i64 ah1, .int .i64 se1, .int .i64 st1, .slice oa1 on1 oc1] 32) m0
  have m3 := blk_old' (Obj.cells #[.int .i64 t1, .int .i64 f1, .int .i64 s1, .int .i64 d1, .int .i64 cl1, .int .i64 bd1, .int .i64 ah1, .int .i64 se1, .int .i64 st1, .slice oa1 on1 oc1] 32) m1
  have m4 := blk_new' w1 (Obj.cells #[.int .i64 t1, .int .i64 f1, .int .i64 s1, .int .i64 d1, .int .i64 cl1, .int .i64 bd1, .int .i64 ah1, .int .i64 se1, .int .i64 st1, .slice oa1 on1 oc1] 32)
  have hb2 : Below W0.heap.size W0 (w1.alloc (Obj.cells #[.int .i64 t1, .int .i64 f1, .int .i64 s1, .int .i64 d1, .int .i64 cl1, .int .i64 bd1, .int .i64 ah1, .int .i64 se1, .int .i64 st1, .slice oa1 on1 oc1] 32)) := below_alloc hb1 _
  generalize w1.alloc (Obj.cells #[.int .i64 t1, .int .i64 f1, .int .i64 s1, .int .i64 d1, .int .i64 cl1, .int .i64 bd1, .int .i64 ah1, .int .i64 se1, .int .i64 st1, .slice oa1 on1 oc1] 32) = W2 at *
  have E0 := mcell m2 0
  have E1 := mcell m2 1
  have E2 := mcell m2 2
  have E3 := mcell m2 3
  have E4 := mcell m2 4
  have E5 := mcell m2 5
  have E6 := mcell m2 6
  have E7 := mcell m2 7
  have E8 := mcell m2 8
  have E9 := mcell m2 9
  simp at E0 E1 E2 E3 E4 E5 E6 E7 E8 E9
  have T0 := mcell m4 0
  have T1 := mcell m4 1
  have T2 := mcell m4 2
  have T3 := mcell m4 3
  have T4 := mcell m4 4
  have T5 := mcell m4 5
  have T6 := mcell m4 6
  have T7 := mcell m4 7
  have T8 := mcell m4 8
  have T9 := mcell m4 9
  simp at T0 T1 T2 T3 T4 T5 T6 T7 T8 T9
  have G0 := mcell m3 0
  have G1 := mcell m3 1
  simp at G0 G1
  have hlt : (decide (t < fl)) = true := decide_eq_true h1
  go_quiet (fail)
  have m5 : (W2.drewN nq).heap[w.heap.size]? = some (.cells #[.int .i64 t, .int .i64 f, .int .i64 s, .int .i64 d, .int .i64 cl, .int .i64 bd, .int .i64 ah, .int .i64 se, .int .i64 st, .slice oa on_ oc] 32 (0, 0)) := m2
  have m6 : (W2.drewN nq).heap[g]? = some (.cells #[.int .i64 fl, .slice A L.length c] 65 (0, 0)) := m3
  have m7 : (W2.drewN nq).heap[w1.heap.size]? = some (.cells #[.int .i64 t1, .int .i64 f1, .int .i64 s1, .int .i64 d1, .int .i64 cl1, .int .i64 bd1, .int .i64 ah1, .int .i64 se1, .int .i64 st1, .slice oa1 on1 oc1] 32 (0, 0)) := m4
  have hb3 : Below W0.heap.size W0 (W2.drewN nq) := pw_below_drewN hb2 nq
  generalize W2.drewN nq = W3 at *
  clear E0 E1 E2 E3 E4 E5 E6 E7 E8 E9 T0 T1 T2 T3 T4 T5 T6 T7 T8 T9 G0 G1 m0 m1 m2 m3 m4 hb1 hb2
  have E0 := mcell m5 0
  have E1 := mcell m5 1
  have E2 := mcell m5 2
  have E3 := mcell m5 3
  have E4 := mcell m5 4
  have E5 := mcell m5 5
  have E6 := mcell m5 6
  have E7 := mcell m5 7
  have E8 := mcell m5 8
  have E9 := mcell m5 9
  simp at E0 E1 E2 E3 E4 E5 E6 E7 E8 E9
  have T0 := mcell m7 0
  have T1 := mcell m7 1
  have T2 := mcell m7 2
  have T3 := mcell m7 3
  have T4 := mcell m7 4
  have T5 := mcell m7 5
  have T6 := mcell m7 6
  have T7 := mcell m7 7
  have T8 := mcell m7 8
  have T9 := mcell m7 9
  simp at T0 T1 T2 T3 T4 T5 T6 T7 T8 T9
  have G0 := mcell m6 0
  have G1 := mcell m6 1
  simp at G0 G1
  go_wp2
  go_ret
  exact ⟨rfl, HB.out.trans (hb3.mono (by omega))⟩
set_option maxHeartbeats 4000000 in
set_option maxRecDepth 100000 in
theorem push_order (w : World) (B g : Nat) (A : Option Addr) (c : Nat) (fl : Int) (L : List Ent) (h : PastAt w B g A c fl L) (hr : Rds w L) (e : Ent) (ms : List Value) (he : Rd w e.o ms)
    (h1 : fl ≤ e.t) (h2 : ∃ l, L.getLast? = some l ∧ ¬ kc l.t l.f l.s e.t e.f e.s < 0) :
    Calls Try.prog 9 #[.pointer (some ⟨g, 0, none⟩), e.val] w fun x w' => x = .returned (.int .i64 130) ∧ Below w.heap.size w w' := by
  have hu32 := Try.underlying32
  have hu65 := Try.underlying65
  have hu35 := Try.underlying35
  have hu29 := Try.underlying29
  have hu27 := Try.underlying27
  have hn := h.2.2.2
  obtain ⟨i0, hi, hz0, hz1, hz2⟩ := info_parts info32
  have hBg := h.2.2.1
  have hAo := own_lt h.2.1
  have hneG := h.ne
  have hneE : some w.heap.size ≠ (Value.slice A L.length c).ownBlock := fun q => Nat.lt_irrefl _ (own_lt h.2.1 _ q.symm)
  obtain ⟨W0, hW0⟩ : ∃ W0, W0 = w.alloc (.cells #[.int .i64 e.t, .int .i64 e.f, .int .i64 e.s, .int .i64 e.d, .int .i64 e.cl, .int .i64 e.bd, .int .i64 e.ah, .int .i64 e.se, .int .i64 e.st, .slice e.oa e.on_ e.oc] 32) := ⟨_, rfl⟩
  have hB0 : Below w.heap.size w W0 := by rw [hW0]; exact (Below.refl _ w).alloc (Nat.le_refl _) _
  have hs0 : W0.heap.size = w.heap.size + 1 := by rw [hW0]; simp
  have gE : W0.heap[w.heap.size]? = some (.cells #[.int .i64 e.t, .int .i64 e.f, .int .i64 e.s, .int .i64 e.d, .int .i64 e.cl, .int .i64 e.bd, .int .i64 e.ah, .int .i64 e.se, .int .i64 e.st, .slice e.oa e.on_ e.oc] 32 (0, 0)) := by rw [hW0]; exact blk_new' _ _
  have gG : W0.heap[g]? = some (.cells #[.int .i64 fl, .slice A L.length c] 65 (0, 0)) := by rw [hW0]; exact blk_old' _ h.1
  have hPast : PastAt W0 B g A c fl L := ⟨gG, by rw [hW0]; exact h.2.1.alloc _, h.2.2⟩
  have hr0 : Rds W0 L := fun x hx => by obtain ⟨m, hm⟩ := hr x hx; exact ⟨m, hm.below hB0⟩
  have hlast := last_at W0 B g A c fl L hPast hr0
  obtain ⟨em, hem⟩ : ∃ em, em = L.isEmpty := ⟨_, rfl⟩
  rw [← hem] at hlast
  have HM := Lib.hid hem
  have HL := Lib.hid hlast
  clear hem
  have HE := Lib.hid (he.below hB0)
  have HP := Lib.hid hPast
  have H2 := Lib.hid h2
  have HB := Lib.hid hB0
  have GE := Lib.hid gE
  have GG := Lib.hid gG
  have hgl := blk_lt h.1
  clear hlast hPast h2 hB0 gE gG hr0 he hr h
  obtain ⟨t, f, s, d, cl, bd, ah, se, st, oa, on_, oc⟩ := e
  simp only [Ent.val, Ent.o] at *
  go_enter Try.func9, Try.ntmps9
  go_wp2_with (first
    | (go_at_call 22; rw [← hW0]; refine HL.out.mono ?_; rintro x w1 ⟨⟨t1, f1, s1, d1, cl1, bd1, ah1, se1, st1, oa1, on1, oc1⟩, rfl, hl1, hb1⟩; simp only [Ent.val] at *; have hl2 : em = false ∧ ¬ kc t1 f1 s1 t f s < 0 := (by obtain ⟨l, hg, hn⟩ := H2.out; obtain ⟨x1, x2, x3⟩ := hl1 l hg; refine ⟨?_, by rw [x1, x2, x3]; exact hn⟩; rw [HM.out]; cases L <;> simp at hg ⊢);
       have m0 := (hb1.block _ (by omega)).trans GE.out; have m1 := (hb1.block _ (by omega)).trans GG.out))
  have m2 := blk_old' (Obj.cells #[.int .i64 t1, .int .i64 f1, .int .i64 s1, .int .i64 d1, .int .i64 cl1, .int .i64 bd1, .int .i64 ah1, .int .i64 se1, .int .i64 st1, .slice oa1 on1 oc1] 32) m0
  have m3 := blk_old' (Obj.cells #[.int .i64 t1, .int .i64 f1, .int .i64 s1, .int .i64 d1, .int .i64 cl1, .int .i64 bd1, .int .i64 ah1, .int .i64 se1, .int .i64 st1, .slice oa1 on1 oc1] 32) m1
  have m4 := blk_new' w1 (Obj.cells #[.int .i64 t1, .int .i64 f1, .int .i64 s1, .int .i64 d1, .int .i64 cl1, .int .i64 bd1, .int .i64 ah1, .int .i64 se1, .int .i64 st1, .slice oa1 on1 oc1] 32)
  have hb2 : Below W0.heap.size W0 (w1.alloc (Obj.cells #[.int .i64 t1, .int .i64 f1, .int .i64 s1, .int .i64 d1, .int .i64 cl1, .int .i64 bd1, .int .i64 ah1, .int .i64 se1, .int .i64 st1, .slice oa1 on1 oc1] 32)) := below_alloc hb1 _
  generalize w1.alloc (Obj.cells #[.int .i64 t1, .int .i64 f1, .int .i64 s1, .int .i64 d1, .int .i64 cl1, .int .i64 bd1, .int .i64 ah1, .int .i64 se1, .int .i64 st1, .slice oa1 on1 oc1] 32) = W2 at *
  have E0 := mcell m2 0
  have E1 := mcell m2 1
  have E2 := mcell m2 2
  have E3 := mcell m2 3
  have E4 := mcell m2 4
  have E5 := mcell m2 5
  have E6 := mcell m2 6
  have E7 := mcell m2 7
  have E8 := mcell m2 8
  have E9 := mcell m2 9
  simp at E0 E1 E2 E3 E4 E5 E6 E7 E8 E9
  have T0 := mcell m4 0
  have T1 := mcell m4 1
  have T2 := mcell m4 2
  have T3 := mcell m4 3
  have T4 := mcell m4 4
  have T5 := mcell m4 5
  have T6 := mcell m4 6
  have T7 := mcell m4 7
  have T8 := mcell m4 8
  have T9 := mcell m4 9
  simp at T0 T1 T2 T3 T4 T5 T6 T7 T8 T9
  have G0 := mcell m3 0
  have G1 := mcell m3 1
  simp at G0 G1
  have hlt : (decide (t < fl)) = false := decide_eq_false (by omega)
  go_quiet (fail)
  have m5 : (W2.drewN nq).heap[w.heap.size]? = some (.cells #[.int .i64 t, .int .i64 f, .int .i64 s, .int .i64 d, .int .i64 cl, .int .i64 bd, .int .i64 ah, .int .i64 se, .int .i64 st, .slice oa on_ oc] 32 (0, 0)) := m2
  have m6 : (W2.drewN nq).heap[g]? = some (.cells #[.int .i64 fl, .slice A L.length c] 65 (0, 0)) := m3
  have m7 : (W2.drewN nq).heap[w1.heap.size]? = some (.cells #[.int .i64 t1, .int .i64 f1, .int .i64 s1, .int .i64 d1, .int .i64 cl1, .int .i64 bd1, .int .i64 ah1, .int .i64 se1, .int .i64 st1, .slice oa1 on1 oc1] 32 (0, 0)) := m4
  have hb3 : Below W0.heap.size W0 (W2.drewN nq) := pw_below_drewN hb2 nq
  generalize W2.drewN nq = W3 at *
  clear E0 E1 E2 E3 E4 E5 E6 E7 E8 E9 T0 T1 T2 T3 T4 T5 T6 T7 T8 T9 G0 G1 m0 m1 m2 m3 m4 hb1 hb2
  have E0 := mcell m5 0
  have E1 := mcell m5 1
  have E2 := mcell m5 2
  have E3 := mcell m5 3
  have E4 := mcell m5 4
  have E5 := mcell m5 5
  have E6 := mcell m5 6
  have E7 := mcell m5 7
  have E8 := mcell m5 8
  have E9 := mcell m5 9
  simp at E0 E1 E2 E3 E4 E5 E6 E7 E8 E9
  have T0 := mcell m7 0
  have T1 := mcell m7 1
  have T2 := mcell m7 2
  have T3 := mcell m7 3
  have T4 := mcell m7 4
  have T5 := mcell m7 5
  have T6 := mcell m7 6
  have T7 := mcell m7 7
  have T8 := mcell m7 8
  have T9 := mcell m7 9
  simp at T0 T1 T2 T3 T4 T5 T6 T7 T8 T9
  have G0 := mcell m6 0
  have G1 := mcell m6 1
  simp at G0 G1
  obtain ⟨rfl, hk⟩ := hl2
  go_wp2_with (first | (go_at_call 26; refine (ahead_at ⟨t1, f1, s1, d1, cl1, bd1, ah1, se1, st1, oa1, on1, oc1⟩ t f s _).mono ?_; rintro x w4 ⟨rfl, hb4⟩; rw [decide_eq_false (Int.not_lt.2 hk)]))
  go_ret
  exact ⟨rfl, (HB.out.trans (hb3.mono (by omega))).trans (hb4.mono (by have := hb3.size; omega))⟩
set_option maxHeartbeats 4000000 in
set_option maxRecDepth 100000 in
theorem push_full (w : World) (B g : Nat) (A : Option Addr) (c : Nat) (fl : Int) (L : List Ent) (h : PastAt w B g A c fl L) (hr : Rds w L) (e : Ent) (ms : List Value) (he : Rd w e.o ms)
    (h1 : fl ≤ e.t) (h2 : ∀ l, L.getLast? = some l → kc l.t l.f l.s e.t e.f e.s < 0) (h3 : L.length = 64) :
    Calls Try.prog 9 #[.pointer (some ⟨g, 0, none⟩), e.val] w fun x w' => x = .returned (.int .i64 2) ∧ Below w.heap.size w w' := by
  have hu32 := Try.underlying32
  have hu65 := Try.underlying65
  have hu35 := Try.underlying35
  have hu29 := Try.underlying29
  have hu27 := Try.underlying27
  have hn := h.2.2.2
  obtain ⟨i0, hi, hz0, hz1, hz2⟩ := info_parts info32
  have hBg := h.2.2.1
  have hAo := own_lt h.2.1
  have hneG := h.ne
  have hneE : some w.heap.size ≠ (Value.slice A L.length c).ownBlock := fun q => Nat.lt_irrefl _ (own_lt h.2.1 _ q.symm)
  obtain ⟨W0, hW0⟩ : ∃ W0, W0 = w.alloc (.cells #[.int .i64 e.t, .int .i64 e.f, .int .i64 e.s, .int .i64 e.d, .int .i64 e.cl, .int .i64 e.bd, .int .i64 e.ah, .int .i64 e.se, .int .i64 e.st, .slice e.oa e.on_ e.oc] 32) := ⟨_, rfl⟩
  have hB0 : Below w.heap.size w W0 := by rw [hW0]; exact (Below.refl _ w).alloc (Nat.le_refl _) _
  have hs0 : W0.heap.size = w.heap.size + 1 := by rw [hW0]; simp
  have gE : W0.heap[w.heap.size]? = some (.cells #[.int .i64 e.t, .int .i64 e.f, .int .i64 e.s, .int .i64 e.d, .int .i64 e.cl, .int .i64 e.bd, .int .i64 e.ah, .int .i64 e.se, .int .i64 e.st, .slice e.oa e.on_ e.oc] 32 (0, 0)) := by rw [hW0]; exact blk_new' _ _
  have gG : W0.heap[g]? = some (.cells #[.int .i64 fl, .slice A L.length c] 65 (0, 0)) := by rw [hW0]; exact blk_old' _ h.1
  have hPast : PastAt W0 B g A c fl L := ⟨gG, by rw [hW0]; exact h.2.1.alloc _, h.2.2⟩
  have hr0 : Rds W0 L := fun x hx => by obtain ⟨m, hm⟩ := hr x hx; exact ⟨m, hm.below hB0⟩
  have hlast := last_at W0 B g A c fl L hPast hr0
  obtain ⟨em, hem⟩ : ∃ em, em = L.isEmpty := ⟨_, rfl⟩
  rw [← hem] at hlast
  have HM := Lib.hid hem
  have HL := Lib.hid hlast
  clear hem
  have HE := Lib.hid (he.below hB0)
  have HP := Lib.hid hPast
  have H2 := Lib.hid h2
  have HB := Lib.hid hB0
  have GE := Lib.hid gE
  have GG := Lib.hid gG
  have hgl := blk_lt h.1
  clear hlast hPast h2 hB0 gE gG hr0 he hr h
  obtain ⟨t, f, s, d, cl, bd, ah, se, st, oa, on_, oc⟩ := e
  simp only [Ent.val, Ent.o] at *
  go_enter Try.func9, Try.ntmps9
  go_wp2_with (first
    | (go_at_call 22; rw [← hW0]; refine HL.out.mono ?_; rintro x w1 ⟨⟨t1, f1, s1, d1, cl1, bd1, ah1, se1, st1, oa1, on1, oc1⟩, rfl, hl1, hb1⟩; simp only [Ent.val] at *; have hl2 : em = false → kc t1 f1 s1 t f s < 0 := (fun q => by have q2 := HM.out; rw [q] at q2; cases hg : L.getLast? with | none => simp at hg; simp [hg] at q2 | some l => obtain ⟨x1, x2, x3⟩ := hl1 l hg; have := H2.out l hg; rw [x1, x2, x3]; exact this);
       have m0 := (hb1.block _ (by omega)).trans GE.out; have m1 := (hb1.block _ (by omega)).trans GG.out))
  have m2 := blk_old' (Obj.cells #[.int .i64 t1, .int .i64 f1, .int .i64 s1, .int .i64 d1, .int .i64 cl1, .int .i64 bd1, .int .i64 ah1, .int .i64 se1, .int .i64 st1, .slice oa1 on1 oc1] 32) m0
  have m3 := blk_old' (Obj.cells #[.int .i64 t1, .int .i64 f1, .int .i64 s1, .int .i64 d1, .int .i64 cl1, .int .i64 bd1, .int .i64 ah1, .int .i64 se1, .int .i64 st1, .slice oa1 on1 oc1] 32) m1
  have m4 := blk_new' w1 (Obj.cells #[.int .i64 t1, .int .i64 f1, .int .i64 s1, .int .i64 d1, .int .i64 cl1, .int .i64 bd1, .int .i64 ah1, .int .i64 se1, .int .i64 st1, .slice oa1 on1 oc1] 32)
  have hb2 : Below W0.heap.size W0 (w1.alloc (Obj.cells #[.int .i64 t1, .int .i64 f1, .int .i64 s1, .int .i64 d1, .int .i64 cl1, .int .i64 bd1, .int .i64 ah1, .int .i64 se1, .int .i64 st1, .slice oa1 on1 oc1] 32)) := below_alloc hb1 _
  generalize w1.alloc (Obj.cells #[.int .i64 t1, .int .i64 f1, .int .i64 s1, .int .i64 d1, .int .i64 cl1, .int .i64 bd1, .int .i64 ah1, .int .i64 se1, .int .i64 st1, .slice oa1 on1 oc1] 32) = W2 at *
  have E0 := mcell m2 0
  have E1 := mcell m2 1
  have E2 := mcell m2 2
  have E3 := mcell m2 3
  have E4 := mcell m2 4
  have E5 := mcell m2 5
  have E6 := mcell m2 6
  have E7 := mcell m2 7
  have E8 := mcell m2 8
  have E9 := mcell m2 9
  simp at E0 E1 E2 E3 E4 E5 E6 E7 E8 E9
  have T0 := mcell m4 0
  have T1 := mcell m4 1
  have T2 := mcell m4 2
  have T3 := mcell m4 3
  have T4 := mcell m4 4
  have T5 := mcell m4 5
  have T6 := mcell m4 6
  have T7 := mcell m4 7
  have T8 := mcell m4 8
  have T9 := mcell m4 9
  simp at T0 T1 T2 T3 T4 T5 T6 T7 T8 T9
  have G0 := mcell m3 0
  have G1 := mcell m3 1
  simp at G0 G1
  have hlt : (decide (t < fl)) = false := decide_eq_false (by omega)
  go_quiet (fail)
  have m5 : (W2.drewN nq).heap[w.heap.size]? = some (.cells #[.int .i64 t, .int .i64 f, .int .i64 s, .int .i64 d, .int .i64 cl, .int .i64 bd, .int .i64 ah, .int .i64 se, .int .i64 st, .slice oa on_ oc] 32 (0, 0)) := m2
  have m6 : (W2.drewN nq).heap[g]? = some (.cells #[.int .i64 fl, .slice A L.length c] 65 (0, 0)) := m3
  have m7 : (W2.drewN nq).heap[w1.heap.size]? = some (.cells #[.int .i64 t1, .int .i64 f1, .int .i64 s1, .int .i64 d1, .int .i64 cl1, .int .i64 bd1, .int .i64 ah1, .int .i64 se1, .int .i64 st1, .slice oa1 on1 oc1] 32 (0, 0)) := m4
  have hb3 : Below W0.heap.size W0 (W2.drewN nq) := pw_below_drewN hb2 nq
  generalize W2.drewN nq = W3 at *
  clear E0 E1 E2 E3 E4 E5 E6 E7 E8 E9 T0 T1 T2 T3 T4 T5 T6 T7 T8 T9 G0 G1 m0 m1 m2 m3 m4 hb1 hb2
  have E0 := mcell m5 0
  have E1 := mcell m5 1
  have E2 := mcell m5 2
  have E3 := mcell m5 3
  have E4 := mcell m5 4
  have E5 := mcell m5 5
  have E6 := mcell m5 6
  have E7 := mcell m5 7
  have E8 := mcell m5 8
  have E9 := mcell m5 9
  simp at E0 E1 E2 E3 E4 E5 E6 E7 E8 E9
  have T0 := mcell m7 0
  have T1 := mcell m7 1
  have T2 := mcell m7 2
  have T3 := mcell m7 3
  have T4 := mcell m7 4
  have T5 := mcell m7 5
  have T6 := mcell m7 6
  have T7 := mcell m7 7
  have T8 := mcell m7 8
  have T9 := mcell m7 9
  simp at T0 T1 T2 T3 T4 T5 T6 T7 T8 T9
  have G0 := mcell m6 0
  have G1 := mcell m6 1
  simp at G0 G1
  have hlen : (64 : Int) ≤ (L.length : Int) := by omega
  cases em with
  | true =>
    go_wp2
    go_ret
    exact ⟨rfl, HB.out.trans (hb3.mono (by omega))⟩
  | false =>
    have hk := hl2 rfl
    go_wp2_with (first | (go_at_call 26; refine (ahead_at ⟨t1, f1, s1, d1, cl1, bd1, ah1, se1, st1, oa1, on1, oc1⟩ t f s _).mono ?_; rintro x w4 ⟨rfl, hb4⟩; rw [decide_eq_true hk]; have z3 := hb3.size; have n6 := (hb4.block _ (by have := blk_lt m6; omega)).trans m6; have k1 := mcell n6 1; simp at k1))
    go_ret
    exact ⟨rfl, (HB.out.trans (hb3.mono (by omega))).trans (hb4.mono (by have := hb3.size; omega))⟩
end Go.Proofs.Ytemedggbodkhcaa.Past
