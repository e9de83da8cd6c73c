/- past.Push: an entry that is taken. -/
import Derived.Test.YtemedggbodkhcaaPast6
import Derived.Deep.RegionHeld3
import Derived.Deep.DrawnRows
import Derived.Deep.QuietTactic
import Derived.BigQuiet
set_option linter.unusedVariables false
set_option linter.unusedSimpArgs false
namespace Go.Proofs.Ytemedggbodkhcaa.Past
open Go.RowKit Go.Proofs.YtemedggbodkhcaaW.PrintWords Go.Proofs.YtemedggbodkhcaaW.PrintLast
attribute [local go_sem ↓] Go.wp_at_zero Go.wp_at_succ

theorem PastAt.below {w w' : World} {B g : Nat} {A : Option Addr} {c : Nat} {fl : Int} {L : List Ent} (h : PastAt w B g A c fl L) (hb : Below w.heap.size w w') : PastAt w' B g A c fl L :=
  ⟨(hb.block _ (blk_lt h.1)).trans h.1, own_move h.2.1 (fun k hk => hb.block _ (own_lt h.2.1 k hk)), h.2.2⟩
theorem PastAt.ne {w : World} {B g : Nat} {A : Option Addr} {c : Nat} {fl : Int} {L : List Ent} (h : PastAt w B g A c fl L) : some g ≠ (Value.slice A L.length c).ownBlock := by
  intro e
  rcases h.2.1.2 with ⟨q, _⟩ | ⟨b, cap, cur, q, _, hb, _⟩
  · rw [q] at e; simp [Value.ownBlock] at e
  · rw [q] at e
    simp only [Value.ownBlock, Option.some.injEq] at e
    subst e
    rw [h.1] at hb
    injection hb with hb
    injection hb with _ hb
    exact absurd hb (by decide)
theorem cell_set_far {w : World} {p : Addr} (u : Value) (a : Addr) (hne : a.block ≠ p.block) : (w.setCell p u).cell? a = w.cell? a := World.cell?_of_block (Below.heap_setCell w p u a.block hne)
theorem own27v (t f s d cl bd ah se st : Int) (oa : Option Addr) (on_ oc : Nat) (ms : List Value) (w : World) (h : Rd w (.slice oa on_ oc) ms) :
    Calls Try.prog 27 #[.agg #[.int .i64 t, .int .i64 f, .int .i64 s, .int .i64 d, .int .i64 cl, .int .i64 bd, .int .i64 ah, .int .i64 se, .int .i64 st, .slice oa on_ oc]] w fun x w' => ∃ a n c, x = .returned (.agg #[.int .i64 t, .int .i64 f, .int .i64 s, .int .i64 d, .int .i64 cl, .int .i64 bd, .int .i64 ah, .int .i64 se, .int .i64 st, .slice a n c]) ∧ Rd w' (.slice a n c) ms ∧ Below w.heap.size w w' ∧ (∀ k, (Value.slice a n c).ownBlock = some k → w.heap.size ≤ k) ∧ ((.slice oa on_ oc : Value) = .slice none 0 0 → (.slice a n c : Value) = .slice none 0 0) :=
  own27 ⟨t, f, s, d, cl, bd, ah, se, st, oa, on_, oc⟩ ms w h
theorem rd_block_lt {w : World} {a : Option Addr} {n c : Nat} {ms : List Value} (h : Rd w (.slice a n c) ms) (hm : ms ≠ []) {q : Nat} (hq : (Value.slice a n c).ownBlock = some q) : q < w.heap.size := by
  rcases h with ⟨_, h⟩ | ⟨ad, n', c', e, _, _, _, h4⟩
  · exact absurd h hm
  · cases e
    obtain ⟨u, ms', rfl⟩ := List.exists_cons_of_ne_nil hm
    have h0 := World.block_lt_of_cell? w _ (h4 0 u rfl)
    simp only [Value.ownBlock, Option.some.injEq] at hq
    have e0 : (ad.add 0).block = ad.block := by unfold Addr.add; split <;> rfl
    omega
theorem cells_one (e : Ent) : ∀ u ∈ e.cells, u.oneCell' = true := by
  intro u hu
  simp only [Ent.cells, List.mem_cons, List.not_mem_nil, or_false] at hu
  rcases hu with rfl | rfl | rfl | rfl | rfl | rfl | rfl | rfl | rfl | rfl <;> rfl
set_option maxHeartbeats 4000000 in
set_option maxRecDepth 100000 in
theorem push_ok (w : World) (B g : Nat) (A : Option Addr) (c : Nat) (fl : Int) (L : List Ent) (h : PastAt w B g A c fl L) (hr : Rds w L) (e : Ent) (ms : List Value) (he : Rd w e.o ms)
    (h1 : fl ≤ e.t) (h2 : ∀ l, L.getLast? = some l → kc l.t l.f l.s e.t e.f e.s < 0) (h3 : L.length < 64) :
    Calls Try.prog 9 #[.pointer (some ⟨g, 0, none⟩), e.val] w fun x w' => ∃ A' c' a n k, x = .returned (.int .i64 0) ∧ PastAt w' B g A' c' fl (L ++ [{ e with oa := a, on_ := n, oc := k }]) ∧ Rd w' (.slice a n k) ms ∧ Kept w w' (fun k => k = g ∨ some k = (Value.slice A L.length c).ownBlock) ∧ (∀ B', B' ≤ g → (∀ k, (Value.slice A L.length c).ownBlock = some k → B' ≤ k) → B' ≤ w.heap.size → Below B' w w') ∧ (A'.map (·.block) = (Value.slice A L.length c).ownBlock ∨ ∃ k, A'.map (·.block) = some k ∧ w.heap.size ≤ k) ∧ (e.o = .slice none 0 0 → (.slice a n k : Value) = .slice none 0 0) ∧ (∀ q, (Value.slice a n k).ownBlock = some q → w.heap.size ≤ q ∧ (ms ≠ [] → A'.map (·.block) ≠ some q)) := by
  have hu32 := Try.underlying32
  have hu65 := Try.underlying65
  have hu35 := Try.underlying35
  have hu29 := Try.underlying29
  have hu27 := Try.underlying27
  have hn := h.2.2.2
  obtain ⟨i0, hi, hz0, hz1, hz2⟩ := info_parts info32
  have hBg := h.2.2.1
  have hAo := own_lt h.2.1
  have hneG := h.ne
  have hneE : some w.heap.size ≠ (Value.slice A L.length c).ownBlock := fun q => Nat.lt_irrefl _ (own_lt h.2.1 _ q.symm)
  obtain ⟨W0, hW0⟩ : ∃ W0, W0 = w.alloc (.cells #[.int .i64 e.t, .int .i64 e.f, .int .i64 e.s, .int .i64 e.d, .int .i64 e.cl, .int .i64 e.bd, .int .i64 e.ah, .int .i64 e.se, .int .i64 e.st, .slice e.oa e.on_ e.oc] 32) := ⟨_, rfl⟩
  have hB0 : Below w.heap.size w W0 := by rw [hW0]; exact (Below.refl _ w).alloc (Nat.le_refl _) _
  have hs0 : W0.heap.size = w.heap.size + 1 := by rw [hW0]; simp
  have gE : W0.heap[w.heap.size]? = some (.cells #[.int .i64 e.t, .int .i64 e.f, .int .i64 e.s, .int .i64 e.d, .int .i64 e.cl, .int .i64 e.bd, .int .i64 e.ah, .int .i64 e.se, .int .i64 e.st, .slice e.oa e.on_ e.oc] 32 (0, 0)) := by rw [hW0]; exact blk_new' _ _
  have gG : W0.heap[g]? = some (.cells #[.int .i64 fl, .slice A L.length c] 65 (0, 0)) := by rw [hW0]; exact blk_old' _ h.1
  have hPast : PastAt W0 B g A c fl L := ⟨gG, by rw [hW0]; exact h.2.1.alloc _, h.2.2⟩
  have hr0 : Rds W0 L := fun x hx => by obtain ⟨m, hm⟩ := hr x hx; exact ⟨m, hm.below hB0⟩
  have hlast := last_at W0 B g A c fl L hPast hr0
  obtain ⟨em, hem⟩ : ∃ em, em = L.isEmpty := ⟨_, rfl⟩
  rw [← hem] at hlast
  have HM := Lib.hid hem
  have HL := Lib.hid hlast
  clear hem
  have HE := Lib.hid (he.below hB0)
  have HP := Lib.hid hPast
  have H2 := Lib.hid h2
  have HB := Lib.hid hB0
  have GE := Lib.hid gE
  have GG := Lib.hid gG
  have hgl := blk_lt h.1
  clear hlast hPast h2 hB0 gE gG hr0 he hr h
  obtain ⟨t, f, s, d, cl, bd, ah, se, st, oa, on_, oc⟩ := e
  simp only [Ent.val, Ent.o] at *
  go_enter Try.func9, Try.ntmps9
  go_wp2_with (first
    | (go_at_call 22; rw [← hW0]; refine HL.out.mono ?_; rintro x w1 ⟨⟨t1, f1, s1, d1, cl1, bd1, ah1, se1, st1, oa1, on1, oc1⟩, rfl, hl1, hb1⟩; simp only [Ent.val] at *; have hl2 : em = false → kc t1 f1 s1 t f s < 0 := (fun q => by have q2 := HM.out; rw [q] at q2; cases hg : L.getLast? with | none => simp at hg; simp [hg] at q2 | some l => obtain ⟨x1, x2, x3⟩ := hl1 l hg; have := H2.out l hg; rw [x1, x2, x3]; exact this);
       have m0 := (hb1.block _ (by omega)).trans GE.out; have m1 := (hb1.block _ (by omega)).trans GG.out))
  have m2 := blk_old' (Obj.cells #[.int .i64 t1, .int .i64 f1, .int .i64 s1, .int .i64 d1, .int .i64 cl1, .int .i64 bd1, .int .i64 ah1, .int .i64 se1, .int .i64 st1, .slice oa1 on1 oc1] 32) m0
  have m3 := blk_old' (Obj.cells #[.int .i64 t1, .int .i64 f1, .int .i64 s1, .int .i64 d1, .int .i64 cl1, .int .i64 bd1, .int .i64 ah1, .int .i64 se1, .int .i64 st1, .slice oa1 on1 oc1] 32) m1
  have m4 := blk_new' w1 (Obj.cells #[.int .i64 t1, .int .i64 f1, .int .i64 s1, .int .i64 d1, .int .i64 cl1, .int .i64 bd1, .int .i64 ah1, .int .i64 se1, .int .i64 st1, .slice oa1 on1 oc1] 32)
  have hb2 : Below W0.heap.size W0 (w1.alloc (Obj.cells #[.int .i64 t1, .int .i64 f1, .int .i64 s1, .int .i64 d1, .int .i64 cl1, .int .i64 bd1, .int .i64 ah1, .int .i64 se1, .int .i64 st1, .slice oa1 on1 oc1] 32)) := below_alloc hb1 _
  generalize w1.alloc (Obj.cells #[.int .i64 t1, .int .i64 f1, .int .i64 s1, .int .i64 d1, .int .i64 cl1, .int .i64 bd1, .int .i64 ah1, .int .i64 se1, .int .i64 st1, .slice oa1 on1 oc1] 32) = W2 at *
  have E0 := mcell m2 0
  have E1 := mcell m2 1
  have E2 := mcell m2 2
  have E3 := mcell m2 3
  have E4 := mcell m2 4
  have E5 := mcell m2 5
  have E6 := mcell m2 6
  have E7 := mcell m2 7
  have E8 := mcell m2 8
  have E9 := mcell m2 9
  simp at E0 E1 E2 E3 E4 E5 E6 E7 E8 E9
  have T0 := mcell m4 0
  have T1 := mcell m4 1
  have T2 := mcell m4 2
  have T3 := mcell m4 3
  have T4 := mcell m4 4
  have T5 := mcell m4 5
  have T6 := mcell m4 6
  have T7 := mcell m4 7
  have T8 := mcell m4 8
  have T9 := mcell m4 9
  simp at T0 T1 T2 T3 T4 T5 T6 T7 T8 T9
  have G0 := mcell m3 0
  have G1 := mcell m3 1
  simp at G0 G1
  have hlt : (decide (t < fl)) = false := decide_eq_false (by omega)
  go_quiet (fail)
  have m5 : (W2.drewN nq).heap[w.heap.size]? = some (.cells #[.int .i64 t, .int .i64 f, .int .i64 s, .int .i64 d, .int .i64 cl, .int .i64 bd, .int .i64 ah, .int .i64 se, .int .i64 st, .slice oa on_ oc] 32 (0, 0)) := m2
  have m6 : (W2.drewN nq).heap[g]? = some (.cells #[.int .i64 fl, .slice A L.length c] 65 (0, 0)) := m3
  have m7 : (W2.drewN nq).heap[w1.heap.size]? = some (.cells #[.int .i64 t1, .int .i64 f1, .int .i64 s1, .int .i64 d1, .int .i64 cl1, .int .i64 bd1, .int .i64 ah1, .int .i64 se1, .int .i64 st1, .slice oa1 on1 oc1] 32 (0, 0)) := m4
  have hb3 : Below W0.heap.size W0 (W2.drewN nq) := pw_below_drewN hb2 nq
  generalize W2.drewN nq = W3 at *
  clear E0 E1 E2 E3 E4 E5 E6 E7 E8 E9 T0 T1 T2 T3 T4 T5 T6 T7 T8 T9 G0 G1 m0 m1 m2 m3 m4 hb1 hb2
  have E0 := mcell m5 0
  have E1 := mcell m5 1
  have E2 := mcell m5 2
  have E3 := mcell m5 3
  have E4 := mcell m5 4
  have E5 := mcell m5 5
  have E6 := mcell m5 6
  have E7 := mcell m5 7
  have E8 := mcell m5 8
  have E9 := mcell m5 9
  simp at E0 E1 E2 E3 E4 E5 E6 E7 E8 E9
  have T0 := mcell m7 0
  have T1 := mcell m7 1
  have T2 := mcell m7 2
  have T3 := mcell m7 3
  have T4 := mcell m7 4
  have T5 := mcell m7 5
  have T6 := mcell m7 6
  have T7 := mcell m7 7
  have T8 := mcell m7 8
  have T9 := mcell m7 9
  simp at T0 T1 T2 T3 T4 T5 T6 T7 T8 T9
  have G0 := mcell m6 0
  have G1 := mcell m6 1
  simp at G0 G1
  have hlen : (L.length : Int) < 64 := by omega
  cases em with
  | true =>
    go_wp2
    clear G0 T0 T1 T2 T3 T4 T5 T6 T7 T8 T9 m5 m6 m7
    refine start_ (n := 12) (S := fun w' => w'.cell? ⟨g, 1, none⟩ = some (.slice A L.length c) ∧ w'.cell? ⟨w.heap.size, 0, none⟩ = some (.int .i64 t) ∧ w'.cell? ⟨w.heap.size, 1, none⟩ = some (.int .i64 f) ∧ w'.cell? ⟨w.heap.size, 2, none⟩ = some (.int .i64 s) ∧ w'.cell? ⟨w.heap.size, 3, none⟩ = some (.int .i64 d) ∧ w'.cell? ⟨w.heap.size, 4, none⟩ = some (.int .i64 cl) ∧ w'.cell? ⟨w.heap.size, 5, none⟩ = some (.int .i64 bd) ∧ w'.cell? ⟨w.heap.size, 6, none⟩ = some (.int .i64 ah) ∧ w'.cell? ⟨w.heap.size, 7, none⟩ = some (.int .i64 se) ∧ w'.cell? ⟨w.heap.size, 8, none⟩ = some (.int .i64 st) ∧ w'.cell? ⟨w.heap.size, 9, none⟩ = some (.slice oa on_ oc)) (ds := [11]) #[false, false, false, false, false, false, false, false, false, false, false, false] (by kernel_rfl) rfl rfl ⟨G1, E0, E1, E2, E3, E4, E5, E6, E7, E8, E9⟩ (fun hHeld => ?_)
    have E_ := (⟨G1, E0, E1, E2, E3, E4, E5, E6, E7, E8, E9⟩ : W3.drew.cell? ⟨g, 1, none⟩ = some (.slice A L.length c) ∧ W3.drew.cell? ⟨w.heap.size, 0, none⟩ = some (.int .i64 t) ∧ W3.drew.cell? ⟨w.heap.size, 1, none⟩ = some (.int .i64 f) ∧ W3.drew.cell? ⟨w.heap.size, 2, none⟩ = some (.int .i64 s) ∧ W3.drew.cell? ⟨w.heap.size, 3, none⟩ = some (.int .i64 d) ∧ W3.drew.cell? ⟨w.heap.size, 4, none⟩ = some (.int .i64 cl) ∧ W3.drew.cell? ⟨w.heap.size, 5, none⟩ = some (.int .i64 bd) ∧ W3.drew.cell? ⟨w.heap.size, 6, none⟩ = some (.int .i64 ah) ∧ W3.drew.cell? ⟨w.heap.size, 7, none⟩ = some (.int .i64 se) ∧ W3.drew.cell? ⟨w.heap.size, 8, none⟩ = some (.int .i64 st) ∧ W3.drew.cell? ⟨w.heap.size, 9, none⟩ = some (.slice oa on_ oc))
    obtain ⟨G1, E0, E1, E2, E3, E4, E5, E6, E7, E8, E9⟩ := E_
    replace hb3 := below_drew1 hb3
    generalize W3.drew = W4 at *
    refine pure_ (i := 0) (N := (some 39)) (v := ?_) (a' := ?_) #[true, false, false, false, false, false, false, false, false, false, false, false] rfl rfl (by kernel_rfl) (fun _ _ _ h => h) (Or.inl ⟨by rfl, ?_⟩) ?_ ?_
    rotate_left
    · intro w'
      go_simp
      with_reducible rfl
    rotate_left
    · simp only [Act.put, List.setIfInBounds_toArray, List.set_cons_zero, List.set_cons_succ, i64_w, i32_w]
      rfl
    refine pure_ (i := 1) (N := (some 40)) (v := ?_) (a' := ?_) #[true, true, false, false, false, false, false, false, false, false, false, false] rfl rfl (by kernel_rfl) (fun _ _ _ h => h) (Or.inl ⟨by rfl, ?_⟩) ?_ ?_
    rotate_left
    · intro w'
      go_simp
      with_reducible rfl
    rotate_left
    · simp only [Act.put, List.setIfInBounds_toArray, List.set_cons_zero, List.set_cons_succ, i64_w, i32_w]
      rfl
    refine pure_ (i := 2) (N := (some 41)) (v := ?_) (a' := ?_) #[true, true, true, false, false, false, false, false, false, false, false, false] rfl rfl (by kernel_rfl) (fun _ _ _ h => h) (Or.inl ⟨by rfl, ?_⟩) ?_ ?_
    rotate_left
    · intro w'
      go_simp
      with_reducible rfl
    rotate_left
    · simp only [Act.put, List.setIfInBounds_toArray, List.set_cons_zero, List.set_cons_succ, i64_w, i32_w]
      rfl
    refine pure_ (i := 3) (N := (some 42)) (v := ?_) (a' := ?_) #[true, true, true, true, false, false, false, false, false, false, false, false] rfl rfl (by kernel_rfl) (fun _ _ _ h => h) (Or.inl ⟨by rfl, ?_⟩) ?_ ?_
    rotate_left
    · intro w'
      go_simp
      with_reducible rfl
    rotate_left
    · simp only [Act.put, List.setIfInBounds_toArray, List.set_cons_zero, List.set_cons_succ, i64_w, i32_w]
      rfl
    refine take_ (i := 4) (N := (some 43)) (v := ?_) (a' := ?_) #[true, true, true, true, true, false, false, false, false, false, false, false] rfl rfl (by kernel_rfl) (fun _ _ _ h => h) (Or.inl ⟨by rfl, ?_⟩) hHeld ?_ ?_
    rotate_left
    · intro w' hS_
      obtain ⟨s0_, s1_, s2_, s3_, s4_, s5_, s6_, s7_, s8_, s9_, s10_⟩ := hS_
      go_simp
      with_reducible rfl
    rotate_left
    · simp only [Act.put, List.setIfInBounds_toArray, List.set_cons_zero, List.set_cons_succ, i64_w, i32_w]
      rfl
    refine take_ (i := 5) (N := (some 44)) (v := (.agg #[.int .i64 t, .int .i64 f, .int .i64 s, .int .i64 d, .int .i64 cl, .int .i64 bd, .int .i64 ah, .int .i64 se, .int .i64 st, .slice oa on_ oc])) (a' := ?_) #[true, true, true, true, true, true, false, false, false, false, false, false] rfl rfl (by kernel_rfl) (fun _ _ _ h => h) (Or.inl ⟨by rfl, ?_⟩) hHeld ?_ ?_
    · intro w' hS_
      obtain ⟨s0_, s1_, s2_, s3_, s4_, s5_, s6_, s7_, s8_, s9_, s10_⟩ := hS_
      go_simp
      try rfl
    rotate_left
    · simp only [Act.put, List.setIfInBounds_toArray, List.set_cons_zero, List.set_cons_succ, i64_w, i32_w]
      rfl
    refine one_ (i := 6) (N := (some 45)) #[true, true, true, true, true, true, true, false, false, false, false, false] rfl rfl (by kernel_rfl) (by decide) (fun K hK => ?_)
    refine goes_ Try.func27 (by kernel_rfl) rfl #[.agg #[.int .i64 t, .int .i64 f, .int .i64 s, .int .i64 d, .int .i64 cl, .int .i64 bd, .int .i64 ah, .int .i64 se, .int .i64 st, .slice oa on_ oc]] (by rfl) rfl rfl (by simp only [List.map_toArray, List.map_cons, List.map_nil]; rfl) ?_
    refine (own27v t f s d cl bd ah se st oa on_ oc ms _ (HE.out.below hb3)).mono ?_
    rintro x w5 ⟨a', n', k', rfl, hr5, hb5, hg5, hn5⟩
    have q5 : Below W0.heap.size W0 w5 := hb3.trans (hb5.mono hb3.size)
    have P5 := HP.out.below q5
    have z5 := q5.size
    have y5 := hb5.size
    refine ⟨_, rfl, hK.out _ _ ⟨pw_cell_below hb5 G1, pw_cell_below hb5 E0, pw_cell_below hb5 E1, pw_cell_below hb5 E2, pw_cell_below hb5 E3, pw_cell_below hb5 E4, pw_cell_below hb5 E5, pw_cell_below hb5 E6, pw_cell_below hb5 E7, pw_cell_below hb5 E8, pw_cell_below hb5 E9⟩ (fun hHeld => ?_)⟩
    clear hK K
    refine norm_ (a' := ?_) ?_ ?_
    rotate_left
    · show Act.put _ (some 45) _ = _
      simp only [Act.put, List.setIfInBounds_toArray, List.set_cons_zero, List.set_cons_succ, i64_w, i32_w]
      rfl
    refine one_ (i := 7) (N := (some 46)) #[true, true, true, true, true, true, true, true, false, false, false, false] rfl rfl (by kernel_rfl) (by decide) (fun K hK => ?_)
    refine value_ (w1 := ?_) (v := ?_) (by rfl) rfl ?_ ?_
    rotate_left 2
    · go_simp
      constructor
      · rfl
      · rfl
    refine hK.out _ _ ⟨cell_al (pw_cell_below hb5 G1) _, cell_al (pw_cell_below hb5 E0) _, cell_al (pw_cell_below hb5 E1) _, cell_al (pw_cell_below hb5 E2) _, cell_al (pw_cell_below hb5 E3) _, cell_al (pw_cell_below hb5 E4) _, cell_al (pw_cell_below hb5 E5) _, cell_al (pw_cell_below hb5 E6) _, cell_al (pw_cell_below hb5 E7) _, cell_al (pw_cell_below hb5 E8) _, cell_al (pw_cell_below hb5 E9) _⟩ (fun hHeld => ?_)
    clear hK K
    refine norm_ (a' := ?_) ?_ ?_
    rotate_left
    · show Act.put _ (some 46) _ = _
      simp only [Act.put, List.setIfInBounds_toArray, List.set_cons_zero, List.set_cons_succ, i64_w, i32_w]
      rfl
    refine one_ (i := 8) (N := (some 47)) #[true, true, true, true, true, true, true, true, true, false, false, false] rfl rfl (by kernel_rfl) (by decide) (fun K hK => ?_)
    refine step_append_lies _ rfl (.tmp 43) (.tmp 46) 35 (by rfl) B 32 i0 _ 10 96 Try.underlying35 hi hz0 hz1 hz2 rfl (by decide) (.slice A L.length c) L.length (flat L) (by rfl) (P5.2.1.alloc _) ⟨w5.heap.size, 0, none⟩ 1 1 (⟨t, f, s, d, cl, bd, ah, se, st, a', n', k'⟩ : Ent).cells (by rfl) rfl (World.news_of_block (heap_alloc_new w5 _)) (cells_one _) (by decide) (by unfold maxLen; omega) (by omega) (by simp; omega) (w5.heap.size + 1) (by simp) ?_
    intro gA capA w6 hown6 hg6 hat6 hlt6
    refine hK.out _ _ ⟨(hg6.cell_far _ (by simp; omega) hneG).trans (cell_al (pw_cell_below hb5 G1) _), (hg6.cell_far _ (by simp; omega) hneE).trans (cell_al (pw_cell_below hb5 E0) _), (hg6.cell_far _ (by simp; omega) hneE).trans (cell_al (pw_cell_below hb5 E1) _), (hg6.cell_far _ (by simp; omega) hneE).trans (cell_al (pw_cell_below hb5 E2) _), (hg6.cell_far _ (by simp; omega) hneE).trans (cell_al (pw_cell_below hb5 E3) _), (hg6.cell_far _ (by simp; omega) hneE).trans (cell_al (pw_cell_below hb5 E4) _), (hg6.cell_far _ (by simp; omega) hneE).trans (cell_al (pw_cell_below hb5 E5) _), (hg6.cell_far _ (by simp; omega) hneE).trans (cell_al (pw_cell_below hb5 E6) _), (hg6.cell_far _ (by simp; omega) hneE).trans (cell_al (pw_cell_below hb5 E7) _), (hg6.cell_far _ (by simp; omega) hneE).trans (cell_al (pw_cell_below hb5 E8) _), (hg6.cell_far _ (by simp; omega) hneE).trans (cell_al (pw_cell_below hb5 E9) _)⟩ (fun hHeld => ?_)
    clear hK K
    refine norm_ (a' := ?_) ?_ ?_
    rotate_left
    · show Act.put _ (some 47) _ = _
      simp only [Act.put, List.setIfInBounds_toArray, List.set_cons_zero, List.set_cons_succ, i64_w, i32_w]
      rfl
    refine pure_ (i := 9) (N := (some 48)) (v := ?_) (a' := ?_) #[true, true, true, true, true, true, true, true, true, true, false, false] rfl rfl (by kernel_rfl) (fun _ _ _ h => h) (Or.inl ⟨by rfl, ?_⟩) ?_ ?_
    rotate_left
    · intro w'
      go_simp
      with_reducible rfl
    rotate_left
    · simp only [Act.put, List.setIfInBounds_toArray, List.set_cons_zero, List.set_cons_succ, i64_w, i32_w]
      rfl
    refine pure_ (i := 10) (N := (some 49)) (v := ?_) (a' := ?_) #[true, true, true, true, true, true, true, true, true, true, true, false] rfl rfl (by kernel_rfl) (fun _ _ _ h => h) (Or.inl ⟨by rfl, ?_⟩) ?_ ?_
    rotate_left
    · intro w'
      go_simp
      with_reducible rfl
    rotate_left
    · simp only [Act.put, List.setIfInBounds_toArray, List.set_cons_zero, List.set_cons_succ, i64_w, i32_w]
      rfl
    refine last_ (i := 11) (N := none) #[true, true, true, true, true, true, true, true, true, true, true, true] rfl rfl (by kernel_rfl) (by decide) (fun K hK => ?_)
    have m8 : w6.heap[g]? = some (.cells #[.int .i64 fl, .slice A L.length c] 65 (0, 0)) := (hg6.block g (by simp; omega) hneG).trans (blk_old' _ P5.1)
    have fz := mfrozen m8 1
    have c8 := mcell m8 1
    simp at c8
    refine skip_ (w1 := w6.setCell ⟨g, 1, none⟩ (.slice (some ⟨gA, 0, none⟩) (L.length + 1) capA)) (by rfl) rfl (by go_simp) ?_
    refine hK.out _ _ ?_
    clear hK K
    refine done_ (by kernel_rfl) ?_
    go_wp2
    go_ret
    have z4 := hb3.size
    have hl5 : w.heap.size ≤ w5.heap.size := by omega
    have hgAg : gA ≠ g := by
      rcases hat6 with q | q
      · intro e
        subst e
        exact hneG q.symm
      · omega
    have hK5 : Kept w5 (w6.setCell ⟨g, 1, none⟩ (.slice (some ⟨gA, 0, none⟩) (L.length + 1) capA)) (fun k => k = g ∨ some k = (Value.slice A L.length c).ownBlock) :=
      (Kept.of_grown hg6 ((Kept.refl w5 _).alloc _) (fun k hk => .inl (.inr hk.symm))).setCell (p := ⟨g, 1, none⟩) (.inl (.inl rfl)) _
    have hB5 : Below w.heap.size w w5 := HB.out.trans (q5.mono (by omega))
    refine ⟨some ⟨gA, 0, none⟩, capA, a', n', k', ?_, ⟨?_, ?_, hBg, by simp; omega⟩, hr5.kept hK5 ?_, (Kept.of_below hB5 _).then_ hK5 (fun k hk => .inl hk), ?_, ?_, hn5, fun q hq => ⟨by have := hg5 q hq; omega, fun hms e => ?_⟩⟩
    · rfl
    · have := blk_set m8 1 (.slice (some ⟨gA, 0, none⟩) (L.length + 1) capA)
      rw [List.length_append, List.length_singleton]
      simpa using this
    · rw [List.length_append, List.length_singleton]
      have hf : flat (L ++ [(⟨t, f, s, d, cl, bd, ah, se, st, a', n', k'⟩ : Ent)]) = flat L ++ (⟨t, f, s, d, cl, bd, ah, se, st, a', n', k'⟩ : Ent).cells := by simp [flat]
      rw [hf]
      exact own_move hown6 (fun k hk => Below.heap_setCell w6 _ _ k (by simp only [Value.ownBlock, Option.some.injEq] at hk; simp; omega))
    · intro k hk h
      have := hg5 k hk
      rcases h with h | h
      · omega
      · have := hAo k h.symm
        omega
    · intro B' b1 b2 b3
      exact (((hB5.mono b3).alloc (by omega) _).grown hg6 (by simp; omega) (fun k hk => b2 k hk)).setCell (p := ⟨g, 1, none⟩) b1 _
    · rcases hat6 with q | q
      · exact .inl q.symm
      · exact .inr ⟨gA, rfl, by omega⟩
    · simp only [Option.map_some, Option.some.injEq] at e
      subst e
      have h5 := hg5 _ hq
      have hlt5 := rd_block_lt hr5 hms hq
      rcases hat6 with q | q
      · have := hAo _ q
        omega
      · omega
  | false =>
    have hk := hl2 rfl
    go_wp2_with (first | (go_at_call 26; refine (ahead_at ⟨t1, f1, s1, d1, cl1, bd1, ah1, se1, st1, oa1, on1, oc1⟩ t f s _).mono ?_; rintro x w4 ⟨rfl, hb4⟩; rw [decide_eq_true hk]; have z3 := hb3.size; have n6 := (hb4.block _ (by have := blk_lt m6; omega)).trans m6; have k1 := mcell n6 1; simp at k1))
    have z3 := hb3.size
    have n5 := (hb4.block _ (blk_lt m5)).trans m5
    have n6 := (hb4.block _ (blk_lt m6)).trans m6
    replace hb3 := hb3.trans (hb4.mono z3)
    clear E0 E1 E2 E3 E4 E5 E6 E7 E8 E9 G0 G1 T0 T1 T2 T3 T4 T5 T6 T7 T8 T9 m5 m6 m7 hb4
    have E0 := mcell n5 0
    have E1 := mcell n5 1
    have E2 := mcell n5 2
    have E3 := mcell n5 3
    have E4 := mcell n5 4
    have E5 := mcell n5 5
    have E6 := mcell n5 6
    have E7 := mcell n5 7
    have E8 := mcell n5 8
    have E9 := mcell n5 9
    simp at E0 E1 E2 E3 E4 E5 E6 E7 E8 E9
    have G1 := mcell n6 1
    simp at G1
    clear n5 n6
    refine start_ (n := 12) (S := fun w' => w'.cell? ⟨g, 1, none⟩ = some (.slice A L.length c) ∧ w'.cell? ⟨w.heap.size, 0, none⟩ = some (.int .i64 t) ∧ w'.cell? ⟨w.heap.size, 1, none⟩ = some (.int .i64 f) ∧ w'.cell? ⟨w.heap.size, 2, none⟩ = some (.int .i64 s) ∧ w'.cell? ⟨w.heap.size, 3, none⟩ = some (.int .i64 d) ∧ w'.cell? ⟨w.heap.size, 4, none⟩ = some (.int .i64 cl) ∧ w'.cell? ⟨w.heap.size, 5, none⟩ = some (.int .i64 bd) ∧ w'.cell? ⟨w.heap.size, 6, none⟩ = some (.int .i64 ah) ∧ w'.cell? ⟨w.heap.size, 7, none⟩ = some (.int .i64 se) ∧ w'.cell? ⟨w.heap.size, 8, none⟩ = some (.int .i64 st) ∧ w'.cell? ⟨w.heap.size, 9, none⟩ = some (.slice oa on_ oc)) (ds := [11]) #[false, false, false, false, false, false, false, false, false, false, false, false] (by kernel_rfl) rfl rfl ⟨G1, E0, E1, E2, E3, E4, E5, E6, E7, E8, E9⟩ (fun hHeld => ?_)
    have E_ := (⟨G1, E0, E1, E2, E3, E4, E5, E6, E7, E8, E9⟩ : w4.drew.cell? ⟨g, 1, none⟩ = some (.slice A L.length c) ∧ w4.drew.cell? ⟨w.heap.size, 0, none⟩ = some (.int .i64 t) ∧ w4.drew.cell? ⟨w.heap.size, 1, none⟩ = some (.int .i64 f) ∧ w4.drew.cell? ⟨w.heap.size, 2, none⟩ = some (.int .i64 s) ∧ w4.drew.cell? ⟨w.heap.size, 3, none⟩ = some (.int .i64 d) ∧ w4.drew.cell? ⟨w.heap.size, 4, none⟩ = some (.int .i64 cl) ∧ w4.drew.cell? ⟨w.heap.size, 5, none⟩ = some (.int .i64 bd) ∧ w4.drew.cell? ⟨w.heap.size, 6, none⟩ = some (.int .i64 ah) ∧ w4.drew.cell? ⟨w.heap.size, 7, none⟩ = some (.int .i64 se) ∧ w4.drew.cell? ⟨w.heap.size, 8, none⟩ = some (.int .i64 st) ∧ w4.drew.cell? ⟨w.heap.size, 9, none⟩ = some (.slice oa on_ oc))
    obtain ⟨G1, E0, E1, E2, E3, E4, E5, E6, E7, E8, E9⟩ := E_
    replace hb3 := below_drew1 hb3
    generalize w4.drew = W4 at *
    refine pure_ (i := 0) (N := (some 39)) (v := ?_) (a' := ?_) #[true, false, false, false, false, false, false, false, false, false, false, false] rfl rfl (by kernel_rfl) (fun _ _ _ h => h) (Or.inl ⟨by rfl, ?_⟩) ?_ ?_
    rotate_left
    · intro w'
      go_simp
      with_reducible rfl
    rotate_left
    · simp only [Act.put, List.setIfInBounds_toArray, List.set_cons_zero, List.set_cons_succ, i64_w, i32_w]
      rfl
    refine pure_ (i := 1) (N := (some 40)) (v := ?_) (a' := ?_) #[true, true, false, false, false, false, false, false, false, false, false, false] rfl rfl (by kernel_rfl) (fun _ _ _ h => h) (Or.inl ⟨by rfl, ?_⟩) ?_ ?_
    rotate_left
    · intro w'
      go_simp
      with_reducible rfl
    rotate_left
    · simp only [Act.put, List.setIfInBounds_toArray, List.set_cons_zero, List.set_cons_succ, i64_w, i32_w]
      rfl
    refine pure_ (i := 2) (N := (some 41)) (v := ?_) (a' := ?_) #[true, true, true, false, false, false, false, false, false, false, false, false] rfl rfl (by kernel_rfl) (fun _ _ _ h => h) (Or.inl ⟨by rfl, ?_⟩) ?_ ?_
    rotate_left
    · intro w'
      go_simp
      with_reducible rfl
    rotate_left
    · simp only [Act.put, List.setIfInBounds_toArray, List.set_cons_zero, List.set_cons_succ, i64_w, i32_w]
      rfl
    refine pure_ (i := 3) (N := (some 42)) (v := ?_) (a' := ?_) #[true, true, true, true, false, false, false, false, false, false, false, false] rfl rfl (by kernel_rfl) (fun _ _ _ h => h) (Or.inl ⟨by rfl, ?_⟩) ?_ ?_
    rotate_left
    · intro w'
      go_simp
      with_reducible rfl
    rotate_left
    · simp only [Act.put, List.setIfInBounds_toArray, List.set_cons_zero, List.set_cons_succ, i64_w, i32_w]
      rfl
    refine take_ (i := 4) (N := (some 43)) (v := ?_) (a' := ?_) #[true, true, true, true, true, false, false, false, false, false, false, false] rfl rfl (by kernel_rfl) (fun _ _ _ h => h) (Or.inl ⟨by rfl, ?_⟩) hHeld ?_ ?_
    rotate_left
    · intro w' hS_
      obtain ⟨s0_, s1_, s2_, s3_, s4_, s5_, s6_, s7_, s8_, s9_, s10_⟩ := hS_
      go_simp
      with_reducible rfl
    rotate_left
    · simp only [Act.put, List.setIfInBounds_toArray, List.set_cons_zero, List.set_cons_succ, i64_w, i32_w]
      rfl
    refine take_ (i := 5) (N := (some 44)) (v := (.agg #[.int .i64 t, .int .i64 f, .int .i64 s, .int .i64 d, .int .i64 cl, .int .i64 bd, .int .i64 ah, .int .i64 se, .int .i64 st, .slice oa on_ oc])) (a' := ?_) #[true, true, true, true, true, true, false, false, false, false, false, false] rfl rfl (by kernel_rfl) (fun _ _ _ h => h) (Or.inl ⟨by rfl, ?_⟩) hHeld ?_ ?_
    · intro w' hS_
      obtain ⟨s0_, s1_, s2_, s3_, s4_, s5_, s6_, s7_, s8_, s9_, s10_⟩ := hS_
      go_simp
      try rfl
    rotate_left
    · simp only [Act.put, List.setIfInBounds_toArray, List.set_cons_zero, List.set_cons_succ, i64_w, i32_w]
      rfl
    refine one_ (i := 6) (N := (some 45)) #[true, true, true, true, true, true, true, false, false, false, false, false] rfl rfl (by kernel_rfl) (by decide) (fun K hK => ?_)
    refine goes_ Try.func27 (by kernel_rfl) rfl #[.agg #[.int .i64 t, .int .i64 f, .int .i64 s, .int .i64 d, .int .i64 cl, .int .i64 bd, .int .i64 ah, .int .i64 se, .int .i64 st, .slice oa on_ oc]] (by rfl) rfl rfl (by simp only [List.map_toArray, List.map_cons, List.map_nil]; rfl) ?_
    refine (own27v t f s d cl bd ah se st oa on_ oc ms _ (HE.out.below hb3)).mono ?_
    rintro x w5 ⟨a', n', k', rfl, hr5, hb5, hg5, hn5⟩
    have q5 : Below W0.heap.size W0 w5 := hb3.trans (hb5.mono hb3.size)
    have P5 := HP.out.below q5
    have z5 := q5.size
    have y5 := hb5.size
    refine ⟨_, rfl, hK.out _ _ ⟨pw_cell_below hb5 G1, pw_cell_below hb5 E0, pw_cell_below hb5 E1, pw_cell_below hb5 E2, pw_cell_below hb5 E3, pw_cell_below hb5 E4, pw_cell_below hb5 E5, pw_cell_below hb5 E6, pw_cell_below hb5 E7, pw_cell_below hb5 E8, pw_cell_below hb5 E9⟩ (fun hHeld => ?_)⟩
    clear hK K
    refine norm_ (a' := ?_) ?_ ?_
    rotate_left
    · show Act.put _ (some 45) _ = _
      simp only [Act.put, List.setIfInBounds_toArray, List.set_cons_zero, List.set_cons_succ, i64_w, i32_w]
      rfl
    refine one_ (i := 7) (N := (some 46)) #[true, true, true, true, true, true, true, true, false, false, false, false] rfl rfl (by kernel_rfl) (by decide) (fun K hK => ?_)
    refine value_ (w1 := ?_) (v := ?_) (by rfl) rfl ?_ ?_
    rotate_left 2
    · go_simp
      constructor
      · rfl
      · rfl
    refine hK.out _ _ ⟨cell_al (pw_cell_below hb5 G1) _, cell_al (pw_cell_below hb5 E0) _, cell_al (pw_cell_below hb5 E1) _, cell_al (pw_cell_below hb5 E2) _, cell_al (pw_cell_below hb5 E3) _, cell_al (pw_cell_below hb5 E4) _, cell_al (pw_cell_below hb5 E5) _, cell_al (pw_cell_below hb5 E6) _, cell_al (pw_cell_below hb5 E7) _, cell_al (pw_cell_below hb5 E8) _, cell_al (pw_cell_below hb5 E9) _⟩ (fun hHeld => ?_)
    clear hK K
    refine norm_ (a' := ?_) ?_ ?_
    rotate_left
    · show Act.put _ (some 46) _ = _
      simp only [Act.put, List.setIfInBounds_toArray, List.set_cons_zero, List.set_cons_succ, i64_w, i32_w]
      rfl
    refine one_ (i := 8) (N := (some 47)) #[true, true, true, true, true, true, true, true, true, false, false, false] rfl rfl (by kernel_rfl) (by decide) (fun K hK => ?_)
    refine step_append_lies _ rfl (.tmp 43) (.tmp 46) 35 (by rfl) B 32 i0 _ 10 96 Try.underlying35 hi hz0 hz1 hz2 rfl (by decide) (.slice A L.length c) L.length (flat L) (by rfl) (P5.2.1.alloc _) ⟨w5.heap.size, 0, none⟩ 1 1 (⟨t, f, s, d, cl, bd, ah, se, st, a', n', k'⟩ : Ent).cells (by rfl) rfl (World.news_of_block (heap_alloc_new w5 _)) (cells_one _) (by decide) (by unfold maxLen; omega) (by omega) (by simp; omega) (w5.heap.size + 1) (by simp) ?_
    intro gA capA w6 hown6 hg6 hat6 hlt6
    refine hK.out _ _ ⟨(hg6.cell_far _ (by simp; omega) hneG).trans (cell_al (pw_cell_below hb5 G1) _), (hg6.cell_far _ (by simp; omega) hneE).trans (cell_al (pw_cell_below hb5 E0) _), (hg6.cell_far _ (by simp; omega) hneE).trans (cell_al (pw_cell_below hb5 E1) _), (hg6.cell_far _ (by simp; omega) hneE).trans (cell_al (pw_cell_below hb5 E2) _), (hg6.cell_far _ (by simp; omega) hneE).trans (cell_al (pw_cell_below hb5 E3) _), (hg6.cell_far _ (by simp; omega) hneE).trans (cell_al (pw_cell_below hb5 E4) _), (hg6.cell_far _ (by simp; omega) hneE).trans (cell_al (pw_cell_below hb5 E5) _), (hg6.cell_far _ (by simp; omega) hneE).trans (cell_al (pw_cell_below hb5 E6) _), (hg6.cell_far _ (by simp; omega) hneE).trans (cell_al (pw_cell_below hb5 E7) _), (hg6.cell_far _ (by simp; omega) hneE).trans (cell_al (pw_cell_below hb5 E8) _), (hg6.cell_far _ (by simp; omega) hneE).trans (cell_al (pw_cell_below hb5 E9) _)⟩ (fun hHeld => ?_)
    clear hK K
    refine norm_ (a' := ?_) ?_ ?_
    rotate_left
    · show Act.put _ (some 47) _ = _
      simp only [Act.put, List.setIfInBounds_toArray, List.set_cons_zero, List.set_cons_succ, i64_w, i32_w]
      rfl
    refine pure_ (i := 9) (N := (some 48)) (v := ?_) (a' := ?_) #[true, true, true, true, true, true, true, true, true, true, false, false] rfl rfl (by kernel_rfl) (fun _ _ _ h => h) (Or.inl ⟨by rfl, ?_⟩) ?_ ?_
    rotate_left
    · intro w'
      go_simp
      with_reducible rfl
    rotate_left
    · simp only [Act.put, List.setIfInBounds_toArray, List.set_cons_zero, List.set_cons_succ, i64_w, i32_w]
      rfl
    refine pure_ (i := 10) (N := (some 49)) (v := ?_) (a' := ?_) #[true, true, true, true, true, true, true, true, true, true, true, false] rfl rfl (by kernel_rfl) (fun _ _ _ h => h) (Or.inl ⟨by rfl, ?_⟩) ?_ ?_
    rotate_left
    · intro w'
      go_simp
      with_reducible rfl
    rotate_left
    · simp only [Act.put, List.setIfInBounds_toArray, List.set_cons_zero, List.set_cons_succ, i64_w, i32_w]
      rfl
    refine last_ (i := 11) (N := none) #[true, true, true, true, true, true, true, true, true, true, true, true] rfl rfl (by kernel_rfl) (by decide) (fun K hK => ?_)
    have m8 : w6.heap[g]? = some (.cells #[.int .i64 fl, .slice A L.length c] 65 (0, 0)) := (hg6.block g (by simp; omega) hneG).trans (blk_old' _ P5.1)
    have fz := mfrozen m8 1
    have c8 := mcell m8 1
    simp at c8
    refine skip_ (w1 := w6.setCell ⟨g, 1, none⟩ (.slice (some ⟨gA, 0, none⟩) (L.length + 1) capA)) (by rfl) rfl (by go_simp) ?_
    refine hK.out _ _ ?_
    clear hK K
    refine done_ (by kernel_rfl) ?_
    go_wp2
    go_ret
    have z4 := hb3.size
    have hl5 : w.heap.size ≤ w5.heap.size := by omega
    have hgAg : gA ≠ g := by
      rcases hat6 with q | q
      · intro e
        subst e
        exact hneG q.symm
      · omega
    have hK5 : Kept w5 (w6.setCell ⟨g, 1, none⟩ (.slice (some ⟨gA, 0, none⟩) (L.length + 1) capA)) (fun k => k = g ∨ some k = (Value.slice A L.length c).ownBlock) :=
      (Kept.of_grown hg6 ((Kept.refl w5 _).alloc _) (fun k hk => .inl (.inr hk.symm))).setCell (p := ⟨g, 1, none⟩) (.inl (.inl rfl)) _
    have hB5 : Below w.heap.size w w5 := HB.out.trans (q5.mono (by omega))
    refine ⟨some ⟨gA, 0, none⟩, capA, a', n', k', ?_, ⟨?_, ?_, hBg, by simp; omega⟩, hr5.kept hK5 ?_, (Kept.of_below hB5 _).then_ hK5 (fun k hk => .inl hk), ?_, ?_, hn5, fun q hq => ⟨by have := hg5 q hq; omega, fun hms e => ?_⟩⟩
    · rfl
    · have := blk_set m8 1 (.slice (some ⟨gA, 0, none⟩) (L.length + 1) capA)
      rw [List.length_append, List.length_singleton]
      simpa using this
    · rw [List.length_append, List.length_singleton]
      have hf : flat (L ++ [(⟨t, f, s, d, cl, bd, ah, se, st, a', n', k'⟩ : Ent)]) = flat L ++ (⟨t, f, s, d, cl, bd, ah, se, st, a', n', k'⟩ : Ent).cells := by simp [flat]
      rw [hf]
      exact own_move hown6 (fun k hk => Below.heap_setCell w6 _ _ k (by simp only [Value.ownBlock, Option.some.injEq] at hk; simp; omega))
    · intro k hk h
      have := hg5 k hk
      rcases h with h | h
      · omega
      · have := hAo k h.symm
        omega
    · intro B' b1 b2 b3
      exact (((hB5.mono b3).alloc (by omega) _).grown hg6 (by simp; omega) (fun k hk => b2 k hk)).setCell (p := ⟨g, 1, none⟩) b1 _
    · rcases hat6 with q | q
      · exact .inl q.symm
      · exact .inr ⟨gA, rfl, by omega⟩
    · simp only [Option.map_some, Option.some.injEq] at e
      subst e
      have h5 := hg5 _ hq
      have hlt5 := rd_block_lt hr5 hms hq
      rcases hat6 with q | q
      · have := hAo _ q
        omega
      · omega
end Go.Proofs.Ytemedggbodkhcaa.Past
