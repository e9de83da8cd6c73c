/- Part of a proof over the given program: Qq, Qw, Qy, Ta. -/
import Derived.Test.YtehnkebcbomidaaGreatDoorCb10
set_option linter.unusedVariables false
set_option linter.unusedSimpArgs false
namespace Go.Proofs.YtehnkebcbomidaaGreatDoor.Rt
open Go Go.RowKit Go.Proofs Go.Proofs.YtehnkebcbomidaaGreatDoorW.PrintWords Go.Proofs.YtehnkebcbomidaaGreatDoorW.PrintLast
theorem inf41 : (Tryz.prog.info? 41).map (fun i => (i.zero, i.size, i.bytes)) = some (some (.agg #[.int .i64 0, .int .i64 0, .int .i64 0, .int .i64 0, .int .i64 0, .int .i64 0]), 6, 48) := by kernel_rfl
theorem as41 (v : Value) (w : World) : (Instr.typeAssert (.iface 41 v) 20 41 false).run Tryz.prog w = .ok v w := by kernel_rfl
def FPushPost (w : World) (q b : Nat) (v : Value) (L : List Mg) (m : Mg) (e : Ending) (w' : World) : Prop := ∃ v', e = .returned (.tuple #[]) ∧ QAt w' q b v' (L ++ [m]) ∧ (∀ k, v'.ownBlock = some k → v.ownBlock = some k ∨ w.heap.size ≤ k) ∧ Tch (QFp q b v) w w'
set_option maxHeartbeats 16000000 in
set_option maxRecDepth 1000000 in
theorem fpush_call (w : World) (q b : Nat) (v : Value) (L : List Mg) (m : Mg) (h : QAt w q b v L) (hm : m.k.ok ∧ I64 m.d ∧ I64 m.cl ∧ I64 m.bd) (hn : ∀ x ∈ L, x.k ≠ m.k) (hl : L.length < 64) :
    Calls Tryz.prog 329 #[fac q, .iface 41 m.val] w (FPushPost w q b v L m) := by
  have hu192 := Tryz.underlying192
  have hu200 := Tryz.underlying200
  have hu29 := Tryz.underlying29
  have hu41 := Tryz.underlying41
  have hu39 := Tryz.underlying39
  have hu190 := Tryz.underlying190
  obtain ⟨i0, hi, hz0, hz1, hz2⟩ := info_parts inf41
  obtain ⟨c0, c1, c2⟩ := h.cells
  obtain ⟨A, c, rfl, hc⟩ := h.form
  have hql := World.block_lt_of_cell? w _ c1
  have hq0 := h.free 1
  have hbl : b < w.heap.size := by obtain ⟨D, ⟨es, clock, h1, _⟩, _⟩ := h.map; exact (Array.getElem?_eq_some_iff.1 h1).1
  have hqb : q ≠ b := h.not_map h.blk
  have hcm : c ≤ maxLen := by
    rcases h.row.2 with ⟨e, _⟩ | ⟨g2, cap, cur, e, _, _, _, e3, _⟩
    · simp only [Value.slice.injEq] at e; unfold maxLen; omega
    · simp only [Value.slice.injEq] at e; omega
  have HQ := Lib.hid h
  have HN := Lib.hid hn
  have HM := Lib.hid hm
  have HI := Lib.hid hi
  have HZ0 := Lib.hid hz0
  have HZ1 := Lib.hid hz1
  have HZ2 := Lib.hid hz2
  clear h hn hm hi hz0 hz1 hz2
  have has := as41
  unfold fac Mg.val
  go_enter Tryz.func329, Tryz.ntmps329
  have hmix : Tryz.prog.follows .mixedOrders = true := by kernel_rfl
  go_wp2
  obtain ⟨W, hW⟩ : ∃ W1, W1 = (w.alloc (Obj.cells #[Value.pointer (some ⟨q, 0, none⟩)] 200)).alloc (Obj.cells #[.int .i64 m.k.t, .int .i64 m.k.f, .int .i64 m.k.s, .int .i64 m.d, .int .i64 m.cl, .int .i64 m.bd] 41) := ⟨_, rfl⟩
  rw [← hW]
  obtain ⟨bx, hbx⟩ : ∃ bx, bx = w.heap.size := ⟨_, rfl⟩
  rw [← hbx]
  have hB1 : Below w.heap.size w W := by rw [hW]; exact ((Below.refl _ _).alloc (Nat.le_refl _) _).alloc (by simp) _
  have b0 : W.cell? ⟨bx, 0, none⟩ = some (.pointer (some ⟨q, 0, none⟩)) := by rw [hW, hbx]; exact cell_al (by rw [World.cell?, heap_alloc_new]; rfl) _
  have x0 : ∀ j, W.cell? ⟨bx + 1, j, none⟩ = m.cells[j]? := fun j => by
    have := heap_alloc_new (w.alloc (Obj.cells #[Value.pointer (some ⟨q, 0, none⟩)] 200)) (Obj.cells #[.int .i64 m.k.t, .int .i64 m.k.f, .int .i64 m.k.s, .int .i64 m.d, .int .i64 m.cl, .int .i64 m.bd] 41)
    rw [World.size_alloc, ← hW, ← hbx] at this
    simp [World.cell?, this, Mg.cells]
  have y0 := x0 0
  have y1 := x0 1
  have y2 := x0 2
  have y3 := x0 3
  have y4 := x0 4
  have y5 := x0 5
  simp only [Mg.cells, List.getElem?_cons_zero, List.getElem?_cons_succ] at y0 y1 y2 y3 y4 y5
  have c1' := pw_cell_below hB1 c1
  have c2' := pw_cell_below hB1 c2
  have hbx0 : bx ≠ b := by omega
  have hbx1 : bx + 1 ≠ b := by omega
  have hbq : bx ≠ q := by omega
  have hbq1 : bx + 1 ≠ q := by omega
  have hmapW : MapIs W b L.length (idx L) := HQ.out.map.frame (hB1.block b hbl)
  have hidn : idx L m.k = none := (idx_none m.k).2 HN.out
  obtain ⟨v1, t1, U1, U, _, _, r1, _, r2, r3⟩ := map_put (W := W.drew) hmapW (by omega) m.k HM.out.1 L.length (i64_small _ (by omega))
  rw [hidn] at r3
  simp only [Option.isSome_none, Bool.false_eq_true, if_false] at r3
  have u0 := (r2.cell (p := ⟨bx, 0, none⟩) hbx0).trans b0
  have u1 := (r2.cell (p := ⟨q, 1, none⟩) hqb).trans c1'
  have a0 := (r2.cell (p := ⟨bx + 1, 0, none⟩) hbx1).trans y0
  have a1 := (r2.cell (p := ⟨bx + 1, 1, none⟩) hbx1).trans y1
  have a2 := (r2.cell (p := ⟨bx + 1, 2, none⟩) hbx1).trans y2
  have a3 := (r2.cell (p := ⟨bx + 1, 3, none⟩) hbx1).trans y3
  have a4 := (r2.cell (p := ⟨bx + 1, 4, none⟩) hbx1).trans y4
  have a5 := (r2.cell (p := ⟨bx + 1, 5, none⟩) hbx1).trans y5
  have hTU : Tch (QFp q b (.slice A L.length c)) w U := ((Tch.of_below hB1).trans (Q := fun _ => False) (Tch.refl _ W).drew (fun _ _ e => e.elim)).trans (r2.tch (P := QFp q b (.slice A L.length c)) (.inr (.inl rfl))) (fun k _ e => e)
  have hsU : bx + 2 = U.heap.size := by
    rw [r2.size]
    show _ = W.heap.size
    rw [hW, hbx]; simp
  have hblkU : U.heap[q]? = some (.cells #[.int .i64 64, .slice A L.length c, .map (some b)] 192 (0, 0)) := (r2.other hqb).trans ((hB1.block q hql).trans HQ.out.blk)
  have hrowU : U.ownsRow 0 41 6 (.slice A L.length c) L.length (flatM L) := own_move HQ.out.row (fun k hk => by
    have hne : k ≠ b := by
      rcases HQ.out.row.2 with ⟨e, _⟩ | ⟨g2, cap, cur, e, _, e1, _⟩
      · rw [e] at hk; cases hk
      · rw [e] at hk
        have : k = g2 := by simpa [Value.ownBlock] using hk.symm
        subst this
        exact HQ.out.not_map e1
    exact (r2.other hne).trans (hB1.block k (own_lt HQ.out.row k hk)))
  have hqr : ∀ k, (Value.slice A L.length c).ownBlock = some k → k ≠ q ∧ k < bx := fun k hk => by
    refine ⟨?_, by have := own_lt HQ.out.row k hk; omega⟩
    intro e
    rcases HQ.out.row.2 with ⟨e2, _⟩ | ⟨g2, cap, cur, e2, _, e1, _⟩
    · rw [e2] at hk; cases hk
    · rw [e2] at hk
      have : k = g2 := by simpa [Value.ownBlock] using hk.symm
      rw [← this, e, HQ.out.blk] at e1
      cases e1
  have hmapU : MapIs U b (L.length + 1) (updF (idx L) m.k L.length) := r3
  have hqfU : U.frozen? ⟨q, 1, none⟩ = false := by simp [World.frozen?, hblkU]
  have hne1 : some q ≠ (Value.slice A L.length c).ownBlock := fun e => (hqr q e.symm).1 rfl
  have hne2 : some bx ≠ (Value.slice A L.length c).ownBlock := fun e => by have := (hqr bx e.symm).2; omega
  have hne3 : some (bx + 1) ≠ (Value.slice A L.length c).ownBlock := fun e => by have := (hqr (bx + 1) e.symm).2; omega
  have hs1 : q < U.heap.size := by omega
  have hs2 : bx < U.heap.size := by omega
  have hs3 : bx + 1 < U.heap.size := by omega
  have hqn1 : ¬ q = bx := fun e => hbq e.symm
  have hqn2 : ¬ q = bx + 1 := fun e => hbq1 e.symm
  have hne4 : some b ≠ (Value.slice A L.length c).ownBlock := fun e => by
    rcases HQ.out.row.2 with ⟨e2, _⟩ | ⟨g2, cap, cur, e2, _, e1, _⟩
    · rw [e2] at e; cases e
    · rw [e2] at e
      have : b = g2 := by simpa [Value.ownBlock] using e
      subst this
      exact HQ.out.not_map e1 rfl
  have hnd : ((L ++ [m]).map Mg.k).Nodup := by
    rw [List.map_append, List.nodup_append]
    refine ⟨HQ.out.nd, by simp, fun x hx y hy e => ?_⟩
    obtain ⟨z, hz, rfl⟩ := List.mem_map.1 hx
    simp at hy
    exact HN.out z hz (e.trans hy)
  have FND := Lib.hid hnd
  have fidx : ∀ x, updF (idx L) m.k L.length x = idx (L ++ [m]) x := fun x => by
    symm
    unfold updF
    have hll : (L ++ [m]).length = L.length + 1 := by simp
    split
    · rename_i e
      rw [idx_iff hnd, hll, K_append, if_neg (by omega), if_pos rfl]
      exact ⟨by omega, e.symm⟩
    · rename_i e
      apply Option.ext
      intro y
      rw [idx_iff hnd, idx_iff HQ.out.nd, hll, K_append]
      constructor
      · rintro ⟨h1, h2⟩
        by_cases c1 : y < L.length
        · rw [if_pos c1] at h2; exact ⟨c1, h2⟩
        · rw [if_neg c1, if_pos (by omega)] at h2; exact absurd h2.symm e
      · rintro ⟨h1, h2⟩
        exact ⟨by omega, by rw [if_pos h1]; exact h2⟩
  have FIDX := Lib.hid fidx
  clear hnd fidx
  unfold Ky.val at r1
  have HB1 := Lib.hid hB1
  have HW := Lib.hid hW
  have HBX := Lib.hid hbx
  have HMW := Lib.hid hmapW
  have HID := Lib.hid hidn
  have R2 := Lib.hid r2
  have R3 := Lib.hid r3
  have HTU := Lib.hid hTU
  have HSU := Lib.hid hsU
  have HBLK := Lib.hid hblkU
  have HROW := Lib.hid hrowU
  have HMU := Lib.hid hmapU
  have HQR := Lib.hid hqr
  clear hB1 hW hbx hmapW hidn r2 r3 hTU hsU hblkU hrowU hmapU hqr
  clear x0 c0 c1 c2
  refine still_tail 13 hmix (by kernel_rfl) ?_
  simp only [List.take_succ_cons, List.take_zero, List.drop_succ_cons, List.drop_zero]
  repeat still_step
  try refine wpStill_nil ?_
  go_wp2
  obtain ⟨V, hV⟩ : ∃ V, V = U := ⟨_, rfl⟩
  clear hV V b0 y0 y1 y2 y3 y4 y5 c1' c2' hmix
  have hmix : Tryz.prog.follows .mixedOrders = true := by kernel_rfl
  have u1' := cell_al u1 (Obj.cells #[.int .i64 m.k.t, .int .i64 m.k.f, .int .i64 m.k.s, .int .i64 m.d, .int .i64 m.cl, .int .i64 m.bd] 41)
  have u0' := cell_al u0 (Obj.cells #[.int .i64 m.k.t, .int .i64 m.k.f, .int .i64 m.k.s, .int .i64 m.d, .int .i64 m.cl, .int .i64 m.bd] 41)
  have hqf' := (frozen?_alloc_cells U #[.int .i64 m.k.t, .int .i64 m.k.f, .int .i64 m.k.s, .int .i64 m.d, .int .i64 m.cl, .int .i64 m.bd] 41 ⟨q, 1, none⟩).trans hqfU
  have n0 := World.new_ne U _ u0
  have n1 := World.new_ne U _ u1
  have n2 := World.new_ne U _ a0
  have n3 := World.new_ne U _ a1
  have n4 := World.new_ne U _ a2
  have n5 := World.new_ne U _ a3
  have n6 := World.new_ne U _ a4
  have n7 := World.new_ne U _ a5
  go_region_law ((refine step_append_lies _ (by rfl) (.tmp 26) (.tmp 28) 29 (by rfl) 0 41 i0 _ 6 48 Tryz.underlying29 HI.out HZ0.out HZ1.out HZ2.out rfl (by decide) (.slice A L.length c) L.length (flatM L) (by rfl) (own_move HROW.out (fun k hk => Below.heap_alloc _ _ k (own_lt HROW.out k hk))) ⟨_, 0, none⟩ 1 1 m.cells (by rfl) rfl (World.news_of_block (heap_alloc_new _ _)) (mcells_one m) (by decide) (by unfold maxLen; omega) (by omega) (Nat.zero_le _) _ rfl ?_; intro g' cap w1 hown1 hgrow hat hlt; have hz0 := (hgrow.cell_far ⟨bx, 0, none⟩ (by simp; omega) hne2).trans u0'; have hz1 := (hgrow.cell_far ⟨q, 1, none⟩ (by simp; omega) hne1).trans u1'; have hz2 := (hgrow.frozen_far ⟨q, 1, none⟩ (by simp; omega) hne1).trans hqf'))
  all_goals (
    go_end0
    have hT1 : Tch (fun k => (Value.slice A L.length c).ownBlock = some k) U w1 := Tch.grown (((Tch.refl _ U).alloc _).drew) hgrow (fun k e => .inl e)
    have hg' : g' ≠ q := by
      rcases hat with e | e
      · intro e2; rw [e2] at e; exact hne1 e.symm
      · have : U.heap.size ≤ g' := by rw [e]; simp
        omega
    have hwq : w1.heap[q]? = some (.cells #[.int .i64 64, .slice A L.length c, .map (some b)] 192 (0, 0)) := (hT1.block q hs1 (fun e => hne1 e.symm)).trans HBLK.out
    refine ⟨.slice (some ⟨g', 0, none⟩) (L.length + 1) cap, rfl, ⟨?_, ?_, ?_, ?_, ?_, ?_⟩, ?_, ?_⟩
    · show (w1.setCell ⟨q, 1, none⟩ _).heap[q]? = _
      rw [heap_setCell_same w1 q 1 _ 192 _ hwq]
      rfl
    · have e : flatM (L ++ [m]) = flatM L ++ m.cells := by simp [flatM]
      rw [e]
      have hll : (L ++ [m]).length = L.length + 1 := by simp
      rw [hll]
      refine own_move (w := w1) hown1 (fun k hk => ?_)
      have : k = g' := by simpa [Value.ownBlock] using hk.symm
      subst this
      show (w1.setCell ⟨q, 1, none⟩ _).heap[k]? = _
      exact heap_setCell_other w1 ⟨q, 1, none⟩ k _ hg'
    · have hm1 : MapIs w1 b (L.length + 1) (updF (idx L) m.k L.length) := HMU.out.frame (hT1.block b (by have := HBX.out; omega) (fun e => hne4 e.symm))
      have hm2 : MapIs (w1.setCell ⟨q, 1, none⟩ (.slice (some ⟨g', 0, none⟩) (L.length + 1) cap)) b (L.length + 1) (updF (idx L) m.k L.length) := hm1.frame (heap_setCell_other w1 ⟨q, 1, none⟩ b _ (fun e => hqb e.symm))
      have hll : (L ++ [m]).length = L.length + 1 := by simp
      rw [hll]
      exact hm2.congr FIDX.out
    · intro x hx
      rcases List.mem_append.1 hx with e | e
      · exact HQ.out.ok x e
      · rw [List.mem_singleton.1 e]; exact HM.out
    · exact FND.out
    · simp; omega
    · intro k hk
      have : k = g' := by simpa [Value.ownBlock] using hk.symm
      subst this
      rcases hat with e | e
      · exact .inl e
      · refine .inr ?_
        have := HBX.out
        have : U.heap.size ≤ k := by rw [e]; simp
        omega
    · refine (HTU.out.trans (hT1.mono (Q := QFp q b (.slice A L.length c)) (fun k _ e => .inr (.inr e))) (fun k _ e => e)).trans (Q := QFp q b (.slice A L.length c)) ?_ (fun k _ e => e)
      exact (Tch.setCell (P := QFp q b (.slice A L.length c)) (Tch.refl _ _) (p := ⟨q, 1, none⟩) (.inl (.inl rfl)) _))
def QPost (w : World) (q b : Nat) (v : Value) (L : List Mg) (r : Value) (e : Ending) (w' : World) : Prop := ∃ v', e = .returned r ∧ QAt w' q b v' L ∧ (∀ k, v'.ownBlock = some k → v.ownBlock = some k ∨ w.heap.size ≤ k) ∧ Tch (QFp q b v) w w'
theorem fp_back {w : World} {q b : Nat} {v v' : Value} (h : ∀ k, v'.ownBlock = some k → v.ownBlock = some k ∨ w.heap.size ≤ k) (k : Nat) (hk : k < w.heap.size) (hq : QFp q b v' k) : QFp q b v k := by
  rcases hq with e | e | e
  · exact .inl e
  · exact .inr (.inl e)
  · rcases h k e with e | e
    · exact .inr (.inr e)
    · omega
theorem flen_any (w : World) (q b : Nat) (v : Value) (L : List Mg) (h : QAt w q b v L) (N : Int) (hN : (L.length : Int) = N) :
    Calls Tryz.prog 326 #[.agg #[.pointer (some ⟨q, 0, none⟩)]] w fun e w' => e = .returned (.int .i64 N) ∧ Below w.heap.size w w' := by subst hN; exact flen_call w q b v L h
theorem up_any (w : World) (q b : Nat) (v : Value) (L : List Mg) (h : QAt w q b v L) (x : Int) (j : Nat) (hx : x = j) (hj : j < L.length) :
    Calls Tryz.prog 204 #[.iface 200 (.agg #[.pointer (some ⟨q, 0, none⟩)]), .int .i64 x] w (UpPost w q b v (upF (j + 1) L j)) := by subst hx; exact up_call w q b v L h j hj
theorem down_any (w : World) (q b : Nat) (v : Value) (L : List Mg) (h : QAt w q b v L) (x y : Int) (i n : Nat) (hx : x = i) (hy : y = n) (hi : i ≤ n) (hn : n ≤ L.length) :
    Calls Tryz.prog 211 #[.iface 200 (.agg #[.pointer (some ⟨q, 0, none⟩)]), .int .i64 x, .int .i64 y] w (DnPost w q b v i (downF n n L i)) := by subst hx hy; exact down_call w q b v L h i n hi hn
set_option maxHeartbeats 4000000 in
theorem hpush_call (w : World) (q b : Nat) (v : Value) (L : List Mg) (m : Mg) (h : QAt w q b v L) (hm : m.k.ok ∧ I64 m.d ∧ I64 m.cl ∧ I64 m.bd) (hn : ∀ x ∈ L, x.k ≠ m.k) (hl : L.length < 64) :
    Calls Tryz.prog 140 #[.iface 200 (fac q), .iface 41 m.val] w (QPost w q b v (pushL L m) (.tuple #[])) := by
  have hp := fpush_call w q b v L m h hm hn hl
  unfold fac Mg.val at *
  have HP := Lib.hid hp
  have hz : (0 : Int) ≤ (L.length : Int) := by omega
  have hz2 : (L.length : Int) ≤ 64 := by omega
  clear hp h hm hn
  go_enter Tryz.func140, Tryz.ntmps140
  go_wp2_with (go_at_call 329; (with_reducible refine HP.out.mono ?_); rintro e w1 ⟨v1, rfl, hq1, ho1, ht1⟩)
  have hll : (L ++ [m]).length = L.length + 1 := by simp
  have HLL := Lib.hid hll
  have HQ1 := Lib.hid hq1
  have HO1 := Lib.hid ho1
  have HT1 := Lib.hid ht1
  clear hll hq1 ho1 ht1
  go_wp2_with (go_at_call 326; (with_reducible refine (flen_any _ q b v1 (L ++ [m]) HQ1.out ((L.length : Int) + 1) (by rw [HLL.out]; simp)).mono ?_); rintro e w2 ⟨rfl, hb2⟩)
  have HB2 := Lib.hid hb2
  clear hb2
  go_wp2_with (go_at_call 204; (with_reducible refine (up_any _ q b v1 (L ++ [m]) (HQ1.out.below HB2.out) _ L.length (by omega) (by rw [HLL.out]; omega)).mono ?_); rintro e w3 ⟨rfl, hq3, ht3⟩)
  go_end0
  exact ⟨v1, rfl, hq3, HO1.out, (HT1.out.trans (Tch.of_below (P := fun _ => False) HB2.out) (fun _ _ e => e.elim)).trans ht3 (fp_back HO1.out)⟩
set_option maxHeartbeats 4000000 in
theorem hpop_call (w : World) (q b : Nat) (v : Value) (L : List Mg) (h : QAt w q b v L) (hl : 0 < L.length) :
    Calls Tryz.prog 148 #[.iface 200 (fac q)] w (QPost w q b v (popL L) (.iface 41 ((popT L).getD (L.length - 1) mg0).val)) := by
  have hlen := h.len
  have HQ := Lib.hid h
  unfold fac Mg.val at *
  obtain ⟨n, hn⟩ : ∃ n, L.length = n + 1 := ⟨L.length - 1, by omega⟩
  have HN := Lib.hid hn
  clear h
  have hn64 : (n : Int) ≤ 64 := by omega
  have hn0 : (0 : Int) ≤ (n : Int) := by omega
  clear hn hlen hl
  go_enter Tryz.func148, Tryz.ntmps148
  go_wp2_with (go_at_call 326; (with_reducible refine (flen_any _ q b v L HQ.out ((n : Int) + 1) (by rw [HN.out]; simp)).mono ?_); rintro e w1 ⟨rfl, hb1⟩)
  have HB1 := Lib.hid hb1
  clear hb1
  go_wp2_with (go_at_call 330; (with_reducible refine (swap_any _ q b v L (HQ.out.below HB1.out) _ _ 0 n (by simp) (by omega) (by have := HN.out; omega) (by have := HN.out; omega)).mono ?_); rintro e w2 ⟨rfl, hq2, ht2⟩)
  have HQ2 := Lib.hid hq2
  have HT2 := Lib.hid ht2
  clear hq2 ht2
  go_wp2_with (go_at_call 211; (with_reducible refine (down_any _ q b v (sw L 0 n) HQ2.out _ _ 0 n (by simp) (by omega) (by omega) (by rw [sw_length]; have := HN.out; omega)).mono ?_); rintro e w3 ⟨rfl, hq3, ht3⟩)
  have e1 : (downF n n (sw L 0 n) 0).1 = popL L ++ [(popT L).getD (L.length - 1) mg0] := by
    have e2 : (downF n n (sw L 0 n) 0).1 = popT L := by unfold popT; rw [HN.out]; rfl
    rw [e2]
    have := take_last (popT L) (L.length - 1) (by rw [popT_length]; have := HN.out; omega)
    exact this
  rw [e1] at hq3
  have HQ3 := Lib.hid hq3
  have HT3 := Lib.hid ht3
  clear hq3 ht3 e1
  have hp := fpop_call w3 q b v (popL L) _ HQ3.out
  unfold fac at hp
  have HP := Lib.hid hp
  clear hp
  go_wp2_with (go_at_call 328; (with_reducible refine HP.out.mono ?_); rintro e w4 ⟨v4, rfl, hq4, ho4, ht4⟩)
  go_ret
  exact ⟨v4, rfl, hq4, fun k hk => .inl (by rw [← ho4]; exact hk), (((Tch.of_below HB1.out).trans HT2.out (fun _ _ e => e)).trans HT3.out (fun _ _ e => e)).trans ht4 (fun _ _ e => e)⟩
def QIn (W : World) (q b : Nat) (v : Value) (Q : List Mg) : Prop := ∃ L, QAt W q b v L ∧ QH L Q
def QInPost (w : World) (q b : Nat) (v : Value) (Q : List Mg) (r : Value) (e : Ending) (w' : World) : Prop := ∃ v', e = .returned r ∧ QIn w' q b v' Q ∧ (∀ k, v'.ownBlock = some k → v.ownBlock = some k ∨ w.heap.size ≤ k) ∧ Tch (QFp q b v) w w'
set_option maxHeartbeats 8000000 in
set_option maxRecDepth 100000 in
theorem push_call (w : World) (q b : Nat) (v : Value) (Q : List Mg) (m : Mg) (h : QIn w q b v Q) (hm : m.k.ok ∧ I64 m.d ∧ I64 m.cl ∧ I64 m.bd) (hn : ∀ x ∈ Q, x.k ≠ m.k) (hl : Q.length < 64) :
    Calls Tryz.prog 70 #[.pointer (some ⟨q, 0, none⟩), m.val] w (QInPost w q b v (ins m Q) (.int .i64 0)) := by
  obtain ⟨L, hq, hh⟩ := h
  have hll := hh.len
  have hn' : ∀ x ∈ L, x.k ≠ m.k := fun x hx => hn x (hh.perm.mem_iff.1 hx)
  obtain ⟨c0, c1, c2⟩ := hq.cells
  obtain ⟨A, c, rfl, hc⟩ := hq.form
  have hql := World.block_lt_of_cell? w _ c1
  have hln : L.length < 64 := by omega
  have hln2 : ¬ (64 : Int) ≤ (L.length : Int) := by omega
  have hu192 := Tryz.underlying192
  have hu200 := Tryz.underlying200
  have hu29 := Tryz.underlying29
  have hu41 := Tryz.underlying41
  have hu39 := Tryz.underlying39
  have hu190 := Tryz.underlying190
  obtain ⟨W, hW⟩ : ∃ W1, W1 = w.alloc (Obj.cells #[.int .i64 m.k.t, .int .i64 m.k.f, .int .i64 m.k.s, .int .i64 m.d, .int .i64 m.cl, .int .i64 m.bd] 41) := ⟨_, rfl⟩
  obtain ⟨bx, hbx⟩ : ∃ bx, bx = w.heap.size := ⟨_, rfl⟩
  have hB1 : Below w.heap.size w W := by rw [hW]; exact (Below.refl _ _).alloc (Nat.le_refl _) _
  have x0 : ∀ j, W.cell? ⟨bx, j, none⟩ = m.cells[j]? := fun j => by
    have := heap_alloc_new w (Obj.cells #[.int .i64 m.k.t, .int .i64 m.k.f, .int .i64 m.k.s, .int .i64 m.d, .int .i64 m.cl, .int .i64 m.bd] 41)
    rw [← hW, ← hbx] at this
    simp [World.cell?, this, Mg.cells]
  have y0 := x0 0
  have y1 := x0 1
  have y2 := x0 2
  have y3 := x0 3
  have y4 := x0 4
  have y5 := x0 5
  simp only [Mg.cells, List.getElem?_cons_zero, List.getElem?_cons_succ] at y0 y1 y2 y3 y4 y5
  have c0' := pw_cell_below hB1 c0
  have c1' := pw_cell_below hB1 c1
  have c2' := pw_cell_below hB1 c2
  have hqW := hq.below hB1
  have hidn : idx L m.k = none := (idx_none m.k).2 hn'
  obtain ⟨cc, hk0, _⟩ := map_look' hqW.map m.k hm.1
  have hk := fun n => hk0 (W.drewN n) rfl
  rw [hidn] at hk
  have hp := fun n => hpush_call (W.drewN n) q b (.slice A L.length c) L m (hqW.frame (fun _ _ _ => rfl)) hm hn' hln
  unfold fac Mg.val at hp
  unfold Ky.val at hk
  unfold Mg.val
  have HW := Lib.hid hW
  have HBX := Lib.hid hbx
  have HB1 := Lib.hid hB1
  have HQW := Lib.hid hqW
  have HID := Lib.hid hidn
  have HP := Lib.hid hp
  have HQ := Lib.hid hq
  have HH := Lib.hid hh
  clear hW hbx hB1 hqW hidn hp hq hh
  have HN := Lib.hid hn
  clear x0 c0 c1 c2 hk0 hn hn'
  go_enter Tryz.func70, Tryz.ntmps70
  have hmix : Tryz.prog.follows .mixedOrders = true := by kernel_rfl
  go_wp2
  rw [← HW.out, ← HBX.out]
  go_quiet (fail)
  go_wp2
  go_quiet (fail)
  go_wp2_with (go_at_call 140; (with_reducible refine (HP.out _).mono ?_); rintro e w1 ⟨v1, rfl, hq1, ho1, ht1⟩)
  go_ret
  refine ⟨v1, rfl, ⟨_, hq1, HH.out.push m HN.out⟩, fun k hk => ?_, ?_⟩
  · rcases ho1 k hk with e | e
    · exact .inl e
    · have e : W.heap.size ≤ k := e
      have := HB1.out.size
      exact .inr (by omega)
  · exact ((Tch.of_below HB1.out).drewN _).trans ht1 (fun _ _ e => e)
theorem put6 {W : World} {b : Nat} {a0 a1 a2 a3 a4 a5 : Value} (h : W.heap[b]? = some (.cells #[a0, a1, a2, a3, a4, a5] 41 (0, 0))) (v0 v1 v2 v3 v4 v5 : Value) :
    ((((((W.setCell ⟨b, 0, none⟩ v0).setCell ⟨b, 1, none⟩ v1).setCell ⟨b, 2, none⟩ v2).setCell ⟨b, 3, none⟩ v3).setCell ⟨b, 4, none⟩ v4).setCell ⟨b, 5, none⟩ v5).heap[b]? = some (.cells #[v0, v1, v2, v3, v4, v5] 41 (0, 0)) := by
  have h0 := heap_setCell_same W b 0 _ 41 v0 h
  have h1 := heap_setCell_same _ b 1 _ 41 v1 h0
  have h2 := heap_setCell_same _ b 2 _ 41 v2 h1
  have h3 := heap_setCell_same _ b 3 _ 41 v3 h2
  have h4 := heap_setCell_same _ b 4 _ 41 v4 h3
  have h5 := heap_setCell_same _ b 5 _ 41 v5 h4
  rw [h5]
  rfl
theorem tch6 (W : World) (b : Nat) (v0 v1 v2 v3 v4 v5 : Value) : Tch (fun k => k = b) W ((((((W.setCell ⟨b, 0, none⟩ v0).setCell ⟨b, 1, none⟩ v1).setCell ⟨b, 2, none⟩ v2).setCell ⟨b, 3, none⟩ v3).setCell ⟨b, 4, none⟩ v4).setCell ⟨b, 5, none⟩ v5) :=
  (((((Tch.setCell (P := fun k => k = b) (Tch.refl _ W) (p := ⟨b, 0, none⟩) (.inl rfl) _).setCell (p := ⟨b, 1, none⟩) (.inl rfl) _).setCell (p := ⟨b, 2, none⟩) (.inl rfl) _).setCell (p := ⟨b, 3, none⟩) (.inl rfl) _).setCell (p := ⟨b, 4, none⟩) (.inl rfl) _).setCell (p := ⟨b, 5, none⟩) (.inl rfl) _
set_option maxHeartbeats 8000000 in
set_option maxRecDepth 100000 in
theorem pop_call (w : World) (q b : Nat) (v : Value) (m : Mg) (Q : List Mg) (h : QIn w q b v (m :: Q)) :
    Calls Tryz.prog 74 #[.pointer (some ⟨q, 0, none⟩)] w (QInPost w q b v Q (.tuple #[m.val, .bool true])) := by
  obtain ⟨L, hq, hh⟩ := h
  have hll := hh.len
  obtain ⟨h1, h2⟩ := hh.pop
  have h0 : 0 < L.length := hh.head.1
  obtain ⟨c0, c1, c2⟩ := hq.cells
  obtain ⟨A, c, rfl, hc⟩ := hq.form
  have hql := World.block_lt_of_cell? w _ c1
  have hne : ¬ (L.length : Int) = 0 := by omega
  have hu192 := Tryz.underlying192
  have hu200 := Tryz.underlying200
  have hu29 := Tryz.underlying29
  have hu41 := Tryz.underlying41
  have hi := info41
  have has := as41
  obtain ⟨W, hW⟩ : ∃ W1, W1 = w.alloc (Obj.cells #[.int .i64 0, .int .i64 0, .int .i64 0, .int .i64 0, .int .i64 0, .int .i64 0] 41) := ⟨_, rfl⟩
  have hB1 : Below w.heap.size w W := by rw [hW]; exact (Below.refl _ _).alloc (Nat.le_refl _) _
  have hp := hpop_call W q b (.slice A L.length c) L (hq.below hB1) h0
  rw [h2] at hp
  unfold fac Mg.val at hp
  unfold Mg.val
  have HP := Lib.hid hp
  have HQ := Lib.hid hq
  have HH := Lib.hid hh
  have H1 := Lib.hid h1
  have H2 := Lib.hid h2
  have HW := Lib.hid hW
  have HB1 := Lib.hid hB1
  have HLL := Lib.hid hll
  clear hp hq hh h1 h2 hW hB1 hll
  go_enter Tryz.func74, Tryz.ntmps74
  go_wp2_with fail
  rw [← HW.out]
  (with_reducible refine HP.out.mono ?_)
  rintro e w1 ⟨v1, rfl, hq1, ho1, ht1⟩
  obtain ⟨bx, hbx⟩ : ∃ bx, bx = w.heap.size := ⟨_, rfl⟩
  rw [← hbx]
  have hblk0 : W.heap[bx]? = some (.cells #[.int .i64 0, .int .i64 0, .int .i64 0, .int .i64 0, .int .i64 0, .int .i64 0] 41 (0, 0)) := by rw [HW.out, hbx]; exact heap_alloc_new _ _
  have hnq : ¬ QFp q b (.slice A L.length c) bx := fun e => by
    rcases e with e | e | e
    · omega
    · obtain ⟨D, ⟨es, clock, h1, _⟩, _⟩ := HQ.out.map
      have := (Array.getElem?_eq_some_iff.1 h1).1
      omega
    · have := own_lt HQ.out.row bx e
      omega
  have hblk1 := (ht1.block bx (Array.getElem?_eq_some_iff.1 hblk0).1 hnq).trans hblk0
  have z0 : w1.cell? ⟨bx, 0, none⟩ = some (.int .i64 0) := by simp [World.cell?, hblk1]
  have z1 : w1.cell? ⟨bx, 1, none⟩ = some (.int .i64 0) := by simp [World.cell?, hblk1]
  have z2 : w1.cell? ⟨bx, 2, none⟩ = some (.int .i64 0) := by simp [World.cell?, hblk1]
  have z3 : w1.cell? ⟨bx, 3, none⟩ = some (.int .i64 0) := by simp [World.cell?, hblk1]
  have z4 : w1.cell? ⟨bx, 4, none⟩ = some (.int .i64 0) := by simp [World.cell?, hblk1]
  have z5 : w1.cell? ⟨bx, 5, none⟩ = some (.int .i64 0) := by simp [World.cell?, hblk1]
  have f0 : ∀ j, w1.frozen? ⟨bx, j, none⟩ = false := fun j => by simp [World.frozen?, hblk1]
  have g0 := f0 0
  have g1 := f0 1
  have g2 := f0 2
  have g3 := f0 3
  have g4 := f0 4
  have g5 := f0 5
  have hno : ∀ k, v1.ownBlock = some k → k ≠ bx ∧ (k < w.heap.size ∨ W.heap.size ≤ k) := fun k hk => by
    rcases ho1 k hk with e | e
    · have := own_lt HQ.out.row k e
      exact ⟨by omega, .inl this⟩
    · have : bx < W.heap.size := (Array.getElem?_eq_some_iff.1 hblk0).1
      exact ⟨by omega, .inr e⟩
  have HBX := Lib.hid hbx
  have HB0 := Lib.hid hblk0
  have HBK := Lib.hid hblk1
  have HNQ := Lib.hid hnq
  have HQ1 := Lib.hid hq1
  have HO1 := Lib.hid ho1
  have HT1 := Lib.hid ht1
  have HNO := Lib.hid hno
  clear hbx hblk0 hblk1 hnq hq1 ho1 ht1 hno
  clear f0
  go_wp2
  refine bodyPost_ret (results_ct rfl _ _ bx 41 _ (0, 0) _ rfl (put6 HBK.out _ _ _ _ _ _) hu41 rfl (by rw [hi]; rfl)) rfl ?_
  have ht6 := tch6 w1 bx (.int .i64 m.k.t) (.int .i64 m.k.f) (.int .i64 m.k.s) (.int .i64 m.d) (.int .i64 m.cl) (.int .i64 m.bd)
  refine ⟨v1, rfl, ⟨_, HQ1.out.frame (fun k hk hf => ht6.block k hk (fun e => ?_)), H1.out⟩, fun k hk => ?_, ?_⟩
  · subst e
    rcases hf with e | e | e
    · have := HBX.out; omega
    · obtain ⟨D, ⟨es, clock, h1, _⟩, _⟩ := HQ.out.map
      have := (Array.getElem?_eq_some_iff.1 h1).1
      have := HBX.out
      omega
    · exact (HNO.out _ e).1 rfl
  · rcases HO1.out k hk with e | e
    · exact .inl e
    · have := HB1.out.size
      exact .inr (by omega)
  · refine ((Tch.of_below HB1.out).trans HT1.out (fun _ _ e => e)).trans ht6 (fun k hk e => ?_)
    have := HBX.out
    omega
structure TabAt (W : World) (g : Nat) (v : Value) (above : List Nat) (pubs subs : List Nat) : Prop where
  blk : W.heap[g]? = some (.cells (v :: (pubs ++ subs).map (fun n => Value.int .u32 (n : Nat))).toArray 189 (0, 0))
  row : ∃ e, W.ownsRow 0 e 1 v above.length (above.map (fun n => Value.int .u32 (n : Nat)))
  p8 : pubs.length = 8
  s8 : subs.length = 8
def chk (f c : Int) (n : Nat) : Int := if f < 0 ∨ 8 ≤ f then 1 else if c < 0 ∨ n ≤ c then 81 else 0
theorem TabAt.below {W W' : World} {g : Nat} {v : Value} {above pubs subs : List Nat} (h : TabAt W g v above pubs subs) (hb : Below W.heap.size W W') : TabAt W' g v above pubs subs := by
  obtain ⟨e, hr⟩ := h.row
  exact ⟨(hb.block g (Array.getElem?_eq_some_iff.1 h.blk).1).trans h.blk, ⟨e, own_move hr (fun k hk => hb.block k (own_lt hr k hk))⟩, h.p8, h.s8⟩
theorem TabAt.c0 {W : World} {g : Nat} {v : Value} {above pubs subs : List Nat} (h : TabAt W g v above pubs subs) : W.cell? ⟨g, 0, none⟩ = some v := by
  have e := h.blk
  simp [World.cell?, e]
theorem TabAt.form {W : World} {g : Nat} {v : Value} {above pubs subs : List Nat} (h : TabAt W g v above pubs subs) : ∃ A c, v = .slice A above.length c ∧ above.length ≤ c := by
  obtain ⟨e, hr⟩ := h.row
  obtain ⟨A, c, q⟩ := own_slice hr
  subst q
  exact ⟨A, c, rfl, own_le hr⟩
set_option maxHeartbeats 1000000 in
theorem check_call (w : World) (g : Nat) (v : Value) (above pubs subs : List Nat) (h : TabAt w g v above pubs subs) (f c : Int) :
    Calls Tryz.prog 134 #[.pointer (some ⟨g, 0, none⟩), .int .i64 f, .int .i64 c] w fun e w' => e = .returned (.int .i64 (chk f c above.length)) ∧ w' = w := by
  have hu189 := Tryz.underlying189
  have hu186 := Tryz.underlying186
  have c0 := h.c0
  obtain ⟨A, cc, rfl, hc⟩ := h.form
  clear h
  unfold chk
  by_cases h1 : f < 0
  · rw [if_pos (.inl h1)]
    go_enter Tryz.func134, Tryz.ntmps134
    go_wp2_with fail
    go_ret
    exact ⟨rfl, rfl⟩
  · by_cases h2 : 8 ≤ f
    · rw [if_pos (.inr h2)]
      go_enter Tryz.func134, Tryz.ntmps134
      go_wp2_with fail
      go_ret
      exact ⟨rfl, rfl⟩
    · rw [if_neg (by omega)]
      by_cases h3 : c < 0
      · rw [if_pos (.inl h3)]
        go_enter Tryz.func134, Tryz.ntmps134
        go_wp2_with fail
        go_ret
        exact ⟨rfl, rfl⟩
      · by_cases h4 : (above.length : Int) ≤ c
        · rw [if_pos (.inr h4)]
          go_enter Tryz.func134, Tryz.ntmps134
          go_wp2_with fail
          go_ret
          exact ⟨rfl, rfl⟩
        · rw [if_neg (by omega)]
          go_enter Tryz.func134, Tryz.ntmps134
          go_wp2_with fail
          go_ret
          exact ⟨rfl, rfl⟩
end Go.Proofs.YtehnkebcbomidaaGreatDoor.Rt
