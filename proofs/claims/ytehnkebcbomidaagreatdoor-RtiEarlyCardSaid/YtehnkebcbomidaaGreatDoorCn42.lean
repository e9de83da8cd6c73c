/- Part of a proof over the given program: LwF. -/
import Derived.Test.YtehnkebcbomidaaGreatDoorCn30
set_option linter.unusedVariables false
set_option linter.unusedSimpArgs false
namespace Go.Proofs.YtehnkebcbomidaaGreatDoor.Rt
open Go Go.RowKit Go.Proofs Go.Proofs.YtehnkebcbomidaaGreatDoorW.PrintWords Go.Proofs.YtehnkebcbomidaaGreatDoorW.PrintLast
set_option maxHeartbeats 16000000 in
set_option maxRecDepth 100000 in
theorem look_F (w : World) (H : Sh) (S : St) {N : Int} (hR : RAt H w S) (ok : S.Ok N) (n : Nat) (hn : n < 8) (he : S.byE n = 0) (hcn : (S.get n).con = false) :
  Calls Tryz.prog 26 #[.pointer (some ⟨H.r, 0, none⟩), .int .i64 n] w (LPost H w (S.look n).1 (S.look n).2.1 (S.look n).2.2) := by
 have hlk : S.look n = if (S.grant n).1 = false then (⟨(S.get n).P, [], false, (S.get n).time⟩, 0, S.put n { S.get n with P := [] })
   else (⟨(S.get n).P, (S.get n).Q.take (S.grant n).2.2, true, (S.grant n).2.1⟩, 0, S.put n { S.get n with P := [], Q := (S.get n).Q.drop (S.grant n).2.2, time := (S.grant n).2.1, kind := 0, ask := 0 }) := by
  unfold St.look
  rw [if_neg (fun z => z he), Int.toNat_natCast]
 have hba : Below w.heap.size w (w.alloc (.cells #[.slice none 0 0, .slice none 0 0, .bool false, .int .i64 0] 31)) := (Below.refl _ w).alloc (Nat.le_refl _) _
 have hby := by_yes (w.alloc (.cells #[.slice none 0 0, .slice none 0 0, .bool false, .int .i64 0] 31)) H S (hR.below hba) n he
 have hblk0 := heap_alloc_new w (.cells #[.slice none 0 0, .slice none 0 0, .bool false, .int .i64 0] 31)
 have hw0 : 0 < w.heap.size := World.block_lt_of_cell? w _ hR.env
 have HR := Lib.hid hR
 have OK := Lib.hid ok
 have HBY := Lib.hid hby
 have HBA := Lib.hid hba
 have HBLK0 := Lib.hid hblk0
 have HLK := Lib.hid hlk
 have HW0 := Lib.hid hw0
 have hz0 : (0 : Int) ≤ (n : Int) := by omega
 have hz8 : (n : Int) < 8 := by omega
 have hu31 := Tryz.underlying31
 have hu115 := Tryz.underlying115
 have hu113 := Tryz.underlying113
 have hu112 := Tryz.underlying112
 have hu52 := Tryz.underlying52
 have hu41 := Tryz.underlying41
 have hu39 := Tryz.underlying39
 have hu29 := Tryz.underlying29
 clear hR ok he hby hba hblk0 hlk hw0
 go_enter Tryz.func26, Tryz.ntmps26
 have hmix : Tryz.prog.follows .mixedOrders = true := by kernel_rfl
 go_wp2_with (go_at_call 63; (with_reducible refine HBY.out.mono ?_); rintro e w1 ⟨rfl, hb1⟩; have HB1 := Lib.hid hb1; clear hb1)
 have hblk1 := (HB1.out.block w.heap.size (by simp)).trans HBLK0.out
 have hb01 : Below w.heap.size w w1 := HBA.out.trans (HB1.out.mono HBA.out.size)
 have hs01 : w.heap.size < w1.heap.size := (Array.getElem?_eq_some_iff.1 hblk1).1
 have hR1 := HR.out.below hb01
 have c8 := hR1.c_pl hn
 have c2 := hR1.c_time hn
 obtain ⟨PA, pc, hpl⟩ := own_slice (hR1.pla n hn)
 rw [hpl] at c8
 obtain ⟨b4, hb4⟩ : ∃ b4, b4 = w.heap.size := ⟨_, rfl⟩
 rw [← hb4] at hblk1 hs01 ⊢
 have HB4 := Lib.hid (show b4 = w.heap.size from hb4)
 have HBLK1 := Lib.hid hblk1
 have HB01 := Lib.hid hb01
 have HR1 := Lib.hid hR1
 have HPL := Lib.hid hpl
 have HS01 := Lib.hid hs01
 have hn8 : (w1.drew.alloc (.cells #[.slice none 0 0, .slice none 0 0, .bool false, .int .i64 0] 31)).heap[w1.heap.size]? = some (.cells #[.slice none 0 0, .slice none 0 0, .bool false, .int .i64 0] 31 (0, 0)) := heap_alloc_new w1.drew (.cells #[.slice none 0 0, .slice none 0 0, .bool false, .int .i64 0] 31)
 clear hb4 hblk1 hb01 hR1 hpl hs01
 refine st_ (n := 11) (S := fun w' => w'.cell? ⟨H.r, 2 + n * 10 + 8, none⟩ = some (.slice PA (S.get n).P.length pc) ∧ w'.cell? ⟨H.r, 2 + n * 10 + 2, none⟩ = some (.int .i64 (S.get n).time)) (ds := [10]) hmix rfl ⟨c8, c2⟩ (fun hHeld => ?_)
 refine pu_ (i := 0) (N := (some 31)) (v := ?_) (a' := ?_) rfl rfl (by kernel_rfl) (fun _ _ _ h => h) (Or.inl ⟨by rfl, ?_⟩) ?_ ?_
 rotate_left
 ·intro w'
  go_simp
  try with_reducible rfl
 rotate_left
 ·simp only [Act.put, qa, qb, qc]
  rfl
 refine pu_ (i := 1) (N := (some 32)) (v := ?_) (a' := ?_) rfl rfl (by kernel_rfl) (fun _ _ _ h => h) (Or.inl ⟨by rfl, ?_⟩) ?_ ?_
 rotate_left
 ·intro w'
  go_simp
  try with_reducible rfl
 rotate_left
 ·simp only [Act.put, qa, qb, qc]
  rfl
 refine pu_ (i := 2) (N := (some 33)) (v := ?_) (a' := ?_) rfl rfl (by kernel_rfl) (fun _ _ _ h => h) (Or.inl ⟨by rfl, ?_⟩) ?_ ?_
 rotate_left
 ·intro w'
  go_simp
  try with_reducible rfl
 rotate_left
 ·simp only [Act.put, qa, qb, qc]
  rfl
 refine tk_ (i := 3) (N := (some 34)) (v := ?_) (a' := ?_) rfl rfl (by kernel_rfl) (fun _ _ _ h => h) (Or.inl ⟨by rfl, ?_⟩) hHeld ?_ ?_
 rotate_left
 ·intro w' hS_
  obtain ⟨zz0, zz1⟩ := hS_
  go_simp
  try with_reducible rfl
 rotate_left
 ·simp only [Act.put, qa, qb, qc]
  rfl
 refine pu_ (i := 4) (N := (some 35)) (v := ?_) (a' := ?_) rfl rfl (by kernel_rfl) (fun _ _ _ h => h) (Or.inl ⟨by rfl, ?_⟩) ?_ ?_
 rotate_left
 ·intro w'
  go_simp
  try with_reducible rfl
 rotate_left
 ·simp only [Act.put, qa, qb, qc]
  rfl
 refine pu_ (i := 5) (N := (some 36)) (v := ?_) (a' := ?_) rfl rfl (by kernel_rfl) (fun _ _ _ h => h) (Or.inl ⟨by rfl, ?_⟩) ?_ ?_
 rotate_left
 ·intro w'
  go_simp
  try with_reducible rfl
 rotate_left
 ·simp only [Act.put, qa, qb, qc]
  rfl
 refine pu_ (i := 6) (N := (some 37)) (v := ?_) (a' := ?_) rfl rfl (by kernel_rfl) (fun _ _ _ h => h) (Or.inl ⟨by rfl, ?_⟩) ?_ ?_
 rotate_left
 ·intro w'
  go_simp
  try with_reducible rfl
 rotate_left
 ·simp only [Act.put, qa, qb, qc]
  rfl
 refine tk_ (i := 7) (N := (some 38)) (v := ?_) (a' := ?_) rfl rfl (by kernel_rfl) (fun _ _ _ h => h) (Or.inl ⟨by rfl, ?_⟩) hHeld ?_ ?_
 rotate_left
 ·intro w' hS_
  obtain ⟨zz0, zz1⟩ := hS_
  go_simp
  try with_reducible rfl
 rotate_left
 ·simp only [Act.put, qa, qb, qc]
  rfl
 refine pu_ (i := 8) (N := (some 39)) (v := ?_) (a' := ?_) rfl rfl (by kernel_rfl) (fun _ _ _ h => h) (Or.inl ⟨by rfl, ?_⟩) ?_ ?_
 rotate_left
 ·intro w'
  go_simp
  try with_reducible rfl
 rotate_left
 ·simp only [Act.put, qa, qb, qc]
  rfl
 refine on_ (i := 9) (N := (some 8)) rfl rfl (by kernel_rfl) (by decide) (fun K hK => ?_)
 refine value_ (w1 := ?_) (v := ?_) (by rfl) rfl ?_ ?_
 rotate_left 2
 ·go_simp
  constructor
  ·rfl
  ·rfl
 refine hK.out _ _ ⟨cell_al c8 _, cell_al c2 _⟩ (fun hHeld => ?_)
 clear hK K
 refine norm_ (a' := ?_) ?_ ?_
 rotate_left
 ·show Act.put _ (some 8) _ = _
  simp only [Act.put, qa, qb, qc]
  rfl
 refine la_ (i := 10) (N := none) rfl rfl (by kernel_rfl) (by decide) (fun K hK => ?_)
 obtain ⟨y0, y1, y2, y3, z0, z1, z2, z3⟩ := g_cells hn8
 refine skip_ (w1 := (World.setCell (World.setCell (World.setCell (World.setCell (w1.drew.alloc (.cells #[.slice none 0 0, .slice none 0 0, .bool false, .int .i64 0] 31)) ⟨w1.heap.size, 0, none⟩ (.slice PA (S.get n).P.length pc)) ⟨w1.heap.size, 1, none⟩ (.slice none 0 0)) ⟨w1.heap.size, 2, none⟩ (.bool false)) ⟨w1.heap.size, 3, none⟩ (.int .i64 (S.get n).time))) (by rfl) rfl (by go_simp) ?_
 refine hK.out _ _ ?_
 clear hK K
 refine done_ (by kernel_rfl) ?_
 have hb8 := put4_blk hn8 (.slice PA (S.get n).P.length pc) (.slice none 0 0) (.bool false) (.int .i64 (S.get n).time)
 have ht8 := put4_tch (w1.drew.alloc (.cells #[.slice none 0 0, .slice none 0 0, .bool false, .int .i64 0] 31)) w1.heap.size (.slice PA (S.get n).P.length pc) (.slice none 0 0) (.bool false) (.int .i64 (S.get n).time)
 unfold put4 at hb8 ht8
 obtain ⟨W2, hW2⟩ : ∃ W2, W2 = (World.setCell (World.setCell (World.setCell (World.setCell (w1.drew.alloc (.cells #[.slice none 0 0, .slice none 0 0, .bool false, .int .i64 0] 31)) ⟨w1.heap.size, 0, none⟩ (.slice PA (S.get n).P.length pc)) ⟨w1.heap.size, 1, none⟩ (.slice none 0 0)) ⟨w1.heap.size, 2, none⟩ (.bool false)) ⟨w1.heap.size, 3, none⟩ (.int .i64 (S.get n).time)) := ⟨_, rfl⟩
 rw [← hW2] at hb8 ht8 ⊢
 have hb12 : Below w1.heap.size w1 W2 := ((Below.refl _ w1).drew.alloc (Nat.le_refl _) _).trans (ht8.below (B := w1.heap.size) (by simp) (fun k hk e => by have e : k = w1.heap.size := e; omega))
 have hsz2 : W2.heap.size = w1.heap.size + 1 := by rw [hW2]; simp [World.setCell]
 obtain ⟨b8, hb8e⟩ : ∃ b8, b8 = w1.heap.size := ⟨_, rfl⟩
 have hb8 : W2.heap[b8]? = some (.cells #[.slice PA (S.get n).P.length pc, .slice none 0 0, .bool false, .int .i64 (S.get n).time] 31 (0, 0)) := by rw [hb8e]; exact hb8
 rw [← hb8e]
 have hblk4 : W2.heap[b4]? = some (.cells #[.slice none 0 0, .slice none 0 0, .bool false, .int .i64 0] 31 (0, 0)) := (hb12.block b4 HS01.out).trans HBLK1.out
 have hRw2 := HR1.out.below hb12
 have c8' := hRw2.c_pl hn
 have cK := hRw2.c_kind hn
 have cC := hRw2.c_con hn
 have cQ := hRw2.c_q hn
 have f8 := hRw2.free (2 + n * 10 + 8)
 rw [HPL.out] at c8'
 have hw2 : Below w.heap.size w W2 := HB01.out.trans (hb12.mono HB01.out.size)
 -- the row of what is plain is given away
 have hT3 : Turn H W2 (S.put n { S.get n with P := [] }) (H.put n (H.q n) (H.b n) (H.v n) (.slice none 0 0)) (W2.setCell ⟨H.r, 2 + n * 10 + 8, none⟩ (.slice none 0 0)) :=
  Turn.row hRw2 OK.out.l8 hn (P' := []) (Tch.refl _ W2) (World.ownsRow_nil _ _ _ _) (fun k hk => by cases hk) rfl
 have hT3 := (hT3.after hw2).release hn (by unfold Sh.put; simp)
 obtain ⟨H3, hH3⟩ : ∃ H3, H3 = (H.put n (H.q n) (H.b n) (H.v n) (.slice none 0 0)).release n := ⟨_, rfl⟩
 rw [← hH3] at hT3
 have hq3 : H3.q n = H.q n := by rw [hH3]; exact Sh.put_q H n (H.b n) (H.v n) (.slice none 0 0) n
 have hrl : H.r < W2.heap.size := (Array.getElem?_eq_some_iff.1 hRw2.blk).1
 have hown3 : ∀ k, w.heap.size ≤ k → H3.own k = 0 := fun k hk => by
  rw [hH3]
  refine Sh.release_own _ _ _ (.inl ?_)
  have h1 := HR.out.fresh hk
  unfold Sh.put
  simp only
  rw [if_neg (fun e => by
   have h2 : H.own k = 8 + n := HR.out.oq n hn k e
   omega), if_neg (by simp [Value.ownBlock])]
  exact h1
 have hpo3 : ∀ k, (Value.slice PA (S.get n).P.length pc).ownBlock = some k → H3.own k = 0 ∧ k < w.heap.size := fun k hk => by
  have h1 : H.own k = 16 + n := HR.out.op n hn k (by rw [HPL.out]; exact hk)
  refine ⟨?_, HR.out.lt k (by omega)⟩
  rw [hH3]
  refine Sh.release_own _ _ _ (.inr ?_)
  unfold Sh.put
  simp only
  rw [if_neg (fun e => by
   have h2 : H.own k = 8 + n := HR.out.oq n hn k e
   omega), if_neg (by simp [Value.ownBlock])]
  exact h1
 have hne4 : ¬ b4 = H.r := fun e => by
  have h1 := HR.out.fresh (k := b4) (by rw [HB4.out]; exact Nat.le_refl _)
  rw [e, HR.out.o1] at h1
  omega
 have hne8 : ¬ b8 = H.r := fun e => by
  have h1 := HR1.out.fresh (k := b8) (by rw [hb8e]; exact Nat.le_refl _)
  rw [e, HR.out.o1] at h1
  omega
 have hne4' : ¬ H.r = b4 := fun e => hne4 e.symm
 have hne8' : ¬ H.r = b8 := fun e => hne8 e.symm
 have hne48 : ¬ b4 = b8 := fun e => by have := HS01.out; omega
 have hne48' : ¬ b8 = b4 := fun e => hne48 e.symm
 obtain ⟨x0, x1, x2, x3, x4, x5, x6, x7⟩ := g_cells hblk4
 obtain ⟨v0, v1, v2, v3, v4, v5, v6, v7⟩ := g_cells hb8
 have hprow2 : W2.ownsRow 0 41 6 (.slice PA (S.get n).P.length pc) (S.get n).P.length (flatM (S.get n).P) := by
  have := hRw2.pla n hn
  rw [HPL.out] at this
  exact this
 obtain ⟨W3, hW3⟩ : ∃ W3, W3 = W2.setCell ⟨H.r, 2 + n * 10 + 8, none⟩ (.slice none 0 0) := ⟨_, rfl⟩
 have ht23 : Tch (fun k => k = H.r) W2 W3 := by rw [hW3]; exact Tch.setCell (P := fun k => k = H.r) (Tch.refl _ _) (p := ⟨H.r, 2 + n * 10 + 8, none⟩) (.inl rfl) _
 have hprow3 : W3.ownsRow 0 41 6 (.slice PA (S.get n).P.length pc) (S.get n).P.length (flatM (S.get n).P) := own_move hprow2 (fun k hk => ht23.block k (own_lt hprow2 k hk) (fun e => by
  have h1 : H.own k = 16 + n := HR.out.op n hn k (by rw [HPL.out]; exact hk)
  rw [e, HR.out.o1] at h1
  omega))
 have hblk43 := (ht23.block b4 (Array.getElem?_eq_some_iff.1 hblk4).1 hne4).trans hblk4
 have hblk83 := (ht23.block b8 (Array.getElem?_eq_some_iff.1 hb8).1 hne8).trans hb8
 rw [← hW3] at hT3
 have HT3 := Lib.hid hT3
 have HOWN3 := Lib.hid hown3
 have HPO3 := Lib.hid hpo3
 have HB8E := Lib.hid (show b8 = w1.heap.size from hb8e)
 have HPROW3 := Lib.hid hprow3
 have HBLK43 := Lib.hid hblk43
 have HBLK83 := Lib.hid hblk83
 have HW3E := Lib.hid (show W3 = _ from hW3)
 have HSZ2 := Lib.hid hsz2
 have HT23 := Lib.hid ht23
 have HQ3 := Lib.hid hq3
 have hg0 : (S.get n).kind = 0 → (S.grant n).1 = false := fun e => by unfold St.grant dec; rw [e]; rfl
 have HG0 := Lib.hid hg0
 clear hn8 ht8 hW2 hb12 hsz2 hb8e hblk4 hb8 hRw2 hw2 hT3 hH3 hrl hown3 hpo3 hprow2 hprow3 hblk43 hblk83 hW3 ht23 hg0 c8 c2 hq3
 by_cases hk0 : (S.get n).kind = 0
 ·have hlk := HLK.out
  rw [if_pos (HG0.out hk0)] at hlk
  have HLK2 := Lib.hid hlk
  rw [hk0] at cK
  clear hlk hk0
  go_wp2
  try simp only [Exit.inBlock, Exit.then]
  rw [← HW3E.out]
  rw [HLK2.out]
  have hb4f := put4_blk HBLK43.out (.slice PA (S.get n).P.length pc) (.slice none 0 0) (.bool false) (.int .i64 (S.get n).time)
  have htf := put4_tch W3 b4 (.slice PA (S.get n).P.length pc) (.slice none 0 0) (.bool false) (.int .i64 (S.get n).time)
  have hTf := HT3.out.put4 HW0.out (Nat.le_of_eq HB4.out.symm) (HOWN3.out b4 (Nat.le_of_eq HB4.out.symm)) (.slice PA (S.get n).P.length pc) (.slice none 0 0) (.bool false) (.int .i64 (S.get n).time)
  unfold put4 at hb4f htf hTf
  refine ret26 rfl rfl rfl hb4f ?_
  refine ⟨H3, _, _, rfl, ⟨hTf, own_move HPROW3.out (fun k hk => htf.block k (own_lt HPROW3.out k hk) (fun e => by have h1 := (HPO3.out k hk).2; have h2 := HB4.out; omega)), World.ownsRow_nil _ _ _ _, fun k hk => (HPO3.out k hk).1, fun k hk => by cases hk⟩⟩
 ·rw [hcn] at cC
  obtain ⟨S1, hS1⟩ : ∃ S1, S1 = S.put n { S.get n with P := [] } := ⟨_, rfl⟩
  have hT3 := HT3.out
  rw [← hS1] at hT3
  have hg1 : S1.get n = { S.get n with P := [] } := by rw [hS1, gput_eq S OK.out.l8 hn]
  have hl1 : S1.l.length = 8 := by rw [hS1, St.put_l]; exact OK.out.l8
  have hk3 : ∀ w', Below W3.heap.size W3 w' → RAt H3 w' S1 := fun w' hb => hT3.at_.below hb
  have hcq : ∀ w', Below W3.heap.size W3 w' → w'.cell? ⟨H.r, 2 + n * 10 + 7, none⟩ = some (.pointer (some ⟨H.q n, 0, none⟩)) := fun w' hb => by
   have h := (hk3 w' hb).c_q hn
   rw [hT3.r, HQ3.out] at h
   exact h
  have hlc : ∀ w', Below W3.heap.size W3 w' → Calls Tryz.prog 72 #[.pointer (some ⟨H.q n, 0, none⟩)] w' fun e w'' => ∃ A c, e = .returned (.slice A (S.get n).Q.length c) ∧ w''.ownsRow w'.heap.size 41 6 (.slice A (S.get n).Q.length c) (S.get n).Q.length (flatM (S.get n).Q) ∧ Below w'.heap.size w' w'' := fun w' hb => by
   have h := list_call w' (H3.q n) (H3.b n) (H3.v n) (S1.get n).Q ((hk3 w' hb).que n hn)
   rw [HQ3.out, hg1] at h
   exact h
  have HS1 := Lib.hid hS1
  have HT31 := Lib.hid hT3
  have HG1 := Lib.hid hg1
  have HL1 := Lib.hid hl1
  have HK3 := Lib.hid hk3
  have HCQ := Lib.hid hcq
  have HLC := Lib.hid hlc
  have hcq3 := hcq W3 (Below.refl _ W3)
  have hgr : S.grant n = dec (S.get n).kind (S.get n).ask (S.get n).time (1125899906842624) (kts (S.get n).Q) := by
   unfold St.grant
   rw [hcn]
   rfl
  have HGR := Lib.hid hgr
  have HCN := Lib.hid hcn
  clear hS1 hT3 hg1 hl1 hk3 hcq hlc hgr hcn x0 x1 x2 x3 x4 x5 x6 x7 v0 v1 v2 v3 v4 v5 v6 v7
  go_wp2_with (go_at_call 72; rw [← HW3E.out]; refine (HLC.out W3 (Below.refl _ W3)).mono ?_; rintro x w5 ⟨LA, lc, rfl, hl5, hb5⟩; have HL5 := Lib.hid hl5; have HB5 := Lib.hid hb5; clear hl5 hb5)
  have h35 : Below W3.heap.size W3 w5 := HB5.out
  have HB35 := Lib.hid h35
  obtain ⟨i0, hi, hz0_, hz1_, hz2_⟩ := info_parts infI
  have HI := Lib.hid hi
  have HZ0 := Lib.hid hz0_
  have HZ1 := Lib.hid hz1_
  have HZ2 := Lib.hid hz2_
  have hql := (OK.out.m n).ql
  clear h35 hi hz0_ hz1_ hz2_ hcq3 cQ c8' cK f8 cC
  go_loopw [10, 62] (fun q iv wr => ∃ (j : Nat) (A : Option Addr) (c : Nat), j ≤ (S.get n).Q.length ∧ iv = .int .i64 j ∧ q = .slice A j c ∧ wr.ownsRow w5.heap.size 3 1 (.slice A j c) j ((kts ((S.get n).Q.take j)).map (Value.int .i64)) ∧ Below w5.heap.size w5 wr) (fun _ iv _ => (S.get n).Q.length - (RowKit.intOf iv).toNat)
  case atStart => exact ⟨0, none, 0, Nat.zero_le _, rfl, rfl, World.ownsRow_nil _ _ _ _, Below.refl _ _⟩
  case round =>
   obtain ⟨j, A, c, hj, rfl, rfl, ho, hbr⟩ := hrel
   by_cases hjl : j < (S.get n).Q.length
   ·have hji : (j : Int) < ((S.get n).Q.length : Int) := by omega
    obtain ⟨g, rfl, e0, e1, e2, e3, e4, e5⟩ := row_m HL5.out j hjl
    have hkt := kts_snoc (S.get n).Q j hjl
    have e0 := pw_cell_below hbr e0
    have e1 := pw_cell_below hbr e1
    have e2 := pw_cell_below hbr e2
    have e3 := pw_cell_below hbr e3
    have e4 := pw_cell_below hbr e4
    have e5 := pw_cell_below hbr e5
    generalize (S.get n).Q[j] = m at e0 e1 e2 e3 e4 e5 hkt
    have hnw := World.ownsRow_lit (base := 0) (e := 3) (size := 1) (wr.alloc (.cells #[.int .i64 m.k.t, .int .i64 m.k.f, .int .i64 m.k.s, .int .i64 m.d, .int .i64 m.cl, .int .i64 m.bd] 41)) #[.int .i64 m.k.t] 1 (Nat.zero_le _) (by unfold maxLen; omega) rfl
    rw [World.size_alloc] at hnw
    have HNW := Lib.hid hnw
    have HO := Lib.hid ho
    have HBR := Lib.hid hbr
    have HKT := Lib.hid hkt
    have hzz : ∀ q : Nat, (q : Int) + 1 = ((q + 1 : Nat) : Int) := fun q => by omega
    clear hnw ho hbr hkt hzz
    go_wp2_with (at_builtin; go_loud (refine wpList_app rfl (.tmp 66) (.tmp 70) 52 rfl w5.heap.size 0 3 i0 _ 1 8 hu52 HI.out HZ0.out HZ1.out HZ2.out rfl (by decide) (.slice A j c) j ((kts ((S.get n).Q.take j)).map (Value.int .i64)) rfl ((HO.out.alloc _).alloc _) (.slice (some ⟨wr.heap.size + 1, 0, none⟩) 1 1) 1 [.int .i64 m.k.t] (by rfl) HNW.out (by simp [Value.oneCell']) (by unfold maxLen; omega) (by omega) (by have := HBR.out.size; simp; omega) ?_); go_loud (intro v9 w9 hown hg hl))
    obtain ⟨A9, c9, rfl⟩ := own_slice hown
    refine ⟨⟨j + 1, A9, c9, hjl, by go_num, rfl, ?_, ?_⟩, by simp [RowKit.intOf]; omega⟩
    ·rw [HKT.out, List.map_append]
     exact hown
    ·exact ((HBR.out.alloc HBR.out.size _).alloc (by have := HBR.out.size; simp; omega) _).grown hg (by have := HBR.out.size; simp; omega) (fun q hq => own_base HO.out q hq)
   ·obtain rfl : j = (S.get n).Q.length := by omega
    have hji : ¬ ((S.get n).Q.length : Int) < ((S.get n).Q.length : Int) := by omega
    rw [List.take_length] at ho
    have hbw : Below W3.heap.size W3 wr := HB35.out.trans (hbr.mono HB35.out.size)
    have hRx := HK3.out wr hbw
    have dK := hRx.c_kind hn
    have dA := hRx.c_ask hn
    have dT := hRx.c_time hn
    rw [HT31.out.r, HG1.out] at dK dA dT
    have hlen : (kts (S.get n).Q).length = (S.get n).Q.length := by simp [kts]
    have hcc := own_le ho
    have hdc : ∀ w', Below wr.heap.size wr w' → Calls Tryz.prog 73 #[.int .i64 (S.get n).kind, .int .i64 (S.get n).ask, .int .i64 (S.get n).time, .int .i64 (1125899906842624), .slice A (S.get n).Q.length c] w' fun e w'' => e = .returned (.tuple #[.bool (S.grant n).1, .int .i64 (S.grant n).2.1, .int .i64 ((S.grant n).2.2 : Nat)]) ∧ Below w'.heap.size w' w'' := fun w' hb => by
     have ho2 := own_move ho (fun k hk => hb.block k (own_lt ho k hk))
     have h := decide_call w' A c (kts (S.get n).Q) (S.get n).kind (S.get n).ask (S.get n).time (1125899906842624) (srt_le (OK.out.m n).srt) (by rw [hlen]; omega) (by rw [hlen]; exact hcc) (ints_own (by rw [hlen]; exact ho2))
     rw [hlen, ← HGR.out] at h
     exact h
    have hgn : (S.grant n).2.2 ≤ (S.get n).Q.length := by
     rw [HGR.out, ← hlen]
     exact dec_n_le _ _ _ _ _
    have hlk := HLK.out
    generalize S.grant n = gr at hdc hgn hlk
    obtain ⟨gb, gt, gn⟩ := gr
    simp only at hdc hgn hlk
    have HDC := Lib.hid hdc
    have HGN := Lib.hid hgn
    have HLK2 := Lib.hid hlk
    have HBW := Lib.hid hbw
    clear ho hbr hbw hRx hdc hgn hlk hlen
    go_wp2_with fail
    refine st_ (n := 22) (S := fun w' => w'.cell? ⟨H.r, 2 + n * 10 + 4, none⟩ = some (.int .i64 (S.get n).kind) ∧ w'.cell? ⟨H.r, 2 + n * 10 + 5, none⟩ = some (.int .i64 (S.get n).ask) ∧ w'.cell? ⟨H.r, 2 + n * 10 + 2, none⟩ = some (.int .i64 (S.get n).time)) (ds := [14]) hmix rfl ⟨dK, dA, dT⟩ (fun hHeld => ?_)
    refine pu_ (i := 0) (N := (some 74)) (v := ?_) (a' := ?_) rfl rfl (by kernel_rfl) (fun _ _ _ h => h) (Or.inl ⟨by rfl, ?_⟩) ?_ ?_
    rotate_left
    ·intro w'
     go_simp
     try with_reducible rfl
    rotate_left
    ·simp only [Act.put, qa, qb, qc]
     rfl
    refine pu_ (i := 1) (N := (some 75)) (v := ?_) (a' := ?_) rfl rfl (by kernel_rfl) (fun _ _ _ h => h) (Or.inl ⟨by rfl, ?_⟩) ?_ ?_
    rotate_left
    ·intro w'
     go_simp
     try with_reducible rfl
    rotate_left
    ·simp only [Act.put, qa, qb, qc]
     rfl
    refine pu_ (i := 2) (N := (some 76)) (v := ?_) (a' := ?_) rfl rfl (by kernel_rfl) (fun _ _ _ h => h) (Or.inl ⟨by rfl, ?_⟩) ?_ ?_
    rotate_left
    ·intro w'
     go_simp
     try with_reducible rfl
    rotate_left
    ·simp only [Act.put, qa, qb, qc]
     rfl
    refine tk_ (i := 3) (N := (some 77)) (v := ?_) (a' := ?_) rfl rfl (by kernel_rfl) (fun _ _ _ h => h) (Or.inl ⟨by rfl, ?_⟩) hHeld ?_ ?_
    rotate_left
    ·intro w' hS_
     obtain ⟨zz0, zz1, zz2⟩ := hS_
     go_simp
     try with_reducible rfl
    rotate_left
    ·simp only [Act.put, qa, qb, qc]
     rfl
    refine pu_ (i := 4) (N := (some 78)) (v := ?_) (a' := ?_) rfl rfl (by kernel_rfl) (fun _ _ _ h => h) (Or.inl ⟨by rfl, ?_⟩) ?_ ?_
    rotate_left
    ·intro w'
     go_simp
     try with_reducible rfl
    rotate_left
    ·simp only [Act.put, qa, qb, qc]
     rfl
    refine pu_ (i := 5) (N := (some 79)) (v := ?_) (a' := ?_) rfl rfl (by kernel_rfl) (fun _ _ _ h => h) (Or.inl ⟨by rfl, ?_⟩) ?_ ?_
    rotate_left
    ·intro w'
     go_simp
     try with_reducible rfl
    rotate_left
    ·simp only [Act.put, qa, qb, qc]
     rfl
    refine pu_ (i := 6) (N := (some 80)) (v := ?_) (a' := ?_) rfl rfl (by kernel_rfl) (fun _ _ _ h => h) (Or.inl ⟨by rfl, ?_⟩) ?_ ?_
    rotate_left
    ·intro w'
     go_simp
     try with_reducible rfl
    rotate_left
    ·simp only [Act.put, qa, qb, qc]
     rfl
    refine tk_ (i := 7) (N := (some 81)) (v := ?_) (a' := ?_) rfl rfl (by kernel_rfl) (fun _ _ _ h => h) (Or.inl ⟨by rfl, ?_⟩) hHeld ?_ ?_
    rotate_left
    ·intro w' hS_
     obtain ⟨zz0, zz1, zz2⟩ := hS_
     go_simp
     try with_reducible rfl
    rotate_left
    ·simp only [Act.put, qa, qb, qc]
     rfl
    refine pu_ (i := 8) (N := (some 82)) (v := ?_) (a' := ?_) rfl rfl (by kernel_rfl) (fun _ _ _ h => h) (Or.inl ⟨by rfl, ?_⟩) ?_ ?_
    rotate_left
    ·intro w'
     go_simp
     try with_reducible rfl
    rotate_left
    ·simp only [Act.put, qa, qb, qc]
     rfl
    refine pu_ (i := 9) (N := (some 83)) (v := ?_) (a' := ?_) rfl rfl (by kernel_rfl) (fun _ _ _ h => h) (Or.inl ⟨by rfl, ?_⟩) ?_ ?_
    rotate_left
    ·intro w'
     go_simp
     try with_reducible rfl
    rotate_left
    ·simp only [Act.put, qa, qb, qc]
     rfl
    refine pu_ (i := 10) (N := (some 84)) (v := ?_) (a' := ?_) rfl rfl (by kernel_rfl) (fun _ _ _ h => h) (Or.inl ⟨by rfl, ?_⟩) ?_ ?_
    rotate_left
    ·intro w'
     go_simp
     try with_reducible rfl
    rotate_left
    ·simp only [Act.put, qa, qb, qc]
     rfl
    refine tk_ (i := 11) (N := (some 85)) (v := ?_) (a' := ?_) rfl rfl (by kernel_rfl) (fun _ _ _ h => h) (Or.inl ⟨by rfl, ?_⟩) hHeld ?_ ?_
    rotate_left
    ·intro w' hS_
     obtain ⟨zz0, zz1, zz2⟩ := hS_
     go_simp
     try with_reducible rfl
    rotate_left
    ·simp only [Act.put, qa, qb, qc]
     rfl
    refine pu_ (i := 12) (N := (some 86)) (v := ?_) (a' := ?_) rfl rfl (by kernel_rfl) (fun _ _ _ h => h) (Or.inl ⟨by rfl, ?_⟩) ?_ ?_
    rotate_left
    ·intro w'
     go_simp
     try with_reducible rfl
    rotate_left
    ·simp only [Act.put, qa, qb, qc]
     rfl
    refine pu_ (i := 13) (N := (some 87)) (v := ?_) (a' := ?_) rfl rfl (by kernel_rfl) (fun _ _ _ h => h) (Or.inl ⟨by rfl, ?_⟩) ?_ ?_
    rotate_left
    ·intro w'
     go_simp
     try with_reducible rfl
    rotate_left
    ·simp only [Act.put, qa, qb, qc]
     rfl
    refine la_ (i := 14) (N := (some 88)) rfl rfl (by kernel_rfl) (by decide) (fun K hK => ?_)
    refine goes_ Tryz.func73 (by kernel_rfl) rfl #[.int .i64 (S.get n).kind, .int .i64 (S.get n).ask, .int .i64 (S.get n).time, .int .i64 (1125899906842624), .slice A (S.get n).Q.length c] (by rfl) rfl rfl (by simp only [List.map_toArray, List.map_cons, List.map_nil]; rfl) ?_
    refine (HDC.out _ ((Below.refl _ wr).drew)).mono ?_
    rintro x w7 ⟨rfl, hb7⟩
    have HB7 := Lib.hid hb7
    clear hb7
    refine ⟨_, rfl, hK.out _ _ ?_⟩
    clear hK K
    refine norm_ (a' := ?_) ?_ ?_
    rotate_left
    ·show Act.put _ (some 88) _ = _
     simp only [Act.put, qa, qb, qc]
     rfl
    refine pu_ (i := 15) (N := (some 73)) (v := ?_) (a' := ?_) rfl rfl (by kernel_rfl) (fun _ _ _ h => h) (Or.inl ⟨by rfl, ?_⟩) ?_ ?_
    rotate_left
    ·intro w'
     go_simp
     try with_reducible rfl
    rotate_left
    ·simp only [Act.put, qa, qb, qc]
     rfl
    refine pu_ (i := 16) (N := (some 89)) (v := ?_) (a' := ?_) rfl rfl (by kernel_rfl) (fun _ _ _ h => h) (Or.inl ⟨by rfl, ?_⟩) ?_ ?_
    rotate_left
    ·intro w'
     go_simp
     try with_reducible rfl
    rotate_left
    ·simp only [Act.put, qa, qb, qc]
     rfl
    refine pu_ (i := 17) (N := (some 90)) (v := ?_) (a' := ?_) rfl rfl (by kernel_rfl) (fun _ _ _ h => h) (Or.inl ⟨by rfl, ?_⟩) ?_ ?_
    rotate_left
    ·intro w'
     go_simp
     try with_reducible rfl
    rotate_left
    ·simp only [Act.put, qa, qb, qc]
     rfl
    refine pu_ (i := 18) (N := (some 91)) (v := ?_) (a' := ?_) rfl rfl (by kernel_rfl) (fun _ _ _ h => h) (Or.inl ⟨by rfl, ?_⟩) ?_ ?_
    rotate_left
    ·intro w'
     go_simp
     try with_reducible rfl
    rotate_left
    ·simp only [Act.put, qa, qb, qc]
     rfl
    refine pu_ (i := 19) (N := (some 13)) (v := ?_) (a' := ?_) rfl rfl (by kernel_rfl) (fun _ _ _ h => h) (Or.inl ⟨by rfl, ?_⟩) ?_ ?_
    rotate_left
    ·intro w'
     go_simp
     try with_reducible rfl
    rotate_left
    ·simp only [Act.put, qa, qb, qc]
     rfl
    refine pu_ (i := 20) (N := (some 14)) (v := ?_) (a' := ?_) rfl rfl (by kernel_rfl) (fun _ _ _ h => h) (Or.inl ⟨by rfl, ?_⟩) ?_ ?_
    rotate_left
    ·intro w'
     go_simp
     try with_reducible rfl
    rotate_left
    ·simp only [Act.put, qa, qb, qc]
     rfl
    refine pu_ (i := 21) (N := (some 15)) (v := ?_) (a' := ?_) rfl rfl (by kernel_rfl) (fun _ _ _ h => h) (Or.inl ⟨by rfl, ?_⟩) ?_ ?_
    rotate_left
    ·intro w'
     go_simp
     try with_reducible rfl
    rotate_left
    ·simp only [Act.put, qa, qb, qc]
     rfl
    refine done_ (by kernel_rfl) ?_
    have hb37 : Below W3.heap.size W3 w7 := HBW.out.trans (((Below.refl _ wr).drew.trans HB7.out).mono HBW.out.size)
    have hl4 : b4 < W3.heap.size := (Array.getElem?_eq_some_iff.1 HBLK43.out).1
    have hl8 : b8 < W3.heap.size := (Array.getElem?_eq_some_iff.1 HBLK83.out).1
    have hblk47 := (hb37.block b4 hl4).trans HBLK43.out
    have hblk87 := (hb37.block b8 hl8).trans HBLK83.out
    have hprow7 := own_move HPROW3.out (fun k hk => hb37.block k (own_lt HPROW3.out k hk))
    have HB37 := Lib.hid hb37
    have HBLK47 := Lib.hid hblk47
    have HBLK87 := Lib.hid hblk87
    have HPROW7 := Lib.hid hprow7
    have h4lt : b4 < w7.heap.size := Nat.lt_of_lt_of_le hl4 hb37.size
    have h8lt : b8 < w7.heap.size := Nat.lt_of_lt_of_le hl8 hb37.size
    have H4LT := Lib.hid h4lt
    have H8LT := Lib.hid h8lt
    have hT7 := HT31.out.below hb37
    have HT7 := Lib.hid hT7
    clear hb37 hl4 hl8 hprow7 h4lt h8lt hT7 dK dA dT
    cases gb
    ·obtain ⟨x0, x1, x2, x3, x4, x5, x6, x7⟩ := g_cells hblk47
     obtain ⟨v0, v1, v2, v3, v4, v5, v6, v7⟩ := g_cells hblk87
     clear hblk47 hblk87
     go_wp2
     try simp only [Exit.inBlock, Exit.then]
     rw [HLK2.out]
     have hb4f := put4_blk HBLK47.out (.slice PA (S.get n).P.length pc) (.slice none 0 0) (.bool false) (.int .i64 (S.get n).time)
     have htf := put4_tch w7 b4 (.slice PA (S.get n).P.length pc) (.slice none 0 0) (.bool false) (.int .i64 (S.get n).time)
     have hTf := HT7.out.put4 HW0.out (Nat.le_of_eq HB4.out.symm) (HOWN3.out b4 (Nat.le_of_eq HB4.out.symm)) (.slice PA (S.get n).P.length pc) (.slice none 0 0) (.bool false) (.int .i64 (S.get n).time)
     rw [HS1.out] at hTf
     unfold put4 at hb4f htf hTf
     refine ret26 rfl rfl rfl hb4f ?_
     refine ⟨H3, _, _, rfl, ⟨hTf, own_move HPROW7.out (fun k hk => htf.block k (own_lt HPROW7.out k hk) (fun e => by have h1 := (HPO3.out k hk).2; have h2 := HB4.out; omega)), World.ownsRow_nil _ _ _ _, fun k hk => (HPO3.out k hk).1, fun k hk => by cases hk⟩⟩
    ·obtain ⟨i1, hi1, hz01_, hz11_, hz21_⟩ := info_parts inf41
     have HI1 := Lib.hid hi1
     have HZ01 := Lib.hid hz01_
     have HZ11 := Lib.hid hz11_
     have HZ21 := Lib.hid hz21_
     have e0 : S1.put n { S1.get n with Q := (S.get n).Q.drop 0 } = S1 := by
      have e1 : ({ S1.get n with Q := (S.get n).Q.drop 0 } : Mem) = S1.get n := by rw [List.drop_zero, HG1.out]
      rw [e1]
      exact put_self S1 HL1.out n hn
     have hsw7 : w.heap.size ≤ w7.heap.size := by have h1 := H4LT.out; have h2 := HB4.out; omega
     have hI0 : PopInv H w S1 n b4 b8 w7.heap.size (S.get n).P (S.get n).Q (.slice PA (S.get n).P.length pc) (S.get n).time 0 H3 (.slice none 0 0) w7 :=
      ⟨by rw [e0]; exact HT7.out, HOWN3.out b4 (Nat.le_of_eq HB4.out.symm), HOWN3.out b8 (by have h1 := HB8E.out; have h2 := HB01.out.size; omega), hblk47, hblk87, HPROW7.out, fun k hk => (HPO3.out k hk).1, fun k hk => (HPO3.out k hk).2, World.ownsRow_nil _ _ _ _, fun k hk => (by cases hk), Nat.le_refl _⟩
     have HI0 := Lib.hid hI0
     have HSW7 := Lib.hid hsw7
     clear hblk47 hblk87 hi1 hz01_ hz11_ hz21_ e0 hsw7 hI0
     obtain ⟨wo, hwo⟩ : ∃ wo, wo = wr := ⟨_, rfl⟩
     subst hwo
     go_wp2_with fail
     go_loopw [96] (fun iv wr => ∃ (j : Nat) (H' : Sh) (vt : Value), j ≤ gn ∧ iv = .int .i64 j ∧ PopInv H w S1 n b4 b8 w7.heap.size (S.get n).P (S.get n).Q (.slice PA (S.get n).P.length pc) (S.get n).time j H' vt wr) (fun iv _ => gn - (RowKit.intOf iv).toNat)
     case atStart => exact ⟨0, H3, _, Nat.zero_le _, rfl, HI0.out⟩
     case round =>
      obtain ⟨j, H', vt, hj, rfl, hI⟩ := hrel
      by_cases hjl : j < gn
      ·have hji : (j : Int) < (gn : Int) := by omega
       have hjq : j < (S.get n).Q.length := Nat.lt_of_lt_of_le hjl HGN.out
       have hdr : (S.get n).Q.drop j = (S.get n).Q[j] :: (S.get n).Q.drop (j + 1) := List.drop_eq_getElem_cons hjq
       have htk : flatM ((S.get n).Q.take (j + 1)) = flatM ((S.get n).Q.take j) ++ (S.get n).Q[j].cells := by
        rw [List.take_succ_eq_append_getElem hjq, flatM_app]
        simp [flatM]
       have hl2 : (S1.put n { S1.get n with Q := (S.get n).Q.drop j }).l.length = 8 := by rw [St.put_l]; exact HL1.out
       have hq := hI.turn.at_.que n hn
       rw [gput_eq S1 HL1.out hn] at hq
       have hq : QIn wr (H'.q n) (H'.b n) (H'.v n) ((S.get n).Q.drop j) := hq
       rw [hdr] at hq
       generalize (S.get n).Q[j] = m at hq htk hdr
       have hpc := pop_call wr (H'.q n) (H'.b n) (H'.v n) m ((S.get n).Q.drop (j + 1)) hq
       unfold Mg.val at hpc
       have cq := hI.turn.at_.c_q hn
       rw [hI.turn.r] at cq
       obtain ⟨VA, vc, rfl⟩ := own_slice hI.t
       have hqt : ∀ (r : Value) (e : Ending) (w9 : World), QInPost wr (H'.q n) (H'.b n) (H'.v n) ((S.get n).Q.drop (j + 1)) r e w9 → e = .returned r ∧ ∃ v9, Turn H' wr (S1.put n { S1.get n with Q := (S.get n).Q.drop (j + 1) }) (H'.put n (H'.q n) (H'.b n) v9 (H'.pl n)) w9 := fun r e w9 h9 => by
        obtain ⟨h1, v9, h2⟩ := Turn.queue hI.turn.at_ hl2 hn h9
        rw [gput_eq S1 HL1.out hn, put_put] at h2
        exact ⟨h1, v9, h2⟩
       have HPC := Lib.hid hpc
       have HQT := Lib.hid hqt
       have HII := Lib.hid hI
       have HTK := Lib.hid htk
       clear hq hpc hqt hI htk hdr hl2
       go_wp2_with (first | (go_at_call 74; (with_reducible refine HPC.out.mono ?_); rintro x w9 hq9; obtain ⟨rfl, v9, hT9⟩ := HQT.out _ _ _ hq9; have hblk9 := (hT9.keeps (Array.getElem?_eq_some_iff.1 HII.out.blk8).1 HII.out.o8).trans HII.out.blk8; obtain ⟨v0, v1, v2, v3, v4, v5, v6, v7⟩ := g_cells hblk9; have hrow9 := own_move HII.out.t (fun k hk => hT9.keeps (own_lt HII.out.t k hk) (HII.out.tow k hk)); have HT9 := Lib.hid hT9; have HBLK9 := Lib.hid hblk9; have HROW9 := Lib.hid hrow9; have hl9 := (Array.getElem?_eq_some_iff.1 hblk9).1; have hs79 : w7.heap.size ≤ w9.heap.size := Nat.le_trans HII.out.sz hT9.tch.size; have hn89 : ¬ b8 = w9.heap.size := (by omega); have hn891 : ¬ b8 = w9.heap.size + 1 := (by omega); have hnw := World.ownsRow_lit (base := 0) (e := 41) (size := 6) (w9.alloc (.cells #[.int .i64 m.k.t, .int .i64 m.k.f, .int .i64 m.k.s, .int .i64 m.d, .int .i64 m.cl, .int .i64 m.bd] 41)) #[.int .i64 m.k.t, .int .i64 m.k.f, .int .i64 m.k.s, .int .i64 m.d, .int .i64 m.cl, .int .i64 m.bd] 1 (Nat.zero_le _) (by unfold maxLen; omega) rfl; rw [World.size_alloc] at hnw; have HNW := Lib.hid hnw; have HS79 := Lib.hid hs79; clear hq9 hT9 hblk9 hrow9 hnw hs79 cq) | (at_builtin; go_loud (refine wpList_app rfl (.tmp 107) (.tmp 109) 29 rfl w7.heap.size 0 41 i1 _ 6 48 hu29 HI1.out HZ01.out HZ11.out HZ21.out rfl (by decide) (.slice VA j vc) j (flatM ((S.get n).Q.take j)) rfl ((HROW9.out.alloc _).alloc _) (.slice (some ⟨w9.heap.size + 1, 0, none⟩) 1 1) 1 m.cells (by rfl) HNW.out (mcells_one m) (by unfold maxLen; omega) (by omega) (by have := HS79.out; simp; omega) ?_); go_loud (intro v11 w11 hown11 hg11 hl11; refine Pause.go ?_)))
       obtain ⟨A11, c11, rfl⟩ := own_slice hown11
       have hb910 : Below w9.heap.size w9 ((w9.alloc (.cells #[.int .i64 m.k.t, .int .i64 m.k.f, .int .i64 m.k.s, .int .i64 m.d, .int .i64 m.cl, .int .i64 m.bd] 41)).alloc (.cells #[.int .i64 m.k.t, .int .i64 m.k.f, .int .i64 m.k.s, .int .i64 m.d, .int .i64 m.cl, .int .i64 m.bd] 41)) := ((Below.refl _ w9).alloc (Nat.le_refl _) _).alloc (by simp) _
       have ht11 := (Tch.refl (fun k => (Value.slice VA j vc).ownBlock = some k) ((w9.alloc (.cells #[.int .i64 m.k.t, .int .i64 m.k.f, .int .i64 m.k.s, .int .i64 m.d, .int .i64 m.cl, .int .i64 m.bd] 41)).alloc (.cells #[.int .i64 m.k.t, .int .i64 m.k.f, .int .i64 m.k.s, .int .i64 m.d, .int .i64 m.cl, .int .i64 m.bd] 41))).grown hg11 (fun k hk => .inl hk)
       have hb11 := (ht11.block b8 (Nat.lt_of_lt_of_le hl9 hb910.size) (fun e => by have h1 := own_base HII.out.t b8 e; have h2 := H8LT.out; omega)).trans ((hb910.block b8 hl9).trans HBLK9.out)
       have hst := PopInv.step HII.out HT9.out hb910 hg11 hl11 (by rw [HTK.out]; exact hown11) H4LT.out H8LT.out (Nat.le_of_eq HB4.out.symm) (by have h1 := HB8E.out; have h2 := HB01.out.size; omega) hne48 HSW7.out HW0.out
       have HST := Lib.hid hst
       clear v0 v1 v2 v3 v4 v5 v6 v7 hown11 hg11 hl11 hb910 ht11 hst
       obtain ⟨v0, v1, v2, v3, v4, v5, v6, v7⟩ := g_cells hb11
       clear hb11
       refine Pause.mk ?_
       go_wp2
       exact ⟨⟨j + 1, _, _, hjl, by go_num, HST.out⟩, by simp [RowKit.intOf]; omega⟩
      ·obtain rfl : j = gn := by omega
       have hji : ¬ (j : Int) < (j : Int) := by omega
       obtain ⟨VA, vc, rfl⟩ := own_slice hI.t
       obtain ⟨v0, v1, v2, v3, v4, v5, v6, v7⟩ := g_cells hI.blk8
       have h8w : w.heap.size ≤ b8 := by have h1 := HB8E.out; have h2 := HB01.out.size; omega
       have hT4 := (hI.turn.side HW0.out h8w hI.o8 2 (.bool true)).side HW0.out h8w hI.o8 3 (.int .i64 gt)
       have ht4 : Tch (fun k => k = b8) wr ((wr.setCell ⟨b8, 2, none⟩ (.bool true)).setCell ⟨b8, 3, none⟩ (.int .i64 gt)) := (Tch.setCell (P := fun k => k = b8) (Tch.refl _ wr) (p := ⟨b8, 2, none⟩) (.inl rfl) _).setCell (p := ⟨b8, 3, none⟩) (.inl rfl) _
       have hb84 : ((wr.setCell ⟨b8, 2, none⟩ (.bool true)).setCell ⟨b8, 3, none⟩ (.int .i64 gt)).heap[b8]? = some (.cells #[.slice PA (S.get n).P.length pc, .slice VA j vc, .bool true, .int .i64 gt] 31 (0, 0)) := by
        have a1 := heap_setCell_same wr b8 2 _ 31 (.bool true) hI.blk8
        exact heap_setCell_same _ b8 3 _ 31 (.int .i64 gt) a1
       have hb44 := (ht4.block b4 (Array.getElem?_eq_some_iff.1 hI.blk4).1 hne48).trans hI.blk4
       obtain ⟨W4, hW4⟩ : ∃ W4, W4 = (wr.setCell ⟨b8, 2, none⟩ (.bool true)).setCell ⟨b8, 3, none⟩ (.int .i64 gt) := ⟨_, rfl⟩
       rw [← hW4] at hT4 ht4 hb84 hb44
       have hp4 := own_move hI.p (fun k hk => ht4.block k (own_lt hI.p k hk) (fun e => by have h1 := hI.pB k hk; omega))
       have htm4 := own_move hI.t (fun k hk => ht4.block k (own_lt hI.t k hk) (fun e => by have h1 := own_base hI.t k hk; have h3 := H8LT.out; omega))
       have HII := Lib.hid hI
       have HT4 := Lib.hid hT4
       have HW4 := Lib.hid (show W4 = _ from hW4)
       have HB84 := Lib.hid hb84
       have HB44 := Lib.hid hb44
       have HP4 := Lib.hid hp4
       have HTM4 := Lib.hid htm4
       clear hI hT4 hW4 ht4 hb84 hb44 hp4 htm4 h8w
       go_upto_region 27 with (fail)
       rw [← HW4.out]
       clear v0 v1 v2 v3 v4 v5 v6 v7
       have hT4 := HT4.out
       have q2 := hT4.at_.c_time hn
       have q4 := hT4.at_.c_kind hn
       have q5 := hT4.at_.c_ask hn
       have g2 := hT4.at_.free (2 + n * 10 + 2)
       have g4 := hT4.at_.free (2 + n * 10 + 4)
       have g5 := hT4.at_.free (2 + n * 10 + 5)
       rw [hT4.r] at q2 q4 q5 g2 g4 g5
       have hT5 := hT4.ask3 (by rw [St.put_l]; exact HL1.out) hn gt
       have hst : ((S1.put n { S1.get n with Q := (S.get n).Q.drop j }).put n { (S1.put n { S1.get n with Q := (S.get n).Q.drop j }).get n with time := gt, kind := 0, ask := 0 }) = S.put n { S.get n with P := [], Q := (S.get n).Q.drop j, time := gt, kind := 0, ask := 0 } := by
        rw [gput_eq S1 HL1.out hn, put_put, HG1.out, HS1.out, put_put]
       rw [hst] at hT5
       have ht5 : Tch (fun k => k = H.r) W4 (((W4.setCell ⟨H.r, 2 + n * 10 + 2, none⟩ (.int .i64 gt)).setCell ⟨H.r, 2 + n * 10 + 4, none⟩ (.int .i64 0)).setCell ⟨H.r, 2 + n * 10 + 5, none⟩ (.int .i64 0)) :=
        ((Tch.setCell (P := fun k => k = H.r) (Tch.refl _ W4) (p := ⟨H.r, 2 + n * 10 + 2, none⟩) (.inl rfl) _).setCell (p := ⟨H.r, 2 + n * 10 + 4, none⟩) (.inl rfl) _).setCell (p := ⟨H.r, 2 + n * 10 + 5, none⟩) (.inl rfl) _
       obtain ⟨W5, hW5⟩ : ∃ W5, W5 = ((W4.setCell ⟨H.r, 2 + n * 10 + 2, none⟩ (.int .i64 gt)).setCell ⟨H.r, 2 + n * 10 + 4, none⟩ (.int .i64 0)).setCell ⟨H.r, 2 + n * 10 + 5, none⟩ (.int .i64 0) := ⟨_, rfl⟩
       rw [← hW5] at hT5 ht5
       have hb45 := (ht5.block b4 (Array.getElem?_eq_some_iff.1 HB44.out).1 hne4).trans HB44.out
       have hb85 := (ht5.block b8 (Array.getElem?_eq_some_iff.1 HB84.out).1 hne8).trans HB84.out
       have hp5 := own_move HP4.out (fun k hk => ht5.block k (own_lt HP4.out k hk) (fun e => by
        have h2 := HII.out.pow k hk
        have h3 := hT4.at_.o1
        rw [hT4.r, ← e, h2] at h3
        omega))
       have htm5 := own_move HTM4.out (fun k hk => ht5.block k (own_lt HTM4.out k hk) (fun e => by
        have h2 := HII.out.tow k hk
        have h3 := hT4.at_.o1
        rw [hT4.r, ← e, h2] at h3
        omega))
       have HT5 := Lib.hid hT5
       have HW5 := Lib.hid (show W5 = _ from hW5)
       have HB45 := Lib.hid hb45
       have HB85 := Lib.hid hb85
       have HP5 := Lib.hid hp5
       have HTM5 := Lib.hid htm5
       clear hT4 hT5 hst hW5 ht5 hb45 hb85 hp5 htm5
       go_upto_region 28 with (fail)
       rw [← HW5.out]
       clear q2 q4 q5 g2 g4 g5
       obtain ⟨x0, x1, x2, x3, x4, x5, x6, x7⟩ := g_cells HB45.out
       obtain ⟨v0, v1, v2, v3, v4, v5, v6, v7⟩ := g_cells HB85.out
       iterate 14 (first | go_values | go_skip | go_guarded | go_step | go_upon)
       try simp only [Exit.inBlock, Exit.then]
       rw [HLK2.out]
       have hb4f := put4_blk HB45.out (.slice PA (S.get n).P.length pc) (.slice VA j vc) (.bool true) (.int .i64 gt)
       have htf := put4_tch W5 b4 (.slice PA (S.get n).P.length pc) (.slice VA j vc) (.bool true) (.int .i64 gt)
       have hTf := HT5.out.put4 HW0.out (Nat.le_of_eq HB4.out.symm) HII.out.o4 (.slice PA (S.get n).P.length pc) (.slice VA j vc) (.bool true) (.int .i64 gt)
       unfold put4 at hb4f htf hTf
       refine ret26 rfl rfl rfl hb4f ?_
       have hlt : ((S.get n).Q.take j).length = j := by rw [List.length_take]; have := HGN.out; omega
       refine ⟨H', _, _, rfl, ⟨hTf, own_move HP5.out (fun k hk => htf.block k (own_lt HP5.out k hk) (fun e => by have h1 := HII.out.pB k hk; have h2 := HB4.out; omega)), ?_, HII.out.pow, HII.out.tow⟩⟩
       show World.ownsRow _ 0 41 6 _ ((S.get n).Q.take j).length _
       rw [hlt]
       exact own_zero (own_move HTM5.out (fun k hk => htf.block k (own_lt HTM5.out k hk) (fun e => by have h1 := own_base HTM5.out k hk; have h2 := H4LT.out; omega)))
end Go.Proofs.YtehnkebcbomidaaGreatDoor.Rt
