/- Part of a proof over the given program: Pu, Rm. -/
import Derived.Test.YtehnkebcbomidaaGreatDoorCn15
import Derived.Test.YtehnkebcbomidaaGreatDoorCn16
set_option linter.unusedVariables false
set_option linter.unusedSimpArgs false
namespace Go.Proofs.YtehnkebcbomidaaGreatDoor.Rt
open Go Go.RowKit Go.Proofs Go.Proofs.YtehnkebcbomidaaGreatDoorW.PrintWords Go.Proofs.YtehnkebcbomidaaGreatDoorW.PrintLast
def subsOf (S : St) : List Nat := (List.range 8).map fun n => (S.get n).subs
def tcells (v : Value) (pubs subs : List Nat) : List Value := v :: (pubs ++ subs).map (fun n => Value.int .u32 (n : Nat))
theorem RAt.turn2 {H : Sh} {W W' : World} {S S' : St} (h : RAt H W S) (ht : Tch (fun k => k = H.r ∨ k = H.tb) W W') (hblk : W'.heap[H.r]? = some (.cells (rcells H S').toArray 115 (0, 0)))
  (htab : W'.heap[H.tb]? = some (.cells (tcells H.av S'.pubs (subsOf S')).toArray 189 (0, 0))) (p8 : S'.pubs.length = 8) (h1 : S'.par = S.par) (h2 : S'.above = S.above)
  (h4 : ∀ n, n < 8 → (S'.get n).Q = (S.get n).Q ∧ (S'.get n).P = (S.get n).P) : RAt H W' S' := by
 have hb : ∀ k, k < W.heap.size → ¬ (k = H.r ∨ k = H.tb) → W'.heap[k]? = W.heap[k]? := fun k hk hr => ht.block k hk hr
 have hne : ∀ k, H.own k ≠ 1 → H.own k ≠ 2 → ¬ (k = H.r ∨ k = H.tb) := fun k hk hk2 e => by
  rcases e with e | e
  ·exact hk (by rw [e]; exact h.o1)
  ·exact hk2 (by rw [e]; exact h.o2)
 obtain ⟨er, hrow⟩ := h.tab.row
 refine ⟨ht.cell h.env (hne 0 (by rw [h.o0]; decide) (by rw [h.o0]; decide)), h.o0, hblk, ?_, ?_, fun n hn => ?_, fun n hn => ?_, h.o1, h.o2, h.o3, h.o4, h.oq, h.op, fun k hk => Nat.lt_of_lt_of_le (h.lt k hk) ht.size⟩
 ·rw [h2]
  exact ⟨htab, ⟨er, own_move hrow (fun k hk => hb k (own_lt hrow k hk) (hne k (by rw [h.o3 k hk]; decide) (by rw [h.o3 k hk]; decide)))⟩, p8, by simp⟩
 ·rw [h1]
  exact own_move h.par (fun k hk => hb k (own_lt h.par k hk) (hne k (by rw [h.o4 k hk]; decide) (by rw [h.o4 k hk]; decide)))
 ·rw [(h4 n hn).1]
  exact (h.que n hn).frame (fun k hk e => hb k hk (hne k (by rw [h.oq n hn k e]; omega) (by rw [h.oq n hn k e]; omega)))
 ·rw [(h4 n hn).2]
  exact own_move (h.pla n hn) (fun k hk => hb k (own_lt (h.pla n hn) k hk) (hne k (by rw [h.op n hn k hk]; omega) (by rw [h.op n hn k hk]; omega)))
theorem RAt.ne {H : Sh} {W : World} {S : St} (h : RAt H W S) : H.r ≠ H.tb := fun e => by have := h.o1; rw [e, h.o2] at this; omega
theorem blk_pub {W : World} {g : Nat} {v : Value} {pubs subs : List Nat} (hblk : W.heap[g]? = some (.cells (tcells v pubs subs).toArray 189 (0, 0))) (h8 : pubs.length = 8) (n : Nat) (hn : n < 8) (x : Nat) :
  (W.setCell ⟨g, 1 + n, none⟩ (.int .u32 (x : Nat))).heap[g]? = some (.cells (tcells v (pubs.set n x) subs).toArray 189 (0, 0)) := by
 rw [heap_setCell_same W g (1 + n) _ 189 _ hblk]
 have e : (tcells v pubs subs).set (1 + n) (.int .u32 (x : Nat)) = tcells v (pubs.set n x) subs := by
  unfold tcells
  rw [show 1 + n = n + 1 by omega, List.set_cons_succ, List.map_append, List.map_append, List.set_append_left _ _ (by simpa [h8] using hn), List.map_set]
 rw [← e]
 simp
theorem blk_sub {W : World} {g : Nat} {v : Value} {pubs subs : List Nat} (hblk : W.heap[g]? = some (.cells (tcells v pubs subs).toArray 189 (0, 0))) (h8 : pubs.length = 8) (n : Nat) (x : Nat) :
  (W.setCell ⟨g, 9 + n, none⟩ (.int .u32 (x : Nat))).heap[g]? = some (.cells (tcells v pubs (subs.set n x)).toArray 189 (0, 0)) := by
 rw [heap_setCell_same W g (9 + n) _ 189 _ hblk]
 have e : (tcells v pubs subs).set (9 + n) (.int .u32 (x : Nat)) = tcells v pubs (subs.set n x) := by
  unfold tcells
  rw [show 9 + n = (8 + n) + 1 by omega, List.set_cons_succ, List.map_append, List.map_append, List.set_append_right _ _ (by simp [h8]), List.map_set]
  simp [h8]
 rw [← e]
 simp
theorem subsOf_put (S : St) (h8 : S.l.length = 8) (n : Nat) (hn : n < 8) (m : Mem) : subsOf (S.put n m) = (subsOf S).set n m.subs := by
 unfold subsOf
 refine List.ext_getElem? fun k => ?_
 rw [List.getElem?_map, List.getElem?_set]
 by_cases hk : k < 8
 ·rw [List.getElem?_range hk]
  simp only [Option.map_some, St.get_put S h8 n k hn, List.length_map, List.length_range, hn, if_true]
  by_cases e : k = n
  ·subst e; simp
  ·rw [if_neg e, if_neg (fun z => e z.symm), List.getElem?_map, List.getElem?_range hk]; rfl
 ·rw [List.getElem?_eq_none (by simpa using hk), if_neg (by omega), List.getElem?_eq_none (by simpa using hk)]
  rfl
theorem chk_no (S : St) (n : Nat) (hn : n < 8) (c : Int) : chk n c S.above.length = if S.noClass c then 81 else 0 := by
 unfold chk
 rw [if_neg (by omega)]
 rfl
theorem pubR (w : World) (H : Sh) (S : St) {N : Int} (hR : RAt H w S) (ok : S.Ok N) (n : Nat) (hn : n < 8) (he : S.byE n = 0) (c : Int) (is : Bool) :
  Calls Tryz.prog 84 #[.pointer (some ⟨H.tb, 0, none⟩), .int .i64 n, .int .i64 c, .bool is] w fun e w' => e = .returned (.int .i64 (S.publish n c is).1) ∧ RAt H w' (S.publish n c is).2 ∧ Tch (fun k => k = H.tb) w w' := by
 unfold St.publish
 rw [if_neg (fun k => k he), Int.toNat_natCast]
 by_cases hc : S.noClass c
 ·rw [if_pos hc]
  refine (tpub_no w H.tb H.av S.above S.pubs _ hR.tab n c is (by rw [chk_no S n hn, if_pos hc]; decide)).mono ?_
  rintro e w' ⟨rfl, rfl⟩
  rw [chk_no S n hn, if_pos hc]
  exact ⟨rfl, hR, Tch.refl _ _⟩
 ·rw [if_neg hc]
  have hc2 : ¬ (c < 0 ∨ (S.above.length : Int) ≤ c) := hc
  obtain ⟨k, rfl⟩ : ∃ k : Nat, c = k := ⟨c.toNat, by omega⟩
  have hp : S.pubs[n]? = some (S.pubs.getD n 0) := by
   have : n < S.pubs.length := by rw [ok.p8]; exact hn
   rw [List.getD_eq_getElem?_getD, List.getElem?_eq_getElem this]; rfl
  have h16 : S.above.length ≤ 16 := by rw [ok.al]; exact ok.a1
  refine (tpub_yes w H.tb H.av S.above S.pubs _ hR.tab n hn k (by omega) h16 is _ hp (ok.pb _ (List.mem_of_getElem? hp))).mono ?_
  rintro e w' ⟨rfl, rfl⟩
  rw [Int.toNat_natCast]
  have hblk : w.drew.heap[H.tb]? = some (.cells (tcells H.av S.pubs (subsOf S)).toArray 189 (0, 0)) := hR.tab.blk
  have ht : Tch (fun k => k = H.tb) w (w.drew.setCell ⟨H.tb, 1 + n, none⟩ (.int .u32 (bitSet (S.pubs.getD n 0) k is : Nat))) := Tch.setCell (P := fun k => k = H.tb) ((Tch.refl _ _).drew) (p := ⟨H.tb, 1 + n, none⟩) (.inl rfl) _
  refine ⟨rfl, hR.turn2 (ht.mono (fun k _ e => .inr e)) ((ht.block H.r (Array.getElem?_eq_some_iff.1 hR.blk).1 hR.ne).trans hR.blk) (blk_pub hblk ok.p8 n hn _) (by simp [ok.p8]) rfl rfl (fun _ _ => ⟨rfl, rfl⟩), ht⟩
set_option maxHeartbeats 4000000 in
set_option maxRecDepth 100000 in
theorem publish_yes (w : World) (H : Sh) (S : St) {N : Int} (hR : RAt H w S) (ok : S.Ok N) (n : Nat) (hn : n < 8) (he : S.byE n = 0) (c : Int) (is : Bool) :
  Calls Tryz.prog 35 #[.pointer (some ⟨H.r, 0, none⟩), .int .i64 n, .int .i64 c, .bool is] w (MPost H w (.int .i64 (S.publish n c is).1) (S.publish n c is).2) := by
 have hby := by_yes w H S hR n he
 have hR1 := fun w1 hb1 => hR.below (W' := w1) hb1
 have hp := fun w1 (h : RAt H w1 S) => pubR w1 H S h ok n hn he c is
 have HBY := Lib.hid hby
 have HR := Lib.hid hR
 have HR1 := Lib.hid hR1
 have HP := Lib.hid hp
 clear hby hR hR1 hp ok he
 have hu115 := Tryz.underlying115
 go_enter Tryz.func35, Tryz.ntmps35
 go_wp2_with (go_at_call 63; (with_reducible refine HBY.out.mono ?_); rintro e w1 ⟨rfl, hb1⟩; have c1 := (HR1.out w1 hb1).c_tb; have HP1 := Lib.hid (HP.out w1 (HR1.out w1 hb1)); have HB1 := Lib.hid hb1; clear hb1)
 go_wp2_with (go_at_call 84; (with_reducible refine HP1.out.mono ?_); rintro e w2 ⟨rfl, hr2, ht2⟩)
 go_ret
 exact ⟨H, rfl, hr2, rfl, fun _ _ h => h, (Tch.of_below HB1.out).trans ht2 (fun k hk e => by rw [e, HR.out.o2]; decide)⟩
set_option maxHeartbeats 4000000 in
set_option maxRecDepth 100000 in
theorem subR (w : World) (H : Sh) (S : St) {N : Int} (hR : RAt H w S) (ok : S.Ok N) (n : Nat) (hn : n < 8) (he : S.byE n = 0) (c : Int) (is : Bool) :
  Calls Tryz.prog 85 #[.pointer (some ⟨H.r, 0, none⟩), .int .i64 n, .int .i64 c, .bool is] w fun e w' => e = .returned (.int .i64 (S.subscribe n c is).1) ∧ RAt H w' (S.subscribe n c is).2 ∧ Tch (fun k => k = H.r ∨ k = H.tb) w w' := by
 unfold St.subscribe
 rw [if_neg (fun k => k he), Int.toNat_natCast]
 have hu115 := Tryz.underlying115
 have hu113 := Tryz.underlying113
 have hu112 := Tryz.underlying112
 have hu110 := Tryz.underlying110
 have hu157 := Tryz.underlying157
 have c0 := hR.c_tb
 by_cases hc : S.noClass c
 ·rw [if_pos hc]
  have hk := tsub_no w H.tb H.av S.above S.pubs _ hR.tab n c is (by rw [chk_no S n hn, if_pos hc]; decide)
  rw [chk_no S n hn, if_pos hc] at hk
  have HK := Lib.hid hk
  have HR := Lib.hid hR
  clear hk hR ok he hc
  go_enter Tryz.func85, Tryz.ntmps85
  go_wp2_with (go_at_call 156; (with_reducible refine HK.out.mono ?_); rintro e w1 ⟨rfl, rfl⟩)
  go_ret
  exact ⟨rfl, HR.out, Tch.refl _ _⟩
 ·rw [if_neg hc]
  have hc2 : ¬ (c < 0 ∨ (S.above.length : Int) ≤ c) := hc
  obtain ⟨k, rfl⟩ : ∃ k : Nat, c = k := ⟨c.toNat, by omega⟩
  rw [Int.toNat_natCast]
  have hp : (subsOf S)[n]? = some (S.get n).subs := by unfold subsOf; rw [List.getElem?_map, List.getElem?_range hn]; rfl
  have h16 : S.above.length ≤ 16 := by rw [ok.al]; exact ok.a1
  have hk16 : k < 16 := by omega
  have hsu := (ok.m n).su
  have hk := tsub_yes w H.tb H.av S.above S.pubs _ hR.tab n hn k (by omega) h16 is _ hp hsu
  have hblk : w.drew.heap[H.tb]? = some (.cells (tcells H.av S.pubs (subsOf S)).toArray 189 (0, 0)) := hR.tab.blk
  have ht : Tch (fun k => k = H.tb) w (w.drew.setCell ⟨H.tb, 9 + n, none⟩ (.int .u32 (bitSet (S.get n).subs k is : Nat))) := Tch.setCell (P := fun k => k = H.tb) ((Tch.refl _ _).drew) (p := ⟨H.tb, 9 + n, none⟩) (.inl rfl) _
  have hb2 := blk_sub hblk ok.p8 n (bitSet (S.get n).subs k is)
  have hrb := (ht.block H.r (Array.getElem?_eq_some_iff.1 hR.blk).1 hR.ne).trans hR.blk
  rw [← subsOf_put S ok.l8 n hn { S.get n with subs := bitSet (S.get n).subs k is }] at hb2
  generalize w.drew.setCell ⟨H.tb, 9 + n, none⟩ (.int .u32 (bitSet (S.get n).subs k is : Nat)) = w2 at hk ht hb2 hrb
  have c1 : w2.cell? ⟨H.r, 2 + n * 10 + 9, none⟩ = some (.int .u32 ((S.get n).subs : Nat)) := by
   have := cell_of_row w2 H.r (2 + n * 10 + 9) _ 115 (0, 0) hrb
   rw [this]
   rw [List.getElem?_toArray]
   exact rcells_mem H S n 9 hn (by decide)
  have f1 : w2.frozen? ⟨H.r, 2 + n * 10 + 9, none⟩ = false := by simp [World.frozen?, hrb]
  have h3 := blk_put hrb ok.l8 n 9 hn (by decide) (.int .u32 (bitSet (S.get n).subs k is : Nat)) { S.get n with subs := bitSet (S.get n).subs k is } rfl
  have hfin : ∀ w3, w3 = w2.setCell ⟨H.r, 2 + n * 10 + 9, none⟩ (.int .u32 (bitSet (S.get n).subs k is : Nat)) → RAt H w3 (S.put n { S.get n with subs := bitSet (S.get n).subs k is }) ∧ Tch (fun k => k = H.r ∨ k = H.tb) w w3 := by
   intro w3 e
   subst e
   have ht3 : Tch (fun k => k = H.r ∨ k = H.tb) w (w2.setCell ⟨H.r, 2 + n * 10 + 9, none⟩ (.int .u32 (bitSet (S.get n).subs k is : Nat))) := Tch.setCell (P := fun k => k = H.r ∨ k = H.tb) (ht.mono (fun k _ e => .inr e)) (p := ⟨H.r, 2 + n * 10 + 9, none⟩) (.inl (.inl rfl)) _
   have hlt : H.tb < w2.heap.size := (Array.getElem?_eq_some_iff.1 hb2).1
   have htt : Tch (fun k => k = H.r) w2 (w2.setCell ⟨H.r, 2 + n * 10 + 9, none⟩ (.int .u32 (bitSet (S.get n).subs k is : Nat))) := Tch.setCell (P := fun k => k = H.r) (Tch.refl _ _) (p := ⟨H.r, 2 + n * 10 + 9, none⟩) (.inl rfl) _
   exact ⟨hR.turn2 ht3 h3 ((htt.block H.tb hlt (fun e => hR.ne e.symm)).trans hb2) ok.p8 rfl rfl (fun j hj => by
    rw [St.get_put S ok.l8 n j hn]
    split
    ·rename_i e; subst e; exact ⟨rfl, rfl⟩
    ·exact ⟨rfl, rfl⟩), ht3⟩
  have HK := Lib.hid hk
  have HR := Lib.hid hR
  have HF := Lib.hid hfin
  have ho := or_bits (S.get n).subs k hsu hk16
  have ha := andNot_bits (S.get n).subs k hsu hk16
  have HO := Lib.hid ho
  have HA := Lib.hid ha
  have hz : (0 : Int) ≤ (k : Int) := by omega
  have hz2 : (k : Int) < 16 := by omega
  have hz3 : (0 : Int) ≤ (n : Int) := by omega
  have hz4 : (n : Int) < 8 := by omega
  have hmix : Tryz.prog.follows .mixedOrders = true := by kernel_rfl
  clear hk hR ok he hc hc2 hfin ho ha ht hb2 hrb h3 hblk hp h16
  generalize (S.get n).subs = x at c1 HK HF HO HA hsu
  cases is with
  | true =>
   go_enter Tryz.func85, Tryz.ntmps85
   go_wp2_with (go_at_call 156; (with_reducible refine HK.out.mono ?_); rintro e w1 ⟨rfl, rfl⟩)
   go_region
   all_goals go_wp2
   all_goals go_ret
   all_goals (rw [HO.out]; exact ⟨rfl, (HF.out _ rfl).1.below ((Below.refl _ _).drew), (HF.out _ rfl).2.drew⟩)
  | false =>
   go_enter Tryz.func85, Tryz.ntmps85
   go_wp2_with (go_at_call 156; (with_reducible refine HK.out.mono ?_); rintro e w1 ⟨rfl, rfl⟩)
   go_region
   all_goals go_wp2
   all_goals go_ret
   all_goals (rw [HA.out]; exact ⟨rfl, (HF.out _ rfl).1.below ((Below.refl _ _).drew), (HF.out _ rfl).2.drew⟩)
set_option maxHeartbeats 4000000 in
set_option maxRecDepth 100000 in
theorem subscribe_yes (w : World) (H : Sh) (S : St) {N : Int} (hR : RAt H w S) (ok : S.Ok N) (n : Nat) (hn : n < 8) (he : S.byE n = 0) (c : Int) (is : Bool) :
  Calls Tryz.prog 36 #[.pointer (some ⟨H.r, 0, none⟩), .int .i64 n, .int .i64 c, .bool is] w (MPost H w (.int .i64 (S.subscribe n c is).1) (S.subscribe n c is).2) := by
 have hby := by_yes w H S hR n he
 have hR1 := fun w1 hb1 => hR.below (W' := w1) hb1
 have hp := fun w1 (h : RAt H w1 S) => subR w1 H S h ok n hn he c is
 have HBY := Lib.hid hby
 have HR := Lib.hid hR
 have HR1 := Lib.hid hR1
 have HP := Lib.hid hp
 clear hby hR hR1 hp ok he
 go_enter Tryz.func36, Tryz.ntmps36
 go_wp2_with (go_at_call 63; (with_reducible refine HBY.out.mono ?_); rintro e w1 ⟨rfl, hb1⟩; have HP1 := Lib.hid (HP.out w1 (HR1.out w1 hb1)); have HB1 := Lib.hid hb1; clear hb1)
 go_wp2_with (go_at_call 85; (with_reducible refine HP1.out.mono ?_); rintro e w2 ⟨rfl, hr2, ht2⟩)
 go_ret
 exact ⟨H, rfl, hr2, rfl, fun _ _ h => h, (Tch.of_below HB1.out).trans ht2 (fun k hk e => by
  rcases e with e | e
  ·rw [e, HR.out.o1]; decide
  ·rw [e, HR.out.o2]; decide)⟩
open Classical in
noncomputable def Sh.put (H : Sh) (n q b : Nat) (v p : Value) : Sh :=
  { H with q := fun k => if k = n then q else H.q k, b := fun k => if k = n then b else H.b k, v := fun k => if k = n then v else H.v k, pl := fun k => if k = n then p else H.pl k,
           own := fun k => if QFp q b v k then 8 + n else if p.ownBlock = some k then 16 + n else H.own k }
def rcA (H : Sh) (S : St) (n : Nat) (A : List Value) : List Value := H.pv :: .pointer (some ⟨H.tb, 0, none⟩) :: ((List.range 8).flatMap (fun k => if k = n then A else mcells H k (S.get k)) ++ [.bool S.saving])
theorem rcA_self (H : Sh) (S : St) (n : Nat) : rcA H S n (mcells H n (S.get n)) = rcells H S := by
  unfold rcA rcells
  congr 3
  refine congrArg (fun f => List.flatMap f (List.range 8)) (funext fun k => ?_)
  split
  · rename_i e; rw [e]
  · rfl
theorem rcA_put (H : Sh) (S : St) (h8 : S.l.length = 8) (n : Nat) (hn : n < 8) (q b : Nat) (v p : Value) (m : Mem) : rcA H S n (mcells (H.put n q b v p) n m) = rcells (H.put n q b v p) (S.put n m) := by
  unfold rcA rcells
  have e : ((List.range 8).flatMap (fun k => if k = n then mcells (H.put n q b v p) n m else mcells H k (S.get k))) = (List.range 8).flatMap (fun k => mcells (H.put n q b v p) k ((S.put n m).get k)) := by
    refine congrArg (fun f => List.flatMap f (List.range 8)) (funext fun k => ?_)
    rw [St.get_put S h8 n k hn]
    split
    · rename_i e; rw [e]
    · rename_i e
      unfold mcells Sh.put
      simp only [if_neg e]
  rw [e]
  rfl
theorem mcells_put (H : Sh) (n q b : Nat) (v p : Value) (m : Mem) : mcells (H.put n q b v p) n m = [.bool m.is, .bool m.con, .int .i64 m.time, .int .i64 m.look, .int .i64 m.kind, .int .i64 m.ask, .int .i64 m.sent, .pointer (some ⟨q, 0, none⟩), p, .int .u32 (m.subs : Nat)] := by simp [mcells, Sh.put]
theorem rcA_set (H : Sh) (S : St) (n : Nat) (hn : n < 8) (A : List Value) (hA : A.length = 10) (j : Nat) (hj : j < 10) (u : Value) : (rcA H S n A).set (2 + n * 10 + j) u = rcA H S n (A.set j u) := by
  have hl : ∀ B : List Value, B.length = 10 → ∀ k, (if k = n then B else mcells H k (S.get k)).length = 10 := by
    intro B hB k
    split
    · exact hB
    · rfl
  unfold rcA
  rw [show 2 + n * 10 + j = (n * 10 + j) + 1 + 1 by omega, List.set_cons_succ, List.set_cons_succ, List.set_append_left _ _ (by rw [flat8_length _ (hl A hA)]; omega)]
  rw [flatR_set (fun k => if k = n then A else mcells H k (S.get k)) (fun k => if k = n then A.set j u else mcells H k (S.get k)) 8 10 (hl A hA) (hl _ (by rw [List.length_set]; exact hA)) n j hn hj u (by rw [if_pos rfl, if_pos rfl]) (fun k hk hkn => by rw [if_neg hkn, if_neg hkn])]
theorem rcA_cell {H : Sh} {W : World} {S : St} {n : Nat} {A : List Value} (h : W.heap[H.r]? = some (.cells (rcA H S n A).toArray 115 (0, 0))) (hn : n < 8) (hA : A.length = 10) (j : Nat) (hj : j < 10) (u : Value) :
    (W.setCell ⟨H.r, 2 + n * 10 + j, none⟩ u).heap[H.r]? = some (.cells (rcA H S n (A.set j u)).toArray 115 (0, 0)) := by
  rw [heap_setCell_same W H.r (2 + n * 10 + j) _ 115 u h, ← rcA_set H S n hn A hA j hj u]
  simp
def put10 (W : World) (r o : Nat) (v0 v1 v2 v3 v4 v5 v6 v7 v8 v9 : Value) : World :=
  (((((((((W.setCell ⟨r, o, none⟩ v0).setCell ⟨r, o + 1, none⟩ v1).setCell ⟨r, o + 2, none⟩ v2).setCell ⟨r, o + 3, none⟩ v3).setCell ⟨r, o + 4, none⟩ v4).setCell ⟨r, o + 5, none⟩ v5).setCell ⟨r, o + 6, none⟩ v6).setCell ⟨r, o + 7, none⟩ v7).setCell ⟨r, o + 8, none⟩ v8).setCell ⟨r, o + 9, none⟩ v9
theorem rcA_ten {H : Sh} {W : World} {S : St} {n : Nat} {A : List Value} (h : W.heap[H.r]? = some (.cells (rcA H S n A).toArray 115 (0, 0))) (hn : n < 8) (hA : A.length = 10) (v0 v1 v2 v3 v4 v5 v6 v7 v8 v9 : Value) :
    (put10 W H.r (2 + n * 10) v0 v1 v2 v3 v4 v5 v6 v7 v8 v9).heap[H.r]? = some (.cells (rcA H S n [v0, v1, v2, v3, v4, v5, v6, v7, v8, v9]).toArray 115 (0, 0)) := by
  obtain ⟨a0, a1, a2, a3, a4, a5, a6, a7, a8, a9, rfl⟩ : ∃ a0 a1 a2 a3 a4 a5 a6 a7 a8 a9, A = [a0, a1, a2, a3, a4, a5, a6, a7, a8, a9] := by
    match A, hA with
    | [a0, a1, a2, a3, a4, a5, a6, a7, a8, a9], _ => exact ⟨a0, a1, a2, a3, a4, a5, a6, a7, a8, a9, rfl⟩
  have h0 := rcA_cell h hn rfl 0 (by decide) v0
  have h1 := rcA_cell h0 hn rfl 1 (by decide) v1
  have h2 := rcA_cell h1 hn rfl 2 (by decide) v2
  have h3 := rcA_cell h2 hn rfl 3 (by decide) v3
  have h4 := rcA_cell h3 hn rfl 4 (by decide) v4
  have h5 := rcA_cell h4 hn rfl 5 (by decide) v5
  have h6 := rcA_cell h5 hn rfl 6 (by decide) v6
  have h7 := rcA_cell h6 hn rfl 7 (by decide) v7
  have h8 := rcA_cell h7 hn rfl 8 (by decide) v8
  exact rcA_cell h8 hn rfl 9 (by decide) v9
theorem tch10 {P : Nat → Prop} {a W : World} (h : Tch P a W) {r : Nat} (hr : P r) (o : Nat) (v0 v1 v2 v3 v4 v5 v6 v7 v8 v9 : Value) : Tch P a (put10 W r o v0 v1 v2 v3 v4 v5 v6 v7 v8 v9) :=
  (((((((((h.setCell (p := ⟨r, o, none⟩) (.inl hr) _).setCell (p := ⟨r, o + 1, none⟩) (.inl hr) _).setCell (p := ⟨r, o + 2, none⟩) (.inl hr) _).setCell (p := ⟨r, o + 3, none⟩) (.inl hr) _).setCell (p := ⟨r, o + 4, none⟩) (.inl hr) _).setCell (p := ⟨r, o + 5, none⟩) (.inl hr) _).setCell (p := ⟨r, o + 6, none⟩) (.inl hr) _).setCell (p := ⟨r, o + 7, none⟩) (.inl hr) _).setCell (p := ⟨r, o + 8, none⟩) (.inl hr) _).setCell (p := ⟨r, o + 9, none⟩) (.inl hr) _
theorem gput_ne (S : St) (h8 : S.l.length = 8) {n k : Nat} (hn : n < 8) (m : Mem) (hk : k ≠ n) : (S.put n m).get k = S.get k := by rw [St.get_put S h8 n k hn, if_neg hk]
theorem gput_eq (S : St) (h8 : S.l.length = 8) {n : Nat} (hn : n < 8) (m : Mem) : (S.put n m).get n = m := by rw [St.get_put S h8 n n hn, if_pos rfl]
def Foot (H : Sh) (n : Nat) (k : Nat) : Prop := H.own k = 1 ∨ H.own k = 2 ∨ H.own k = 8 + n ∨ H.own k = 16 + n
theorem Foot.own {H : Sh} {n k : Nat} (h : Foot H n k) : H.own k ≠ 0 := by unfold Foot at h; omega
theorem RAt.member {H : Sh} {W W' : World} {S S' : St} (h : RAt H W S) (h8 : S.l.length = 8) {n : Nat} (hn : n < 8) (m : Mem) (q b : Nat) (v p : Value) (hl : S'.l = (S.put n m).l) (hpar : S'.par = S.par) (hab : S'.above = S.above)
    (ht : Tch (Foot H n) W W') (hblk : W'.heap[H.r]? = some (.cells (rcells (H.put n q b v p) S').toArray 115 (0, 0))) (htab : W'.heap[H.tb]? = some (.cells (tcells H.av S'.pubs (subsOf S')).toArray 189 (0, 0))) (p8 : S'.pubs.length = 8)
    (hq : QIn W' q b v m.Q) (hqf : ∀ k, QFp q b v k → k < W'.heap.size ∧ (H.own k = 8 + n ∨ W.heap.size ≤ k)) (hp : W'.ownsRow 0 41 6 p m.P.length (flatM m.P)) (hpf : ∀ k, p.ownBlock = some k → H.own k = 16 + n ∨ W.heap.size ≤ k)
    (hd : ∀ k, QFp q b v k → p.ownBlock ≠ some k) : RAt (H.put n q b v p) W' S' := by
  have hb : ∀ k, k < W.heap.size → ¬ Foot H n k → W'.heap[k]? = W.heap[k]? := fun k hk hr => ht.block k hk hr
  have hgt : ∀ k, W.heap.size ≤ k → H.own k = 0 := fun k hk => by
    by_cases e : H.own k = 0
    · exact e
    · have := h.lt k e; omega
  have hkeep : ∀ k, H.own k ≠ 8 + n → H.own k ≠ 16 + n → H.own k ≠ 0 → (H.put n q b v p).own k = H.own k := by
    intro k e1 e2 e0
    unfold Sh.put
    simp only
    rw [if_neg, if_neg]
    · intro e
      rcases hpf k e with z | z
      · exact e2 z
      · exact e0 (hgt k z)
    · intro e
      rcases (hqf k e).2 with z | z
      · exact e1 z
      · exact e0 (hgt k z)
  have hg : ∀ k, S'.get k = (S.put n m).get k := fun k => by unfold St.get; rw [hl]
  have hgn : ∀ k, k ≠ n → S'.get k = S.get k := fun k e => by rw [hg, gput_ne S h8 hn m e]
  have hge : S'.get n = m := by rw [hg, gput_eq S h8 hn m]
  have hnf : ∀ k j, H.own k = j → j ≠ 1 → j ≠ 2 → j ≠ 8 + n → j ≠ 16 + n → ¬ Foot H n k := by unfold Foot; intro k j e; omega
  obtain ⟨er, hrow⟩ := h.tab.row
  refine ⟨ht.cell h.env (hnf 0 0 h.o0 (by omega) (by omega) (by omega) (by omega)), ?_, hblk, ?_, ?_, fun k hk => ?_, fun k hk => ?_, ?_, ?_, ?_, ?_, fun j hj k hk => ?_, fun j hj k hk => ?_, fun k hk => ?_⟩
  · unfold Sh.put
    simp only
    have h0 : 0 < W.heap.size := World.block_lt_of_cell? W _ h.env
    rw [if_neg, if_neg]
    · exact h.o0
    · intro e
      rcases hpf 0 e with z | z
      · rw [h.o0] at z; omega
      · omega
    · intro e
      rcases (hqf 0 e).2 with z | z
      · rw [h.o0] at z; omega
      · omega
  · rw [hab]
    exact ⟨htab, ⟨er, own_move hrow (fun k hk => hb k (own_lt hrow k hk) (hnf k 3 (h.o3 k hk) (by omega) (by omega) (by omega) (by omega)))⟩, p8, by simp⟩
  · rw [hpar]
    exact own_move h.par (fun k hk => hb k (own_lt h.par k hk) (hnf k 4 (h.o4 k hk) (by omega) (by omega) (by omega) (by omega)))
  · unfold Sh.put
    simp only
    by_cases e : k = n
    · subst e
      rw [if_pos rfl, if_pos rfl, if_pos rfl, hge]
      exact hq
    · rw [if_neg e, if_neg e, if_neg e, hgn k e]
      exact (h.que k hk).frame (fun j hj hf => hb j hj (hnf j _ (h.oq k hk j hf) (by omega) (by omega) (by omega) (by omega)))
  · unfold Sh.put
    simp only
    by_cases e : k = n
    · subst e
      rw [if_pos rfl, hge]
      exact hp
    · rw [if_neg e, hgn k e]
      exact own_move (h.pla k hk) (fun j hj => hb j (own_lt (h.pla k hk) j hj) (hnf j _ (h.op k hk j hj) (by omega) (by omega) (by omega) (by omega)))
  · show (H.put n q b v p).own H.r = 1
    rw [hkeep H.r (by rw [h.o1]; omega) (by rw [h.o1]; omega) (by rw [h.o1]; omega)]
    exact h.o1
  · show (H.put n q b v p).own H.tb = 2
    rw [hkeep H.tb (by rw [h.o2]; omega) (by rw [h.o2]; omega) (by rw [h.o2]; omega)]
    exact h.o2
  · intro k hk
    have hk : H.av.ownBlock = some k := hk
    rw [hkeep k (by rw [h.o3 k hk]; omega) (by rw [h.o3 k hk]; omega) (by rw [h.o3 k hk]; omega)]
    exact h.o3 k hk
  · intro k hk
    have hk : H.pv.ownBlock = some k := hk
    rw [hkeep k (by rw [h.o4 k hk]; omega) (by rw [h.o4 k hk]; omega) (by rw [h.o4 k hk]; omega)]
    exact h.o4 k hk
  · by_cases e : j = n
    · subst e
      have hk : QFp q b v k := by simpa [Sh.put] using hk
      unfold Sh.put
      simp only
      rw [if_pos hk]
    · have hk : QFp (H.q j) (H.b j) (H.v j) k := by simpa [Sh.put, e] using hk
      have := h.oq j hj k hk
      rw [hkeep k (by omega) (by omega) (by omega)]
      exact this
  · by_cases e : j = n
    · subst e
      have hk : p.ownBlock = some k := by simpa [Sh.put] using hk
      unfold Sh.put
      simp only
      rw [if_neg (fun z => hd k z hk), if_pos hk]
    · have hk : (H.pl j).ownBlock = some k := by simpa [Sh.put, e] using hk
      have := h.op j hj k hk
      rw [hkeep k (by omega) (by omega) (by omega)]
      exact this
  · by_cases e1 : QFp q b v k
    · exact (hqf k e1).1
    · by_cases e2 : p.ownBlock = some k
      · exact own_lt hp k e2
      · have e3 : (H.put n q b v p).own k = H.own k := by
          unfold Sh.put
          simp only
          rw [if_neg e1, if_neg e2]
        rw [e3] at hk
        exact Nat.lt_of_lt_of_le (h.lt k hk) ht.size
theorem Sh.put_own {H : Sh} {W : World} {S : St} (h : RAt H W S) {n q b : Nat} {v p : Value} (hqf : ∀ k, QFp q b v k → H.own k = 8 + n ∨ W.heap.size ≤ k) (hpf : ∀ k, p.ownBlock = some k → H.own k = 16 + n ∨ W.heap.size ≤ k) (k : Nat) (hk : k < W.heap.size) (h0 : H.own k = 0) : (H.put n q b v p).own k = 0 := by
  unfold Sh.put
  simp only
  rw [if_neg, if_neg]
  · exact h0
  · intro e
    rcases hpf k e with z | z <;> omega
  · intro e
    rcases hqf k e with z | z <;> omega
end Go.Proofs.YtehnkebcbomidaaGreatDoor.Rt
