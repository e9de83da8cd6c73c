/- Part of a proof over the given program: Qb, Fa, Qm, Qn. -/
import Derived.Test.YtehnkebcbomidaaGreatDoorCn08
import Derived.Shelf.RegionOpenPlain
import Derived.Deep.MidRow
import Derived.Lib.LazyBuf
import Derived.RegionTactic
import Derived.WideKeyEntry
set_option linter.unusedVariables false
set_option linter.unusedSimpArgs false
namespace Go.Proofs.YtehnkebcbomidaaGreatDoor.Rt
open Go Go.RowKit Go.Proofs Go.Proofs.YtehnkebcbomidaaGreatDoorW.PrintWords Go.Proofs.YtehnkebcbomidaaGreatDoorW.PrintLast
def fac (q : Nat) : Value := .agg #[.pointer (some ⟨q, 0, none⟩)]
theorem QAt.cells {W : World} {q b : Nat} {v : Value} {L : List Mg} (h : QAt W q b v L) : W.cell? ⟨q, 0, none⟩ = some (.int .i64 64) ∧ W.cell? ⟨q, 1, none⟩ = some v ∧ W.cell? ⟨q, 2, none⟩ = some (.map (some b)) := by
 have e := h.blk
 refine ⟨?_, ?_, ?_⟩ <;> simp [World.cell?, e]
theorem QAt.free {W : World} {q b : Nat} {v : Value} {L : List Mg} (h : QAt W q b v L) (j : Nat) : W.frozen? ⟨q, j, none⟩ = false := by
 have e := h.blk
 simp [World.frozen?, e]
theorem len_call (w : World) (q b : Nat) (v : Value) (L : List Mg) (h : QAt w q b v L) :
  Calls Tryz.prog 66 #[.pointer (some ⟨q, 0, none⟩)] w fun e w' => e = .returned (.int .i64 L.length) ∧ Below w.heap.size w w' := by
 have hu192 := Tryz.underlying192
 have hu29 := Tryz.underlying29
 obtain ⟨c0, c1, c2⟩ := h.cells
 obtain ⟨A, c, rfl, hc⟩ := h.form
 clear h
 go_enter Tryz.func66, Tryz.ntmps66
 go_wp2_with fail
 go_ret
 exact ⟨rfl, Below.refl _ _⟩
theorem flen_call (w : World) (q b : Nat) (v : Value) (L : List Mg) (h : QAt w q b v L) :
  Calls Tryz.prog 326 #[fac q] w fun e w' => e = .returned (.int .i64 L.length) ∧ Below w.heap.size w w' := by
 have hu192 := Tryz.underlying192
 have hu200 := Tryz.underlying200
 have hu29 := Tryz.underlying29
 obtain ⟨c0, c1, c2⟩ := h.cells
 obtain ⟨A, c, rfl, hc⟩ := h.form
 have hql := World.block_lt_of_cell? w _ c1
 clear h
 unfold fac
 go_enter Tryz.func326, Tryz.ntmps326
 go_wp2_with fail
 go_ret
 exact ⟨rfl, (Below.refl _ _).alloc (Nat.le_refl _) _⟩
theorem getM {L : List Mg} {i : Nat} (hi : i < L.length) (j : Nat) (hj : j < 6) : (flatM L)[i * 6 + j]? = L[i].cells[j]? := by
 induction L generalizing i with
 | nil => simp at hi
 | cons m L ih =>
  have e : flatM (m :: L) = m.cells ++ flatM L := by simp [flatM]
  have hl : m.cells.length = 6 := rfl
  rw [e]
  cases i with
  | zero => rw [List.getElem?_append_left (by omega)]; simp
  | succ i =>
   rw [List.getElem?_append_right (by omega), hl, show (i + 1) * 6 + j - 6 = i * 6 + j by omega]
   simpa using ih (by simpa using hi)
theorem add_at (g n : Nat) : (⟨g, 0, none⟩ : Addr).add n = ⟨g, n, none⟩ := by
 unfold Addr.add
 split
 ·rename_i h; subst h; rfl
 ·simp
theorem QAt.at {W : World} {q b : Nat} {v : Value} {L : List Mg} (h : QAt W q b v L) {i : Nat} (hi : i < L.length) : ∃ g c, v = .slice (some ⟨g, 0, none⟩) L.length c ∧ L.length ≤ c ∧ ∀ (i : Nat) (hi : i < L.length) (j : Nat) (hj : j < 6), W.cell? ⟨g, i * 6 + j, none⟩ = L[i].cells[j]? := by
 obtain ⟨A, c, e, hc⟩ := h.form
 rcases h.row.2 with ⟨e2, _⟩ | ⟨g, cap, cur, e2, _, _, hnc, _⟩
 ·rw [e2] at e
  simp only [Value.slice.injEq] at e
  omega
 ·refine ⟨g, cap, e2, hnc, fun i hi j hj => ?_⟩
  have hg := getM hi j hj
  obtain ⟨u, hu⟩ : ∃ u, L[i].cells[j]? = some u := ⟨_, List.getElem?_eq_getElem (show j < L[i].cells.length from hj)⟩
  rw [hu] at hg ⊢
  have := h.row.cells (g := g) (by rw [e2]; rfl) (i * 6 + j) u hg
  rw [add_at] at this
  exact this
set_option maxHeartbeats 4000000 in
set_option maxRecDepth 100000 in
theorem fless_call (w : World) (q b : Nat) (v : Value) (L : List Mg) (h : QAt w q b v L) (i k : Nat) (hi : i < L.length) (hk : k < L.length) :
  Calls Tryz.prog 327 #[fac q, .int .i64 i, .int .i64 k] w fun e w' => e = .returned (.bool (decide (L[i].k.lt L[k].k))) ∧ Below w.heap.size w w' := by
 have hu192 := Tryz.underlying192
 have hu200 := Tryz.underlying200
 have hu29 := Tryz.underlying29
 have hu41 := Tryz.underlying41
 have hu39 := Tryz.underlying39
 obtain ⟨c0, c1, c2⟩ := h.cells
 obtain ⟨g, c, rfl, hc, hat⟩ := h.at hi
 have hql := World.block_lt_of_cell? w _ c1
 have i0 := hat i hi 0 (by decide)
 have i1 := hat i hi 1 (by decide)
 have i2 := hat i hi 2 (by decide)
 have k0 := hat k hk 0 (by decide)
 have k1 := hat k hk 1 (by decide)
 have k2 := hat k hk 2 (by decide)
 simp only [Mg.cells, List.getElem?_cons_zero, List.getElem?_cons_succ, Nat.add_zero] at i0 i1 i2 k0 k1 k2
 have hgl := World.block_lt_of_cell? w _ i0
 have hlen := h.len
 have hcmp := fun w' => cmp_call L[i].k L[k].k w'
 have hlt := cmpK_lt L[i].k L[k].k
 generalize L[i].k = a at *
 generalize L[k].k = b' at *
 unfold Ky.val at hcmp
 have HLT := Lib.hid hlt
 have HCMP := Lib.hid hcmp
 clear h hat hlt hcmp
 unfold fac
 go_enter Tryz.func327, Tryz.ntmps327
 have hmix : Tryz.prog.follows .mixedOrders = true := by kernel_rfl
 go_wp2
 obtain ⟨W1, hW1⟩ : ∃ W1, W1 = w.alloc (Obj.cells #[Value.pointer (some ⟨q, 0, none⟩)] 200) := ⟨_, rfl⟩
 rw [← hW1]
 have hB1 : Below w.heap.size w W1 := by rw [hW1]; exact (Below.refl _ _).alloc (Nat.le_refl _) _
 have b0 : W1.cell? ⟨w.heap.size, 0, none⟩ = some (.pointer (some ⟨q, 0, none⟩)) := by rw [hW1]; rw [World.cell?, heap_alloc_new]; rfl
 have c1' := pw_cell_below hB1 c1
 have i0' := pw_cell_below hB1 i0
 have i1' := pw_cell_below hB1 i1
 have i2' := pw_cell_below hB1 i2
 have k0' := pw_cell_below hB1 k0
 have k1' := pw_cell_below hB1 k1
 have k2' := pw_cell_below hB1 k2
 have HB1 := Lib.hid hB1
 clear hB1 hW1 c0 c1 c2 i0 i1 i2 k0 k1 k2
 go_region_held3 (fun w' => w'.cell? ⟨w.heap.size, 0, none⟩ = some (.pointer (some ⟨q, 0, none⟩)) ∧ w'.cell? ⟨q, 1, none⟩ = some (.slice (some ⟨g, 0, none⟩) L.length c) ∧ w'.cell? ⟨g, i * 6, none⟩ = some (.int .i64 a.t) ∧ w'.cell? ⟨g, i * 6 + 1, none⟩ = some (.int .i64 a.f) ∧ w'.cell? ⟨g, i * 6 + 2, none⟩ = some (.int .i64 a.s) ∧ w'.cell? ⟨g, k * 6, none⟩ = some (.int .i64 b'.t) ∧ w'.cell? ⟨g, k * 6 + 1, none⟩ = some (.int .i64 b'.f) ∧ w'.cell? ⟨g, k * 6 + 2, none⟩ = some (.int .i64 b'.s))
  ((go_split_ands; refine ⟨?_, ?_, ?_, ?_, ?_, ?_, ?_, ?_⟩ <;> first | assumption | exact pw_cell_below hb8 (by assumption)))
  ((go_at_call 145; refine (HCMP.out _).mono ?_; rintro e w8 ⟨rfl, hb8⟩))
 all_goals (
  have hB2 : Below W1.heap.size W1 w8 := ⟨hb8.os, hb8.tape, hb8.output, hb8.size, hb8.block⟩
  have hB3 := HB1.out.trans (hB2.mono HB1.out.size)
  have HB3 := Lib.hid hB3
  have hdd : decide (cmpK a b' < 0) = decide (a.lt b') := decide_eq_decide.2 HLT.out
  have HDD := Lib.hid hdd
  clear hB2 hB3 hdd hb8 c1' i0' i1' i2' k0' k1' k2' b0
  go_wp2
  go_ret
  exact ⟨by rw [HDD.out]; rfl, HB3.out⟩)
theorem info41 : (Tryz.prog.info? 41).map (·.size) = some 6 := by kernel_rfl
theorem mapIs_new (w : World) : MapIs (w.alloc (.map #[] 0)) w.heap.size 0 (idx []) :=
 ⟨_, World.ownsMap_made w Tryz.prog 39 (plainElem Tryz.prog 3), fun k _ => ⟨rfl, fun i h => by cases h⟩⟩
set_option maxHeartbeats 1000000 in
set_option maxRecDepth 100000 in
theorem new_call (w : World) : Calls Tryz.prog 83 #[.int .i64 64] w fun e w' => ∃ q b, e = .returned (.pointer (some ⟨q, 0, none⟩)) ∧ w.heap.size ≤ q ∧ w.heap.size ≤ b ∧ QAt w' q b (.slice none 0 0) [] ∧ Below w.heap.size w w' := by
 have hu192 := Tryz.underlying192
 have hu190 := Tryz.underlying190
 have hmm := @run_makeMap Tryz.prog
 go_enter Tryz.func83, Tryz.ntmps83
 go_wp2_with fail
 go_ret
 refine ⟨w.heap.size + 1, w.heap.size, by simp, by omega, Nat.le_refl _, ⟨?_, World.ownsRow_nil _ _ _ _, ?_, (fun m hm => by cases hm), List.nodup_nil, Nat.zero_le _⟩, ((Below.refl _ _).alloc (Nat.le_refl _) _).alloc (by simp) _⟩
 ·have h := heap_alloc_new (w.alloc (.map #[] 0)) (.cells #[.int .i64 64, .slice none 0 0, .map (some w.heap.size)] 192)
  rw [World.size_alloc] at h
  exact h
 ·obtain ⟨D, h1, h2⟩ := mapIs_new w
  exact ⟨D, h1.alloc _, h2⟩
set_option maxHeartbeats 1000000 in
set_option maxRecDepth 100000 in
theorem first_none (w : World) (q b : Nat) (v : Value) (h : QAt w q b v []) :
  Calls Tryz.prog 139 #[.pointer (some ⟨q, 0, none⟩)] w fun e w' => e = .returned (.tuple #[.agg #[.int .i64 0, .int .i64 0, .int .i64 0, .int .i64 0, .int .i64 0, .int .i64 0], .bool false]) ∧ Below w.heap.size w w' := by
 have hu192 := Tryz.underlying192
 have hu29 := Tryz.underlying29
 have hu41 := Tryz.underlying41
 obtain ⟨c0, c1, c2⟩ := h.cells
 obtain ⟨A, c, rfl, hc⟩ := h.form
 have hql := World.block_lt_of_cell? w _ c1
 clear h
 have hi := info41
 go_enter Tryz.func139, Tryz.ntmps139
 go_wp2_with fail
 refine bodyPost_ret (results_ct rfl _ _ w.heap.size 41 _ (0, 0) _ rfl (blk_new _ _) hu41 rfl (by rw [hi]; rfl)) rfl ?_
 exact ⟨rfl, (Below.refl _ _).alloc (Nat.le_refl _) _⟩
set_option maxHeartbeats 1000000 in
set_option maxRecDepth 100000 in
theorem first_some (w : World) (q b : Nat) (v : Value) (m : Mg) (L : List Mg) (h : QAt w q b v (m :: L)) :
  Calls Tryz.prog 139 #[.pointer (some ⟨q, 0, none⟩)] w fun e w' => e = .returned (.tuple #[m.val, .bool true]) ∧ Below w.heap.size w w' := by
 have hu192 := Tryz.underlying192
 have hu29 := Tryz.underlying29
 have hu41 := Tryz.underlying41
 obtain ⟨c0, c1, c2⟩ := h.cells
 obtain ⟨g, c, rfl, hc, hat⟩ := h.at (i := 0) (by simp)
 have hql := World.block_lt_of_cell? w _ c1
 have i0 := hat 0 (by simp) 0 (by decide)
 have i1 := hat 0 (by simp) 1 (by decide)
 have i2 := hat 0 (by simp) 2 (by decide)
 have i3 := hat 0 (by simp) 3 (by decide)
 have i4 := hat 0 (by simp) 4 (by decide)
 have i5 := hat 0 (by simp) 5 (by decide)
 simp only [Mg.cells, List.getElem_cons_zero, List.getElem?_cons_zero, List.getElem?_cons_succ, Nat.zero_mul, Nat.zero_add] at i0 i1 i2 i3 i4 i5
 have hgl := World.block_lt_of_cell? w _ i0
 clear h hat
 unfold Mg.val
 have hi := info41
 go_enter Tryz.func139, Tryz.ntmps139
 go_wp2_with fail
 refine bodyPost_ret (results_ct rfl _ _ w.heap.size 41 _ (0, 0) _ rfl (blk_new _ _) hu41 rfl (by rw [hi]; rfl)) rfl ?_
 exact ⟨rfl, (Below.refl _ _).alloc (Nat.le_refl _) _⟩
end Go.Proofs.YtehnkebcbomidaaGreatDoor.Rt
section
namespace Go.Proofs.YtehnkebcbomidaaGreatDoor.Rt
open Go Go.RowKit
structure Tch (P : Nat → Prop) (w w' : World) : Prop where
 os : w'.os = w.os
 tape : w'.tape = w.tape
 output : w'.output = w.output
 size : w.heap.size ≤ w'.heap.size
 block : ∀ k, k < w.heap.size → ¬ P k → w'.heap[k]? = w.heap[k]?
theorem Tch.refl (P : Nat → Prop) (w : World) : Tch P w w := ⟨rfl, rfl, rfl, Nat.le_refl _, fun _ _ _ => rfl⟩
theorem Tch.trans {P Q : Nat → Prop} {a b c : World} (h : Tch P a b) (g : Tch Q b c) (hq : ∀ k, k < a.heap.size → Q k → P k) : Tch P a c :=
 ⟨g.os.trans h.os, g.tape.trans h.tape, g.output.trans h.output, Nat.le_trans h.size g.size, fun k hk hp => (g.block k (Nat.lt_of_lt_of_le hk h.size) (fun q => hp (hq k hk q))).trans (h.block k hk hp)⟩
theorem Tch.mono {P Q : Nat → Prop} {a b : World} (h : Tch P a b) (hq : ∀ k, k < a.heap.size → P k → Q k) : Tch Q a b :=
 ⟨h.os, h.tape, h.output, h.size, fun k hk hn => h.block k hk (fun p => hn (hq k hk p))⟩
theorem Tch.of_below {P : Nat → Prop} {w w' : World} (h : Below w.heap.size w w') : Tch P w w' := ⟨h.os, h.tape, h.output, h.size, fun k hk _ => h.block k hk⟩
theorem Tch.below {P : Nat → Prop} {w w' : World} (h : Tch P w w') {B : Nat} (hB : B ≤ w.heap.size) (hP : ∀ k, k < B → ¬ P k) : Below B w w' := ⟨h.os, h.tape, h.output, h.size, fun k hk => h.block k (by omega) (hP k hk)⟩
theorem Tch.drew {P : Nat → Prop} {a w : World} (h : Tch P a w) : Tch P a w.drew := ⟨h.os, h.tape, h.output, h.size, h.block⟩
theorem Tch.drewN {P : Nat → Prop} {a w : World} (h : Tch P a w) (n : Nat) : Tch P a (w.drewN n) := by
 induction n generalizing w with
 | zero => exact h
 | succ n ih => exact (ih h).drew
theorem Tch.alloc {P : Nat → Prop} {a w : World} (h : Tch P a w) (o : Obj) : Tch P a (w.alloc o) :=
 h.trans (Q := fun _ => False) (Tch.of_below ((Below.refl _ _).alloc (Nat.le_refl _) _)) (fun _ _ q => q.elim)
theorem Tch.setCell {P : Nat → Prop} {a w : World} (h : Tch P a w) {p : Addr} (hp : P p.block ∨ a.heap.size ≤ p.block) (u : Value) : Tch P a (w.setCell p u) := by
 refine h.trans (Q := fun k => k = p.block) ⟨rfl, rfl, rfl, by simp [World.setCell], fun k hk hne => heap_setCell_other w p k u hne⟩ (fun k hk e => ?_)
 rcases hp with q | q
 ·rw [e]; exact q
 ·omega
theorem Tch.setCells {P : Nat → Prop} {a : World} {b : Nat} (hp : P b ∨ a.heap.size ≤ b) : ∀ (vs : List Value) (o : Nat) (w : World), Tch P a w → Tch P a (w.setCells b o vs) := by
 intro vs
 induction vs with
 | nil => intro o w h; exact h
 | cons v vs ih => intro o w h; exact ih (o + 1) _ (h.setCell (p := ⟨b, o, none⟩) hp v)
theorem Tch.grown {P : Nat → Prop} {a w w' : World} {row : Option Nat} (h : Tch P a w) (hg : w.grownBy w' row) (hr : ∀ k, row = some k → P k ∨ a.heap.size ≤ k) : Tch P a w' := by
 refine h.trans (Q := fun k => row = some k) ⟨hg.os, hg.tape, hg.output, hg.size, fun k hk hne => hg.block k hk (fun e => hne e.symm)⟩ (fun k hk e => ?_)
 rcases hr k e with q | q
 ·exact q
 ·omega
theorem Tch.cell {P : Nat → Prop} {w w' : World} (h : Tch P w w') {p : Addr} {v : Value} (hc : w.cell? p = some v) (hp : ¬ P p.block) : w'.cell? p = some v :=
 (World.cell?_of_block (w := w) (h.block p.block (World.block_lt_of_cell? w p hc) hp)).trans hc
theorem cell_al {W : World} {p : Addr} {v : Value} (h : W.cell? p = some v) (o : Obj) : (W.alloc o).cell? p = some v :=
 (World.cell?_of_block (w := W) (Below.heap_alloc W o p.block (World.block_lt_of_cell? W p h))).trans h
section
variable {α β : Type}
theorem flat_length (f : α → List β) (m : Nat) (h : ∀ x, (f x).length = m) (l : List α) : (l.flatMap f).length = l.length * m := by
 induction l with
 | nil => simp
 | cons a l ih => simp [ih, h, Nat.succ_mul, Nat.add_comm]
theorem flat_get (f : α → List β) (m : Nat) (h : ∀ x, (f x).length = m) (l : List α) (i j : Nat) (hi : i < l.length) (hj : j < m) : (l.flatMap f)[i * m + j]? = (f l[i])[j]? := by
 induction l generalizing i with
 | nil => simp at hi
 | cons a l ih =>
  rw [List.flatMap_cons]
  cases i with
  | zero => rw [List.getElem?_append_left (by rw [h]; omega)]; simp
  | succ i =>
   rw [List.getElem?_append_right (by rw [h, Nat.succ_mul]; omega), h, show (i + 1) * m + j - m = i * m + j by rw [Nat.succ_mul]; omega]
   exact ih i (by simpa using hi)
theorem flatR_get (f : Nat → List β) (n m : Nat) (h : ∀ x, (f x).length = m) (i j : Nat) (hi : i < n) (hj : j < m) : ((List.range n).flatMap f)[i * m + j]? = (f i)[j]? := by
 rw [flat_get f m h _ i j (by simpa using hi) hj]
 simp
theorem flatR_congr {f g : Nat → List β} {n : Nat} (h : ∀ i, i < n → f i = g i) : (List.range n).flatMap f = (List.range n).flatMap g := by
 have : ∀ l : List Nat, (∀ i ∈ l, f i = g i) → l.flatMap f = l.flatMap g := fun l => by
  induction l with
  | nil => intro _; rfl
  | cons a l ih => intro hl; rw [List.flatMap_cons, List.flatMap_cons, hl a List.mem_cons_self, ih (fun i hi => hl i (List.mem_cons_of_mem _ hi))]
 exact this _ (fun i hi => h i (by simpa using hi))
theorem flatR_set (f g : Nat → List β) (n m : Nat) (h : ∀ x, (f x).length = m) (hg : ∀ x, (g x).length = m) (i j : Nat) (hi : i < n) (hj : j < m) (v : β) (hgi : g i = (f i).set j v) (ho : ∀ k, k < n → k ≠ i → g k = f k) : ((List.range n).flatMap f).set (i * m + j) v = (List.range n).flatMap g := by
 apply List.ext_getElem?
 intro x
 have hl : ((List.range n).flatMap f).length = n * m := by rw [flat_length f m h]; simp
 have hlg : ((List.range n).flatMap g).length = n * m := by rw [flat_length g m hg]; simp
 rcases Nat.lt_or_ge x (n * m) with c | c
 ·have hm : 0 < m := by omega
  have hd : x / m < n := by rw [Nat.div_lt_iff_lt_mul hm]; exact c
  have hr := Nat.mod_lt x hm
  have e : x = (x / m) * m + x % m := by rw [Nat.mul_comm]; exact (Nat.div_add_mod x m).symm
  rw [e, flatR_get g n m hg _ _ hd hr, List.getElem?_set]
  by_cases c2 : x / m = i
  ·rw [c2, hgi]
   by_cases c3 : x % m = j
   ·rw [c3, if_pos rfl, if_pos (by rw [hl]; rw [c2, c3] at e; omega), List.getElem?_set_self (by rw [h]; exact hj)]
   ·rw [if_neg (by omega), List.getElem?_set_ne (fun e => c3 e.symm), flatR_get f n m h _ _ hi hr]
  ·rw [ho _ hd c2, if_neg, flatR_get f n m h _ _ hd hr]
   intro e2
   have h1 : (i * m + j) / m = i := by rw [Nat.mul_comm, Nat.mul_add_div hm, Nat.div_eq_of_lt hj]; rfl
   have h2 : (x / m * m + x % m) / m = x / m := by rw [← e]
   rw [e2, h2] at h1
   exact c2 h1
 ·rw [List.getElem?_eq_none (by rw [List.length_set, hl]; exact c), List.getElem?_eq_none (by rw [hlg]; exact c)]
end
end Go.Proofs.YtehnkebcbomidaaGreatDoor.Rt
end
section
namespace Go.Proofs.YtehnkebcbomidaaGreatDoor.Rt
open Go Go.RowKit Go.Proofs Go.Maps
open Go.ChangeMaps (setBlock heap_setBlock_same heap_setBlock_other)
theorem klaw39 : Go.WideMaps.KeyLaw Tryz.prog 39 := deep_law_laid laidOut (m := 8) (by decide) (of_decide_eq_true (by kernel_rfl)) (by kernel_rfl) (by kernel_rfl)
def Tb (b : Nat) (W U : World) : Prop := ∃ es clock es' clock', W.heap[b]? = some (.map es clock) ∧ U = setBlock W b (.map es' clock')
theorem Tb.other {b : Nat} {W U : World} (h : Tb b W U) {k : Nat} (hk : k ≠ b) : U.heap[k]? = W.heap[k]? := by
 obtain ⟨es, c, es', c', hb, rfl⟩ := h
 exact heap_setBlock_other hb _ hk
theorem Tb.size {b : Nat} {W U : World} (h : Tb b W U) : U.heap.size = W.heap.size := by
 obtain ⟨es, c, es', c', hb, rfl⟩ := h
 simp [setBlock]
theorem Tb.cell {b : Nat} {W U : World} (h : Tb b W U) {p : Addr} (hp : p.block ≠ b) : U.cell? p = W.cell? p := World.cell?_of_block (h.other hp)
theorem Tb.tch {b : Nat} {W U : World} (h : Tb b W U) {P : Nat → Prop} (hp : P b) : Tch P W U := by
 refine ⟨?_, ?_, ?_, by rw [h.size]; exact Nat.le_refl _, fun k _ hk => h.other (fun e => hk (e ▸ hp))⟩ <;> obtain ⟨es, c, es', c', hb, rfl⟩ := h <;> rfl
theorem klit_key {k : Ky} (h : k.ok) : WideAt.IsKeyLit (klit k) := law39.key (key_of k h)
theorem klit_ne {a b : Ky} (ha : a.ok) (hb : b.ok) (h : a ≠ b) : klit a ≠ klit b := fun e => h (klit_inj ha hb e)
def updF (f : Ky → Option Nat) (k : Ky) (i : Nat) : Ky → Option Nat := fun x => if x = k then some i else f x
def delF (f : Ky → Option Nat) (k : Ky) : Ky → Option Nat := fun x => if x = k then none else f x
theorem plain3 {i : Nat} (hi : I64 i) : plainElem (H := Unit) Tryz.prog 3 (.int .i64 (i : Int)) = some (.lit (.int .i64 i), []) := plainElem_int Tryz.underlying3 hi
theorem MapIs.put_data {W : World} {b n : Nat} {f : Ky → Option Nat} {D : DataW Unit} (hT : Tidy D) (hsz : size D ≤ n) (hf : ∀ k : Ky, k.ok → has D (klit k) = (f k).isSome ∧ ∀ i, f k = some i → D.atKey (klit k) (.lit (.int .i64 0)) = .lit (.int .i64 i)) (k : Ky) (hk : k.ok) (i : Nat) :
  size (D.put (klit k) (.lit (.int .i64 i))) ≤ (if (f k).isSome then n else n + 1) ∧ ∀ x : Ky, x.ok → has (D.put (klit k) (.lit (.int .i64 i))) (klit x) = (updF f k i x).isSome ∧ ∀ j, updF f k i x = some j → (D.put (klit k) (.lit (.int .i64 i))).atKey (klit x) (.lit (.int .i64 0)) = .lit (.int .i64 j) := by
 refine ⟨?_, fun x hx => ?_⟩
 ·rw [size_put hT, (hf k hk).1]
  split <;> omega
 ·unfold updF
  by_cases e : x = k
  ·subst e
   rw [if_pos rfl]
   exact ⟨has_put_same hT.isMap (klit_key hk) _, fun j hj => by cases hj; exact atKey_put_same hT.isMap (klit_key hk) _ _⟩
  ·rw [if_neg e, has_put_other (klit_ne hx hk e), atKey_put_other (klit_ne hx hk e)]
   exact hf x hx
theorem own_norm {W : World} {b n : Nat} {D : DataW Unit} (h : W.ownsMap Tryz.prog 39 (plainElem Tryz.prog 3) b n D) : W.ownsMap Tryz.prog 39 (plainElem Tryz.prog 3) b (size D) D := by
 obtain ⟨es, clock, hb, F, _, hD⟩ := h
 refine ⟨es, clock, hb, F, ?_, hD⟩
 rw [hD]
 simp [Maps.size, length_sorted]
theorem map_put {W : World} {b n : Nat} {f : Ky → Option Nat} (h : MapIs W b n f) (hn : n ≤ 1000) (k : Ky) (hk : k.ok) (i : Nat) (hi : I64 i) :
  ∃ v0 st U1 U2, (Instr.mapEntry 190 (.map (some b)) k.val).run Tryz.prog W = .ok (.tuple #[v0, .int .i64 ((st : Nat) : Int)]) U1 ∧ (Instr.entryStore 190 (.map (some b)) (.int .i64 ((st : Nat) : Int)) (.int .i64 (i : Int))).run Tryz.prog U1 = .ok () U2 ∧
   (Instr.mapUpdate 190 (.map (some b)) k.val (.int .i64 (i : Int))).run Tryz.prog W = .ok () U2 ∧ Tb b W U1 ∧ Tb b W U2 ∧ MapIs U2 b (if (f k).isSome then n else n + 1) (updF f k i) := by
 obtain ⟨D, hD, hf⟩ := h
 obtain ⟨es, clock, hb, F, hs, hDe⟩ := hD
 have hT := World.ownsMap.tidy (⟨es, clock, hb, F, hs, hDe⟩ : W.ownsMap Tryz.prog 39 (plainElem Tryz.prog 3) b n D) law39
 have hsz := World.ownsMap.size_le (⟨es, clock, hb, F, hs, hDe⟩ : W.ownsMap Tryz.prog 39 (plainElem Tryz.prog 3) b n D)
 obtain ⟨v0, st, es1, clock1, e1, _, e2⟩ := Go.WideElems.entry_then_store klaw39 Tryz.underlying190 zero3 hb F (key_of k hk)
 obtain ⟨es', clock', e3, e4⟩ := e2 (setBlock W b (.map es1 clock1)) (.int .i64 i) (heap_setBlock_same hb _)
 obtain ⟨w', e5, e6, _⟩ := World.ownsMap.store (⟨es, clock, hb, F, hs, hDe⟩ : W.ownsMap Tryz.prog 39 (plainElem Tryz.prog 3) b n D) law39 Tryz.underlying190 (by unfold maxLen; omega) (key_of k hk) (plain3 hi)
 have e7 : w' = setBlock W b (.map es' clock') := by rw [e4] at e5; cases e5; rfl
 subst e7
 obtain ⟨p1, p2⟩ := MapIs.put_data (W := W) (b := b) hT hsz hf k hk i
 refine ⟨v0, st, _, setBlock W b (.map es' clock'), e1, ?_, e4, ⟨es, clock, es1, clock1, hb, rfl⟩, ⟨es, clock, es', clock', hb, rfl⟩, _, (own_norm e6).mono p1, p2⟩
 refine e3.trans ?_
 simp [setBlock]
theorem map_look' {W : World} {b n : Nat} {f : Ky → Option Nat} (h : MapIs W b n f) (k : Ky) (hk : k.ok) :
  ∃ c : Int, (∀ U : World, U.heap[b]? = W.heap[b]? → (Instr.lookup 190 (.map (some b)) k.val true).run Tryz.prog U = .ok (.tuple #[.int .i64 c, .bool (f k).isSome]) U) ∧ ∀ i, f k = some i → c = i := by
 obtain ⟨D, ⟨es, clock, hb, hD⟩, hf⟩ := h
 have main : ∀ U : World, U.heap[b]? = W.heap[b]? → ∃ c : Int, (Instr.lookup 190 (.map (some b)) k.val true).run Tryz.prog U = .ok (.tuple #[.int .i64 c, .bool (f k).isSome]) U ∧ D.atKey (klit k) (.lit (.int .i64 0)) = .lit (.int .i64 c) := fun U hU => by
  have hO : U.ownsMap Tryz.prog 39 (plainElem Tryz.prog 3) b n D := ⟨es, clock, hU.trans hb, hD⟩
  obtain ⟨v, ps, h1, h2⟩ := hO.look_ok law39 Tryz.underlying190 (zero3 U) (plainElem_int Tryz.underlying3 (by decide) : plainElem (H := Unit) Tryz.prog 3 (.int .i64 0) = some (.lit (.int .i64 0), [])) (key_of k hk)
  obtain ⟨c, rfl, hc, hw⟩ := plainElem_int_inv Tryz.underlying3 h2
  simp only [Prod.mk.injEq] at hc
  exact ⟨c, by rw [h1, (hf k hk).1], hc.1⟩
 obtain ⟨c, h1, h2⟩ := main W rfl
 refine ⟨c, fun U hU => ?_, fun i hi => ?_⟩
 ·obtain ⟨c', h3, h4⟩ := main U hU
  rw [h2] at h4
  have : c = c' := by simpa using h4
  rw [this]; exact h3
 ·have := (hf k hk).2 i hi
  rw [this] at h2
  have : (i : Int) = c := by simpa using h2
  omega
theorem map_del {W : World} {b n : Nat} {f : Ky → Option Nat} (h : MapIs W b (n + 1) f) (k : Ky) (hk : k.ok) (hin : (f k).isSome = true) (ty : TypeId) :
  ∃ U, (Builtin.delete_ #[190, 39] ty #[.map (some b), k.val]).run Tryz.prog W = .ok (.tuple #[]) U ∧ Tb b W U ∧ MapIs U b n (delF f k) := by
 obtain ⟨D, hD, hf⟩ := h
 have hT := hD.tidy law39
 have hsz := hD.size_le
 obtain ⟨U, h1, h2, es, c, es', c', h3, h4⟩ := hD.drop law39 Tryz.underlying190 (key_of k hk) ty
 have hsd := size_del (k := klit k) hT
 rw [(hf k hk).1, hin] at hsd
 simp only [if_true] at hsd
 refine ⟨U, h1, ⟨es, c, es', c', h3, h4⟩, _, (own_norm h2).mono (by omega), fun x hx => ?_⟩
 unfold delF
 by_cases e : x = k
 ·subst e
  rw [if_pos rfl, has_del_same]
  exact ⟨rfl, fun i hi => by cases hi⟩
 ·rw [if_neg e, has_del_other (klit_ne hx hk e), atKey_del_other (klit_ne hx hk e)]
  exact hf x hx
theorem MapIs.congr {W : World} {b n : Nat} {f g : Ky → Option Nat} (h : MapIs W b n f) (e : ∀ k, f k = g k) : MapIs W b n g := by
 have : f = g := funext e
 rw [← this]; exact h
theorem MapIs.frame {W W' : World} {b n : Nat} {f : Ky → Option Nat} (h : MapIs W b n f) (e : W'.heap[b]? = W.heap[b]?) : MapIs W' b n f := by
 obtain ⟨D, ⟨es, clock, h1, h2⟩, h3⟩ := h
 exact ⟨D, ⟨es, clock, e.trans h1, h2⟩, h3⟩
end Go.Proofs.YtehnkebcbomidaaGreatDoor.Rt
end
namespace Go.Proofs.YtehnkebcbomidaaGreatDoor.Rt
open Go Go.RowKit Go.Proofs
theorem blk_setCells (g : Nat) (t : TypeId) : ∀ (vs : List Value) (o : Nat) (W : World) (cur : Array Value), W.heap[g]? = some (.cells cur t (0, 0)) →
  ∃ cur', (W.setCells g o vs).heap[g]? = some (.cells cur' t (0, 0)) ∧ cur'.size = cur.size ∧ ∀ j, j < cur.size → cur'[j]? = if o ≤ j ∧ j < o + vs.length then vs[j - o]? else cur[j]? := by
 intro vs
 induction vs with
 | nil => intro o W cur h; exact ⟨cur, h, rfl, fun j _ => by rw [if_neg]; rintro ⟨a, b⟩; simp at b; omega⟩
 | cons v vs ih =>
  intro o W cur h
  have h1 := heap_setCell_same W g o cur t v h
  obtain ⟨cur', h2, h3, h4⟩ := ih (o + 1) _ _ h1
  refine ⟨cur', h2, by rw [h3]; simp, fun j hj => ?_⟩
  rw [h4 j (by simpa using hj)]
  by_cases c : j = o
  ·subst c
   rw [if_neg (by omega), if_pos (by simp)]
   simp [hj]
  ·by_cases d : o + 1 ≤ j ∧ j < o + 1 + vs.length
   ·rw [if_pos d, if_pos (by simp; omega), show j - o = (j - (o + 1)) + 1 by omega]
    simp
   ·rw [if_neg d, if_neg (by simp; omega), Array.getElem?_setIfInBounds_ne (fun e => c e.symm)]
theorem mcells_len (m : Mg) : m.cells.length = 6 := rfl
theorem row_set {W : World} {g n c : Nat} {L : List Mg} (h : W.ownsRow 0 41 6 (.slice (some ⟨g, 0, none⟩) n c) n (flatM L)) (hn : n = L.length) (i : Nat) (hi : i < L.length) (m : Mg) : (W.setCells g (i * 6) m.cells).ownsRow 0 41 6 (.slice (some ⟨g, 0, none⟩) n c) n (flatM (L.set i m)) := by
 obtain ⟨h1, h2⟩ := h
 refine ⟨by rw [flatM_length]; simp [hn], ?_⟩
 rcases h2 with ⟨e, _⟩ | ⟨g2, cap, cur, e, _, hg, hnc, hcm, hcs, ht⟩
 ·cases e
 ·cases e
  obtain ⟨cur', k1, k2, k3⟩ := blk_setCells g 41 m.cells (i * 6) W cur hg
  refine .inr ⟨g, c, cur', rfl, Nat.zero_le _, k1, hnc, hcm, by rw [k2]; exact hcs, ?_⟩
  apply List.ext_getElem?
  intro x
  have hL : (flatM (L.set i m)).length = n * 6 := by rw [flatM_length]; simp [hn]
  rcases Nat.lt_or_ge x (n * 6) with hx | hx
  ·have hd : x / 6 < n := by omega
   have hr := Nat.mod_lt x (show 6 > 0 by decide)
   have ex : x = (x / 6) * 6 + x % 6 := by omega
   have hxs : x < cur.size := by rw [hcs]; exact Nat.lt_of_lt_of_le hx (Nat.mul_le_mul_right _ hnc)
   rw [List.getElem?_take_of_lt hx, Array.getElem?_toList, k3 x hxs, mcells_len]
   have hold : cur[x]? = (flatM L)[x]? := by
    rw [← ht, List.getElem?_take_of_lt hx, Array.getElem?_toList]
   have e1 : (flatM (L.set i m))[x]? = ((L.set i m)[x / 6]'(by simp; omega)).cells[x % 6]? := by
    conv => lhs; rw [ex]
    exact flat_get Mg.cells 6 mcells_len _ _ _ (by simp; omega) hr
   have e2 : (flatM L)[x]? = (L[x / 6]'(by omega)).cells[x % 6]? := by
    conv => lhs; rw [ex]
    exact flat_get Mg.cells 6 mcells_len _ _ _ (by omega) hr
   rw [e1, hold, e2, List.getElem_set]
   clear hg k1 k3 hold e1 e2 ht hcm
   by_cases c1 : i = x / 6
   ·rw [if_pos (by omega), if_pos c1, show x - i * 6 = x % 6 by omega]
   ·rw [if_neg (by omega), if_neg c1]
  ·rw [List.getElem?_eq_none (by simp; omega), List.getElem?_eq_none (by omega)]
theorem row_sw {W : World} {g n c : Nat} {L : List Mg} (h : W.ownsRow 0 41 6 (.slice (some ⟨g, 0, none⟩) n c) n (flatM L)) (hn : n = L.length) (i k : Nat) (hi : i < L.length) (hk : k < L.length) : ((W.setCells g (i * 6) L[k].cells).setCells g (k * 6) L[i].cells).ownsRow 0 41 6 (.slice (some ⟨g, 0, none⟩) n c) n (flatM (sw L i k)) := by
 have h1 := row_set h hn i hi L[k]
 have h2 := row_set h1 (by simpa using hn) k (by simpa using hk) L[i]
 have e : (L.set i L[k]).set k L[i] = sw L i k := by
  unfold sw
  simp [List.getD_eq_getElem?_getD, List.getElem?_eq_getElem hi, List.getElem?_eq_getElem hk]
 rw [e] at h2
 exact h2
theorem idx_sw {L : List Mg} (hnd : (L.map Mg.k).Nodup) (i k : Nat) (hi : i < L.length) (hk : k < L.length) (x : Ky) : idx (sw L i k) x = updF (updF (idx L) L[k].k i) L[i].k k x := by
 have hnd' : ((sw L i k).map Mg.k).Nodup := ((sw_perm L i k hi hk).map Mg.k).nodup_iff.2 hnd
 have hK := fun y => sw_K L i k y hi hk
 have hKi : K L i = L[i].k := by unfold K; simp [List.getD_eq_getElem?_getD, List.getElem?_eq_getElem hi]
 have hKk : K L k = L[k].k := by unfold K; simp [List.getD_eq_getElem?_getD, List.getElem?_eq_getElem hk]
 unfold updF
 by_cases c : x = L[i].k
 ·rw [if_pos c, idx_iff hnd', sw_length, hK, if_pos rfl, hKi]
  exact ⟨hk, c.symm⟩
 ·rw [if_neg c]
  by_cases d : x = L[k].k
  ·rw [if_pos d, idx_iff hnd', sw_length, hK]
   refine ⟨hi, ?_⟩
   by_cases e : i = k
   ·subst e; exact absurd d c
   ·rw [if_neg e, if_pos rfl, hKk, d]
  ·rw [if_neg d]
   apply Option.ext
   intro y
   rw [idx_iff hnd', idx_iff hnd, sw_length, hK]
   constructor
   ·rintro ⟨h1, h2⟩
    refine ⟨h1, ?_⟩
    split at h2
    ·rw [hKi] at h2; exact absurd h2.symm c
    ·split at h2
     ·rw [hKk] at h2; exact absurd h2.symm d
     ·exact h2
   ·rintro ⟨h1, h2⟩
    refine ⟨h1, ?_⟩
    split
    ·rename_i e; rw [e, hKk] at h2; exact absurd h2.symm d
    ·split
     ·rename_i e; rw [e, hKi] at h2; exact absurd h2.symm c
     ·exact h2
theorem idx_some {L : List Mg} (hnd : (L.map Mg.k).Nodup) (i : Nat) (hi : i < L.length) : idx L L[i].k = some i := by
 rw [idx_iff hnd]
 exact ⟨hi, by unfold K; simp [List.getD_eq_getElem?_getD, List.getElem?_eq_getElem hi]⟩
theorem ldC (W : World) (g o k : Nat) (cs : List Value) (hk : cs.length = k) (h : ∀ j v, cs[j]? = some v → W.cell? ⟨g, o + j, none⟩ = some v) : Sem.run Tryz.prog (loadCellsFrom ⟨g, o, none⟩ 0 k #[]) W = .ok cs.toArray W := by
 have := run_loadCells_list (P := Tryz.prog) W ⟨g, o, none⟩ cs (fun j v hv => by rw [Addr.add_mid]; exact h j v hv)
 rw [hk] at this
 simpa [loadCells] using this
theorem stC (W : World) (g o : Nat) (cs : List Value) (h : ∀ j, j < cs.length → (W.cell? ⟨g, o + j, none⟩).isSome = true ∧ W.frozen? ⟨g, o + j, none⟩ = false) (h1 : ∀ v ∈ cs, v.oneCell' = true) :
  Sem.run Tryz.prog (storeCells ⟨g, o, none⟩ cs 0) W = .ok () (W.setCells g o cs) := by
 have := run_storeCells_cells (P := Tryz.prog) g o cs 0 W (fun j hj => by simpa using (h j hj).1) (fun j hj => by simpa using (h j hj).2) h1
 simpa using this
theorem agg41 (w : World) : (isAgg 41).run Tryz.prog w = .ok true w := by kernel_rfl
theorem size41 (w : World) : (Go.sizeOf 41).run Tryz.prog w = .ok 6 w := by kernel_rfl
theorem mcells_one (m : Mg) : ∀ v ∈ m.cells, v.oneCell' = true := by
 intro v hv
 simp [Mg.cells] at hv
 rcases hv with rfl | rfl | rfl | rfl | rfl | rfl <;> rfl
theorem QAt.row_blk {W : World} {q b : Nat} {g n c : Nat} {L : List Mg} (h : QAt W q b (.slice (some ⟨g, 0, none⟩) n c) L) : ∃ cur, W.heap[g]? = some (.cells cur 41 (0, 0)) := by
 rcases h.row.2 with ⟨e2, _⟩ | ⟨g2, cap, cur, e2, _, e3, _⟩
 ·cases e2
 ·cases e2
  exact ⟨cur, e3⟩
theorem i64_small (i : Nat) (h : i ≤ 1000) : I64 (i : Int) := by
 have h1 : IntKind.i64.min = -9223372036854775808 := by decide
 have h2 : IntKind.i64.max = 9223372036854775807 := by decide
 unfold I64 Lit.wf
 simp only [Bool.and_eq_true, decide_eq_true_eq, h1, h2]
 omega
theorem QAt.not_map {W : World} {q b : Nat} {v : Value} {L : List Mg} (h : QAt W q b v L) {k : Nat} {cs : Array Value} {t : TypeId} {fr : Nat × Nat} (hk : W.heap[k]? = some (.cells cs t fr)) : k ≠ b := by
 intro e
 obtain ⟨D, ⟨es, clock, h1, _⟩, _⟩ := h.map
 rw [← e, hk] at h1
 cases h1
end Go.Proofs.YtehnkebcbomidaaGreatDoor.Rt
