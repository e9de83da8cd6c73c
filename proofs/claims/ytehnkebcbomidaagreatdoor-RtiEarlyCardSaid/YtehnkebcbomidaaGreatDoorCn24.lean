/- Part of a proof over the given program: Lm, Ll, Ap. -/
import Derived.Test.YtehnkebcbomidaaGreatDoorCn23
import Derived.Lib.OwnBridge
import Derived.Laws.AppendOwn
set_option linter.unusedVariables false
set_option linter.unusedSimpArgs false
namespace Go.Proofs.YtehnkebcbomidaaGreatDoor.Rt
open Go Go.RowKit Go.Proofs Go.Lib Go.Sort
theorem own6_put {w : World} {base g n cap q : Nat} {xs ys : List Value} (h : w.ownsRow base 41 6 (.slice (some ⟨g, 0, none⟩) n cap) n xs) (hy : ys.length = n * 6) :
  (putRow id (Sort.ahead w q) g 0 ys.toArray).ownsRow base 41 6 (.slice (some ⟨g, 0, none⟩) n cap) n ys := by
 rcases h.2 with ⟨e0, _⟩ | ⟨g', cap', cur, e0, hb, hg, hn, hm, hs, ht⟩
 ·cases e0
 ·injection e0 with e1 _ e3
  injection e1 with e1
  injection e1 with e1
  subst e1; subst e3
  refine ⟨hy, .inr ⟨g, cap, putCells id 0 ys.toArray cur, rfl, hb, ?_, hn, hm, by simpa [putCells] using hs, ?_⟩⟩
  ·simp [putRow, mapBlock, Sort.ahead, Array.getElem?_modify, hg, onCells]
  ·apply List.ext_getElem?
   intro j
   rw [List.getElem?_take, Array.getElem?_toList]
   by_cases hj : j < n * 6
   ·have hjc : j < cur.size := by omega
    simp only [if_pos hj, putCells, Array.getElem?_mapIdx, Array.getElem?_eq_getElem hjc, Option.map_some]
    rw [if_pos (by simp; omega), List.getElem?_eq_getElem (by omega)]
    simp [getElem!_pos, show j < ys.length by omega]
   ·rw [if_neg hj, List.getElem?_eq_none (by omega)]
theorem flatK_M [Inhabited Mg] (L : List Mg) : flatK Mg.cells 6 L.toArray = (flatM L).toArray := by
 have hl := flatM_length L
 apply Array.ext
 ·simp [hl]
 ·intro t h1 h2
  have ht : t < L.length * 6 := by simpa using h1
  have hi : t / 6 < L.length := by omega
  have e := flat_get Mg.cells 6 (fun _ => rfl) L (t / 6) (t % 6) hi (by omega)
  rw [show t / 6 * 6 + t % 6 = t by omega] at e
  have hc : t % 6 < (Mg.cells L[t / 6]).length := by show t % 6 < 6; omega
  have e2 : (flatM L)[t]? = some ((Mg.cells L[t / 6])[t % 6]) := by
   rw [← List.getElem?_eq_getElem hc]
   exact e
  have e3 := List.getElem?_eq_some_iff.1 e2
  obtain ⟨h3, e3⟩ := e3
  have e4 : (flatM L).toArray[t] = (Mg.cells L[t / 6])[t % 6] := by simpa using e3
  rw [e4]
  simp [flatK, getElem!_pos, hi, hc]
theorem holdsK_own [Inhabited Mg] {w : World} {base g cap : Nat} {L : List Mg} (h : w.ownsRow base 41 6 (.slice (some ⟨g, 0, none⟩) L.length cap) L.length (flatM L)) : HoldsK Mg.cells 6 w g 0 L.toArray := by
 have hl := flatM_length L
 intro j hj
 rw [flatK_M] at hj ⊢
 have hj2 : j < (flatM L).length := by simpa using hj
 have h1 := h.cellAt j (by omega)
 have h2 := h.frozenAt j
 rw [Nat.zero_add]
 refine ⟨?_, h2⟩
 rw [h1, List.getElem?_eq_getElem hj2]
 simp [getElem!_pos, hj2]
def cmpM (a b : Mg) : Int := cmpK a.k b.k
theorem ltOf_M (a b : Mg) : ltOf cmpM a b = decide (a.k.lt b.k) := decide_eq_decide.2 (cmpK_lt a.k b.k)
theorem swo_M : SWO (ltOf cmpM) where
 irrefl := fun x => by rw [ltOf_M]; exact decide_eq_false (Ky.lt_irrefl _)
 trans := fun x y z h1 h2 => by
  rw [ltOf_M, decide_eq_true_eq] at *
  exact Ky.lt_trans h1 h2
 ntrans := fun x y z h1 h2 => by
  rw [ltOf_M, decide_eq_false_iff_not] at *
  unfold Ky.lt at *
  omega
theorem cmpLays_M [Inhabited Mg] (blk off size : Nat) (w : World) : CmpLays Tryz.prog 144 #[] Mg.cells 6 cmpM blk off size w := fun _ _ _ _ x y => order_world x y _
theorem sorted_Q [Inhabited Mg] {L Q : List Mg} (hh : QH L Q) (d' : Array Mg) (hP : PermIn 0 L.toArray.size L.toArray d') (hS : SortedIn (ltOf cmpM) 0 L.toArray.size d') : d'.toList = Q := by
 obtain ⟨hsz, _, hperm⟩ := hP
 have e1 : d'.extract 0 L.toArray.size = d' := by rw [← hsz]; exact Array.extract_size
 rw [e1, Array.extract_size] at hperm
 have hp2 : d'.toList.Perm L := hperm
 have hnd : (d'.toList.map Mg.k).Nodup := (hp2.map Mg.k).nodup_iff.2 hh.nodup
 refine srt_unique ?_ hh.srt (hp2.trans hh.perm)
 unfold Srt
 rw [List.pairwise_iff_getElem]
 intro i j hi hj hij
 have hi' : i < d'.size := by simpa using hi
 have hj' : j < d'.size := by simpa using hj
 have h := hS i j (Nat.zero_le _) hij (by rw [← hsz]; exact hj')
 rw [ltOf_M, decide_eq_false_iff_not, getElem!_pos d' i hi', getElem!_pos d' j hj'] at h
 refine Ky.lt_of_not h (fun e => ?_)
 have hne := (List.pairwise_iff_getElem.1 hnd) i j (by simpa using hi') (by simpa using hj') hij
 simp only [List.getElem_map, Array.getElem_toList] at hne
 exact hne e.symm
end Go.Proofs.YtehnkebcbomidaaGreatDoor.Rt
namespace Go.Proofs.YtehnkebcbomidaaGreatDoor.Rt
open Go Go.RowKit Go.Proofs Go.Lib Go.Sort Go.Proofs.YtehnkebcbomidaaGreatDoorW.PrintWords
instance : Inhabited Mg := ⟨mg0⟩
theorem grow_old (w : World) (os : Array Obj) (k : Nat) (hk : k < w.heap.size) : (grow w os).heap[k]? = w.heap[k]? := by
 show (w.heap ++ os)[k]? = _
 rw [Array.getElem?_append_left hk]
theorem sort_call (w : World) (base : Nat) (A : Option Addr) (c : Nat) (L Q : List Mg) (hh : QH L Q) (hl : L.length ≤ 64) (h : w.ownsRow base 41 6 (.slice A L.length c) L.length (flatM L)) (hb : base ≤ w.heap.size) :
  Calls Tryz.prog 143 #[.slice A L.length c, .func (.func 144) #[] #[]] w fun e w' => e = .returned (.tuple #[]) ∧ w'.ownsRow base 41 6 (.slice A L.length c) L.length (flatM Q) ∧ RowKit.Below base w w' := by
 have hlen := hh.len
 by_cases h0 : L.length = 0
 ·have hcon := AnyF.slices_SortFunc_none Tryz.sortMsg A c (.func (.func 144) #[] #[]) w
  change Calls Tryz.prog 143 _ _ _ at hcon
  rw [h0]
  refine hcon.mono ?_
  rintro e w' ⟨rfl, rfl⟩
  have e1 : L = [] := List.eq_nil_of_length_eq_zero h0
  have e2 : Q = [] := List.eq_nil_of_length_eq_zero (by omega)
  subst e1
  subst e2
  exact ⟨rfl, h, RowKit.Below.refl _ _⟩
 ·obtain ⟨g, hA, hg, hgl⟩ : ∃ g, A = some ⟨g, 0, none⟩ ∧ base ≤ g ∧ g < w.heap.size := by
   rcases h.2 with ⟨e, hz⟩ | ⟨g, cap, cur, e, hbg, _⟩
   ·exact absurd (by simp only [Value.slice.injEq] at e; exact e.2.1) h0
   ·simp only [Value.slice.injEq] at e
    obtain ⟨e1, _, _⟩ := e
    subst e1
    exact ⟨g, rfl, hbg, own_lt h g rfl⟩
  subst hA
  have eg : ∀ args w, (callFunc 144 args).run Tryz.prog w = .ok (.enter 144 args) w := enters_of Tryz.func144 (by kernel_rfl) rfl
  have hcon := AnyQ.slices_SortFunc Tryz.sortMsg 6 agg41 size41 Mg.cells (fun _ => rfl) (fun x v hv => mcells_one x v hv) cmpM swo_M 144 #[] g 0 c L.toArray w eg (cmpLays_M g 0 _ w) (holdsK_own h) hgl (by simp; omega)
  change Calls Tryz.prog 143 _ _ _ at hcon
  refine hcon.mono ?_
  rintro e w' ⟨rfl, d', n, os, hP, hS, rfl⟩
  have hd : d'.toList = Q := sorted_Q hh d' hP hS
  have hd2 : d' = Q.toArray := by rw [← hd]
  subst hd2
  have hs6 : (flatM Q).length = L.length * 6 := by rw [flatM_length]; omega
  have ho := own6_put (q := n) h hs6
  have hsz : (putRow id (Sort.ahead w n) g 0 (flatM Q).toArray).heap.size = w.heap.size := by simp [putRow, mapBlock, Sort.ahead]
  have hbel := below_putRow (enc := (id : Value → Value)) (q := n) (d := (flatM Q).toArray) (RowKit.Below.refl base w) hg
  unfold sortWorldK putRowK
  rw [flatK_M]
  refine ⟨rfl, own_move ho (fun k hk => grow_old _ os k (own_lt ho k hk)), hbel.os, hbel.tape, hbel.output, ?_, fun k hk => ?_⟩
  ·exact Nat.le_trans hbel.size (by show _ ≤ (_ ++ os).size; simp)
  ·rw [grow_old _ os k (by rw [hsz]; omega)]
   exact hbel.block k hk
set_option maxHeartbeats 4000000 in
set_option maxRecDepth 100000 in
theorem list_call (w : World) (q b : Nat) (v : Value) (Q : List Mg) (h : QIn w q b v Q) :
  Calls Tryz.prog 72 #[.pointer (some ⟨q, 0, none⟩)] w fun e w' => ∃ A c, e = .returned (.slice A Q.length c) ∧ w'.ownsRow w.heap.size 41 6 (.slice A Q.length c) Q.length (flatM Q) ∧ RowKit.Below w.heap.size w w' := by
 obtain ⟨L, hq, hh⟩ := h
 have hlen := hh.len
 obtain ⟨c0, c1, c2⟩ := hq.cells
 have hcl := clone_call w v L hq.len hq.row
 obtain ⟨A0, cc0, hv, _⟩ := hq.form
 have hll := hq.len
 have hsort := fun (w1 : World) (A : Option Addr) (c : Nat) (h1 : w1.ownsRow w.heap.size 41 6 (.slice A L.length c) L.length (flatM L)) (hb : w.heap.size ≤ w1.heap.size) => sort_call w1 w.heap.size A c L Q hh hll h1 hb
 have hu192 := Tryz.underlying192
 subst hv
 have HC := Lib.hid hcl
 have HS := Lib.hid hsort
 have HL := Lib.hid hlen
 clear hq hh hcl hsort hlen hll c0 c2
 go_enter Tryz.func72, Tryz.ntmps72
 go_wp2_with (first | (go_at_call 142; (with_reducible refine HC.out.mono ?_); rintro e w1 ⟨A, c, rfl, hr1, hb1⟩; have HS1 := Lib.hid (HS.out w1 A c hr1 hb1.size); have HB1 := Lib.hid hb1; clear hr1 hb1) | (go_at_call 143; (with_reducible refine HS1.out.mono ?_); rintro e w2 ⟨rfl, hr2, hb2⟩))
 go_ret
 refine ⟨A, c, ?_, ?_, HB1.out.trans hb2⟩
 ·rw [← HL.out]; rfl
 ·rw [← HL.out]; exact hr2
end Go.Proofs.YtehnkebcbomidaaGreatDoor.Rt
section
namespace Go.Proofs.YtehnkebcbomidaaGreatDoor.Rt
open Go Go.RowKit
section
variable {P : Program}
theorem run_app {w : World} (base b2 : Nat) (t ty e : TypeId) (i : TypeInfo) (z : Value) (size bytes : Nat) (ht : P.underlying t = some (.slice e)) (hi : P.info? e = some i) (hz : i.zero = some z)
  (hsize : i.size = size) (hby : i.bytes = bytes) (hzs : z.cells.size = size) (hsz : 0 < size) (v : Value) (n : Nat) (xs : List Value) (hown : w.ownsRow base e size v n xs)
  (u : Value) (m : Nat) (news : List Value) (hu : w.ownsRow b2 e size u m news) (h1 : ∀ u ∈ news, u.oneCell' = true) (h63 : n + m ≤ maxLen) (hbytes : (n + m) * bytes ≤ 140737488355328) (hbase : base ≤ w.heap.size) :
  ∃ v' w', (Builtin.append_ #[t, t] ty #[v, u]).run P w = .ok v' w' ∧ w'.ownsRow base e size v' (n + m) (xs ++ news) ∧ w.grownBy w' v.ownBlock ∧ ∀ k, v'.ownBlock = some k → v.ownBlock = some k ∨ w.heap.size ≤ k := by
 rcases hu.2 with ⟨e1, e2⟩ | ⟨g, cap, cur, e1, _⟩
 ·subst e1
  subst e2
  have hn : news = [] := List.eq_nil_of_length_eq_zero (by simpa using hu.1)
  subst hn
  refine ⟨v, w, run_append_owned_none w base t ty e i size ht hi v n xs hown, ?_, ⟨rfl, rfl, rfl, Nat.le_refl _, fun _ _ _ => rfl⟩, fun k hk => .inl hk⟩
  simpa using hown
 ·subst e1
  obtain ⟨v', w', hr, h2, h3, h4, h5⟩ := run_append_own_at (P := P) w base t ty e i z size bytes ht hi hz hsize hby hzs hsz v n xs hown ⟨g, 0, none⟩ m cap news hu.1 (hu.cells (g := g) rfl) h1 h63 hbytes hbase
  refine ⟨v', w', hr, h2, h3, fun k hk => ?_⟩
  rcases h5 with h5 | h5
  ·exact .inl (h5.symm.trans hk)
  ·rw [hk] at h5
   have : k = w.heap.size := by simpa using h5
   exact .inr (by omega)
theorem wp_app {w : World} {o : Oper} {a : Act} {K : Act → World → Prop} {Q : Exit → Act → World → Prop} (s x : Operand) (t : TypeId)
  (ho : o.op = .call { callee := .builtin .append, args := #[s, x], argTypes := #[t, t] })
  (base b2 : Nat) (e : TypeId) (i : TypeInfo) (z : Value) (size bytes : Nat) (ht : P.underlying t = some (.slice e)) (hi : P.info? e = some i) (hz : i.zero = some z)
  (hsize : i.size = size) (hby : i.bytes = bytes) (hzs : z.cells.size = size) (hsz : 0 < size) (v : Value) (n : Nat) (xs : List Value) (hs : a.eval s = v) (hown : w.ownsRow base e size v n xs)
  (u : Value) (m : Nat) (news : List Value) (hx : a.eval x = u) (hu : w.ownsRow b2 e size u m news) (h1 : ∀ u ∈ news, u.oneCell' = true) (h63 : n + m ≤ maxLen) (hbytes : (n + m) * bytes ≤ 140737488355328) (hbase : base ≤ w.heap.size)
  (h : ∀ v' w', w'.ownsRow base e size v' (n + m) (xs ++ news) → w.grownBy w' v.ownBlock → (∀ k, v'.ownBlock = some k → v.ownBlock = some k ∨ w.heap.size ≤ k) → K (a.put o.dst v') w') : o.wp P a w K Q := by
 obtain ⟨v', w', hr, h2, h3, h4⟩ := run_app (P := P) base b2 t o.type e i z size bytes ht hi hz hsize hby hzs hsz v n xs hown u m news hu h1 h63 hbytes hbase
 unfold Oper.wp execOp
 simp only [ho, resolve, invoke, builtin, Sem.run_bind, Sem.run_pure, Result.andThen_ok, List.map_toArray, List.map_cons, List.map_nil, hs, hx, hr]
 exact h v' w' h2 h3 h4
theorem wpList_app {w : World} {ops : Array Oper} {rest : List Oper} {o : Oper} {a : Act} {Q : Exit → Act → World → Prop} (hgd : o.guard = none) (s x : Operand) (t : TypeId)
  (ho : o.op = .call { callee := .builtin .append, args := #[s, x], argTypes := #[t, t] })
  (base b2 : Nat) (e : TypeId) (i : TypeInfo) (z : Value) (size bytes : Nat) (ht : P.underlying t = some (.slice e)) (hi : P.info? e = some i) (hz : i.zero = some z)
  (hsize : i.size = size) (hby : i.bytes = bytes) (hzs : z.cells.size = size) (hsz : 0 < size) (v : Value) (n : Nat) (xs : List Value) (hs : a.eval s = v) (hown : w.ownsRow base e size v n xs)
  (u : Value) (m : Nat) (news : List Value) (hx : a.eval x = u) (hu : w.ownsRow b2 e size u m news) (h1 : ∀ u ∈ news, u.oneCell' = true) (h63 : n + m ≤ maxLen) (hbytes : (n + m) * bytes ≤ 140737488355328) (hbase : base ≤ w.heap.size)
  (h : ∀ v' w', w'.ownsRow base e size v' (n + m) (xs ++ news) → w.grownBy w' v.ownBlock → (∀ k, v'.ownBlock = some k → v.ownBlock = some k ∨ w.heap.size ≤ k) → wpList P ops Q rest (a.put o.dst v') w') : wpList P ops Q (o :: rest) a w :=
 wpList_plain hgd fun _ hK => wp_app s x t ho base b2 e i z size bytes ht hi hz hsize hby hzs hsz v n xs hs hown u m news hx hu h1 h63 hbytes hbase fun v' w' h2 h3 h4 => hK _ _ (h v' w' h2 h3 h4)
theorem app_ {w : World} {ops : Array Oper} {o : Oper} {a : Act} {K : Act → World → Prop} {Q : Exit → Act → World → Prop} {N : Option Tmp} (hw : Region.wanted o (yielded ops a.tmps) = true) (hN : o.dst = N) (s x : Operand) (t : TypeId)
  (ho : o.op = .call { callee := .builtin .append, args := #[s, x], argTypes := #[t, t] })
  (base b2 : Nat) (e : TypeId) (i : TypeInfo) (z : Value) (size bytes : Nat) (ht : P.underlying t = some (.slice e)) (hi : P.info? e = some i) (hz : i.zero = some z)
  (hsize : i.size = size) (hby : i.bytes = bytes) (hzs : z.cells.size = size) (hsz : 0 < size) (v : Value) (n : Nat) (xs : List Value) (hs : a.eval s = v) (hown : w.ownsRow base e size v n xs)
  (u : Value) (m : Nat) (news : List Value) (hx : a.eval x = u) (hu : w.ownsRow b2 e size u m news) (h1 : ∀ u ∈ news, u.oneCell' = true) (h63 : n + m ≤ maxLen) (hbytes : (n + m) * bytes ≤ 140737488355328) (hbase : base ≤ w.heap.size)
  (h : ∀ v' w', w'.ownsRow base e size v' (n + m) (xs ++ news) → w.grownBy w' v.ownBlock → (∀ k, v'.ownBlock = some k → v.ownBlock = some k ∨ w.heap.size ≤ k) → K (a.put N v') w') : if Region.wanted o (yielded ops a.tmps) = true then Oper.wp P o a w K Q else K (a.put N undef) w := by
 rw [if_pos hw]
 subst hN
 exact wp_app s x t ho base b2 e i z size bytes ht hi hz hsize hby hzs hsz v n xs hs hown u m news hx hu h1 h63 hbytes hbase h
end
end Go.Proofs.YtehnkebcbomidaaGreatDoor.Rt
end
