/- Part of a proof over the given program: Al, By, Lv, Ra, Ea. -/
import Derived.Test.YtehnkebcbomidaaGreatDoorCn12
import Derived.LaidEql
import Derived.Stop.Asserts
import Derived.RowKitTokens
import Derived.Lib.ReflectliteSlice
set_option linter.unusedVariables false
set_option linter.unusedSimpArgs false
namespace Go.Proofs.YtehnkebcbomidaaGreatDoor.Rt
open Go Go.RowKit Go.Proofs Go.Proofs.YtehnkebcbomidaaGreatDoorW.PrintWords Go.Proofs.YtehnkebcbomidaaGreatDoorW.PrintLast
def firstNo : List (Bool × Int) → Option Int
 | [] => none
 | (b, c) :: l => if b then firstNo l else some c
def AllRes (w : World) (f : Int) (o : Option Int) (e : Ending) (w' : World) : Prop := match o with
 | none => e = .returned .nilIface
 | some c => ∃ g, w.heap.size ≤ g ∧ e = .returned (.iface 180 (.pointer (some ⟨g, 0, none⟩))) ∧ w'.heap[g]? = some (.cells #[.int .i64 f, .iface 25 (.int .i64 c)] 182 (0, 0))
theorem firstNo_drop (l : List (Bool × Int)) (j : Nat) (hj : j < l.length) : firstNo (l.drop j) = if l[j].1 then firstNo (l.drop (j + 1)) else some l[j].2 := by
 rw [List.drop_eq_getElem_cons hj]
 generalize l[j] = x
 obtain ⟨b, c⟩ := x
 rfl
set_option maxHeartbeats 4000000 in
set_option maxRecDepth 100000 in
theorem all_call (w : World) (f : Int) (s cap : Nat) (l : List (Bool × Int)) (hl : l.length ≤ 1000) (hc : l.length ≤ cap) (hcell : ∀ j (hj : j < l.length), w.cell? ⟨s, j * 2, none⟩ = some (.bool l[j].1) ∧ w.cell? ⟨s, j * 2 + 1, none⟩ = some (.int .i64 l[j].2)) :
  Calls Tryz.prog 67 #[.int .i64 f, .slice (some ⟨s, 0, none⟩) l.length cap] w fun e w' => AllRes w f (firstNo l) e w' ∧ Below w.heap.size w w' := by
 have hu193 := Tryz.underlying193
 have hu121 := Tryz.underlying121
 have hu182 := Tryz.underlying182
 have hu180 := Tryz.underlying180
 have hu25 := Tryz.underlying25
 have HC := Lib.hid hcell
 clear hcell
 go_enter Tryz.func67, Tryz.ntmps67
 go_wp2
 go_loopw [9] (fun i wr => ∃ j : Nat, j ≤ l.length ∧ i = .int .i64 j ∧ firstNo l = firstNo (l.drop j) ∧ Below w.heap.size w wr) (fun i _ => l.length - (RowKit.intOf i).toNat)
 case atStart => exact ⟨0, Nat.zero_le _, rfl, rfl, Below.refl _ _⟩
 case round =>
  obtain ⟨j, hj, rfl, hfn, hbe⟩ := hrel
  by_cases hjl : j < l.length
  ·obtain ⟨d0, d1⟩ := HC.out j hjl
   have d0' := pw_cell_below hbe d0
   have d1' := pw_cell_below hbe d1
   have hsl := World.block_lt_of_cell? wr _ d0'
   have hji : (j : Int) < (l.length : Int) := by omega
   rw [firstNo_drop l j hjl] at hfn
   generalize l[j] = x at *
   obtain ⟨bb, cc⟩ := x
   simp only at d0' d1' hfn
   have HFN := Lib.hid hfn
   have HBE := Lib.hid hbe
   have D0 := Lib.hid d0
   have D1 := Lib.hid d1
   clear hfn hbe d0 d1
   cases bb with
   | true =>
    go_wp2
    exact ⟨⟨j + 1, hjl, by simp, by rw [HFN.out]; rfl, HBE.out.alloc HBE.out.size _⟩, by simp [RowKit.intOf]; omega⟩
   | false =>
    go_wp2
    go_ret
    rw [HFN.out]
    refine ⟨⟨wr.heap.size + 1, by have := HBE.out.size; omega, rfl, ?_⟩, (HBE.out.alloc HBE.out.size _).alloc (by have := HBE.out.size; simp; omega) _⟩
    have h := heap_alloc_new (wr.alloc (Obj.cells #[Value.bool false, Value.int IntKind.i64 cc] 121)) (Obj.cells #[.int .i64 f, .iface 25 (.int .i64 cc)] 182)
    rw [World.size_alloc] at h
    exact h
  ·obtain rfl : j = l.length := by omega
   have hji : ¬ (l.length : Int) < (l.length : Int) := by omega
   rw [List.drop_length] at hfn
   have HFN := Lib.hid hfn
   have HBE := Lib.hid hbe
   clear hfn hbe
   go_wp2
   go_ret
   rw [HFN.out]
   exact ⟨rfl, HBE.out⟩
theorem AllRes.mono {w w1 : World} {f : Int} {o : Option Int} {e : Ending} {w' : World} (h : AllRes w1 f o e w') (hs : w.heap.size ≤ w1.heap.size) : AllRes w f o e w' := by
 cases o with
 | none => exact h
 | some c => obtain ⟨g, h1, h2, h3⟩ := h; exact ⟨g, Nat.le_trans hs h1, h2, h3⟩
theorem AllRes.ret {w : World} {f : Int} {o : Option Int} {e : Ending} {w' : World} (h : AllRes w f o e w') : ∃ v, e = .returned v ∧ AllRes w f o (.returned v) w' := by
 cases o with
 | none => exact ⟨_, h, rfl⟩
 | some c => obtain ⟨g, h1, h2, h3⟩ := h; exact ⟨_, h2, g, h1, rfl, h3⟩
theorem by_out (w : World) (g : Nat) (f : Int) (h : f < 0 ∨ 8 ≤ f) : Calls Tryz.prog 63 #[.pointer (some ⟨g, 0, none⟩), .int .i64 f] w fun e w' => AllRes w f (some 1) e w' ∧ Below w.heap.size w w' := by
 have hu182 := Tryz.underlying182
 have hu180 := Tryz.underlying180
 have hu25 := Tryz.underlying25
 have fin : AllRes w f (some 1) (.returned (.iface 180 (.pointer (some ⟨w.heap.size, 0, none⟩)))) (w.alloc (Obj.cells #[.int .i64 f, .iface 25 (.int .i64 1)] 182)) ∧ Below w.heap.size w (w.alloc (Obj.cells #[.int .i64 f, .iface 25 (.int .i64 1)] 182)) :=
  ⟨⟨w.heap.size, Nat.le_refl _, rfl, heap_alloc_new _ _⟩, (Below.refl _ _).alloc (Nat.le_refl _) _⟩
 have FIN := Lib.hid fin
 clear fin
 rcases h with h | h
 ·go_enter Tryz.func63, Tryz.ntmps63
  go_wp2_with fail
  go_ret
  exact FIN.out
 ·have h0 : ¬ f < 0 := by omega
  go_enter Tryz.func63, Tryz.ntmps63
  go_wp2_with fail
  go_ret
  exact FIN.out
set_option maxHeartbeats 4000000 in
set_option maxRecDepth 100000 in
theorem by_call (w : World) (g n : Nat) (is sv : Bool) (hn : n < 8) (c1 : w.cell? ⟨g, 2 + n * 10, none⟩ = some (.bool is)) (c2 : w.cell? ⟨g, 82, none⟩ = some (.bool sv)) :
  Calls Tryz.prog 63 #[.pointer (some ⟨g, 0, none⟩), .int .i64 n] w fun e w' => AllRes w n (firstNo [(is, 201), (!sv, 212)]) e w' ∧ Below w.heap.size w w' := by
 have hu115 := Tryz.underlying115
 have hu113 := Tryz.underlying113
 have hu112 := Tryz.underlying112
 have hu121 := Tryz.underlying121
 have hu193 := Tryz.underlying193
 have hmix : Tryz.prog.follows .mixedOrders = true := by kernel_rfl
 have h0 : ¬ (n : Int) < 0 := by omega
 have h8 : ¬ (8 : Int) ≤ (n : Int) := by omega
 have hgl := World.block_lt_of_cell? w _ c2
 go_enter Tryz.func63, Tryz.ntmps63
 go_wp2_with fail
 have hall := all_call (w.alloc (Obj.cells #[Value.bool is, Value.int IntKind.i64 201, Value.bool !sv, Value.int IntKind.i64 212] 121)).drew n w.heap.size 2 [(is, 201), (!sv, 212)] (by simp) (by simp) (fun j hj => by
  have e : (w.alloc (Obj.cells #[Value.bool is, Value.int IntKind.i64 201, Value.bool !sv, Value.int IntKind.i64 212] 121)).drew.heap[w.heap.size]? = some (Obj.cells #[Value.bool is, Value.int IntKind.i64 201, Value.bool !sv, Value.int IntKind.i64 212] 121) := heap_alloc_new _ _
  have h2 : j = 0 ∨ j = 1 := by simp at hj; omega
  rcases h2 with rfl | rfl
  ·exact ⟨by rw [World.cell?, e]; rfl, by rw [World.cell?, e]; rfl⟩
  ·exact ⟨by rw [World.cell?, e]; rfl, by rw [World.cell?, e]; rfl⟩)
 have HALL := Lib.hid hall
 clear hall
 go_region_held3 (fun w' => w'.cell? ⟨g, 2 + n * 10, none⟩ = some (.bool is) ∧ w'.cell? ⟨g, 82, none⟩ = some (.bool sv))
  ((go_split_ands; refine ⟨?_, ?_⟩ <;> first | assumption | go_keep | exact pw_cell_below hb8 (by assumption)))
  ((go_at_call 67; refine HALL.out.mono ?_; rintro e w8 ⟨hr8, hb8⟩; obtain ⟨v8, rfl, hr8⟩ := hr8.ret))
 all_goals (
  have hB : Below w.heap.size w w8 := ((Below.refl _ w).alloc (Nat.le_refl _) _).trans ((show Below (w.alloc (Obj.cells #[Value.bool is, Value.int IntKind.i64 201, Value.bool !sv, Value.int IntKind.i64 212] 121)).heap.size (w.alloc (Obj.cells #[Value.bool is, Value.int IntKind.i64 201, Value.bool !sv, Value.int IntKind.i64 212] 121)) w8 from ⟨hb8.os, hb8.tape, hb8.output, hb8.size, hb8.block⟩).mono (by simp))
  have hr := AllRes.mono (w := w) hr8 (by simp)
  have HR := Lib.hid hr
  have HBB := Lib.hid hB
  clear hr hB hr8 hb8
  go_wp2
  go_ret
  exact ⟨HR.out, HBB.out⟩)
set_option maxHeartbeats 4000000 in
set_option maxRecDepth 100000 in
theorem leave_call (w : World) (g n : Nat) (x y : Int) (hn : n < 8) (c1 : w.cell? ⟨g, 1 + n, none⟩ = some (.int .u32 x)) (c2 : w.cell? ⟨g, 9 + n, none⟩ = some (.int .u32 y)) (f1 : w.frozen? ⟨g, 1 + n, none⟩ = false) (f2 : w.frozen? ⟨g, 9 + n, none⟩ = false) :
  Calls Tryz.prog 109 #[.pointer (some ⟨g, 0, none⟩), .int .i64 n] w fun e w' => e = .returned (.int .i64 0) ∧ w' = ((w.setCell ⟨g, 1 + n, none⟩ (.int .u32 0)).setCell ⟨g, 9 + n, none⟩ (.int .u32 0)).drew := by
 have hu189 := Tryz.underlying189
 have hu110 := Tryz.underlying110
 have hu187 := Tryz.underlying187
 have hmix : Tryz.prog.follows .mixedOrders = true := by kernel_rfl
 have h0 : ¬ (n : Int) < 0 := by omega
 have h8 : ¬ (8 : Int) ≤ (n : Int) := by omega
 have hne : ¬ 1 + n = 9 + n := by omega
 have hne' : ¬ 9 + n = 1 + n := by omega
 go_enter Tryz.func109, Tryz.ntmps109
 go_wp2_with fail
 go_region
 all_goals (go_wp2; go_ret; exact ⟨rfl, rfl⟩)
structure Sh where
 r : Nat
 tb : Nat
 pv : Value
 av : Value
 q : Nat → Nat
 b : Nat → Nat
 v : Nat → Value
 pl : Nat → Value
 own : Nat → Nat
def mcells (H : Sh) (n : Nat) (m : Mem) : List Value := [.bool m.is, .bool m.con, .int .i64 m.time, .int .i64 m.look, .int .i64 m.kind, .int .i64 m.ask, .int .i64 m.sent, .pointer (some ⟨H.q n, 0, none⟩), H.pl n, .int .u32 (m.subs : Nat)]
theorem mcells_length (H : Sh) (n : Nat) (m : Mem) : (mcells H n m).length = 10 := rfl
def rcells (H : Sh) (S : St) : List Value := H.pv :: .pointer (some ⟨H.tb, 0, none⟩) :: ((List.range 8).flatMap (fun n => mcells H n (S.get n)) ++ [.bool S.saving])
def Env (W : World) : Prop := W.cell? ⟨0, 0, none⟩ = some (.iface 291 (.agg #[.pointer (some ⟨9, 104, none⟩)]))
structure RAt (H : Sh) (W : World) (S : St) : Prop where
 env : Env W
 o0 : H.own 0 = 0
 blk : W.heap[H.r]? = some (.cells (rcells H S).toArray 115 (0, 0))
 tab : TabAt W H.tb H.av S.above S.pubs ((List.range 8).map fun n => (S.get n).subs)
 par : W.ownsRow 0 3 1 H.pv S.par.length (S.par.map (Value.int .i64))
 que : ∀ n, n < 8 → QIn W (H.q n) (H.b n) (H.v n) (S.get n).Q
 pla : ∀ n, n < 8 → W.ownsRow 0 41 6 (H.pl n) (S.get n).P.length (flatM (S.get n).P)
 o1 : H.own H.r = 1
 o2 : H.own H.tb = 2
 o3 : ∀ k, H.av.ownBlock = some k → H.own k = 3
 o4 : ∀ k, H.pv.ownBlock = some k → H.own k = 4
 oq : ∀ n, n < 8 → ∀ k, QFp (H.q n) (H.b n) (H.v n) k → H.own k = 8 + n
 op : ∀ n, n < 8 → ∀ k, (H.pl n).ownBlock = some k → H.own k = 16 + n
 lt : ∀ k, H.own k ≠ 0 → k < W.heap.size
theorem flat8_length (f : Nat → List Value) (h : ∀ n, (f n).length = 10) : ((List.range 8).flatMap f).length = 80 := by rw [flat_length f 10 h]; rfl
theorem rcells_mem (H : Sh) (S : St) (n j : Nat) (hn : n < 8) (hj : j < 10) : (rcells H S)[2 + n * 10 + j]? = (mcells H n (S.get n))[j]? := by
 unfold rcells
 rw [show 2 + n * 10 + j = (n * 10 + j) + 1 + 1 by omega, List.getElem?_cons_succ, List.getElem?_cons_succ, List.getElem?_append_left (by rw [flat8_length _ (fun n => mcells_length H n _)]; omega)]
 exact flatR_get _ 8 10 (fun n => mcells_length H n _) n j hn hj
theorem rcells_sv (H : Sh) (S : St) : (rcells H S)[82]? = some (.bool S.saving) := by
 unfold rcells
 rw [show 82 = 80 + 1 + 1 by rfl, List.getElem?_cons_succ, List.getElem?_cons_succ, List.getElem?_append_right (by rw [flat8_length _ (fun n => mcells_length H n _)]; omega), flat8_length _ (fun n => mcells_length H n _)]
 rfl
theorem RAt.cell {H : Sh} {W : World} {S : St} (h : RAt H W S) {k : Nat} {u : Value} (hk : (rcells H S)[k]? = some u) : W.cell? ⟨H.r, k, none⟩ = some u := by
 have := cell_of_row W H.r k _ 115 (0, 0) h.blk
 rw [this]
 simpa using hk
theorem RAt.free {H : Sh} {W : World} {S : St} (h : RAt H W S) (k : Nat) : W.frozen? ⟨H.r, k, none⟩ = false := by
 have e := h.blk
 simp [World.frozen?, e]
theorem RAt.c_is {H : Sh} {W : World} {S : St} (h : RAt H W S) {n : Nat} (hn : n < 8) : W.cell? ⟨H.r, 2 + n * 10, none⟩ = some (.bool (S.get n).is) := h.cell (rcells_mem H S n 0 hn (by decide))
theorem RAt.c_con {H : Sh} {W : World} {S : St} (h : RAt H W S) {n : Nat} (hn : n < 8) : W.cell? ⟨H.r, 2 + n * 10 + 1, none⟩ = some (.bool (S.get n).con) := h.cell (rcells_mem H S n 1 hn (by decide))
theorem RAt.c_time {H : Sh} {W : World} {S : St} (h : RAt H W S) {n : Nat} (hn : n < 8) : W.cell? ⟨H.r, 2 + n * 10 + 2, none⟩ = some (.int .i64 (S.get n).time) := h.cell (rcells_mem H S n 2 hn (by decide))
theorem RAt.c_look {H : Sh} {W : World} {S : St} (h : RAt H W S) {n : Nat} (hn : n < 8) : W.cell? ⟨H.r, 2 + n * 10 + 3, none⟩ = some (.int .i64 (S.get n).look) := h.cell (rcells_mem H S n 3 hn (by decide))
theorem RAt.c_kind {H : Sh} {W : World} {S : St} (h : RAt H W S) {n : Nat} (hn : n < 8) : W.cell? ⟨H.r, 2 + n * 10 + 4, none⟩ = some (.int .i64 (S.get n).kind) := h.cell (rcells_mem H S n 4 hn (by decide))
theorem RAt.c_ask {H : Sh} {W : World} {S : St} (h : RAt H W S) {n : Nat} (hn : n < 8) : W.cell? ⟨H.r, 2 + n * 10 + 5, none⟩ = some (.int .i64 (S.get n).ask) := h.cell (rcells_mem H S n 5 hn (by decide))
theorem RAt.c_sent {H : Sh} {W : World} {S : St} (h : RAt H W S) {n : Nat} (hn : n < 8) : W.cell? ⟨H.r, 2 + n * 10 + 6, none⟩ = some (.int .i64 (S.get n).sent) := h.cell (rcells_mem H S n 6 hn (by decide))
theorem RAt.c_q {H : Sh} {W : World} {S : St} (h : RAt H W S) {n : Nat} (hn : n < 8) : W.cell? ⟨H.r, 2 + n * 10 + 7, none⟩ = some (.pointer (some ⟨H.q n, 0, none⟩)) := h.cell (rcells_mem H S n 7 hn (by decide))
theorem RAt.c_pl {H : Sh} {W : World} {S : St} (h : RAt H W S) {n : Nat} (hn : n < 8) : W.cell? ⟨H.r, 2 + n * 10 + 8, none⟩ = some (H.pl n) := h.cell (rcells_mem H S n 8 hn (by decide))
theorem RAt.c_subs {H : Sh} {W : World} {S : St} (h : RAt H W S) {n : Nat} (hn : n < 8) : W.cell? ⟨H.r, 2 + n * 10 + 9, none⟩ = some (.int .u32 ((S.get n).subs : Nat)) := h.cell (rcells_mem H S n 9 hn (by decide))
theorem RAt.c_sv {H : Sh} {W : World} {S : St} (h : RAt H W S) : W.cell? ⟨H.r, 82, none⟩ = some (.bool S.saving) := h.cell (rcells_sv H S)
theorem RAt.c_par {H : Sh} {W : World} {S : St} (h : RAt H W S) : W.cell? ⟨H.r, 0, none⟩ = some H.pv := h.cell rfl
theorem RAt.c_tb {H : Sh} {W : World} {S : St} (h : RAt H W S) : W.cell? ⟨H.r, 1, none⟩ = some (.pointer (some ⟨H.tb, 0, none⟩)) := h.cell rfl
theorem TabAt.frame {W W' : World} {g : Nat} {v : Value} {above pubs subs : List Nat} (h : TabAt W g v above pubs subs) (hb : ∀ k, k < W.heap.size → (k = g ∨ v.ownBlock = some k) → W'.heap[k]? = W.heap[k]?) : TabAt W' g v above pubs subs := by
 obtain ⟨e, hr⟩ := h.row
 exact ⟨(hb g (Array.getElem?_eq_some_iff.1 h.blk).1 (.inl rfl)).trans h.blk, ⟨e, own_move hr (fun k hk => hb k (own_lt hr k hk) (.inr hk))⟩, h.p8, h.s8⟩
theorem QIn.frame {W W' : World} {q b : Nat} {v : Value} {Q : List Mg} (h : QIn W q b v Q) (hb : ∀ k, k < W.heap.size → QFp q b v k → W'.heap[k]? = W.heap[k]?) : QIn W' q b v Q := by
 obtain ⟨L, h1, h2⟩ := h
 exact ⟨L, h1.frame hb, h2⟩
theorem RAt.frame {H : Sh} {W W' : World} {S : St} (h : RAt H W S) {P : Nat → Prop} (ht : Tch P W W') (hP : ∀ k, k < W.heap.size → P k → H.own k = 0) (hP0 : ¬ P 0) : RAt H W' S := by
 have hb : ∀ k, k < W.heap.size → H.own k ≠ 0 → W'.heap[k]? = W.heap[k]? := fun k hk ho => ht.block k hk (fun p => ho (hP k hk p))
 refine ⟨ht.cell h.env hP0, h.o0, (hb _ (Array.getElem?_eq_some_iff.1 h.blk).1 (by rw [h.o1]; decide)).trans h.blk, h.tab.frame (fun k hk e => hb k hk ?_), own_move h.par (fun k hk => hb k (own_lt h.par k hk) (by rw [h.o4 k hk]; decide)), fun n hn => (h.que n hn).frame (fun k hk e => hb k hk (by rw [h.oq n hn k e]; omega)), fun n hn => own_move (h.pla n hn) (fun k hk => hb k (own_lt (h.pla n hn) k hk) (by rw [h.op n hn k hk]; omega)),
  h.o1, h.o2, h.o3, h.o4, h.oq, h.op, fun k hk => Nat.lt_of_lt_of_le (h.lt k hk) ht.size⟩
 rcases e with e | e
 ·rw [e, h.o2]; decide
 ·rw [h.o3 k e]; decide
theorem RAt.below {H : Sh} {W W' : World} {S : St} (h : RAt H W S) (hb : Below W.heap.size W W') : RAt H W' S := h.frame (P := fun _ => False) (Tch.of_below hb) (fun _ _ e => e.elim) id
theorem RAt.turn {H : Sh} {W W' : World} {S S' : St} (h : RAt H W S) (ht : Tch (fun k => k = H.r) W W') (hblk : W'.heap[H.r]? = some (.cells (rcells H S').toArray 115 (0, 0))) (h1 : S'.par = S.par) (h2 : S'.above = S.above) (h3 : S'.pubs = S.pubs)
  (h4 : ∀ n, n < 8 → (S'.get n).subs = (S.get n).subs ∧ (S'.get n).Q = (S.get n).Q ∧ (S'.get n).P = (S.get n).P) : RAt H W' S' := by
 have hb : ∀ k, k < W.heap.size → k ≠ H.r → W'.heap[k]? = W.heap[k]? := fun k hk hr => ht.block k hk hr
 have hne : ∀ k, H.own k ≠ 1 → k ≠ H.r := fun k hk e => hk (by rw [e]; exact h.o1)
 have hsub : ((List.range 8).map fun n => (S'.get n).subs) = (List.range 8).map fun n => (S.get n).subs := List.map_congr_left (fun n hn => (h4 n (by simpa using hn)).1)
 refine ⟨ht.cell h.env (hne 0 (by rw [h.o0]; decide)), h.o0, hblk, ?_, ?_, fun n hn => ?_, fun n hn => ?_, h.o1, h.o2, h.o3, h.o4, h.oq, h.op, fun k hk => Nat.lt_of_lt_of_le (h.lt k hk) ht.size⟩
 ·rw [h2, h3, hsub]
  refine h.tab.frame (fun k hk e => hb k hk (hne k ?_))
  rcases e with e | e
  ·rw [e, h.o2]; decide
  ·rw [h.o3 k e]; decide
 ·rw [h1]
  exact own_move h.par (fun k hk => hb k (own_lt h.par k hk) (hne k (by rw [h.o4 k hk]; decide)))
 ·rw [(h4 n hn).2.1]
  exact (h.que n hn).frame (fun k hk e => hb k hk (hne k (by rw [h.oq n hn k e]; omega)))
 ·rw [(h4 n hn).2.2]
  exact own_move (h.pla n hn) (fun k hk => hb k (own_lt (h.pla n hn) k hk) (hne k (by rw [h.op n hn k hk]; omega)))
theorem blk_put {H : Sh} {W : World} {S : St} (hblk : W.heap[H.r]? = some (.cells (rcells H S).toArray 115 (0, 0))) (h8 : S.l.length = 8) (n j : Nat) (hn : n < 8) (hj : j < 10) (u : Value) (m : Mem) (hm : mcells H n m = (mcells H n (S.get n)).set j u) :
  (W.setCell ⟨H.r, 2 + n * 10 + j, none⟩ u).heap[H.r]? = some (.cells (rcells H (S.put n m)).toArray 115 (0, 0)) := by
 rw [heap_setCell_same W H.r (2 + n * 10 + j) _ 115 u hblk]
 have e : (rcells H S).set (2 + n * 10 + j) u = rcells H (S.put n m) := by
  unfold rcells
  rw [show 2 + n * 10 + j = (n * 10 + j) + 1 + 1 by omega, List.set_cons_succ, List.set_cons_succ, List.set_append_left _ _ (by rw [flat8_length _ (fun n => mcells_length H n _)]; omega)]
  rw [flatR_set (fun k => mcells H k (S.get k)) (fun k => mcells H k ((S.put n m).get k)) 8 10 (fun k => mcells_length H k _) (fun k => mcells_length H k _) n j hn hj u (by simp only [St.get_put S h8 n n hn, if_true]; exact hm) (fun k hk hkn => by simp only [St.get_put S h8 n k hn, if_neg hkn])]
  rfl
 rw [← e]
 simp
theorem blk_sv {H : Sh} {W : World} {S : St} (hblk : W.heap[H.r]? = some (.cells (rcells H S).toArray 115 (0, 0))) (v : Bool) :
  (W.setCell ⟨H.r, 82, none⟩ (.bool v)).heap[H.r]? = some (.cells (rcells H { S with saving := v }).toArray 115 (0, 0)) := by
 rw [heap_setCell_same W H.r 82 _ 115 _ hblk]
 have e : (rcells H S).set 82 (.bool v) = rcells H { S with saving := v } := by
  unfold rcells
  rw [show 82 = 80 + 1 + 1 by rfl, List.set_cons_succ, List.set_cons_succ, List.set_append_right _ _ (by rw [flat8_length _ (fun n => mcells_length H n _)]; omega), flat8_length _ (fun n => mcells_length H n _)]
  rfl
 rw [← e]
 simp
end Go.Proofs.YtehnkebcbomidaaGreatDoor.Rt
section
namespace Go.Proofs.YtehnkebcbomidaaGreatDoor.As
open Go Go.RowKit Go.Extern Go.Extern.Stop Go.Stop Go.Extern.Rtype Go.Lib
set_option maxRecDepth 100000
abbrev hd (t : TypeId) : Value := .pointer (some ⟨9, t, none⟩)
theorem typeOf50 (v : Value) (w : World) : (ReflectliteType.typeOf #[.iface 180 v]).run Tryz.prog w = .ok (.iface 291 (.agg #[hd 180])) w := by kernel_rfl
theorem typeOf22 (v : Value) (w : World) : (ReflectliteType.typeOf #[.iface 25 v]).run Tryz.prog w = .ok (.iface 291 (.agg #[hd 25])) w := by kernel_rfl
theorem valueOf52 (q : Addr) (w : World) : (ReflectliteValue.unpack (.iface 184 (.pointer (some q)))).run Tryz.prog w = .ok (.agg #[hd 184, .pointer (some ⟨w.heap.size, 0, none⟩), .int .u64 150]) (w.alloc (.cells #[.pointer (some q)] 184)) := by kernel_rfl
theorem valueOf50 (q : Addr) (w : World) : (ReflectliteValue.unpack (.iface 180 (.pointer (some q)))).run Tryz.prog w = .ok (.agg #[hd 180, .pointer (some ⟨w.heap.size, 0, none⟩), .int .u64 150]) (w.alloc (.cells #[.pointer (some q)] 180)) := by kernel_rfl
theorem typeV52 (a : Addr) (w : World) : (ReflectliteValue.methodAny (ReflectliteValue.valueError "reflectlite.Value.Type" 0) (fun t _ _ _ => ReflectliteType.toType t) #[.agg #[hd 184, .pointer (some a), .int .u64 150]]).run Tryz.prog w = .ok (.iface 291 (.agg #[hd 184])) w := by kernel_rfl
theorem mKind (t : TypeId) (w : World) : (Go.method 491 291 (.agg #[hd t]) "Kind").run Tryz.prog w = .ok (318, hd t) w := by kernel_rfl
theorem mElem (v : Value) (w : World) : (Go.method 491 291 v "Elem").run Tryz.prog w = .ok (342, v) w := by kernel_rfl
theorem mAssign (v : Value) (w : World) : (Go.method 491 291 v "AssignableTo").run Tryz.prog w = .ok (340, v) w := by kernel_rfl
theorem mImpl (v : Value) (w : World) : (Go.method 491 291 v "Implements").run Tryz.prog w = .ok (343, v) w := by kernel_rfl
theorem kind52 (w : World) : (ReflectliteType.abiMethod (fun t => (fun a : Nat => Value.int .u8 (a : Int)) <$> kind t) #[hd 184]).run Tryz.prog w = .ok (.int .u8 22) w := by kernel_rfl
theorem kind50 (w : World) : (ReflectliteType.abiMethod (fun t => (fun a : Nat => Value.int .u8 (a : Int)) <$> kind t) #[hd 180]).run Tryz.prog w = .ok (.int .u8 22) w := by kernel_rfl
theorem elem52 (w : World) : (ReflectliteType.method ReflectliteType.elem #[.agg #[hd 184]]).run Tryz.prog w = .ok (.iface 291 (.agg #[hd 180])) w := by kernel_rfl
theorem assign50 (w : World) : (ReflectliteType.relation "AssignableTo" ReflectliteType.assignableTo #[.agg #[hd 180], .iface 291 (.agg #[hd 180])]).run Tryz.prog w = .ok (.bool true) w := by kernel_rfl
theorem impl50 (w : World) : (ReflectliteType.relation "Implements" ReflectliteType.implements_ #[.agg #[hd 180], .iface 291 (.agg #[hd 104])]).run Tryz.prog w = .ok (.bool true) w := by kernel_rfl
theorem parts52 (a : Addr) (w : World) : (ReflectliteValue.parts (.agg #[hd 184, .pointer (some a), .int .u64 150])).run Tryz.prog w = .ok (some (184, a, 150)) w := by kernel_rfl
theorem parts50 (a : Addr) (w : World) : (ReflectliteValue.parts (.agg #[hd 180, .pointer (some a), .int .u64 150])).run Tryz.prog w = .ok (some (180, a, 150)) w := by kernel_rfl
theorem parts50a (a : Addr) (w : World) : (ReflectliteValue.parts (.agg #[hd 180, .pointer (some a), .int .u64 406])).run Tryz.prog w = .ok (some (180, a, 406)) w := by kernel_rfl
theorem isNil52 (a q : Addr) (w : World) (h : w.cell? a = some (.pointer (some q))) : (ReflectliteValue.method (ReflectliteValue.valueError "reflectlite.Value.IsNil" 0) ReflectliteValue.isNil #[.agg #[hd 184, .pointer (some a), .int .u64 150]]).run Tryz.prog w = .ok (.bool false) w := by
 have hu := Tryz.underlying184
 rw [rl_method]
 simp only [Sem.run_bind, parts52 a w, Result.andThen]
 simp [ReflectliteValue.isNil, loadVar, isAgg, underlying, hu, h, Result.andThen]
theorem mk50 (q : Addr) (w : World) : (ReflectliteValue.mk 180 q ReflectliteValue.flagAddr).run Tryz.prog w = .ok (.agg #[hd 180, .pointer (some q), .int .u64 406]) w := by kernel_rfl
theorem elemT52 (w : World) : (elem? 184).run Tryz.prog w = .ok (some 180) w := by kernel_rfl
theorem elemV52 (a q : Addr) (w : World) (h : w.cell? a = some (.pointer (some q))) : (ReflectliteValue.method (ReflectliteValue.valueError "reflectlite.Value.Elem" 0) ReflectliteValue.elem #[.agg #[hd 184, .pointer (some a), .int .u64 150]]).run Tryz.prog w = .ok (.agg #[hd 180, .pointer (some q), .int .u64 406]) w := by
 have hu := Tryz.underlying184
 have hl : (loadVar 184 a).run Tryz.prog w = .ok (.pointer (some q)) w := by simp [loadVar, isAgg, underlying, hu, h, Result.andThen]
 rw [rl_method]
 simp only [Sem.run_bind, parts52 a w, Result.andThen]
 unfold ReflectliteValue.elem
 simp only [Sem.run_bind, hl, elemT52, Result.andThen, mk50]
 simp [hl, elemT52, mk50, Result.andThen]
theorem dir50 (w : World) : (directlyAssignable 180 180).run Tryz.prog w = .ok true w := by kernel_rfl
theorem rl_set (v x : Value) : ReflectliteValue.set #[v, x] = (do
  let (some (dst, a, fl), some (src, b, _)) := (← ReflectliteValue.parts v, ← ReflectliteValue.parts x)
   | unsupported (.noEntry "extern/(internal/reflectlite.Value).Set.zeroValue")
  if fl / ReflectliteValue.flagAddr % 2 == 0 then unsupported (.noEntry "extern/(internal/reflectlite.Value).Set.unaddressable")
  let val ← loadVar src b
  if ← directlyAssignable dst src then storeVar dst a val
  else if ← implements dst src then
   if (← kind src) == 20 then
    match val with
    | .nilIface => unsupported (.noEntry "extern/reflectlite: a nil value of one interface type handed on as a value of another")
    | _ => storeVar dst a val
   else storeVar dst a (.iface src val)
  else panicString ("reflectlite.Set: value of type " ++ (← spelt src) ++ " is not assignable to type " ++ (← spelt dst))
  pure (.tuple #[])) := rfl
theorem set50 (qb : Nat) (b : Addr) (v : Option Addr) (u : Value) (w : World) (h : w.cell? b = some (.pointer v)) (hq : w.cell? ⟨qb, 0, none⟩ = some u) (hf : w.frozen? ⟨qb, 0, none⟩ = false) : (ReflectliteValue.set #[.agg #[hd 180, .pointer (some ⟨qb, 0, none⟩), .int .u64 406], .agg #[hd 180, .pointer (some b), .int .u64 150]]).run Tryz.prog w = .ok (.tuple #[]) (w.setCell ⟨qb, 0, none⟩ (.pointer v)) := by
 have hu := Tryz.underlying180
 have hl : (loadVar 180 b).run Tryz.prog w = .ok (.pointer v) w := by simp [loadVar, isAgg, underlying, hu, h, Result.andThen]
 have hs : (storeVar 180 ⟨qb, 0, none⟩ (.pointer v)).run Tryz.prog w = .ok () (w.setCell ⟨qb, 0, none⟩ (.pointer v)) := by
  have := Tryz.sizeOf180
  have h0 : ∀ j, j < [Value.pointer v].length → j = 0 := fun j hj => by simp only [List.length_singleton] at hj; omega
  have hc := run_storeCells_cells (P := Tryz.prog) qb 0 [.pointer v] 0 w (fun c hc => by rw [h0 c hc, hq]; rfl) (fun c hc => by rw [h0 c hc]; exact hf) (fun x hx => by rw [List.mem_singleton.1 hx]; rfl)
  simp [storeVar, this, Value.cells, Result.andThen]
  simpa [World.setCells] using hc
 rw [rl_set]
 simp [parts50, parts50a, hl, dir50, hs, Result.andThen, ReflectliteValue.flagAddr]
set_option maxHeartbeats 2000000 in
theorem as39 (tr : Addr) (qb a0 : Nat) (u tg : Value) (w : World) (ha : w.cell? ⟨a0, 0, none⟩ = some (.pointer (some ⟨qb, 0, none⟩))) (hq : w.cell? ⟨qb, 0, none⟩ = some u) (hf : w.frozen? ⟨qb, 0, none⟩ = false) :
  Calls Tryz.prog 201 #[.iface 180 (.pointer (some tr)), tg, .agg #[hd 184, .pointer (some ⟨a0, 0, none⟩), .int .u64 150], .iface 291 (.agg #[hd 180])] w fun x w' => x = .returned (.bool true) ∧ Below w.heap.size (w.setCell ⟨qb, 0, none⟩ (.pointer (some tr))) w' := by
 have hu252 := Tryz.underlying252
 have hla : a0 < w.heap.size := World.block_lt_of_cell? w _ ha
 have hlq : qb < w.heap.size := World.block_lt_of_cell? w _ hq
 have h202 := @run_callFunc_extern Tryz.prog 202 _ ReflectliteType.typeOf Tryz.func202 (by kernel_rfl) (by kernel_rfl) (by kernel_rfl) (by kernel_rfl)
 have h340 := @run_callFunc_extern Tryz.prog 340 _ (ReflectliteType.relation "AssignableTo" ReflectliteType.assignableTo) Tryz.func340 (by kernel_rfl) (by kernel_rfl) (by kernel_rfl) (by kernel_rfl)
 have h238 := @run_callFunc_extern Tryz.prog 238 _ (ReflectliteValue.method (ReflectliteValue.valueError "reflectlite.Value.Elem" 0) ReflectliteValue.elem) Tryz.func238 (by kernel_rfl) (by kernel_rfl) (by kernel_rfl) (by kernel_rfl)
 have h198 := @run_callFunc_extern Tryz.prog 198 _ (fun args => ReflectliteValue.unpack (args.getD 0 (.tuple #[]))) Tryz.func198 (by kernel_rfl) (by kernel_rfl) (by kernel_rfl) (by kernel_rfl)
 have h239 := @run_callFunc_extern Tryz.prog 239 _ ReflectliteValue.set Tryz.func239 (by kernel_rfl) (by kernel_rfl) (by kernel_rfl) (by kernel_rfl)
 have e1 := typeOf50
 have e2 := mAssign
 have e3 := assign50
 have e4 := elemV52 ⟨a0, 0, none⟩ ⟨qb, 0, none⟩ (w.alloc (.cells #[.pointer (some ⟨9, 184, none⟩), .pointer (some ⟨a0, 0, none⟩), .int .u64 150] 252)) (by rw [World.cell?_alloc_lt _ _ _ hla]; exact ha)
 have e5 := valueOf50 tr
 have e6 := set50 qb ⟨w.heap.size + 1, 0, none⟩ (some tr) u ((w.alloc (.cells #[.pointer (some ⟨9, 184, none⟩), .pointer (some ⟨a0, 0, none⟩), .int .u64 150] 252)).alloc (.cells #[.pointer (some tr)] 180)) (by simp) (by rw [World.cell?_alloc_lt _ _ _ (by simp; omega), World.cell?_alloc_lt _ _ _ hlq]; exact hq) (by rw [World.frozen?_alloc_past _ _ _ (by simp; omega), World.frozen?_alloc_past _ _ _ hlq]; exact hf)
 go_enter Tryz.func201, Tryz.ntmps201
 go_wp2_with fail
 refine wp_loop_rounds 1 ?_
 rw [rounds_succ]
 go_wp2
 go_ret
 exact ⟨rfl, ((Below.refl _ _).alloc (by simp [World.setCell]) _).alloc (by simp [World.setCell]) _⟩
theorem as_trouble (tr : Addr) (qb : Nat) (u : Value) (w : World) (hg : w.cell? ⟨0, 0, none⟩ = some (.iface 291 (.agg #[hd 104]))) (hq : w.cell? ⟨qb, 0, none⟩ = some u) (hf : w.frozen? ⟨qb, 0, none⟩ = false) :
  Calls Tryz.prog 132 #[.iface 180 (.pointer (some tr)), .iface 184 (.pointer (some ⟨qb, 0, none⟩))] w fun x w' => x = .returned (.bool true) ∧ Below w.heap.size (w.setCell ⟨qb, 0, none⟩ (.pointer (some tr))) w' := by
 have h198 := @run_callFunc_extern Tryz.prog 198 _ (fun args => ReflectliteValue.unpack (args.getD 0 (.tuple #[]))) Tryz.func198 (by kernel_rfl) (by kernel_rfl) (by kernel_rfl) (by kernel_rfl)
 have h199 := @run_callFunc_extern Tryz.prog 199 _ (ReflectliteValue.methodAny (ReflectliteValue.valueError "reflectlite.Value.Type" 0) fun t _ _ _ => ReflectliteType.toType t) Tryz.func199 (by kernel_rfl) (by kernel_rfl) (by kernel_rfl) (by kernel_rfl)
 have h200 := @run_callFunc_extern Tryz.prog 200 _ (ReflectliteValue.method (ReflectliteValue.valueError "reflectlite.Value.IsNil" 0) ReflectliteValue.isNil) Tryz.func200 (by kernel_rfl) (by kernel_rfl) (by kernel_rfl) (by kernel_rfl)
 have h318 := @run_callFunc_extern Tryz.prog 318 _ (ReflectliteType.abiMethod fun t => do pure (.int .u8 (← kind t))) Tryz.func318 (by kernel_rfl) (by kernel_rfl) (by kernel_rfl) (by kernel_rfl)
 have h342 := @run_callFunc_extern Tryz.prog 342 _ (ReflectliteType.method ReflectliteType.elem) Tryz.func342 (by kernel_rfl) (by kernel_rfl) (by kernel_rfl) (by kernel_rfl)
 have h343 := @run_callFunc_extern Tryz.prog 343 _ (ReflectliteType.relation "Implements" ReflectliteType.implements_) Tryz.func343 (by kernel_rfl) (by kernel_rfl) (by kernel_rfl) (by kernel_rfl)
 have e1 := valueOf52
 have e2 := typeV52
 have e3 := mKind
 have e4 := kind52
 have e5 := kind50
 have e6 := mElem
 have e7 := elem52
 have e8 := mImpl
 have e9 := impl50
 have e10 := isNil52 ⟨w.heap.size, 0, none⟩ ⟨qb, 0, none⟩ ((w.alloc (.cells #[.pointer (some ⟨qb, 0, none⟩)] 184)).alloc (.cells #[.pointer (some ⟨9, 184, none⟩), .pointer (some ⟨w.heap.size, 0, none⟩), .int .u64 150] 252)) (by simp)
 have hlg := World.block_lt_of_cell? w _ hg
 have hg2 : ((w.alloc (.cells #[.pointer (some ⟨qb, 0, none⟩)] 184)).alloc (.cells #[.pointer (some ⟨9, 184, none⟩), .pointer (some ⟨w.heap.size, 0, none⟩), .int .u64 150] 252)).cell? ⟨0, 0, none⟩ = some (.iface 291 (.agg #[hd 104])) := by
  rw [World.cell?_alloc_lt _ _ _ (by simp), World.cell?_alloc_lt _ _ _ hlg]; exact hg
 go_enter Tryz.func132, Tryz.ntmps132
 have hlq : qb < w.heap.size := World.block_lt_of_cell? w _ hq
 have HA := Lib.hid (as39 tr qb w.heap.size u (.iface 184 (.pointer (some ⟨qb, 0, none⟩))) ((w.alloc (.cells #[.pointer (some ⟨qb, 0, none⟩)] 184)).alloc (.cells #[.pointer (some ⟨9, 184, none⟩), .pointer (some ⟨w.heap.size, 0, none⟩), .int .u64 150] 252)) (by simp) (by rw [World.cell?_alloc_lt _ _ _ (by simp; omega), World.cell?_alloc_lt _ _ _ hlq]; exact hq) (by rw [World.frozen?_alloc_past _ _ _ (by simp; omega), World.frozen?_alloc_past _ _ _ hlq]; exact hf))
 go_wp2_with fail
 refine HA.out.mono ?_
 rintro x w' ⟨rfl, hb⟩
 rw [World.setCell_alloc_past _ _ _ _ (by simp; omega), World.setCell_alloc_past _ _ _ _ hlq] at hb
 go_wp2_with fail
 go_ret
 exact ⟨rfl, (((Below.refl w.heap.size (w.setCell ⟨qb, 0, none⟩ (.pointer (some tr)))).alloc (by simp [World.setCell]) _).alloc (by simp [World.setCell]) _).trans (hb.mono (by simp; omega))⟩
end Go.Proofs.YtehnkebcbomidaaGreatDoor.As
end
