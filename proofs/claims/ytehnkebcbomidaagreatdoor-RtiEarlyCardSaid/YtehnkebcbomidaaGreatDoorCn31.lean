/- Part of a proof over the given program: Is, Rw. -/
import Derived.Test.YtehnkebcbomidaaGreatDoorCn30
set_option linter.unusedVariables false
set_option linter.unusedSimpArgs false
namespace Go.Proofs.YtehnkebcbomidaaGreatDoor.Rt
open Go Go.RowKit Go.Proofs Go.Proofs.YtehnkebcbomidaaGreatDoorW.PrintWords Go.Proofs.YtehnkebcbomidaaGreatDoorW.PrintLast
def flI (Q : List Mg) : List Int := -1 :: Q.flatMap fun m => [m.k.t, m.k.f, m.k.s, m.d, m.cl, m.bd]
theorem flatM_ints (Q : List Mg) : flatM Q = (Q.flatMap fun m => [m.k.t, m.k.f, m.k.s, m.d, m.cl, m.bd]).map (Value.int .i64) := by
 unfold flatM
 rw [List.map_flatMap]
 rfl
theorem flI_length (Q : List Mg) : (flI Q).length = 1 + 6 * Q.length := by
 unfold flI
 induction Q with
 | nil => rfl
 | cons a Q ih => simp only [List.flatMap_cons, List.length_cons, List.length_append] at ih ⊢; simp only [List.length_nil] at ih ⊢; omega
theorem flI_map (Q : List Mg) : (flI Q).map (Value.int .i64) = .int .i64 (-1) :: flatM Q := by rw [flatM_ints]; rfl
theorem flatM_succ (Q : List Mg) (j : Nat) (hj : j < Q.length) : flatM (Q.take (j + 1)) = flatM (Q.take j) ++ Q[j].cells := by
 unfold flatM
 rw [List.take_succ_eq_append_getElem hj, List.flatMap_append]
 simp
def FlatPost (w : World) (Q : List Mg) (e : Ending) (w' : World) : Prop := ∃ B c, e = .returned (.slice B (1 + 6 * Q.length) c) ∧ w'.ownsRow w.heap.size 3 1 (.slice B (1 + 6 * Q.length) c) (1 + 6 * Q.length) (.int .i64 (-1) :: flatM Q) ∧ Below w.heap.size w w'
set_option maxHeartbeats 4000000 in
set_option maxRecDepth 100000 in
theorem flat_call (w : World) (base : Nat) (A : Option Addr) (c : Nat) (Q : List Mg) (hl : Q.length ≤ 64) (h : w.ownsRow base 41 6 (.slice A Q.length c) Q.length (flatM Q)) : Calls Tryz.prog 99 #[.slice A Q.length c] w (FlatPost w Q) := by
 obtain ⟨i0, hi, hz0, hz1, hz2⟩ := info_parts infI3
 have hu52 := Tryz.underlying52
 have hu29 := Tryz.underlying29
 have hu41 := Tryz.underlying41
 have hu39 := Tryz.underlying39
 have HI := Lib.hid hi
 have HZ0 := Lib.hid hz0
 have HZ1 := Lib.hid hz1
 have HZ2 := Lib.hid hz2
 have HH := Lib.hid h
 clear hi hz0 hz1 hz2 h
 go_enter Tryz.func99, Tryz.ntmps99
 go_wp2
 go_loopw [3, 9] (fun v i wr => ∃ (B : Option Addr) (cc j : Nat), j ≤ Q.length ∧ i = .int .i64 j ∧ v = .slice B (1 + 6 * j) cc ∧ wr.ownsRow w.heap.size 3 1 (.slice B (1 + 6 * j) cc) (1 + 6 * j) (.int .i64 (-1) :: flatM (Q.take j)) ∧ Below w.heap.size w wr) (fun _ i _ => Q.length - (RowKit.intOf i).toNat)
 case atStart => exact ⟨some ⟨w.heap.size, 0, none⟩, 1, 0, Nat.zero_le _, rfl, rfl, World.ownsRow_lit (base := w.heap.size) (e := 3) (size := 1) w #[.int .i64 (-1)] 1 (Nat.le_refl _) (by unfold maxLen; omega) rfl, (Below.refl _ w).alloc (Nat.le_refl _) _⟩
 case round =>
  obtain ⟨B, cc, j, hj, rfl, rfl, ho, hbr⟩ := hrel
  by_cases hjl : j < Q.length
  ·have hji : (j : Int) < (Q.length : Int) := by omega
   have hj0 : (0 : Int) ≤ (j : Int) := by omega
   obtain ⟨g, rfl, e0, e1, e2, e3, e4, e5⟩ := row_m HH.out j hjl
   have e0 := pw_cell_below hbr e0
   have e1 := pw_cell_below hbr e1
   have e2 := pw_cell_below hbr e2
   have e3 := pw_cell_below hbr e3
   have e4 := pw_cell_below hbr e4
   have e5 := pw_cell_below hbr e5
   have hss := flatM_succ Q j hjl
   generalize Q[j] = m at e0 e1 e2 e3 e4 e5 hss
   have hnw := World.ownsRow_lit (base := 0) (e := 3) (size := 1) (wr.alloc (.cells #[.int .i64 m.k.t, .int .i64 m.k.f, .int .i64 m.k.s, .int .i64 m.d, .int .i64 m.cl, .int .i64 m.bd] 41)) #[.int .i64 m.k.t, .int .i64 m.k.f, .int .i64 m.k.s, .int .i64 m.d, .int .i64 m.cl, .int .i64 m.bd] 6 (Nat.zero_le _) (by unfold maxLen; omega) rfl
   rw [World.size_alloc] at hnw
   have HNW := Lib.hid hnw
   have HO := Lib.hid ho
   have HBR := Lib.hid hbr
   have HSS := Lib.hid hss
   clear hnw ho hbr hss
   go_wp2_with (at_builtin; go_loud (refine wpList_app rfl (.tmp 13) (.tmp 29) 52 rfl w.heap.size 0 3 i0 _ 1 8 hu52 HI.out HZ0.out HZ1.out HZ2.out rfl (by decide) (.slice B (1 + 6 * j) cc) (1 + 6 * j) (.int .i64 (-1) :: flatM (Q.take j)) rfl ((HO.out.alloc _).alloc _) (.slice (some ⟨wr.heap.size + 1, 0, none⟩) 6 6) 6 [.int .i64 m.k.t, .int .i64 m.k.f, .int .i64 m.k.s, .int .i64 m.d, .int .i64 m.cl, .int .i64 m.bd] (by rfl) HNW.out (by simp [Value.oneCell']) (by unfold maxLen; omega) (by omega) (by have := HBR.out.size; simp; omega) ?_); go_loud (intro v9 w9 hown hg hl9))
   obtain ⟨B9, c9, rfl⟩ := own_slice hown
   have hn6 : 1 + 6 * j + 6 = 1 + 6 * (j + 1) := by omega
   rw [hn6] at hown
   refine ⟨⟨B9, c9, j + 1, hjl, by go_num, by rw [hn6], by rw [HSS.out]; exact hown, ?_⟩, by simp [RowKit.intOf]; omega⟩
   exact ((HBR.out.alloc HBR.out.size _).alloc (by have := HBR.out.size; simp; omega) _).grown hg (by have := HBR.out.size; simp; omega) (fun q hq => own_base HO.out q hq)
  ·obtain rfl : j = Q.length := by omega
   have hji : ¬ (Q.length : Int) < (Q.length : Int) := by omega
   rw [List.take_length] at ho
   have HO := Lib.hid ho
   have HBR := Lib.hid hbr
   clear ho hbr
   go_wp2
   go_ret
   exact ⟨B, cc, rfl, HO.out, HBR.out⟩
def RwsI (n0 : Nat) (W : World) (v : Value) (rows : List (List Int)) : Prop :=
 ∃ hs : List Value, hs.length = rows.length ∧ W.ownsRow n0 58 1 v rows.length hs ∧ ∀ (i : Nat) (h : Value) (r : List Int), hs[i]? = some h → rows[i]? = some r → W.ownsRow n0 9 1 h r.length (strs r)
theorem RwsI.below {n0 n : Nat} {W W' : World} {v : Value} {rows : List (List Int)} (h : RwsI n0 W v rows) (hb : Below n W W') (hn : W.heap.size ≤ n) : RwsI n0 W' v rows := by
 obtain ⟨hs, h1, h2, h3⟩ := h
 exact ⟨hs, h1, own_move h2 (fun k hk => hb.block _ (Nat.lt_of_lt_of_le (own_lt h2 k hk) hn)), fun i h r hi hr => own_move (h3 i h r hi hr) (fun k hk => hb.block _ (Nat.lt_of_lt_of_le (own_lt (h3 i h r hi hr) k hk) hn))⟩
theorem RwsI.form {n0 : Nat} {W : World} {v : Value} {rows : List (List Int)} (h : RwsI n0 W v rows) : ∃ A c, v = .slice A rows.length c := by
 obtain ⟨hs, h1, h2, h3⟩ := h
 exact own_slice h2
theorem own_types_ne {W : World} {B B' : Nat} {e e' : TypeId} {s s' n n' : Nat} {v v' : Value} {xs xs' : List Value} (he : e ≠ e') (h : W.ownsRow B e s v n xs) (h' : W.ownsRow B' e' s' v' n' xs') : v.ownBlock = none ∨ v.ownBlock ≠ v'.ownBlock := by
 rcases h.2 with ⟨rfl, _⟩ | ⟨g, cap, cur, rfl, _, hg, _⟩
 ·exact .inl rfl
 ·rcases h'.2 with ⟨rfl, _⟩ | ⟨g', cap', cur', rfl, _, hg', _⟩
  ·exact .inr (by simp [Value.ownBlock])
  ·refine .inr (fun e0 => ?_)
   simp only [Value.ownBlock, Option.some.injEq] at e0
   subst e0
   rw [hg] at hg'
   simp only [Option.some.injEq, Obj.cells.injEq] at hg'
   exact he hg'.2.1
theorem RwsI.app {n0 : Nat} {W W' : World} {v v' : Value} {rows news : List (List Int)} {hs us : List Value} (h1 : hs.length = rows.length) (h2 : W.ownsRow n0 58 1 v rows.length hs)
  (h3 : ∀ (i : Nat) (h : Value) (r : List Int), hs[i]? = some h → rows[i]? = some r → W.ownsRow n0 9 1 h r.length (strs r)) (hu : us.length = news.length)
  (h4 : ∀ (i : Nat) (h : Value) (r : List Int), us[i]? = some h → news[i]? = some r → W.ownsRow n0 9 1 h r.length (strs r))
  (h5 : W'.ownsRow n0 58 1 v' (rows.length + news.length) (hs ++ us)) (hg : W.grownBy W' v.ownBlock) : RwsI n0 W' v' (rows ++ news) := by
 refine ⟨hs ++ us, by simp [h1, hu], by rw [List.length_append]; exact h5, ?_⟩
 intro i h q hi hq
 by_cases hlt : i < rows.length
 ·rw [List.getElem?_append_left (by omega)] at hi
  rw [List.getElem?_append_left hlt] at hq
  have h6 := h3 i h q hi hq
  exact h6.kept hg (own_types_ne (by decide) h6 h2)
 ·rw [List.getElem?_append_right (by omega), h1] at hi
  rw [List.getElem?_append_right (by omega)] at hq
  have h6 := h4 _ h q hi hq
  exact h6.kept hg (own_types_ne (by decide) h6 h2)
theorem own_base_le {W : World} {base base' e sz n : Nat} {v : Value} {xs : List Value} (h : W.ownsRow base e sz v n xs) (hb : base' ≤ base) : W.ownsRow base' e sz v n xs := by
 refine ⟨h.1, ?_⟩
 rcases h.2 with h2 | ⟨g, cap, cur, e1, hb1, r⟩
 ·exact .inl h2
 ·exact .inr ⟨g, cap, cur, e1, Nat.le_trans hb hb1, r⟩
def biI (b : Bool) : Int := if b then 1 else 0
def bitsI (x n : Nat) : List Int := (((List.range n).filter fun c => x.testBit c)).map fun (c : Nat) => (c : Int)
theorem bitsI_succ (x n : Nat) : bitsI x (n + 1) = bitsI x n ++ if x.testBit n then [(n : Int)] else [] := by
 unfold bitsI
 rw [List.range_succ, List.filter_append, List.map_append]
 congr 1
 rw [List.filter_cons, List.filter_nil]
 split <;> rfl
theorem bitsI_length (x n : Nat) : (bitsI x n).length ≤ n := by
 unfold bitsI
 rw [List.length_map]
 have := List.length_filter_le (fun c => x.testBit c) (List.range n)
 simpa using this
theorem bitsI_63 (x n : Nat) (hn : n ≤ 1000) : ∀ m ∈ bitsI x n, I63 m := by
 intro m hm
 unfold bitsI at hm
 obtain ⟨c, hc, rfl⟩ := List.mem_map.1 hm
 have := List.mem_range.1 (List.mem_filter.1 hc).1
 exact ⟨by omega, by omega⟩
def memI (m : Mem) : List Int := [biI m.is, m.time, m.look, biI m.con, m.kind, m.ask, m.sent]
def rows5 (S : St) (f : Nat) : List (List Int) := [memI (S.get f), -1 :: bitsI (S.pubs.getD f 0) S.par.length, -1 :: bitsI (S.get f).subs S.par.length, flI (S.get f).Q, flI (S.get f).P]
def rowsTo (S : St) (k : Nat) : List (List Int) := S.par :: (List.range k).flatMap (rows5 S)
theorem rowsTo_succ (S : St) (k : Nat) : rowsTo S (k + 1) = rowsTo S k ++ rows5 S k := by
 unfold rowsTo
 rw [List.range_succ, List.flatMap_append]
 simp
theorem rowsTo_length (S : St) (k : Nat) : (rowsTo S k).length = 1 + 5 * k := by
 induction k with
 | zero => rfl
 | succ k ih =>
  rw [rowsTo_succ, List.length_append, ih]
  show 1 + 5 * k + 5 = _
  omega
theorem memI_63 {n : Nat} {N : Int} {g : Nat} {m : Mem} (h : MemOk n N g m) (hN : N < 9223372036854775808) : ∀ x ∈ memI m, I63 x := by
 obtain ⟨t0, t1, l0, l1, k0, k1, a0, a1, s0, s1, _⟩ := h
 intro x hx
 unfold memI at hx
 simp only [List.mem_cons, List.not_mem_nil, or_false] at hx
 have hb : ∀ b, 0 ≤ biI b ∧ biI b ≤ 1 := fun b => by cases b <;> simp [biI]
 have h1 := hb m.is
 have h2 := hb m.con
 rcases hx with rfl | rfl | rfl | rfl | rfl | rfl | rfl <;> exact ⟨by omega, by omega⟩
theorem flI_63 {n : Nat} (hn : n ≤ 1000) {Q : List Mg} (h : ∀ x ∈ Q, MgOk n x) : ∀ x ∈ flI Q, I63 x := by
 intro x hx
 unfold flI at hx
 rcases List.mem_cons.1 hx with rfl | hx
 ·exact ⟨by omega, by omega⟩
 ·obtain ⟨m, hm, hx⟩ := List.mem_flatMap.1 hx
  obtain ⟨h1, h2, h3, h4, h5, h6, h7, h8, h9, h10, h11, h12⟩ := h m hm
  simp only [List.mem_cons, List.not_mem_nil, or_false] at hx
  rcases hx with rfl | rfl | rfl | rfl | rfl | rfl <;> exact ⟨by omega, by omega⟩
end Go.Proofs.YtehnkebcbomidaaGreatDoor.Rt
