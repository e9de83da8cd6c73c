/- Part of a proof over the given program: Xoddx1, Na, En, Eh. -/
import Derived.Test.YtehnkebcbomidaaGreatDoorCn46
import Derived.Deep.Slices
import Derived.Test.YtehnkebcbomidaaGreatDoorRows
import Derived.LaidHandle
import Derived.LaidLaws
import Derived.Handed
import Derived.Lib.LaidTab
import Derived.Stop.LaidErr
import Derived.ChangeArms
import Derived.OpenShut
set_option linter.unusedVariables false
set_option linter.unusedSimpArgs false
section
namespace Go.Proofs.YtehnkebcbomidaaGreatDoor.Xodd
open Go.RowKit Go.Proofs.YtehnkebcbomidaaGreatDoorW.PrintWords Go.Proofs.YtehnkebcbomidaaGreatDoorW.PrintLast Go.Proofs.YtehnkebcbomidaaGreatDoorW.PrintMore
attribute [local go_sem] max2_int min2_int max_two min_two max_three min_three max_four min_four   -- for this text's walks alone
def pacelinelaw20_odd.f (a0_0 : Int) (a0_1 : Int) (a0_2 : Int) (a0_3 : Int) (a0_4 : Int) (a0_5 : Bool) : Option (Bool) := if a0_0 ≥ 0 then (if a0_0 ≤ 11 then (if a0_1 < 0 then (some true) else (some (decide (a0_1 ≥ 8)))) else (some false)) else (some false)
set_option maxHeartbeats 8000000 in
set_option maxRecDepth 100000 in
theorem pacelinelaw20_odd.calls (a0_0 : Int) (a0_1 : Int) (a0_2 : Int) (a0_3 : Int) (a0_4 : Int) (a0_5 : Bool) (r : Bool) (w : World) (h : pacelinelaw20_odd.f a0_0 a0_1 a0_2 a0_3 a0_4 a0_5 = some r) :
  Calls Tryz.prog 46 #[.agg #[.int .i64 a0_0, .int .i64 a0_1, .int .i64 a0_2, .int .i64 a0_3, .int .i64 a0_4, .bool a0_5]] w fun e w' => e = .returned (.bool r) ∧ Below w.heap.size w w' := by
 have hu69 := Tryz.underlying69
 have HB := Aside0.mk (Below.refl w.heap.size w)
 have H : (if a0_0 ≥ 0 then (if a0_0 ≤ 11 then (if a0_1 < 0 then (some true) else (some (decide (a0_1 ≥ 8)))) else (some false)) else (some false)) = some r := h
 clear h
 by_cases c2 : a0_0 ≥ 0
 ·rw [if_pos c2] at H
  have c2b0 : decide (0 ≤ a0_0) = true := decide_eq_true c2
  clear c2
  by_cases c3 : a0_0 ≤ 11
  ·rw [if_pos c3] at H
   have c3b0 : decide (a0_0 ≤ 11) = true := decide_eq_true c3
   clear c3
   by_cases c4 : a0_1 < 0
   ·rw [if_pos c4] at H
    have c4b0 : decide (a0_1 < 0) = true := decide_eq_true c4
    clear c4
    obtain rfl := Option.some.inj H
    go_enter Tryz.func46, Tryz.ntmps46
    go_wp2_with (first | ((with_reducible refine gate_dst (N := 1) rfl ?_); refine box_event ?hg (N := 1) ?hd (cs := #[.int .i64 a0_0, .int .i64 a0_1, .int .i64 a0_2, .int .i64 a0_3, .int .i64 a0_4, .bool a0_5]) (t := 69) ?hr ?_; (case hd => rfl); (case hg => rfl); (case hr => first | (go_simp; done) | (go_simp; rfl)); intro gb101 hg w5 hbox hb; have n0_ := Aside0.mk (below_step (by repeat (first | (with_reducible first | exact HB.out | apply below_alloc | apply pw_below_drewN | apply below_drew1) | exact HB.out)) hb); have n1_ := Aside0.mk (hbox); have n2_ := Aside0.mk ((by rw [hg]; exact (below_size (by repeat (first | (with_reducible first | exact HB.out | apply below_alloc | apply pw_below_drewN | apply below_drew1) | exact HB.out))) : w.heap.size ≤ gb101)); have n3_ := Aside0.mk ((by rw [hg]; exact (below_size (by repeat (first | (with_reducible first | exact HB.out | apply below_alloc | apply pw_below_drewN | apply below_drew1) | exact HB.out))) : w.heap.size ≤ gb101)); clear HB; have HB := n0_; have BK101 := n1_; have GW101 := n2_; have GE101 := n3_; clear n0_ n1_ n2_ n3_; clear hb hbox hg; have hcz6_0 : w5.cell? ⟨gb101, 0, none⟩ = some (.int .i64 a0_0) := (blk_cell BK101.out 0).trans rfl; have hcz6_1 : w5.cell? ⟨gb101, 1, none⟩ = some (.int .i64 a0_1) := (blk_cell BK101.out 1).trans rfl; have hcz6_2 : w5.cell? ⟨gb101, 2, none⟩ = some (.int .i64 a0_2) := (blk_cell BK101.out 2).trans rfl; have hcz6_3 : w5.cell? ⟨gb101, 3, none⟩ = some (.int .i64 a0_3) := (blk_cell BK101.out 3).trans rfl; have hcz6_4 : w5.cell? ⟨gb101, 4, none⟩ = some (.int .i64 a0_4) := (blk_cell BK101.out 4).trans rfl; have hcz6_5 : w5.cell? ⟨gb101, 5, none⟩ = some (.bool a0_5) := (blk_cell BK101.out 5).trans rfl; have hfz6_0 := blk_frozen BK101.out 0; have hfz6_1 := blk_frozen BK101.out 1; have hfz6_2 := blk_frozen BK101.out 2; have hfz6_3 := blk_frozen BK101.out 3; have hfz6_4 := blk_frozen BK101.out 4; have hfz6_5 := blk_frozen BK101.out 5))
    go_ret
    exact ⟨by first | rfl | (simp [errW_none, errW_some] <;> rfl) | (simp [*, errW_none, errW_some] <;> rfl), by repeat (first | (with_reducible first | exact HB.out | apply below_alloc | apply pw_below_drewN | apply below_drew1 | refine below_set ?_ GE101.out) | exact HB.out)⟩
   ·rw [if_neg c4] at H
    have c4b0 : decide (a0_1 < 0) = false := decide_eq_false c4
    clear c4
    obtain rfl := Option.some.inj H
    go_enter Tryz.func46, Tryz.ntmps46
    go_wp2_with (first | ((with_reducible refine gate_dst (N := 1) rfl ?_); refine box_event ?hg (N := 1) ?hd (cs := #[.int .i64 a0_0, .int .i64 a0_1, .int .i64 a0_2, .int .i64 a0_3, .int .i64 a0_4, .bool a0_5]) (t := 69) ?hr ?_; (case hd => rfl); (case hg => rfl); (case hr => first | (go_simp; done) | (go_simp; rfl)); intro gb101 hg w7 hbox hb; have n0_ := Aside0.mk (below_step (by repeat (first | (with_reducible first | exact HB.out | apply below_alloc | apply pw_below_drewN | apply below_drew1) | exact HB.out)) hb); have n1_ := Aside0.mk (hbox); have n2_ := Aside0.mk ((by rw [hg]; exact (below_size (by repeat (first | (with_reducible first | exact HB.out | apply below_alloc | apply pw_below_drewN | apply below_drew1) | exact HB.out))) : w.heap.size ≤ gb101)); have n3_ := Aside0.mk ((by rw [hg]; exact (below_size (by repeat (first | (with_reducible first | exact HB.out | apply below_alloc | apply pw_below_drewN | apply below_drew1) | exact HB.out))) : w.heap.size ≤ gb101)); clear HB; have HB := n0_; have BK101 := n1_; have GW101 := n2_; have GE101 := n3_; clear n0_ n1_ n2_ n3_; clear hb hbox hg; have hcz8_0 : w7.cell? ⟨gb101, 0, none⟩ = some (.int .i64 a0_0) := (blk_cell BK101.out 0).trans rfl; have hcz8_1 : w7.cell? ⟨gb101, 1, none⟩ = some (.int .i64 a0_1) := (blk_cell BK101.out 1).trans rfl; have hcz8_2 : w7.cell? ⟨gb101, 2, none⟩ = some (.int .i64 a0_2) := (blk_cell BK101.out 2).trans rfl; have hcz8_3 : w7.cell? ⟨gb101, 3, none⟩ = some (.int .i64 a0_3) := (blk_cell BK101.out 3).trans rfl; have hcz8_4 : w7.cell? ⟨gb101, 4, none⟩ = some (.int .i64 a0_4) := (blk_cell BK101.out 4).trans rfl; have hcz8_5 : w7.cell? ⟨gb101, 5, none⟩ = some (.bool a0_5) := (blk_cell BK101.out 5).trans rfl; have hfz8_0 := blk_frozen BK101.out 0; have hfz8_1 := blk_frozen BK101.out 1; have hfz8_2 := blk_frozen BK101.out 2; have hfz8_3 := blk_frozen BK101.out 3; have hfz8_4 := blk_frozen BK101.out 4; have hfz8_5 := blk_frozen BK101.out 5))
    go_ret
    exact ⟨by first | rfl | (simp [errW_none, errW_some] <;> rfl) | (simp [*, errW_none, errW_some] <;> rfl), by repeat (first | (with_reducible first | exact HB.out | apply below_alloc | apply pw_below_drewN | apply below_drew1 | refine below_set ?_ GE101.out) | exact HB.out)⟩
  ·rw [if_neg c3] at H
   have c3b0 : decide (a0_0 ≤ 11) = false := decide_eq_false c3
   clear c3
   obtain rfl := Option.some.inj H
   go_enter Tryz.func46, Tryz.ntmps46
   go_wp2_with (first | ((with_reducible refine gate_dst (N := 1) rfl ?_); refine box_event ?hg (N := 1) ?hd (cs := #[.int .i64 a0_0, .int .i64 a0_1, .int .i64 a0_2, .int .i64 a0_3, .int .i64 a0_4, .bool a0_5]) (t := 69) ?hr ?_; (case hd => rfl); (case hg => rfl); (case hr => first | (go_simp; done) | (go_simp; rfl)); intro gb101 hg w9 hbox hb; have n0_ := Aside0.mk (below_step (by repeat (first | (with_reducible first | exact HB.out | apply below_alloc | apply pw_below_drewN | apply below_drew1) | exact HB.out)) hb); have n1_ := Aside0.mk (hbox); have n2_ := Aside0.mk ((by rw [hg]; exact (below_size (by repeat (first | (with_reducible first | exact HB.out | apply below_alloc | apply pw_below_drewN | apply below_drew1) | exact HB.out))) : w.heap.size ≤ gb101)); have n3_ := Aside0.mk ((by rw [hg]; exact (below_size (by repeat (first | (with_reducible first | exact HB.out | apply below_alloc | apply pw_below_drewN | apply below_drew1) | exact HB.out))) : w.heap.size ≤ gb101)); clear HB; have HB := n0_; have BK101 := n1_; have GW101 := n2_; have GE101 := n3_; clear n0_ n1_ n2_ n3_; clear hb hbox hg; have hcz10_0 : w9.cell? ⟨gb101, 0, none⟩ = some (.int .i64 a0_0) := (blk_cell BK101.out 0).trans rfl; have hcz10_1 : w9.cell? ⟨gb101, 1, none⟩ = some (.int .i64 a0_1) := (blk_cell BK101.out 1).trans rfl; have hcz10_2 : w9.cell? ⟨gb101, 2, none⟩ = some (.int .i64 a0_2) := (blk_cell BK101.out 2).trans rfl; have hcz10_3 : w9.cell? ⟨gb101, 3, none⟩ = some (.int .i64 a0_3) := (blk_cell BK101.out 3).trans rfl; have hcz10_4 : w9.cell? ⟨gb101, 4, none⟩ = some (.int .i64 a0_4) := (blk_cell BK101.out 4).trans rfl; have hcz10_5 : w9.cell? ⟨gb101, 5, none⟩ = some (.bool a0_5) := (blk_cell BK101.out 5).trans rfl; have hfz10_0 := blk_frozen BK101.out 0; have hfz10_1 := blk_frozen BK101.out 1; have hfz10_2 := blk_frozen BK101.out 2; have hfz10_3 := blk_frozen BK101.out 3; have hfz10_4 := blk_frozen BK101.out 4; have hfz10_5 := blk_frozen BK101.out 5))
   go_ret
   exact ⟨by first | rfl | (simp [errW_none, errW_some] <;> rfl) | (simp [*, errW_none, errW_some] <;> rfl), by repeat (first | (with_reducible first | exact HB.out | apply below_alloc | apply pw_below_drewN | apply below_drew1 | refine below_set ?_ GE101.out) | exact HB.out)⟩
 ·rw [if_neg c2] at H
  have c2b0 : decide (0 ≤ a0_0) = false := decide_eq_false c2
  clear c2
  obtain rfl := Option.some.inj H
  go_enter Tryz.func46, Tryz.ntmps46
  go_wp2_with (first | ((with_reducible refine gate_dst (N := 1) rfl ?_); refine box_event ?hg (N := 1) ?hd (cs := #[.int .i64 a0_0, .int .i64 a0_1, .int .i64 a0_2, .int .i64 a0_3, .int .i64 a0_4, .bool a0_5]) (t := 69) ?hr ?_; (case hd => rfl); (case hg => rfl); (case hr => first | (go_simp; done) | (go_simp; rfl)); intro gb101 hg w11 hbox hb; have n0_ := Aside0.mk (below_step (by repeat (first | (with_reducible first | exact HB.out | apply below_alloc | apply pw_below_drewN | apply below_drew1) | exact HB.out)) hb); have n1_ := Aside0.mk (hbox); have n2_ := Aside0.mk ((by rw [hg]; exact (below_size (by repeat (first | (with_reducible first | exact HB.out | apply below_alloc | apply pw_below_drewN | apply below_drew1) | exact HB.out))) : w.heap.size ≤ gb101)); have n3_ := Aside0.mk ((by rw [hg]; exact (below_size (by repeat (first | (with_reducible first | exact HB.out | apply below_alloc | apply pw_below_drewN | apply below_drew1) | exact HB.out))) : w.heap.size ≤ gb101)); clear HB; have HB := n0_; have BK101 := n1_; have GW101 := n2_; have GE101 := n3_; clear n0_ n1_ n2_ n3_; clear hb hbox hg; have hcz12_0 : w11.cell? ⟨gb101, 0, none⟩ = some (.int .i64 a0_0) := (blk_cell BK101.out 0).trans rfl; have hcz12_1 : w11.cell? ⟨gb101, 1, none⟩ = some (.int .i64 a0_1) := (blk_cell BK101.out 1).trans rfl; have hcz12_2 : w11.cell? ⟨gb101, 2, none⟩ = some (.int .i64 a0_2) := (blk_cell BK101.out 2).trans rfl; have hcz12_3 : w11.cell? ⟨gb101, 3, none⟩ = some (.int .i64 a0_3) := (blk_cell BK101.out 3).trans rfl; have hcz12_4 : w11.cell? ⟨gb101, 4, none⟩ = some (.int .i64 a0_4) := (blk_cell BK101.out 4).trans rfl; have hcz12_5 : w11.cell? ⟨gb101, 5, none⟩ = some (.bool a0_5) := (blk_cell BK101.out 5).trans rfl; have hfz12_0 := blk_frozen BK101.out 0; have hfz12_1 := blk_frozen BK101.out 1; have hfz12_2 := blk_frozen BK101.out 2; have hfz12_3 := blk_frozen BK101.out 3; have hfz12_4 := blk_frozen BK101.out 4; have hfz12_5 := blk_frozen BK101.out 5))
  go_ret
  exact ⟨by first | rfl | (simp [errW_none, errW_some] <;> rfl) | (simp [*, errW_none, errW_some] <;> rfl), by repeat (first | (with_reducible first | exact HB.out | apply below_alloc | apply pw_below_drewN | apply below_drew1 | refine below_set ?_ GE101.out) | exact HB.out)⟩
end Go.Proofs.YtehnkebcbomidaaGreatDoor.Xodd
end
namespace Go.Proofs.YtehnkebcbomidaaGreatDoor.Rt
open Go Go.RowKit Go.Proofs Go.Proofs.YtehnkebcbomidaaGreatDoorW.PrintWords Go.Proofs.YtehnkebcbomidaaGreatDoorW.PrintLast
def CRow (W : World) (A : Option Addr) (len : Nat) (cs : Nat → Cl) : Prop := ∀ i, i < len → ∃ x, A = some x ∧ ∀ j v, (cs i).cells[j]? = some v → W.cell? (x.add (i * 6 + j)) = some v
theorem add_pos (a : Addr) (j : Nat) (hj : j ≠ 0) : a.add j = ⟨a.block, a.off + j, none⟩ := by
 unfold Addr.add
 split
 ·omega
 ·rfl
theorem CRow.cells {W w' : World} {A : Option Addr} {len : Nat} {cs : Nat → Cl} (h : CRow W A len cs) {i : Nat} (hi : i < len) (hk : ∀ k, k < W.heap.size → w'.heap[k]? = W.heap[k]?) {o : Cl} (ho : cs i = o) :
  ∃ x, A = some x ∧ w'.cell? (x.add (i * 6)) = some (.int .i64 o.kind) ∧ w'.cell? ⟨(x.add (i * 6)).block, (x.add (i * 6)).off + 1, none⟩ = some (.int .i64 o.f) ∧ w'.cell? ⟨(x.add (i * 6)).block, (x.add (i * 6)).off + 2, none⟩ = some (.int .i64 o.a) ∧ w'.cell? ⟨(x.add (i * 6)).block, (x.add (i * 6)).off + 3, none⟩ = some (.int .i64 o.b) ∧ w'.cell? ⟨(x.add (i * 6)).block, (x.add (i * 6)).off + 4, none⟩ = some (.int .i64 o.t) ∧ w'.cell? ⟨(x.add (i * 6)).block, (x.add (i * 6)).off + 5, none⟩ = some (.bool o.is) := by
 obtain ⟨x, e, hc⟩ := h i hi
 rw [ho] at hc
 have hx : ∀ j v, o.cells[j]? = some v → w'.cell? ((x.add (i * 6)).add j) = some v := fun j v hv => by
  have h1 := hc j v hv
  rw [Go.Deep.add_add]
  have hl := World.block_lt_of_cell? W _ h1
  rw [← h1]
  unfold World.cell?
  rw [hk _ hl]
 have h0 := hx 0 _ rfl
 have h1 := hx 1 _ rfl
 have h2 := hx 2 _ rfl
 have h3 := hx 3 _ rfl
 have h4 := hx 4 _ rfl
 have h5 := hx 5 _ rfl
 rw [add_pos _ _ (by decide)] at h1 h2 h3 h4 h5
 rw [show (x.add (i * 6)).add 0 = x.add (i * 6) by rw [Go.Deep.add_add, Nat.add_zero]] at h0
 exact ⟨x, e, h0, h1, h2, h3, h4, h5⟩
theorem o_cells {W : World} {b : Nat} {a0 a1 a2 a3 a4 a5 : Value} (h : W.heap[b]? = some (.cells #[a0, a1, a2, a3, a4, a5] 69 (0, 0))) :
  W.cell? ⟨b, 0, none⟩ = some a0 ∧ W.cell? ⟨b, 1, none⟩ = some a1 ∧ W.cell? ⟨b, 2, none⟩ = some a2 ∧ W.cell? ⟨b, 3, none⟩ = some a3 ∧ W.cell? ⟨b, 4, none⟩ = some a4 ∧ W.cell? ⟨b, 5, none⟩ = some a5 := by
 refine ⟨?_, ?_, ?_, ?_, ?_, ?_⟩ <;> simp [World.cell?, h]
def K3 (W : World) (nb : Nat) : Nat → Prop := fun k => k < W.heap.size ∨ k = nb
theorem odd_no (w : World) (kd f a b t : Int) (is : Bool) (h0 : 0 ≤ f) (h1 : f < 8) : Calls Tryz.prog 46 #[.agg #[.int .i64 kd, .int .i64 f, .int .i64 a, .int .i64 b, .int .i64 t, .bool is]] w fun e w' => e = .returned (.bool false) ∧ Below w.heap.size w w' :=
 Go.Proofs.YtehnkebcbomidaaGreatDoor.Xodd.pacelinelaw20_odd.calls kd f a b t is false w (by
  unfold Go.Proofs.YtehnkebcbomidaaGreatDoor.Xodd.pacelinelaw20_odd.f
  split
  ·split
   ·rw [if_neg (by omega)]
    simp; omega
   ·rfl
  ·rfl)
theorem m8 (W : World) : (Instr.makeSlice 52 (.int .i64 8) (.int .i64 8)).run Tryz.prog W = .ok (.slice (some ⟨W.heap.size, 0, none⟩) 8 8) (W.alloc (.cells #[.int .i64 0, .int .i64 0, .int .i64 0, .int .i64 0, .int .i64 0, .int .i64 0, .int .i64 0, .int .i64 0] 3)) := make52 8 (by omega) W
def eight (f : Nat → Int) : List Value := (List.range 8).map fun g => Value.int .i64 (f g)
theorem eight_get (f : Nat → Int) (g : Nat) (hg : g < 8) : (eight f)[g]? = some (.int .i64 (f g)) := by
 unfold eight
 rw [List.getElem?_map, List.getElem?_range hg]
 rfl
theorem eight_set (f f' : Nat → Int) (n : Nat) (hn : n < 8) (v : Int) (h : ∀ g, g < 8 → f' g = if g = n then v else f g) : (eight f).toArray.setIfInBounds n (.int .i64 v) = (eight f').toArray := by
 apply Array.ext_getElem?
 intro i
 rw [Array.getElem?_setIfInBounds]
 by_cases hi : i < 8
 ·by_cases e : n = i
  ·subst e
   rw [if_pos rfl, if_pos (by simpa [eight] using hi), List.getElem?_toArray, eight_get _ _ hi, h n hi, if_pos rfl]
  ·rw [if_neg e, List.getElem?_toArray, List.getElem?_toArray, eight_get _ _ hi, eight_get _ _ hi, h i hi, if_neg (fun z => e z.symm)]
 ·have hz : (eight f')[i]? = none := by simp [eight, List.getElem?_eq_none_iff]; omega
  have hz2 : (eight f)[i]? = none := by simp [eight, List.getElem?_eq_none_iff]; omega
  rw [List.getElem?_toArray, List.getElem?_toArray, hz, hz2]
  by_cases e : n = i
  ·omega
  ·rw [if_neg e]
theorem eight_cell {w : World} {nb : Nat} {f : Nat → Int} (h : w.heap[nb]? = some (.cells (eight f).toArray 3 (0, 0))) (g : Nat) (hg : g < 8) : w.cell? ⟨nb, g, none⟩ = some (.int .i64 (f g)) ∧ w.frozen? ⟨nb, g, none⟩ = false := by
 constructor
 ·rw [cell_of_row w nb g _ 3 (0, 0) h, List.getElem?_toArray]
  exact eight_get f g hg
 ·simp [World.frozen?, h]
theorem laid_handle {P : Program} {l : List (String × DataW Unit)} {w : World} (h : laidMetH P l w) {x : String × DataW Unit} (hx : x ∈ l) (hs : x.2.handleName?.isSome = true) (hf : x.2.funcsIn? = none) :
  ∃ name u ty, x.2.handleName? = some name ∧ (P.cutTypes.find? (·.1 == "internal/reflectlite.rtype")).map (·.2) = some u ∧ ty < P.types.size ∧ P.rowNamed ty name = true ∧
   w.var? P x.1 = some #[.iface u (.agg #[typeHandle P ty])] := by
 have hx2 : x ∈ l.filter (fun x => x.2.handleName?.isSome) := List.mem_filter.2 ⟨hx, hs⟩
 unfold laidMetH at h
 revert h hx2
 generalize l.filter (fun x => x.2.handleName?.isSome) = fl
 intro h hx2
 cases fl with
 | nil => cases hx2
 | cons a t => have h3 := h.2 x hx2; rw [hf] at h3; exact h3
theorem only104 : (List.range Tryz.prog.types.size).all (fun t => !Tryz.prog.rowNamed t [101, 114, 114, 111, 114] || t == 104) = true := by kernel_rfl
theorem rt291 : (Tryz.prog.cutTypes.find? (·.1 == "internal/reflectlite.rtype")).map (·.2) = some 291 := by kernel_rfl
theorem envZ {l : List (String × DataW Unit)} {W : World} (hx : ("errors.errorType", Rows.laid_errors_errorType) ∈ l) (h : laidMetH Tryz.prog l W) : Env W := by
 obtain ⟨name, u, ty, h1, h2, h3, h4, h5⟩ := laid_handle h hx rfl rfl
 have e1 : name = [101, 114, 114, 111, 114] := (Option.some.inj h1).symm
 subst e1
 have e2 : u = 291 := (Option.some.inj (rt291.symm.trans h2)).symm
 subst e2
 have e3 : ty = 104 := by
  have := List.all_eq_true.1 only104 ty (List.mem_range.2 h3)
  rw [h4] at this
  simpa using this
 subst e3
 have e : typeHandle Tryz.prog 104 = .pointer (some ⟨9, 104, none⟩) := by kernel_rfl
 rw [e] at h5
 have := World.var?_cell (g := 0) (by kernel_rfl) h5 0
 unfold Env
 simpa using this
theorem envs_of {W : World} (h : laidMetH Tryz.prog [("math/bits.deBruijn32tab", Rows.laid_math_bits_deBruijn32tab), ("math/bits.deBruijn64tab", Rows.laid_math_bits_deBruijn64tab), ("internal/strconv.uint64pow10", Rows.laid_internal_strconv_uint64pow10), ("errors.errorType", Rows.laid_errors_errorType)] W) : Env W ∧ TabZ W := by
 refine ⟨envZ (List.mem_cons_of_mem _ (List.mem_cons_of_mem _ (List.mem_cons_of_mem _ List.mem_cons_self))) h, ?_⟩
 have h1 : laidMet Tryz.prog [("math/bits.deBruijn32tab", Rows.laid_math_bits_deBruijn32tab), ("math/bits.deBruijn64tab", Rows.laid_math_bits_deBruijn64tab), ("internal/strconv.uint64pow10", Rows.laid_internal_strconv_uint64pow10)] W := And.left h
 exact Lib.tabIs_of_head (g := 2) (t := 343) (e := 315) (n := 20) (by kernel_rfl) (by kernel_rfl) Tryz.underlying343 Tryz.underlying315 (by kernel_rfl) (by kernel_rfl) (laidMet.tail (laidMet.tail h1))
theorem cells69 : Tryz.prog.cellsOf 69 = 6 := by kernel_rfl
theorem cells3_ : Tryz.prog.cellsOf 3 = 1 := by kernel_rfl
theorem cells4_ : Tryz.prog.cellsOf 4 = 1 := by kernel_rfl
theorem one_at {cs : List Value} {j : Nat} {v : Value} (h : (cs.drop j).take 1 = [v]) : cs[j]? = some v := by
 have h1 : ((cs.drop j).take 1)[0]? = some v := by rw [h]; rfl
 rw [List.getElem?_take_of_lt (by decide), List.getElem?_drop] at h1
 simpa using h1
theorem call_in {H : Type} {enc : TypeId × Value → H} {W : World} {base n : Nat} {spare : Nat → Bool} {held : Bool} {cs : List Value} {x : DataW H × List MemPlace} (h : DataW.trod enc Tryz.prog W base spare held n 69 cs = some x) : ∃ o : Cl, ∀ (j : Nat) (v : Value), o.cells[j]? = some v → cs[j]? = some v := by
 obtain ⟨xs, m, _, _, hcl, hxl, hf⟩ := DataW.trod_struct Tryz.underlying69 h
 have hxl' : xs.length = 6 := hxl
 have get : ∀ j, j < 6 → ∃ y, xs[j]? = some y := fun j hj => ⟨_, List.getElem?_eq_getElem (by rw [hxl']; exact hj)⟩
 have int : ∀ j, j < 6 → DataW.trod enc Tryz.prog W base spare held m 3 ((cs.drop j).take (Tryz.prog.cellsOf 3)) = xs[j]? → ∃ v : Int, cs[j]? = some (.int .i64 v) := fun j hj hx => by
  obtain ⟨y, hy⟩ := get j hj
  rw [hy, cells3_] at hx
  obtain ⟨v, hv, _⟩ := DataW.trod_int Tryz.underlying3 hx
  exact ⟨v, one_at hv⟩
 obtain ⟨v0, h0⟩ := int 0 (by decide) (hf 0 _ rfl)
 obtain ⟨v1, h1⟩ := int 1 (by decide) (hf 1 _ rfl)
 obtain ⟨v2, h2⟩ := int 2 (by decide) (hf 2 _ rfl)
 obtain ⟨v3, h3⟩ := int 3 (by decide) (hf 3 _ rfl)
 obtain ⟨v4, h4⟩ := int 4 (by decide) (hf 4 _ rfl)
 obtain ⟨y, hy⟩ := get 5 (by decide)
 have hx := hf 5 _ rfl
 have hx : DataW.trod enc Tryz.prog W base spare held m 4 ((cs.drop 5).take (Tryz.prog.cellsOf 4)) = xs[5]? := hx
 rw [hy, cells4_] at hx
 obtain ⟨b, hb, _⟩ := DataW.trod_bool Tryz.underlying4 hx
 have h5 := one_at hb
 refine ⟨⟨v0, v1, v2, v3, v4, b⟩, fun j v hv => ?_⟩
 unfold Cl.cells at hv
 rcases j with _ | _ | _ | _ | _ | _ | j
 ·cases hv; exact h0
 ·cases hv; exact h1
 ·cases hv; exact h2
 ·cases hv; exact h3
 ·cases hv; exact h4
 ·cases hv; exact h5
 ·simp at hv
theorem calls_in {H : Type} {enc : TypeId × Value → H} {W : World} {base : Nat} {spare : Nat → Bool} {held : Bool} {A : Option Addr} {len cap : Nat} {x : DataW H} {p : List MemPlace} (hx : DataW.Trod enc Tryz.prog W base spare held 66 (.slice A len cap) x p) : ∃ cs, CRow W A len cs := by
 obtain ⟨fuel, hf⟩ := hx
 rcases Go.Deep.open_slice Tryz.underlying66 hf with ⟨h, _⟩ | ⟨a, l, c, m, n, D, Pl, h, hb, hl, hm, hmm, _, hi⟩
 ·simp [Value.cells] at h
  obtain ⟨rfl, rfl, rfl⟩ := h
  exact ⟨fun _ => ⟨0, 0, 0, 0, 0, false⟩, fun i hi => absurd hi (Nat.not_lt_zero _)⟩
 ·simp [Value.cells] at h
  obtain ⟨rfl, rfl, rfl⟩ := h
  have hlm : len ≤ m := by rw [hmm]; split <;> omega
  have hall : ∀ i : Nat, ∃ o : Cl, i < len → ∀ (j : Nat) (v : Value), o.cells[j]? = some v → W.cell? (a.add (i * 6 + j)) = some v := fun i => by
   by_cases hil : i < len
   ·obtain ⟨cs, hc, ht⟩ := hi i (by omega)
    obtain ⟨o, ho⟩ := call_in ht
    obtain ⟨_, hcl, hat⟩ := World.cells?_some hc
    refine ⟨o, fun _ j v hv => ?_⟩
    have hj : cs[j]? = some v := ho j v hv
    have hjl : j < cs.length := (List.getElem?_eq_some_iff.1 hj).1
    have := hat j (by rw [← hcl]; exact hjl)
    rw [Go.Deep.add_add, cells69, hj] at this
    exact this
   ·exact ⟨⟨0, 0, 0, 0, 0, false⟩, fun h => absurd h hil⟩
  obtain ⟨f, hf⟩ := Classical.axiomOfChoice hall
  exact ⟨f, fun i hi => ⟨a, rfl, hf i hi⟩⟩
end Go.Proofs.YtehnkebcbomidaaGreatDoor.Rt
