/- lines.Decode: the walk. -/
import Derived.Test.YtkjghjffdjjedaaDoorRow1
import Derived.Test.YtkjghjffdjjedaaDoorIs
set_option linter.unusedVariables false
set_option linter.unusedSimpArgs false
namespace Go.Proofs.YtkjghjffdjjedaaDoor.Enc
open Go Go.RowKit Go.Lib Go.Proofs Go.Proofs.YtkjghjffdjjedaaDoorW.PrintWords Go.Proofs.YtkjghjffdjjedaaDoorW.PrintLast
/-- what Decode answers -/
def DecRes (w : World) (s : ByteArray) (e : Ending) (w' : World) : Prop := match rowsF s with
  | .inl rows => ∃ v, e = .returned (.tuple #[v, .int .i64 0, .int .i64 0]) ∧ Rws w.heap.size w' v rows
  | .inr n => e = .returned (.tuple #[.slice none 0 0, .int .i64 n, .int .i64 20])
theorem as_nil (tg : Value) (w : World) : Calls Tryd.prog 26 #[.nilIface, tg] w fun e w' => e = .returned (.bool false) ∧ w' = w := by
  go_enter Tryd.func26, Tryd.ntmps26
  go_wp2_with fail
  go_ret
  exact ⟨rfl, rfl⟩
set_option maxHeartbeats 4000000 in
set_option maxRecDepth 100000 in
theorem decode_walk (s : ByteArray) (m : Int) (w : World) (hs : s.size < 4294967281) (hm : w.cell? ⟨4, 0, none⟩ = some (.int .i64 m)) (hg : w.cell? ⟨0, 0, none⟩ = some (.iface 93 (.agg #[As.hd 38]))) :
    Calls Tryd.prog 16 #[.string s] w fun e w' => DecRes w s e w' ∧ Below w.heap.size w w' := by
  have hu55 := Tryd.underlying55
  have hu50 := Tryd.underlying50
  have hu22 := Tryd.underlying22
  have hmix : Tryd.prog.follows .mixedOrders = true := by kernel_rfl
  have hz0 : 0 < w.heap.size := World.block_lt_of_cell? w _ hg
  go_enter Tryd.func16, Tryd.ntmps16
  go_wp2_with (go_at_call 25; refine (rows_walk s m w hs hm).mono ?_)
  rintro e w1 ⟨hR, hB⟩
  unfold RowsRes at hR
  have hg1 : w1.cell? ⟨0, 0, none⟩ = some (.iface 93 (.agg #[As.hd 38])) := (hB.cell (p := ⟨0, 0, none⟩) hz0).trans hg
  cases hrf : rowsF s with
  | inl rows =>
    rw [hrf] at hR
    dsimp only at hR
    obtain ⟨v, rfl, hv⟩ := hR
    have HV := Lib.hid hv
    have HB := Lib.hid hB
    have HG1 := Lib.hid hg1
    have HRF := Lib.hid hrf
    clear hv hB hg1 hrf
    go_wp2_with (go_at_call 26; refine (as_nil _ _).mono ?_; rintro e w2 ⟨rfl, rfl⟩)
    go_ret3
    unfold DecRes
    rw [HRF.out]
    exact ⟨⟨v, rfl, HV.out.below ((Below.refl _ _).alloc (Nat.le_refl _) _) (Nat.le_refl _)⟩, HB.out.alloc HB.out.size _⟩
  | inr n =>
    rw [hrf] at hR
    dsimp only at hR
    obtain ⟨g, hgw, rfl, hg2⟩ := hR
    have HB := Lib.hid hB
    have HG1 := Lib.hid hg1
    have HRF := Lib.hid hrf
    clear hB hg1 hrf
    have hx : w1.cell? ⟨g, 0, none⟩ = some (.int .i64 n) := by simp [World.cell?, hg2]
    have hx1 : w1.cell? ⟨g, 1, none⟩ = some (.iface 22 (.int .i64 20)) := by simp [World.cell?, hg2]
    have HG2 := Lib.hid hg2
    have HGW := Lib.hid hgw
    have HX := Lib.hid hx
    have HX1 := Lib.hid hx1
    clear hg2 hgw hx hx1
    go_wp2_with fail
    have hHz : g < w1.heap.size := World.block_lt_of_cell? w1 _ HX.out
    obtain ⟨w2, hw2⟩ : ∃ w2, w2 = w1.alloc (Obj.cells #[Value.pointer none] 50) := ⟨_, rfl⟩
    rw [← hw2]
    obtain ⟨q, hq⟩ : ∃ q, q = w1.heap.size := ⟨_, rfl⟩
    rw [← hq]
    have hgq : g < q := by rw [hq]; exact World.block_lt_of_cell? w1 _ HX.out
    have b1 : Boxed w2 q 50 (.pointer none) := by rw [hw2, hq]; exact Boxed.new _ _ _
    have hb2 : Below q w1 w2 := by rw [hw2, hq]; exact (Below.refl _ _).alloc (Nat.le_refl _) _
    have hg2 : w2.cell? ⟨0, 0, none⟩ = some (.iface 93 (.agg #[As.hd 38])) := (hb2.cell (p := ⟨0, 0, none⟩) (show 0 < q by have := HGW.out; omega)).trans HG1.out
    have hz2 : w2.heap.size = q + 1 := by rw [hw2, hq]; simp
    have hAs := As.as_trouble ⟨g, 0, none⟩ q (.pointer none) w2 hg2 b1.cell b1.frozen
    obtain ⟨w2s, hw2s⟩ : ∃ w2s, w2s = w2.setCell ⟨q, 0, none⟩ (.pointer (some ⟨g, 0, none⟩)) := ⟨_, rfl⟩
    rw [← hw2s] at hAs
    have b2 : Boxed w2s q 50 (.pointer (some ⟨g, 0, none⟩)) := by rw [hw2s]; exact b1.set _
    have hx2 : w2s.cell? ⟨g, 0, none⟩ = some (.int .i64 n) := by rw [hw2s, World.cell?_setCell_other _ _ _ _ (by intro e; have := congrArg Addr.block e; simp only at this; omega)]; exact (hb2.cell (p := ⟨g, 0, none⟩) hgq).trans HX.out
    have hy2 : w2s.cell? ⟨g, 1, none⟩ = some (.iface 22 (.int .i64 20)) := by rw [hw2s, World.cell?_setCell_other _ _ _ _ (by intro e; have := congrArg Addr.block e; simp only at this; omega)]; exact (hb2.cell (p := ⟨g, 1, none⟩) hgq).trans HX1.out
    have hzs : w2s.heap.size = q + 1 := by rw [hw2s]; simp [hz2]
    have hbs : Below q w1 w2s := by rw [hw2s]; exact hb2.setCell (p := ⟨q, 0, none⟩) (Nat.le_refl _) _
    have hbz : Below w.heap.size w w2s := HB.out.trans (hbs.mono (by rw [hq]; exact HB.out.size))
    have HAS := Lib.hid hAs
    have HQ := Lib.hid hq
    have HB2 := Lib.hid hb2
    have BX2 := Lib.hid b2
    have HX2 := Lib.hid hx2
    have HY2 := Lib.hid hy2
    have HBS := Lib.hid hbs
    have HBZ := Lib.hid hbz
    have HWS := Lib.hid hw2s
    have BX1 := Lib.hid b1
    have HZ2 := Lib.hid hz2
    have HZS := Lib.hid hzs
    have HG2b := Lib.hid hg2
    clear hAs hq hb2 b2 hx2 hy2 hbs hbz hw2s b1 hz2 hzs hg2
    refine HAS.out.mono ?_
    rintro e w3 ⟨rfl, h3⟩
    have b3 : Boxed w3 q 50 (.pointer (some ⟨g, 0, none⟩)) := (h3.block q (by rw [HZ2.out]; omega)).trans BX2.out
    have hx3 : w3.cell? ⟨g, 0, none⟩ = some (.int .i64 n) := (h3.cell (p := ⟨g, 0, none⟩) (by rw [HZ2.out]; simp; omega)).trans HX2.out
    have hy3 : w3.cell? ⟨g, 1, none⟩ = some (.iface 22 (.int .i64 20)) := (h3.cell (p := ⟨g, 1, none⟩) (by rw [HZ2.out]; simp; omega)).trans HY2.out
    have hb3 : Below w.heap.size w w3 := HBZ.out.trans (h3.mono (by rw [HZ2.out]; have := HB.out.size; have := HQ.out; omega))
    have c3 := b3.cell
    have HB3 := Lib.hid hb3
    have BX3 := Lib.hid b3
    have HH3 := Lib.hid h3
    clear hb3 b3 h3
    go_wp2_with (go_at_call 27; refine (As.is_trouble g w3 hy3).mono ?_; rintro e w4 ⟨rfl, rfl⟩)
    go_region_with_o (fail)
    all_goals go_wp2
    all_goals go_ret3
    all_goals unfold DecRes
    all_goals rw [HRF.out]
    all_goals first | exact ⟨rfl, HB3.out⟩ | exact ⟨rfl, HB3.out.drew⟩
end Go.Proofs.YtkjghjffdjjedaaDoor.Enc
