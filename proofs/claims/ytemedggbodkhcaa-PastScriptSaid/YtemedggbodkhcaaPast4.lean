/- past: Last of an empty past. -/
import Derived.Test.YtemedggbodkhcaaPast3
set_option linter.unusedVariables false
set_option linter.unusedSimpArgs false
namespace Go.Proofs.Ytemedggbodkhcaa.Past
open Go.RowKit Go.Proofs.YtemedggbodkhcaaW.PrintWords Go.Proofs.YtemedggbodkhcaaW.PrintLast
set_option maxHeartbeats 400000 in
set_option maxRecDepth 100000 in
theorem last_none (w : World) (B g : Nat) (A : Option Addr) (c : Nat) (fl : Int) (h : PastAt w B g A c fl []) :
    Calls Try.prog 22 #[.pointer (some ⟨g, 0, none⟩)] w fun x w' => x = .returned (.tuple #[.agg #[.int .i64 0, .int .i64 0, .int .i64 0, .int .i64 0, .int .i64 0, .int .i64 0, .int .i64 0, .int .i64 0, .int .i64 0, .slice none 0 0], .bool false]) ∧ Below w.heap.size w w' := by
  have hu32 := Try.underlying32
  have hu65 := Try.underlying65
  have hu35 := Try.underlying35
  have hg := h.1
  have hgo := blk_old' (Go.Obj.cells #[Go.Value.int Go.IntKind.i64 0, Go.Value.int Go.IntKind.i64 0, Go.Value.int Go.IntKind.i64 0, Go.Value.int Go.IntKind.i64 0, Go.Value.int Go.IntKind.i64 0, Go.Value.int Go.IntKind.i64 0, Go.Value.int Go.IntKind.i64 0, Go.Value.int Go.IntKind.i64 0, Go.Value.int Go.IntKind.i64 0, Go.Value.slice none 0 0] 32) hg
  have hgn := blk_new' w (Go.Obj.cells #[Go.Value.int Go.IntKind.i64 0, Go.Value.int Go.IntKind.i64 0, Go.Value.int Go.IntKind.i64 0, Go.Value.int Go.IntKind.i64 0, Go.Value.int Go.IntKind.i64 0, Go.Value.int Go.IntKind.i64 0, Go.Value.int Go.IntKind.i64 0, Go.Value.int Go.IntKind.i64 0, Go.Value.int Go.IntKind.i64 0, Go.Value.slice none 0 0] 32)
  have c0 := mcell hgo 0
  have c1 := mcell hgo 1
  have z3 := mfrozen hgn
  have b0 := mcell hgn 0
  have b1 := mcell hgn 1
  have b2 := mcell hgn 2
  have b3 := mcell hgn 3
  have b4 := mcell hgn 4
  have b5 := mcell hgn 5
  have b6 := mcell hgn 6
  have b7 := mcell hgn 7
  have b8 := mcell hgn 8
  have b9 := mcell hgn 9
  simp at c0 c1 b0 b1 b2 b3 b4 b5 b6 b7 b8 b9
  have hBW := Lib.hid ((Below.refl w.heap.size w).alloc (Nat.le_refl _) (Go.Obj.cells #[Go.Value.int Go.IntKind.i64 0, Go.Value.int Go.IntKind.i64 0, Go.Value.int Go.IntKind.i64 0, Go.Value.int Go.IntKind.i64 0, Go.Value.int Go.IntKind.i64 0, Go.Value.int Go.IntKind.i64 0, Go.Value.int Go.IntKind.i64 0, Go.Value.int Go.IntKind.i64 0, Go.Value.int Go.IntKind.i64 0, Go.Value.slice none 0 0] 32))
  have hgn' := Lib.hid hgn
  clear hgn hgo hg h
  go_enter Try.func22, Try.ntmps22
  go_wp2
  exact bodyPost_ret (v := .tuple #[.agg #[.int .i64 0, .int .i64 0, .int .i64 0, .int .i64 0, .int .i64 0, .int .i64 0, .int .i64 0, .int .i64 0, .int .i64 0, .slice none 0 0], .bool false]) (by simp [results, Try.f22, go_sem, b0, b1, b2, b3, b4, b5, b6, b7, b8, b9]) rfl ⟨rfl, hBW.out⟩
end Go.Proofs.Ytemedggbodkhcaa.Past
