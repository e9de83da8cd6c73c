/- lines: what the listed variables hold, for the walks. -/
import Derived.Test.YtbgadcaomklbkaaDoorNumW
import Derived.Test.YtbgadcaomklbkaaDoorRows
import Derived.Lib.LaidTab
import Derived.LaidHandle
import Derived.LaidLaws
import Derived.MakeChecks
import Derived.Stop.LaidErr
import Derived.OpenShut
set_option linter.unusedVariables false
set_option linter.unusedSimpArgs false
namespace Go.Proofs.YtbgadcaomklbkaaDoor.As
open Go Go.RowKit Go.Lib
theorem star : "*" ++ "errors.errorString" = "*errors.errorString" := by decide
theorem row124 (u : TypeId) (h : Tryd.prog.typeName? 3 u = some "*errors.errorString") : u = 124 :=
  typeName_ptr_named (nm := "errors.errorString") (by rw [star]; kernel_rfl) (by kernel_rfl) (by decide) u (by rw [star]; exact h)
/-- of the list of LinesNumbers: the table of powers, the two errors -/
theorem env_of_laid {W : World} (h : laidMetH Tryd.prog Rows.linesNumbersRow.laid W) : EnvN W := by
  rw [MakeChecks.laidMetH_plain _ _ _ (by kernel_rfl)] at h
  have h3 := (laidMet.tail (laidMet.tail h))
  have h4 := laidMet.tail h3
  have h5 := laidMet.tail h4
  refine ⟨tabIs_of_head (g := 3) (t := 129) (e := 108) (n := 20) (by kernel_rfl) (by kernel_rfl) Tryd.underlying129 Tryd.underlying108 (by kernel_rfl) (by kernel_rfl) h3, ?_, ?_⟩
  · obtain ⟨a, s, hv, _⟩ := laid_sentinel (g := 1) (ti := 38) (tp := 124) (te := 126) (ts := 9) h5 (by kernel_rfl) (by kernel_rfl) Tryd.underlying38 row124 Tryd.underlying124 Tryd.underlying126 rfl rfl Tryd.underlying9 (by kernel_rfl) (by kernel_rfl)
    exact ⟨_, by simpa using World.var?_cell (g := 1) (by kernel_rfl) hv 0, .inr ⟨_, _, rfl⟩⟩
  · obtain ⟨a, s, hv, _⟩ := laid_sentinel (g := 2) (ti := 38) (tp := 124) (te := 126) (ts := 9) h4 (by kernel_rfl) (by kernel_rfl) Tryd.underlying38 row124 Tryd.underlying124 Tryd.underlying126 rfl rfl Tryd.underlying9 (by kernel_rfl) (by kernel_rfl)
    exact ⟨_, by simpa using World.var?_cell (g := 2) (by kernel_rfl) hv 0, .inr ⟨_, _, rfl⟩⟩
theorem numbers_row (n : Int) (s : ByteArray) (W : World) (wn : (Lit.int .i64 n).wf = true) (hs : s.size ≤ 140737488351232) (h : EnvN W) :
    Calls Tryd.prog 3 #[.int .i64 n, .string s] W fun x w' => x = .returned (.bool true) ∧ Below W.heap.size W w' := by
  have := bounds_i64 wn
  exact numbers_walk n s W (by omega) (by omega) h
end Go.Proofs.YtbgadcaomklbkaaDoor.As
