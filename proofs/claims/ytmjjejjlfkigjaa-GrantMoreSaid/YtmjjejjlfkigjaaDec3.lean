/- grant.Decide of the given program at kind 3, walked. -/
import Derived.Test.YtmjjejjlfkigjaaPlain
namespace Go.Proofs.Ytmjjejjlfkigjaa.Ext
open Go.RowKit Go.Proofs.YtmjjejjlfkigjaaW.PrintWords Go.Proofs.YtmjjejjlfkigjaaW.PrintLast Go.Proofs.YtmjjejjlfkigjaaW.PrintMore Go.Proofs.Ytmjjejjlfkigjaa.Plain
attribute [local go_sem] max2_int min2_int max_two min_two max_three min_three max_four min_four

set_option maxHeartbeats 2000000 in
set_option maxRecDepth 100000 in
theorem decide3_nil (A4 : Option Addr) (c4 : Nat) (a1 a2 a3 m r : Int) (w : World) (hm : (if a3 < a1 then a3 else a1) = m) (hr : (if a2 < m then m else a2) = r) :
    Calls Try.prog 10 #[.int .i64 3, .int .i64 a1, .int .i64 a2, .int .i64 a3, .slice A4 0 c4] w fun e w' => e = .returned (.tuple #[.bool true, .int .i64 r, .int .i64 0]) ∧ Below w.heap.size w w' := by
  go_enter Try.func10, Try.ntmps10
  go_wp2
  go_loop [13, 47] (fun s i => i = .int .i64 0 ∧ s = .int .i64 m) (fun _ _ => 0)
  case atStart => exact ⟨rfl, rfl⟩
  case round =>
    obtain ⟨rfl, rfl⟩ := hrel
    go_wp2
    go_ret3
    exact ⟨rfl, Below.refl _ _⟩
set_option maxHeartbeats 2000000 in
set_option maxRecDepth 100000 in
theorem decide3_cons (A4 : Addr) (n c4 : Nat) (a1 a2 a3 m x m2 r : Int) (w : World) (hn : 0 < n) (hc : n ≤ c4) (hl : n ≤ 4096) (hcell : w.cell? A4 = some (.int .i64 x)) (hm : (if a3 < a1 then a3 else a1) = m) (hm2 : (if x < m then x else m) = m2) (hr : (if a2 < m2 then m2 else a2) = r) :
    Calls Try.prog 10 #[.int .i64 3, .int .i64 a1, .int .i64 a2, .int .i64 a3, .slice (some A4) n c4] w fun e w' => e = .returned (.tuple #[.bool true, .int .i64 r, .int .i64 n]) ∧ Below w.heap.size w w' := by
  have h1 : (if 1 < (n : Int) then 1 else (n : Int)) = 1 := by split <;> omega
  have hc1 : (1 : Int) ≤ (c4 : Int) := by omega
  go_enter Try.func10, Try.ntmps10
  go_wp2
  go_loop [13, 47] (fun s i => (i = .int .i64 0 ∧ s = .int .i64 m) ∨ (i = .int .i64 1 ∧ s = .int .i64 m2)) (fun _ i => 1 - (intOf i).toNat)
  case atStart => exact Or.inl ⟨rfl, rfl⟩
  case round =>
    rcases hrel with ⟨rfl, rfl⟩ | ⟨rfl, rfl⟩
    · go_wp2
      go_round
      case rel => exact Or.inr ⟨rfl, rfl⟩
      case measure => simp [intOf]
    · go_wp2
      go_ret3
      exact ⟨rfl, Below.refl _ _⟩
end Go.Proofs.Ytmjjejjlfkigjaa.Ext
