/- sort.Search of the given program's library, with a closure that may make memory. -/
import Derived.Test.YtemedggbodkhcaaPastA
import Derived.Deep.LoopGhost
set_option linter.unusedVariables false
set_option linter.unusedSimpArgs false
namespace Go.Proofs.Ytemedggbodkhcaa.Past
open Go.RowKit Go.Proofs.YtemedggbodkhcaaW.PrintWords Go.Proofs.YtemedggbodkhcaaW.PrintLast

set_option maxHeartbeats 4000000 in
set_option maxRecDepth 100000 in
theorem search34 (cb : Array Value) (n : Nat) (p : Nat → Bool) (w : World) (hsz : n < 4611686018427387904)
    (hf : ∀ (W : World) (i : Nat), Below w.heap.size w W → i < n → Calls Try.prog 35 (#[.int .i64 i] ++ cb) W fun e w' => e = .returned (.bool (p i)) ∧ Below W.heap.size W w')
    (hmono : ∀ a b, a ≤ b → b < n → p a = true → p b = true) :
    Calls Try.prog 34 #[.int .i64 n, .func (.func 35) #[] cb] w fun e w' => ∃ k : Nat, e = .returned (.int .i64 k) ∧ k ≤ n ∧ (∀ t, t < k → p t = false) ∧ (∀ t, k ≤ t → t < n → p t = true) ∧ Below w.heap.size w w' := by
  have HF := Aside0.mk hf
  have M := Aside0.mk hmono
  clear hf hmono
  go_enter Try.func34, Try.ntmps34
  go_wp2
  go_loopg [5, 6] n (fun kx s5 s6 wr => ∃ (lo hi : Nat), s5 = .int .i64 lo ∧ s6 = .int .i64 hi ∧ lo ≤ hi ∧ hi ≤ n ∧ hi - lo ≤ kx ∧
    Aside0 ((∀ t, t < lo → p t = false) ∧ (∀ t, hi ≤ t → t < n → p t = true) ∧ Below w.heap.size w wr))
  case atStart => exact ⟨0, n, rfl, rfl, Nat.zero_le _, Nat.le_refl _, by omega, ⟨fun t ht => absurd ht (Nat.not_lt_zero _), fun t h1 h2 => by omega, Below.refl _ _⟩⟩
  case round =>
    obtain ⟨lo, hi, rfl, rfl, hlh, hin, hg, I⟩ := hrel
    by_cases hlt : lo < hi
    · have hc := HF.out _ ((lo + hi) / 2) I.out.2.2 (by omega)
      rw [show (((lo + hi) / 2 : Nat) : Int) = ((lo : Int) + (hi : Int)) / 2 by omega] at hc
      cases hp : p ((lo + hi) / 2) <;> rw [hp] at hc
      · have HP := Aside0.mk hp
        clear hp
        have HC := Aside0.mk hc
        clear hc
        go_wp2_with (go_at_call 35; refine HC.out.mono ?_; rintro e w' ⟨rfl, hb⟩)
        go_roundg (hi - ((lo + hi) / 2 + 1))
        case measure => omega
        case rel =>
          have I2 : (∀ t, t < (lo + hi) / 2 + 1 → p t = false) ∧ (∀ t, hi ≤ t → t < n → p t = true) ∧ Below w.heap.size w w' := ⟨fun t ht => (by
            cases h : p t with
            | false => rfl
            | true => have := M.out t ((lo + hi) / 2) (by omega) (by omega) h; rw [HP.out] at this; cases this), I.out.2.1, I.out.2.2.trans (hb.mono I.out.2.2.size)⟩
          exact ⟨(lo + hi) / 2 + 1, hi, by rw [show ((lo : Int) + (hi : Int)) / 2 + 1 = (((lo + hi) / 2 + 1 : Nat) : Int) by omega], rfl, by omega, hin, Nat.le_refl _, ⟨I2⟩⟩
      · have HP := Aside0.mk hp
        clear hp
        have HC := Aside0.mk hc
        clear hc
        go_wp2_with (go_at_call 35; refine HC.out.mono ?_; rintro e w' ⟨rfl, hb⟩)
        go_roundg ((lo + hi) / 2 - lo)
        case measure => omega
        case rel =>
          have I2 : (∀ t, t < lo → p t = false) ∧ (∀ t, (lo + hi) / 2 ≤ t → t < n → p t = true) ∧ Below w.heap.size w w' := ⟨I.out.1, fun t ht htn => M.out ((lo + hi) / 2) t ht htn HP.out, I.out.2.2.trans (hb.mono I.out.2.2.size)⟩
          exact ⟨lo, (lo + hi) / 2, rfl, by rw [show ((lo : Int) + (hi : Int)) / 2 = (((lo + hi) / 2 : Nat) : Int) by omega], by omega, by omega, Nat.le_refl _, ⟨I2⟩⟩
    · obtain rfl : hi = lo := by omega
      go_wp2
      go_ret
      exact ⟨hi, rfl, hin, I.out.1, I.out.2.1, I.out.2.2⟩
end Go.Proofs.Ytemedggbodkhcaa.Past
