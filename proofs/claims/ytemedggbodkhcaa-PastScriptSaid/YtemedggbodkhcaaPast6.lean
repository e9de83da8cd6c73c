/- keys in order (plain); past: Last in one word; an entry against a key, in one word. -/
import Derived.Test.YtemedggbodkhcaaPast5
set_option linter.unusedVariables false
set_option linter.unusedSimpArgs false
namespace Go.Proofs.Ytemedggbodkhcaa.Past
open Go.RowKit Go.Proofs.YtemedggbodkhcaaW.PrintWords Go.Proofs.YtemedggbodkhcaaW.PrintLast Go.Proofs.Ytemedggbodkhcaa.XPastParts
def kc (a0 a1 a2 b0 b1 b2 : Int) : Int := if a0 < b0 then -1 else if b0 < a0 then 1 else if a1 < b1 then -1 else if b1 < a1 then 1 else if a2 < b2 then -1 else if b2 < a2 then 1 else 0
theorem kc_range (a0 a1 a2 b0 b1 b2 : Int) : kc a0 a1 a2 b0 b1 b2 = -1 ∨ kc a0 a1 a2 b0 b1 b2 = 0 ∨ kc a0 a1 a2 b0 b1 b2 = 1 := by unfold kc; omega
theorem kc_neg (a0 a1 a2 b0 b1 b2 : Int) : kc b0 b1 b2 a0 a1 a2 = - kc a0 a1 a2 b0 b1 b2 := by unfold kc; omega
theorem kc_lt (a0 a1 a2 b0 b1 b2 : Int) : kc a0 a1 a2 b0 b1 b2 < 0 ↔ (a0 < b0 ∨ (a0 = b0 ∧ (a1 < b1 ∨ (a1 = b1 ∧ a2 < b2)))) := by unfold kc; omega
theorem kc_le (a0 a1 a2 b0 b1 b2 : Int) : kc a0 a1 a2 b0 b1 b2 ≤ 0 ↔ (a0 < b0 ∨ (a0 = b0 ∧ (a1 < b1 ∨ (a1 = b1 ∧ a2 ≤ b2)))) := by unfold kc; omega
theorem kc_zero (a0 a1 a2 b0 b1 b2 : Int) : kc a0 a1 a2 b0 b1 b2 = 0 ↔ (a0 = b0 ∧ a1 = b1 ∧ a2 = b2) := by unfold kc; omega
theorem compare_eq (a b : Int) : cmp_Compare_int.f a b = some (if a < b then -1 else if a > b then 1 else 0) := by
  unfold cmp_Compare_int.f cmp_isNaN_int.f
  simp only [bne_self_eq_false, Option.bind_some, Bool.false_eq_true, if_false]
  split
  · rfl
  · split <;> rfl
theorem or_eq (x y z : Int) (k : Nat) : cmp_Or_int.f (k + 4) [x, y, z] = some (if x = 0 then (if y = 0 then z else y) else x) := by
  unfold cmp_Or_int.f
  have e1 : wrap64 ((0 : Int) + 1) = 1 := by unfold wrap64; omega
  have e2 : wrap64 ((1 : Int) + 1) = 2 := by unfold wrap64; omega
  have e3 : wrap64 ((2 : Int) + 1) = 3 := by unfold wrap64; omega
  have r0 : rd [x, y, z] 0 = x := rfl
  have r1 : rd [x, y, z] 1 = y := rfl
  have r2 : rd [x, y, z] 2 = z := rfl
  have hlen : (([x, y, z].length : Nat) : Int) = 3 := rfl
  generalize [x, y, z] = l at *
  rw [hlen]
  have st : ∀ (k : Nat) (i : Int), 0 ≤ i → i < 3 → cmp_Or_int.l0 (k + 1) 0 l 3 i = if rd l i = 0 then cmp_Or_int.l0 k 0 l 3 (wrap64 (i + 1)) else some (rd l i) := by
    intro k i h0 h1
    simp only [cmp_Or_int.l0]
    rw [if_pos h1, if_pos h0, hlen, if_pos h1]
  have s3 : ∀ k : Nat, cmp_Or_int.l0 (k + 1) 0 l 3 3 = some 0 := by
    intro k
    simp only [cmp_Or_int.l0]
    rw [if_neg (by omega)]
  rw [st (k + 3) 0 (by omega) (by omega), e1, st (k + 2) 1 (by omega) (by omega), e2, st (k + 1) 2 (by omega) (by omega), e3, s3 k, r0, r1, r2]
  by_cases hx : x = 0
  · rw [if_pos hx, if_pos hx]
    by_cases hy : y = 0
    · rw [if_pos hy, if_pos hy]
      by_cases hz : z = 0
      · rw [if_pos hz, hz]
      · rw [if_neg hz]
    · rw [if_neg hy, if_neg hy]
  · rw [if_neg hx, if_neg hx]
theorem cmp_eq (a0 a1 a2 b0 b1 b2 : Int) (k : Nat) : vtime_Cmp.f (k + 4) a0 a1 a2 b0 b1 b2 = some (kc a0 a1 a2 b0 b1 b2) := by
  unfold vtime_Cmp.f
  simp only [compare_eq, Option.bind_some, or_eq]
  congr 1
  unfold kc
  omega


theorem ahead_at (e : Ent) (k0 k1 k2 : Int) (w : World) : Calls Try.prog 26 #[e.val, .agg #[.int .i64 k0, .int .i64 k1, .int .i64 k2]] w fun x w' => x = .returned (.bool (decide (kc e.t e.f e.s k0 k1 k2 < 0))) ∧ Below w.heap.size w w' :=
  ahead26 4 _ _ _ _ _ _ _ _ _ _ _ _ _ _ _ _ w (by rw [cmp_eq _ _ _ _ _ _ 0]; rfl)
theorem early_at (e : Ent) (k0 k1 k2 : Int) (w : World) : Calls Try.prog 29 #[e.val, .agg #[.int .i64 k0, .int .i64 k1, .int .i64 k2]] w fun x w' => x = .returned (.bool (decide (e.t < k0))) ∧ Below w.heap.size w w' :=
  early29 _ _ _ _ _ _ _ _ _ _ _ _ _ _ _ _ w rfl
/-- the messages of all entries can be read -/
def Rds (w : World) (L : List Ent) : Prop := ∀ e ∈ L, ∃ ms, Rd w e.o ms
theorem last_at (w : World) (B g : Nat) (A : Option Addr) (c : Nat) (fl : Int) (L : List Ent) (h : PastAt w B g A c fl L) (hr : Rds w L) :
    Calls Try.prog 22 #[.pointer (some ⟨g, 0, none⟩)] w fun x w' => ∃ e1 : Ent, x = .returned (.tuple #[e1.val, .bool (!L.isEmpty)]) ∧ (∀ e, L.getLast? = some e → e1.t = e.t ∧ e1.f = e.f ∧ e1.s = e.s) ∧ Below w.heap.size w w' := by
  cases hl : L.getLast? with
  | none =>
    have : L = [] := by simpa using hl
    subst this
    refine (last_none w B g A c fl h).mono ?_
    rintro x w' ⟨rfl, hb⟩
    exact ⟨⟨0, 0, 0, 0, 0, 0, 0, 0, 0, none, 0, 0⟩, rfl, (fun e h => by cases h), hb⟩
  | some e =>
    have hm : e ∈ L := List.mem_of_getLast? hl
    have hne : L.isEmpty = false := by cases L <;> simp at hl ⊢
    obtain ⟨ms, hms⟩ := hr e hm
    refine (last_some w B g A c fl L h e hl ms hms).mono ?_
    rintro x w' ⟨a, n, c, rfl, _, hb, _⟩
    exact ⟨{ e with oa := a, on_ := n, oc := c }, by rw [hne]; rfl, (fun e' h => by cases h; exact ⟨rfl, rfl, rfl⟩), hb⟩
end Go.Proofs.Ytemedggbodkhcaa.Past
