/- past: an entry's cells, a copy of its messages (slices.Clone), own. -/
import Derived.Test.YtemedggbodkhcaaXPastPartsx1
import Derived.Lib.Hide
import Derived.Lib.SliceRun
import Derived.Outline
set_option linter.unusedVariables false
set_option linter.unusedSimpArgs false
namespace Go.Proofs.Ytemedggbodkhcaa.Past
open Go.RowKit Go.Proofs.YtemedggbodkhcaaW.PrintWords Go.Proofs.YtemedggbodkhcaaW.PrintLast

/-- an entry: its numbers, and the slice of its messages -/
structure Ent where
  t : Int
  f : Int
  s : Int
  d : Int
  cl : Int
  bd : Int
  ah : Int
  se : Int
  st : Int
  oa : Option Addr
  on_ : Nat
  oc : Nat
def Ent.o (e : Ent) : Value := .slice e.oa e.on_ e.oc
def Ent.cells (e : Ent) : List Value := [.int .i64 e.t, .int .i64 e.f, .int .i64 e.s, .int .i64 e.d, .int .i64 e.cl, .int .i64 e.bd, .int .i64 e.ah, .int .i64 e.se, .int .i64 e.st, .slice e.oa e.on_ e.oc]
def Ent.val (e : Ent) : Value := .agg #[.int .i64 e.t, .int .i64 e.f, .int .i64 e.s, .int .i64 e.d, .int .i64 e.cl, .int .i64 e.bd, .int .i64 e.ah, .int .i64 e.se, .int .i64 e.st, .slice e.oa e.on_ e.oc]
/-- a message's six cells -/
def mcells (m : List Int) : List Value := m.map (.int .i64)
/-- what a slice of messages reads as: a list of cells, six for each -/
def Rd (w : World) (o : Value) (ms : List Value) : Prop :=
  ((∃ c, o = .slice none 0 c) ∧ ms = []) ∨ ∃ ad n c, o = .slice (some ad) n c ∧ ms.length = n * 6 ∧ (n ≤ 140737488355 ∧ n ≤ c) ∧ (∀ u ∈ ms, u.oneCell' = true) ∧ ∀ j u, ms[j]? = some u → w.cell? (ad.add j) = some u
theorem Rd.form {w : World} {o : Value} {ms : List Value} (h : Rd w o ms) : ∃ a n c, o = .slice a n c := by
  rcases h with ⟨⟨_, rfl⟩, _⟩ | ⟨ad, n, c, rfl, _⟩
  · exact ⟨_, _, _, rfl⟩
  · exact ⟨_, _, _, rfl⟩
theorem Rd.below {w w' : World} {o : Value} {ms : List Value} (h : Rd w o ms) (hb : Below w.heap.size w w') : Rd w' o ms := by
  rcases h with h | ⟨ad, n, c, e, h1, h2, h3, h4⟩
  · exact .inl h
  · exact .inr ⟨ad, n, c, e, h1, h2, h3, fun j u hj => pw_cell_below hb (h4 j u hj)⟩
theorem Rd.kept {w w' : World} {S : Nat → Prop} {o : Value} {ms : List Value} (h : Rd w o ms) (hk : Kept w w' S) (hS : ∀ k, o.ownBlock = some k → ¬ S k) : Rd w' o ms := by
  rcases h with h | ⟨ad, n, c, e, h1, h2, h3, h4⟩
  · exact .inl h
  · subst e
    exact .inr ⟨ad, n, c, rfl, h1, h2, h3, fun j u hj => cell_kept (h4 j u hj) hk (hS _ (by unfold Addr.add; split <;> rfl))⟩
theorem rd_own {w : World} {B n : Nat} {v : Value} {ms : List Value} (h : w.ownsRow B 29 6 v n ms) (h3 : ∀ u ∈ ms, u.oneCell' = true) (hn : n ≤ 140737488355) : Rd w v ms := by
  have hl := h.1
  rcases h.2 with ⟨rfl, rfl⟩ | ⟨g, cap, cur, rfl, _, _, hnc, _⟩
  · left; exact ⟨⟨_, rfl⟩, List.eq_nil_of_length_eq_zero (by omega)⟩
  · right
    exact ⟨⟨g, 0, none⟩, n, cap, rfl, hl, ⟨hn, hnc⟩, h3, fun j u hj => h.cells rfl j u hj⟩
theorem info29 : (Try.prog.info? 29).map (fun i => (i.zero, i.size, i.bytes)) = some (some (.agg #[.int .i64 0, .int .i64 0, .int .i64 0, .int .i64 0, .int .i64 0, .int .i64 0]), 6, 48) := by kernel_rfl
theorem info32 : (Try.prog.info? 32).map (fun i => (i.zero, i.size, i.bytes)) = some (some (.agg #[.int .i64 0, .int .i64 0, .int .i64 0, .int .i64 0, .int .i64 0, .int .i64 0, .int .i64 0, .int .i64 0, .int .i64 0, .slice none 0 0]), 10, 96) := by kernel_rfl

set_option maxHeartbeats 2000000 in
set_option maxRecDepth 100000 in
theorem clone33 (o : Value) (ms : List Value) (w : World) (h : Rd w o ms) :
    Calls Try.prog 33 #[o] w fun e w' => ∃ o', e = .returned o' ∧ Rd w' o' ms ∧ Below w.heap.size w w' ∧ (∀ k, o'.ownBlock = some k → w.heap.size ≤ k) ∧ (o = .slice none 0 0 → o' = .slice none 0 0) := by
  obtain ⟨i0, hi, hz0, hz1, hz2⟩ := info_parts info29
  have q30 : ∀ (W : World) (a : Option Addr) (n c n' c' : Nat), (binOp .eql 30 (.slice a n c) (.slice none n' c')).run Try.prog W = .ok (.bool a.isNone) W := fun W a n c n' c' => Lib.run_eql_slice_nil W _ _ a n c n' c' Try.underlying30
  rcases h with ⟨⟨c0, rfl⟩, rfl⟩ | ⟨ad, n, c, rfl, h1, h2, h3, h4⟩
  · go_enter Try.func33, Try.ntmps33
    go_wp2
    go_ret
    exact ⟨_, rfl, .inl ⟨⟨_, rfl⟩, rfl⟩, Below.refl _ _, (fun k h => by simp [Value.ownBlock] at h), fun _ => rfl⟩
  · have hb := (Below.refl w.heap.size w).alloc (Nat.le_refl _) (.cells #[] 29)
    have ho := World.ownsRow_lit (base := w.heap.size) (e := 29) (size := 6) w #[] 0 (Nat.le_refl _) (by unfold maxLen; omega) rfl
    go_enter Try.func33, Try.ntmps33
    go_wp2_with (at_builtin; go_loud (refine wpList_append_own _ rfl (.tmp 5) (.tmp 6) 30 rfl w.heap.size 29 i0 _ 6 48 Try.underlying30 hi hz0 hz1 hz2 rfl (by decide) (.slice (some ⟨w.heap.size, 0, none⟩) 0 0) 0 [] rfl ho ad n c ms rfl h1 (fun j u hj => pw_cell_below hb (h4 j u hj)) h3 (by unfold maxLen; omega) (by omega) (by simp) ?_); intro v1 w1 hown hg hn)
    go_ret
    exact ⟨_, rfl, rd_own (by simpa using hown) h3 h2.1, hb.grown hg (by simp) (fun k hk => by cases hk; exact Nat.le_refl _), own_base hown⟩
end Go.Proofs.Ytemedggbodkhcaa.Past
