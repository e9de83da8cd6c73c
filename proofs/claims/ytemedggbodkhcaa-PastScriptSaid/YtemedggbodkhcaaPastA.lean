/- past: New, Len, Floor; a copy of entries (slices.Clone). -/
import Derived.Test.YtemedggbodkhcaaPushNo
set_option linter.unusedVariables false
set_option linter.unusedSimpArgs false
namespace Go.Proofs.Ytemedggbodkhcaa.Past
open Go.RowKit Go.Proofs.YtemedggbodkhcaaW.PrintWords Go.Proofs.YtemedggbodkhcaaW.PrintLast

set_option maxHeartbeats 1000000 in
set_option maxRecDepth 100000 in
theorem new_at (w : World) (B : Nat) (hB : B ≤ w.heap.size) : Calls Try.prog 8 #[] w fun x w' => ∃ g, x = .returned (.pointer (some ⟨g, 0, none⟩)) ∧ PastAt w' B g none 0 0 [] ∧ Below w.heap.size w w' ∧ w.heap.size ≤ g := by
  have hu65 := Try.underlying65
  have h0 : PastAt (w.alloc (.cells #[.int .i64 0, .slice none 0 0] 65)) B w.heap.size none 0 0 [] := ⟨blk_new' _ _, World.ownsRow_nil _ _ _ _, hB, by simp⟩
  have hb := (Below.refl w.heap.size w).alloc (Nat.le_refl _) (.cells #[.int .i64 0, .slice none 0 0] 65)
  have H0 := Lib.hid h0
  have HB := Lib.hid hb
  clear h0 hb
  go_enter Try.func8, Try.ntmps8
  go_wp2
  go_ret
  exact ⟨_, rfl, H0.out, HB.out, Nat.le_refl _⟩
set_option maxHeartbeats 1000000 in
set_option maxRecDepth 100000 in
theorem len_at (w : World) (B g : Nat) (A : Option Addr) (c : Nat) (fl : Int) (L : List Ent) (h : PastAt w B g A c fl L) : Calls Try.prog 11 #[.pointer (some ⟨g, 0, none⟩)] w fun x w' => x = .returned (.int .i64 L.length) ∧ w' = w := by
  have hu65 := Try.underlying65
  have c1 := mcell h.1 1
  simp at c1
  clear h
  go_enter Try.func11, Try.ntmps11
  go_wp2
  go_ret
  trivial
set_option maxHeartbeats 1000000 in
set_option maxRecDepth 100000 in
theorem floor_at (w : World) (B g : Nat) (A : Option Addr) (c : Nat) (fl : Int) (L : List Ent) (h : PastAt w B g A c fl L) : Calls Try.prog 12 #[.pointer (some ⟨g, 0, none⟩)] w fun x w' => x = .returned (.int .i64 fl) ∧ w' = w := by
  have hu65 := Try.underlying65
  have c0 := mcell h.1 0
  simp at c0
  clear h
  go_enter Try.func12, Try.ntmps12
  go_wp2
  go_ret
  trivial
/-- a slice of entries that can be read: its cells -/
def RdE (w : World) (A : Option Addr) (n : Nat) (cs : List Value) : Prop := cs.length = n * 10 ∧ (0 < n → ∃ ad, A = some ad ∧ ∀ j u, cs[j]? = some u → w.cell? (ad.add j) = some u) ∧ ∀ u ∈ cs, u.oneCell' = true
theorem RdE.below {w w' : World} {A : Option Addr} {n : Nat} {cs : List Value} (h : RdE w A n cs) (hb : Below w.heap.size w w') : RdE w' A n cs :=
  ⟨h.1, fun hn => by obtain ⟨ad, e, h4⟩ := h.2.1 hn; exact ⟨ad, e, fun j u hj => pw_cell_below hb (h4 j u hj)⟩, h.2.2⟩
set_option maxHeartbeats 2000000 in
set_option maxRecDepth 100000 in
theorem clone30 (ad : Addr) (n c : Nat) (cs : List Value) (w : World) (h : RdE w (some ad) n cs) (hn : n ≤ 64) :
    Calls Try.prog 30 #[.slice (some ad) n c] w fun x w' => ∃ A' c', x = .returned (.slice A' n c') ∧ w'.ownsRow w.heap.size 32 10 (.slice A' n c') n cs ∧ Below w.heap.size w w' := by
  obtain ⟨i0, hi, hz0, hz1, hz2⟩ := info_parts info32
  have q35 : ∀ (W : World) (a : Option Addr) (n c n' c' : Nat), (binOp .eql 35 (.slice a n c) (.slice none n' c')).run Try.prog W = .ok (.bool a.isNone) W := fun W a n c n' c' => Lib.run_eql_slice_nil W _ _ a n c n' c' Try.underlying35
  have hb := (Below.refl w.heap.size w).alloc (Nat.le_refl _) (.cells #[] 32)
  have ho := World.ownsRow_lit (base := w.heap.size) (e := 32) (size := 10) w #[] 0 (Nat.le_refl _) (by unfold maxLen; omega) rfl
  have h4 : ∀ j u, cs[j]? = some u → w.cell? (ad.add j) = some u := by
    intro j u hj
    have hlt := (List.getElem?_eq_some_iff.1 hj).1
    obtain ⟨ad', e, h4⟩ := h.2.1 (by have := h.1; omega)
    cases e
    exact h4 j u hj
  have h1 := h.1
  have h3 := h.2.2
  clear h
  go_enter Try.func30, Try.ntmps30
  go_wp2_with (at_builtin; refine wpList_append_own _ rfl (.tmp 5) (.tmp 6) 35 rfl w.heap.size 32 i0 _ 10 96 Try.underlying35 hi hz0 hz1 hz2 rfl (by decide) (.slice (some ⟨w.heap.size, 0, none⟩) 0 0) 0 [] rfl ho ad n c cs rfl h1 (fun j u hj => pw_cell_below hb (h4 j u hj)) h3 (by unfold maxLen; omega) (by omega) (by simp) ?_; intro v1 w1 hown hg hn)
  go_ret
  have hf : ∃ A' c', v1 = .slice A' n c' := by
    rcases hown.2 with ⟨rfl, h0⟩ | ⟨g, cap, cur, rfl, _⟩
    · exact ⟨none, 0, by congr 1; omega⟩
    · exact ⟨_, _, by congr 1; omega⟩
  obtain ⟨A', c', rfl⟩ := hf
  exact ⟨A', c', rfl, by simpa using hown, hb.grown hg (by simp) (fun k hk => by cases hk; exact Nat.le_refl _)⟩
set_option maxHeartbeats 2000000 in
set_option maxRecDepth 100000 in
theorem clone30_nil (w : World) (n c : Nat) : Calls Try.prog 30 #[.slice none n c] w fun x w' => x = .returned (.slice none 0 0) ∧ w' = w := by
  have q35 : ∀ (W : World) (a : Option Addr) (n c n' c' : Nat), (binOp .eql 35 (.slice a n c) (.slice none n' c')).run Try.prog W = .ok (.bool a.isNone) W := fun W a n c n' c' => Lib.run_eql_slice_nil W _ _ a n c n' c' Try.underlying35
  go_enter Try.func30, Try.ntmps30
  go_wp2
  go_ret
  trivial
end Go.Proofs.Ytemedggbodkhcaa.Past
