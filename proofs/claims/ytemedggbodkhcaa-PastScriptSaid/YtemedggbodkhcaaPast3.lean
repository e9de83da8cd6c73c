/- past: a past's memory; Last. -/
import Derived.Test.YtemedggbodkhcaaPast2
import Derived.StillTailTactics
set_option linter.unusedVariables false
set_option linter.unusedSimpArgs false
namespace Go.Proofs.Ytemedggbodkhcaa.Past
open Go.RowKit Go.Proofs.YtemedggbodkhcaaW.PrintWords Go.Proofs.YtemedggbodkhcaaW.PrintLast

theorem cell_al {w : World} {a : Addr} {v : Value} (h : w.cell? a = some v) (o : Obj) : (w.alloc o).cell? a = some v := pw_cell_below (below_alloc (Below.refl _ _) o) h
def flat (L : List Ent) : List Value := L.flatMap Ent.cells
theorem flat_len (L : List Ent) : (flat L).length = L.length * 10 := by
  induction L with
  | nil => rfl
  | cons e L ih => simp only [flat, List.flatMap_cons, List.length_append, List.length_cons] at ih ⊢; rw [ih]; simp [Ent.cells]; omega
theorem flat_at (L : List Ent) (i : Nat) (h : i < L.length) (j : Nat) (hj : j < 10) : (flat L)[i * 10 + j]? = (L[i].cells)[j]? := by
  induction L generalizing i with
  | nil => cases h
  | cons e L ih =>
    have hl : e.cells.length = 10 := rfl
    simp only [flat, List.flatMap_cons]
    cases i with
    | zero => rw [List.getElem?_append_left (by omega)]; simp
    | succ i =>
      rw [List.getElem?_append_right (by omega), show (i + 1) * 10 + j - e.cells.length = i * 10 + j by omega]
      simpa [flat] using ih i (by simpa using h)
/-- a past's memory: its own block at g, the row of its entries -/
def PastAt (w : World) (B g : Nat) (A : Option Addr) (c : Nat) (fl : Int) (L : List Ent) : Prop :=
  w.heap[g]? = some (.cells #[.int .i64 fl, .slice A L.length c] 65 (0, 0)) ∧ w.ownsRow B 32 10 (.slice A L.length c) L.length (flat L) ∧ B ≤ g ∧ L.length ≤ 64
theorem PastAt.cells {w : World} {B g : Nat} {A : Option Addr} {c : Nat} {fl : Int} {L : List Ent} (h : PastAt w B g A c fl L) (i : Nat) (hi : i < L.length) :
    ∃ b, A = some ⟨b, 0, none⟩ ∧ B ≤ b ∧ b < w.heap.size ∧ (∃ C, w.heap[b]? = some (.cells C 32 (0, 0))) ∧ ∀ j, j < 10 → w.cell? ⟨b, i * 10 + j, none⟩ = (L[i].cells)[j]? := by
  obtain ⟨b, cap, he, h1, h2⟩ := h.2.1.form (by omega)
  injection he with he
  subst he
  refine ⟨b, rfl, h1, h2, ?_, fun j hj => ?_⟩
  · rcases h.2.1.2 with ⟨e, _⟩ | ⟨b', cap', cur, e, _, hb, _⟩
    · cases e
    · cases e; exact ⟨_, hb⟩
  · have := h.2.1.cells rfl (i * 10 + j) (L[i].cells[j]'(by exact hj)) (by rw [flat_at L i hi j hj]; exact List.getElem?_eq_getElem _)
    rw [add_plain] at this
    rw [this]; exact (List.getElem?_eq_getElem _).symm
set_option maxHeartbeats 800000 in
set_option maxRecDepth 100000 in
theorem last_some (w : World) (B g : Nat) (A : Option Addr) (c : Nat) (fl : Int) (L : List Ent) (h : PastAt w B g A c fl L) (e : Ent) (he : L.getLast? = some e) (ms : List Value) (hr : Rd w e.o ms) :
    Calls Try.prog 22 #[.pointer (some ⟨g, 0, none⟩)] w fun x w' => ∃ a n c, x = .returned (.tuple #[({ e with oa := a, on_ := n, oc := c } : Ent).val, .bool true]) ∧ Rd w' (.slice a n c) ms ∧ Below w.heap.size w w' ∧ (e.o = .slice none 0 0 → (.slice a n c : Value) = .slice none 0 0) := by
  have hu32 := Try.underlying32
  have hu65 := Try.underlying65
  have hu35 := Try.underlying35
  have hpos : 0 < L.length := by cases L <;> simp at he ⊢
  have hle : L.getLast? = some (L[L.length - 1]'(by omega)) := by rw [List.getLast?_eq_getElem?]; exact List.getElem?_eq_getElem _
  rw [hle] at he
  injection he with he
  obtain ⟨b, rfl, hb1, hb2, hC, hc⟩ := h.cells (L.length - 1) (by omega)
  rw [he] at hc
  have hg := h.1
  have hcap := h.2.1.form (by omega)
  obtain ⟨t, f, s, d, cl, bd, ah, se, st, oa, on_, oc⟩ := e
  simp only [Ent.val, Ent.o, Ent.cells] at *
  have hn := h.2.2.2
  have HR := Lib.hid hr
  clear he hle h hr
  generalize L.length = n at *
  obtain ⟨m, rfl⟩ : ∃ m, n = m + 1 := ⟨n - 1, by omega⟩
  simp only [Nat.add_sub_cancel] at hc
  have hgo := blk_old' (Go.Obj.cells #[Go.Value.int Go.IntKind.i64 0, Go.Value.int Go.IntKind.i64 0, Go.Value.int Go.IntKind.i64 0, Go.Value.int Go.IntKind.i64 0, Go.Value.int Go.IntKind.i64 0, Go.Value.int Go.IntKind.i64 0, Go.Value.int Go.IntKind.i64 0, Go.Value.int Go.IntKind.i64 0, Go.Value.int Go.IntKind.i64 0, Go.Value.slice none 0 0] 32) hg
  have hgn := blk_new' w (Go.Obj.cells #[Go.Value.int Go.IntKind.i64 0, Go.Value.int Go.IntKind.i64 0, Go.Value.int Go.IntKind.i64 0, Go.Value.int Go.IntKind.i64 0, Go.Value.int Go.IntKind.i64 0, Go.Value.int Go.IntKind.i64 0, Go.Value.int Go.IntKind.i64 0, Go.Value.int Go.IntKind.i64 0, Go.Value.int Go.IntKind.i64 0, Go.Value.slice none 0 0] 32)
  have c0 := mcell hgo 0
  have c1 := mcell hgo 1
  have hcs : ∀ j v, ([.int .i64 t, .int .i64 f, .int .i64 s, .int .i64 d, .int .i64 cl, .int .i64 bd, .int .i64 ah, .int .i64 se, .int .i64 st, .slice oa on_ oc] : List Value)[j]? = some v → (w.alloc (Go.Obj.cells #[Go.Value.int Go.IntKind.i64 0, Go.Value.int Go.IntKind.i64 0, Go.Value.int Go.IntKind.i64 0, Go.Value.int Go.IntKind.i64 0, Go.Value.int Go.IntKind.i64 0, Go.Value.int Go.IntKind.i64 0, Go.Value.int Go.IntKind.i64 0, Go.Value.int Go.IntKind.i64 0, Go.Value.int Go.IntKind.i64 0, Go.Value.slice none 0 0] 32)).cell? ⟨b, m * 10 + j, none⟩ = some v := fun j v hv => cell_al ((hc j (by have := (List.getElem?_eq_some_iff.1 hv).1; exact this)).trans hv) (Go.Obj.cells #[Go.Value.int Go.IntKind.i64 0, Go.Value.int Go.IntKind.i64 0, Go.Value.int Go.IntKind.i64 0, Go.Value.int Go.IntKind.i64 0, Go.Value.int Go.IntKind.i64 0, Go.Value.int Go.IntKind.i64 0, Go.Value.int Go.IntKind.i64 0, Go.Value.int Go.IntKind.i64 0, Go.Value.int Go.IntKind.i64 0, Go.Value.slice none 0 0] 32)
  have d0 := hcs 0 _ rfl
  have d1 := hcs 1 _ rfl
  have d2 := hcs 2 _ rfl
  have d3 := hcs 3 _ rfl
  have d4 := hcs 4 _ rfl
  have d5 := hcs 5 _ rfl
  have d6 := hcs 6 _ rfl
  have d7 := hcs 7 _ rfl
  have d8 := hcs 8 _ rfl
  have d9 := hcs 9 _ rfl
  clear hcs
  rw [Nat.add_zero] at d0
  simp at c0 c1
  clear hc
  go_enter Try.func22, Try.ntmps22
  go_wp2
  have hBW : Below w.heap.size w (w.alloc (Go.Obj.cells #[Go.Value.int Go.IntKind.i64 0, Go.Value.int Go.IntKind.i64 0, Go.Value.int Go.IntKind.i64 0, Go.Value.int Go.IntKind.i64 0, Go.Value.int Go.IntKind.i64 0, Go.Value.int Go.IntKind.i64 0, Go.Value.int Go.IntKind.i64 0, Go.Value.int Go.IntKind.i64 0, Go.Value.int Go.IntKind.i64 0, Go.Value.slice none 0 0] 32)) := (Below.refl _ w).alloc (Nat.le_refl _) _
  have hsW : (w.alloc (Go.Obj.cells #[Go.Value.int Go.IntKind.i64 0, Go.Value.int Go.IntKind.i64 0, Go.Value.int Go.IntKind.i64 0, Go.Value.int Go.IntKind.i64 0, Go.Value.int Go.IntKind.i64 0, Go.Value.int Go.IntKind.i64 0, Go.Value.int Go.IntKind.i64 0, Go.Value.int Go.IntKind.i64 0, Go.Value.int Go.IntKind.i64 0, Go.Value.slice none 0 0] 32)).heap.size = w.heap.size + 1 := by simp
  generalize w.alloc (Go.Obj.cells #[Go.Value.int Go.IntKind.i64 0, Go.Value.int Go.IntKind.i64 0, Go.Value.int Go.IntKind.i64 0, Go.Value.int Go.IntKind.i64 0, Go.Value.int Go.IntKind.i64 0, Go.Value.int Go.IntKind.i64 0, Go.Value.int Go.IntKind.i64 0, Go.Value.int Go.IntKind.i64 0, Go.Value.int Go.IntKind.i64 0, Go.Value.slice none 0 0] 32) = W0 at *
  have hwr : IntKind.i64.wrap (m : Int) = (m : Int) := by rw [IntKind.wrap_i64]; omega
  have hlt : (m : Int) < (m : Int) + 1 := by omega
  go_still_tail 12, (by kernel_rfl)
  change wpList _ _ _ _ _ W0.drew
  have o1 := own27 ⟨t, f, s, d, cl, bd, ah, se, st, oa, on_, oc⟩ ms W0.drew ((HR.out.below hBW).below (below_drew1 (Below.refl _ _)))
  simp only [Ent.val, Ent.o] at o1
  have HO := Lib.hid o1
  have m2 : W0.drew.heap[w.heap.size]? = some (Go.Obj.cells #[Go.Value.int Go.IntKind.i64 0, Go.Value.int Go.IntKind.i64 0, Go.Value.int Go.IntKind.i64 0, Go.Value.int Go.IntKind.i64 0, Go.Value.int Go.IntKind.i64 0, Go.Value.int Go.IntKind.i64 0, Go.Value.int Go.IntKind.i64 0, Go.Value.int Go.IntKind.i64 0, Go.Value.int Go.IntKind.i64 0, Go.Value.slice none 0 0] 32) := hgn
  have hBD : Below w.heap.size w W0.drew := below_drew1 hBW
  have hsD : W0.drew.heap.size = w.heap.size + 1 := hsW
  generalize W0.drew = W1 at *
  clear o1 c0 c1 d0 d1 d2 d3 d4 d5 d6 d7 d8 d9 hgo hgn hsW hBW
  have HB := Lib.hid hBD
  clear hBD
  go_wp2_with (go_at_call 27; refine HO.out.mono ?_; rintro x w1 ⟨a', n', c', rfl, hr', hb', hg', hn'⟩; have m3 := (hb'.block _ (by omega)).trans m2; have z3 := mfrozen m3; have b0 := mcell m3 0; have b1 := mcell m3 1; have b2 := mcell m3 2; have b3 := mcell m3 3; have b4 := mcell m3 4; have b5 := mcell m3 5; have b6 := mcell m3 6; have b7 := mcell m3 7; have b8 := mcell m3 8; have b9 := mcell m3 9; simp at b0 b1 b2 b3 b4 b5 b6 b7 b8 b9)
  obtain ⟨k12, hK, hBf⟩ := set10 m3 (.int .i64 t) (.int .i64 f) (.int .i64 s) (.int .i64 d) (.int .i64 cl) (.int .i64 bd) (.int .i64 ah) (.int .i64 se) (.int .i64 st) (.slice a' n' c')
  have h1 : Below w.heap.size w w1 := HB.out.trans (hb'.mono (by omega))
  have h2 := hBf w.heap.size w h1 (Nat.le_refl _)
  have hr2 := hr'.kept hK (fun k hk h => by have := hg' k hk; omega)
  have e0 := mcell k12 0
  have e1 := mcell k12 1
  have e2 := mcell k12 2
  have e3 := mcell k12 3
  have e4 := mcell k12 4
  have e5 := mcell k12 5
  have e6 := mcell k12 6
  have e7 := mcell k12 7
  have e8 := mcell k12 8
  have e9 := mcell k12 9
  simp at e0 e1 e2 e3 e4 e5 e6 e7 e8 e9
  refine bodyPost_ret (v := .tuple #[.agg #[.int .i64 t, .int .i64 f, .int .i64 s, .int .i64 d, .int .i64 cl, .int .i64 bd, .int .i64 ah, .int .i64 se, .int .i64 st, .slice a' n' c'], .bool true]) ?_ rfl ⟨a', n', c', rfl, hr2, h2, hn'⟩
  clear hr2 h2 hBf hK k12 h1
  generalize World.setCell _ _ _ = Wf at *
  simp [results, Try.f22, go_sem, e0, e1, e2, e3, e4, e5, e6, e7, e8, e9]
end Go.Proofs.Ytemedggbodkhcaa.Past
