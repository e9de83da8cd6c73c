/- past's reference: its memory; New, Last, Keys. -/
import Derived.Test.YtemedggbodkhcaaOrd
import Derived.Deep.RegionHeld3
import Derived.IntWalk
import Derived.StillTailTactics
import Derived.Deep.QuietTactic
import Derived.BigQuiet
import Derived.Laws.AppendOwnNone
import Derived.Deep.AppendLies
set_option linter.unusedVariables false
set_option linter.unusedSimpArgs false
namespace Go.Proofs.Ytemedggbodkhcaa.Past
open Go.RowKit Go.Proofs.YtemedggbodkhcaaW.PrintWords Go.Proofs.YtemedggbodkhcaaW.PrintLast
theorem info52 : (Try.prog.info? 52).map (fun i => (i.zero, i.size, i.bytes)) = some (some (.agg #[.int .i64 0, .int .i64 0, .int .i64 0, .int .i64 0, .int .i64 0, .int .i64 0, .int .i64 0, .int .i64 0, .int .i64 0, .slice none 0 0]), 10, 96) := by kernel_rfl
/-- a reference's memory: its own block at g, the row of its entries -/
def RefAt (w : World) (B g : Nat) (A : Option Addr) (c : Nat) (fl : Int) (L : List Ent) : Prop :=
  w.heap[g]? = some (.cells #[.int .i64 fl, .slice A L.length c] 63 (0, 0)) ∧ w.ownsRow B 52 10 (.slice A L.length c) L.length (flat L) ∧ B ≤ g ∧ L.length ≤ 64
theorem RefAt.cells {w : World} {B g : Nat} {A : Option Addr} {c : Nat} {fl : Int} {L : List Ent} (h : RefAt w B g A c fl L) (i : Nat) (hi : i < L.length) :
    ∃ b, A = some ⟨b, 0, none⟩ ∧ B ≤ b ∧ b < w.heap.size ∧ ∀ j, j < 10 → w.cell? ⟨b, i * 10 + j, none⟩ = (L[i].cells)[j]? := by
  obtain ⟨b, cap, he, h1, h2⟩ := h.2.1.form (by omega)
  injection he with he
  subst he
  refine ⟨b, rfl, h1, h2, fun j hj => ?_⟩
  have := h.2.1.cells rfl (i * 10 + j) (L[i].cells[j]'(by exact hj)) (by rw [flat_at L i hi j hj]; exact List.getElem?_eq_getElem _)
  rw [add_plain] at this
  rw [this]; exact (List.getElem?_eq_getElem _).symm
theorem RefAt.below {w w' : World} {B g : Nat} {A : Option Addr} {c : Nat} {fl : Int} {L : List Ent} (h : RefAt w B g A c fl L) (hb : Below w.heap.size w w') : RefAt w' B g A c fl L :=
  ⟨(hb.block _ (blk_lt h.1)).trans h.1, own_move h.2.1 (fun k hk => hb.block _ (own_lt h.2.1 k hk)), h.2.2⟩
theorem RefAt.kept {w w' : World} {S : Nat → Prop} {B g : Nat} {A : Option Addr} {c : Nat} {fl : Int} {L : List Ent} (h : RefAt w B g A c fl L) (hk : Kept w w' S) (hg : ¬ S g) (hA : ∀ k, ablk A = some k → ¬ S k) : RefAt w' B g A c fl L :=
  ⟨(hk.2 g (blk_lt h.1) hg).trans h.1, own_keep h.2.1 hk (fun b hb => hA b (by rw [← ablk_own A L.length c]; exact hb)), h.2.2⟩
set_option maxHeartbeats 1000000 in
set_option maxRecDepth 100000 in
theorem rnew_at (w : World) (B : Nat) (hB : B ≤ w.heap.size) : Calls Try.prog 17 #[] w fun x w' => ∃ g, x = .returned (.pointer (some ⟨g, 0, none⟩)) ∧ RefAt w' B g none 0 0 [] ∧ Below w.heap.size w w' ∧ w.heap.size ≤ g := by
  have hu63 := Try.underlying63
  have h0 : RefAt (w.alloc (.cells #[.int .i64 0, .slice none 0 0] 63)) B w.heap.size none 0 0 [] := ⟨blk_new' _ _, World.ownsRow_nil _ _ _ _, hB, by simp⟩
  have hb := (Below.refl w.heap.size w).alloc (Nat.le_refl _) (.cells #[.int .i64 0, .slice none 0 0] 63)
  have H0 := Lib.hid h0
  have HB := Lib.hid hb
  clear h0 hb
  go_enter Try.func17, Try.ntmps17
  go_wp2
  go_ret
  exact ⟨_, rfl, H0.out, HB.out, Nat.le_refl _⟩
set_option maxHeartbeats 2000000 in
set_option maxRecDepth 100000 in
theorem rkeys_at (w : World) (B g : Nat) (A : Option Addr) (c : Nat) (fl : Int) (L : List Ent) (h : RefAt w B g A c fl L) :
    Calls Try.prog 24 #[.pointer (some ⟨g, 0, none⟩)] w fun x w' => ∃ A1 c1, x = .returned (.slice A1 L.length c1) ∧ w'.ownsRow w.heap.size 27 3 (.slice A1 L.length c1) L.length (keyCells L) ∧ Below w.heap.size w w' := by
  have hu52 := Try.underlying52
  have hu63 := Try.underlying63
  have hu54 := Try.underlying54
  have hu27 := Try.underlying27
  have hu29 := Try.underlying29
  have hu45 := Try.underlying45
  obtain ⟨i0, hi, hz0, hz1, hz2⟩ := info_parts info27
  have G1 := mcell h.1 1
  simp at G1
  have hn := h.2.2.2
  have hgl := blk_lt h.1
  have HP := Lib.hid h
  clear h
  obtain ⟨W0, hW0⟩ : ∃ W0, W0 = w.alloc (.cells #[] 27) := ⟨_, rfl⟩
  have hB0 : Below w.heap.size w W0 := by rw [hW0]; exact (Below.refl _ w).alloc (Nat.le_refl _) _
  have ho0 : W0.ownsRow w.heap.size 27 3 (.slice (some ⟨w.heap.size, 0, none⟩) 0 0) 0 [] := by rw [hW0]; exact World.ownsRow_lit (base := w.heap.size) (e := 27) (size := 3) w #[] 0 (Nat.le_refl _) (by unfold maxLen; omega) rfl
  have HB0 := Lib.hid hB0
  have HO0 := Lib.hid ho0
  have HW0 := Lib.hid hW0
  clear hB0 ho0 hW0
  go_enter Try.func24, Try.ntmps24
  go_wp2_with fail
  rw [← HW0.out]
  go_loopw [3, 4] (fun v i wr => ∃ (A1 : Option Addr) (c1 k : Nat), k ≤ L.length ∧ i = .int .i64 k ∧ v = .slice A1 k c1 ∧ wr.ownsRow w.heap.size 27 3 (.slice A1 k c1) k (keyCells (L.take k)) ∧ Below w.heap.size w wr) (fun _ i _ => L.length - (intOf i).toNat)
  case atStart => exact ⟨_, 0, 0, Nat.zero_le _, rfl, rfl, HO0.out, HB0.out⟩
  case round =>
    obtain ⟨A1, c1, k, hk, rfl, rfl, ho, hb⟩ := hrel
    have g1 := pw_cell_below hb G1
    by_cases hlt : k < L.length
    · obtain ⟨b, rfl, hb1, hb2, hc⟩ := (HP.out.below hb).cells k hlt
      have hsn := keyCells_succ L k hlt
      have hkl := keyCells_len (L.take k)
      generalize L[k] = e at hc hsn
      obtain ⟨t, f, s, d, cl, bd, ah, se, st, oa, on_, oc⟩ := e
      simp only [Ent.cells] at hc
      simp only [Ent.key] at hsn
      have d0 : wr.cell? ⟨b, k * 10, none⟩ = some (.int .i64 t) := hc 0 (by omega)
      have d1 : wr.cell? ⟨b, k * 10 + 1, none⟩ = some (.int .i64 f) := hc 1 (by omega)
      have d2 : wr.cell? ⟨b, k * 10 + 2, none⟩ = some (.int .i64 s) := hc 2 (by omega)
      have hsz := hb.size
      have HSN := Lib.hid hsn
      have HO := Lib.hid ho
      have HB := Lib.hid hb
      have HKL := Lib.hid hkl
      clear hsn ho hb hkl
      clear hc
      have hka : (k : Int) < (L.length : Int) := by omega
      have hb2' := Lib.hid ((Below.refl wr.heap.size wr).alloc (Nat.le_refl _) (.cells #[.int .i64 t, .int .i64 f, .int .i64 s] 27))
      have HN := Lib.hid (World.news_of_block (heap_alloc_new wr (.cells #[.int .i64 t, .int .i64 f, .int .i64 s] 27)))
      go_wp2_with (at_builtin; go_loud (refine wpList_append_own _ rfl (.tmp 15) (.tmp 25) 45 rfl w.heap.size 27 i0 _ 3 24 Try.underlying45 hi hz0 hz1 hz2 rfl (by decide) (.slice A1 k c1) k (keyCells (L.take k)) rfl (HO.out.alloc _) ⟨wr.heap.size, 0, none⟩ 1 1 [.int .i64 t, .int .i64 f, .int .i64 s] (by rfl) rfl (by simpa using HN.out) (by simp [Value.oneCell']) (by unfold maxLen; omega) (by omega) (by simp; omega) ?_); go_loud (intro v1 w1 hown hg hnn))
      have hf : ∃ A' c', v1 = .slice A' (k + 1) c' := by
        rcases hown.2 with ⟨rfl, h0⟩ | ⟨g, cap, cur, rfl, _⟩
        · omega
        · exact ⟨_, _, rfl⟩
      obtain ⟨A', c', rfl⟩ := hf
      rw [← HSN.out] at hown
      refine ⟨⟨A', c', k + 1, hlt, by go_num, rfl, hown, ?_⟩, by simp [intOf]; omega⟩
      exact ((HB.out.trans (hb2'.out.mono hsz))).grown hg (by simp; omega) (fun q hq => own_base HO.out q hq)
    · obtain rfl : k = L.length := by omega
      have HO := Lib.hid ho
      have HB := Lib.hid hb
      clear ho hb
      go_wp2
      go_ret
      have h1 := HO.out
      rw [List.take_length] at h1
      exact ⟨A1, c1, rfl, h1, HB.out⟩
theorem getLast_at (L : List Ent) (m : Nat) (h : L.length = m + 1) : L.getLast? = some (L[m]'(by omega)) := by
  rw [List.getLast?_eq_getElem?]
  have : L.length - 1 = m := by omega
  rw [this]
  exact List.getElem?_eq_getElem _
set_option maxHeartbeats 800000 in
set_option maxRecDepth 100000 in
theorem rlast_none (w : World) (B g : Nat) (A : Option Addr) (c : Nat) (fl : Int) (h : RefAt w B g A c fl []) :
    Calls Try.prog 23 #[.pointer (some ⟨g, 0, none⟩)] w fun x w' => x = .returned (.tuple #[.agg #[.int .i64 0, .int .i64 0, .int .i64 0, .int .i64 0, .int .i64 0, .int .i64 0, .int .i64 0, .int .i64 0, .int .i64 0, .slice none 0 0], .bool false]) ∧ Below w.heap.size w w' := by
  have hu52 := Try.underlying52
  have hu63 := Try.underlying63
  have hu54 := Try.underlying54
  have hgo := blk_old' (Go.Obj.cells #[Go.Value.int Go.IntKind.i64 0, Go.Value.int Go.IntKind.i64 0, Go.Value.int Go.IntKind.i64 0, Go.Value.int Go.IntKind.i64 0, Go.Value.int Go.IntKind.i64 0, Go.Value.int Go.IntKind.i64 0, Go.Value.int Go.IntKind.i64 0, Go.Value.int Go.IntKind.i64 0, Go.Value.int Go.IntKind.i64 0, Go.Value.slice none 0 0] 52) h.1
  have c1 := mcell hgo 1
  simp at c1
  clear h hgo
  go_enter Try.func23, Try.ntmps23
  go_wp2
  exact bodyPost_ret (v := .tuple #[.agg #[.int .i64 0, .int .i64 0, .int .i64 0, .int .i64 0, .int .i64 0, .int .i64 0, .int .i64 0, .int .i64 0, .int .i64 0, .slice none 0 0], .bool false]) (by simp [results, Try.f23, go_sem]) rfl ⟨rfl, (Below.refl _ _).alloc (Nat.le_refl _) _⟩
set_option maxHeartbeats 1600000 in
set_option maxRecDepth 100000 in
theorem rlast_some (w : World) (B g : Nat) (A : Option Addr) (c : Nat) (fl : Int) (L : List Ent) (h : RefAt w B g A c fl L) (m : Nat) (hm : L.length = m + 1) :
    Calls Try.prog 23 #[.pointer (some ⟨g, 0, none⟩)] w fun x w' => x = .returned (.tuple #[(L[m]'(by omega)).val, .bool true]) ∧ Below w.heap.size w w' := by
  have hu52 := Try.underlying52
  have hu63 := Try.underlying63
  have hu54 := Try.underlying54
  have hn := h.2.2.2
  obtain ⟨b, rfl, hb1, hb2, hc⟩ := h.cells m (by omega)
  have hg := h.1
  rw [hm] at hg
  have hcap : m + 1 ≤ c := by
    rcases h.2.1.2 with ⟨q, _⟩ | ⟨b', cap', cur, q, _, _, h5, _⟩
    · cases q
    · cases q; omega
  generalize hE : L[m]'(by omega) = e at hc ⊢
  clear h hE
  obtain ⟨t, f, s, d, cl, bd, ah, se, st, oa, on_, oc⟩ := e
  simp only [Ent.val, Ent.cells] at *
  have hgo := blk_old' (Go.Obj.cells #[Go.Value.int Go.IntKind.i64 0, Go.Value.int Go.IntKind.i64 0, Go.Value.int Go.IntKind.i64 0, Go.Value.int Go.IntKind.i64 0, Go.Value.int Go.IntKind.i64 0, Go.Value.int Go.IntKind.i64 0, Go.Value.int Go.IntKind.i64 0, Go.Value.int Go.IntKind.i64 0, Go.Value.int Go.IntKind.i64 0, Go.Value.slice none 0 0] 52) hg
  have hgn := blk_new' w (Go.Obj.cells #[Go.Value.int Go.IntKind.i64 0, Go.Value.int Go.IntKind.i64 0, Go.Value.int Go.IntKind.i64 0, Go.Value.int Go.IntKind.i64 0, Go.Value.int Go.IntKind.i64 0, Go.Value.int Go.IntKind.i64 0, Go.Value.int Go.IntKind.i64 0, Go.Value.int Go.IntKind.i64 0, Go.Value.int Go.IntKind.i64 0, Go.Value.slice none 0 0] 52)
  have c1 := mcell hgo 1
  have hcs : ∀ j v, ([.int .i64 t, .int .i64 f, .int .i64 s, .int .i64 d, .int .i64 cl, .int .i64 bd, .int .i64 ah, .int .i64 se, .int .i64 st, .slice oa on_ oc] : List Value)[j]? = some v → (w.alloc (Go.Obj.cells #[Go.Value.int Go.IntKind.i64 0, Go.Value.int Go.IntKind.i64 0, Go.Value.int Go.IntKind.i64 0, Go.Value.int Go.IntKind.i64 0, Go.Value.int Go.IntKind.i64 0, Go.Value.int Go.IntKind.i64 0, Go.Value.int Go.IntKind.i64 0, Go.Value.int Go.IntKind.i64 0, Go.Value.int Go.IntKind.i64 0, Go.Value.slice none 0 0] 52)).cell? ⟨b, m * 10 + j, none⟩ = some v := fun j v hv => cell_al ((hc j (by have := (List.getElem?_eq_some_iff.1 hv).1; exact this)).trans hv) (Go.Obj.cells #[Go.Value.int Go.IntKind.i64 0, Go.Value.int Go.IntKind.i64 0, Go.Value.int Go.IntKind.i64 0, Go.Value.int Go.IntKind.i64 0, Go.Value.int Go.IntKind.i64 0, Go.Value.int Go.IntKind.i64 0, Go.Value.int Go.IntKind.i64 0, Go.Value.int Go.IntKind.i64 0, Go.Value.int Go.IntKind.i64 0, Go.Value.slice none 0 0] 52)
  have d0 := hcs 0 _ rfl
  have d1 := hcs 1 _ rfl
  have d2 := hcs 2 _ rfl
  have d3 := hcs 3 _ rfl
  have d4 := hcs 4 _ rfl
  have d5 := hcs 5 _ rfl
  have d6 := hcs 6 _ rfl
  have d7 := hcs 7 _ rfl
  have d8 := hcs 8 _ rfl
  have d9 := hcs 9 _ rfl
  rw [Nat.add_zero] at d0
  simp at c1
  clear hcs hc
  go_enter Try.func23, Try.ntmps23
  go_wp2
  have hBW : Below w.heap.size w (w.alloc (Go.Obj.cells #[Go.Value.int Go.IntKind.i64 0, Go.Value.int Go.IntKind.i64 0, Go.Value.int Go.IntKind.i64 0, Go.Value.int Go.IntKind.i64 0, Go.Value.int Go.IntKind.i64 0, Go.Value.int Go.IntKind.i64 0, Go.Value.int Go.IntKind.i64 0, Go.Value.int Go.IntKind.i64 0, Go.Value.int Go.IntKind.i64 0, Go.Value.slice none 0 0] 52)) := (Below.refl _ w).alloc (Nat.le_refl _) _
  have hsW : (w.alloc (Go.Obj.cells #[Go.Value.int Go.IntKind.i64 0, Go.Value.int Go.IntKind.i64 0, Go.Value.int Go.IntKind.i64 0, Go.Value.int Go.IntKind.i64 0, Go.Value.int Go.IntKind.i64 0, Go.Value.int Go.IntKind.i64 0, Go.Value.int Go.IntKind.i64 0, Go.Value.int Go.IntKind.i64 0, Go.Value.int Go.IntKind.i64 0, Go.Value.slice none 0 0] 52)).heap.size = w.heap.size + 1 := by simp
  generalize w.alloc (Go.Obj.cells #[Go.Value.int Go.IntKind.i64 0, Go.Value.int Go.IntKind.i64 0, Go.Value.int Go.IntKind.i64 0, Go.Value.int Go.IntKind.i64 0, Go.Value.int Go.IntKind.i64 0, Go.Value.int Go.IntKind.i64 0, Go.Value.int Go.IntKind.i64 0, Go.Value.int Go.IntKind.i64 0, Go.Value.int Go.IntKind.i64 0, Go.Value.slice none 0 0] 52) = W0 at *
  have hwr : IntKind.i64.wrap (m : Int) = (m : Int) := by rw [IntKind.wrap_i64]; omega
  have hlt : (m : Int) < (m : Int) + 1 := by omega
  go_still_tail 12, (by kernel_rfl)
  change wpList _ _ _ _ _ W0.drew
  have m3 : W0.drew.heap[w.heap.size]? = some (Go.Obj.cells #[Go.Value.int Go.IntKind.i64 0, Go.Value.int Go.IntKind.i64 0, Go.Value.int Go.IntKind.i64 0, Go.Value.int Go.IntKind.i64 0, Go.Value.int Go.IntKind.i64 0, Go.Value.int Go.IntKind.i64 0, Go.Value.int Go.IntKind.i64 0, Go.Value.int Go.IntKind.i64 0, Go.Value.int Go.IntKind.i64 0, Go.Value.slice none 0 0] 52) := hgn
  have hBD : Below w.heap.size w W0.drew := below_drew1 hBW
  generalize W0.drew = W1 at *
  have z3 := mfrozen m3
  clear c1 d0 d1 d2 d3 d4 d5 d6 d7 d8 d9 hgo hgn hsW hBW
  have b0 := mcell m3 0
  have b1 := mcell m3 1
  have b2 := mcell m3 2
  have b3 := mcell m3 3
  have b4 := mcell m3 4
  have b5 := mcell m3 5
  have b6 := mcell m3 6
  have b7 := mcell m3 7
  have b8 := mcell m3 8
  have b9 := mcell m3 9
  simp at b0 b1 b2 b3 b4 b5 b6 b7 b8 b9
  obtain ⟨k12, hK, hBf⟩ := set10 m3 (.int .i64 t) (.int .i64 f) (.int .i64 s) (.int .i64 d) (.int .i64 cl) (.int .i64 bd) (.int .i64 ah) (.int .i64 se) (.int .i64 st) (.slice oa on_ oc)
  have h2 := hBf w.heap.size w hBD (Nat.le_refl _)
  have H2 := Lib.hid h2
  have K12 := Lib.hid k12
  have HK := Lib.hid hK
  have HBF := Lib.hid hBf
  have HBD := Lib.hid hBD
  clear h2 k12 hK hBf hBD
  go_wp2
  have k12 := K12.out
  have e0 := mcell k12 0
  have e1 := mcell k12 1
  have e2 := mcell k12 2
  have e3 := mcell k12 3
  have e4 := mcell k12 4
  have e5 := mcell k12 5
  have e6 := mcell k12 6
  have e7 := mcell k12 7
  have e8 := mcell k12 8
  have e9 := mcell k12 9
  simp at e0 e1 e2 e3 e4 e5 e6 e7 e8 e9
  refine bodyPost_ret (v := .tuple #[.agg #[.int .i64 t, .int .i64 f, .int .i64 s, .int .i64 d, .int .i64 cl, .int .i64 bd, .int .i64 ah, .int .i64 se, .int .i64 st, .slice oa on_ oc], .bool true]) ?_ rfl ⟨rfl, H2.out⟩
  clear H2 HBF HK k12 K12
  generalize World.setCell _ _ _ = Wf at *
  simp [results, Try.f23, go_sem, e0, e1, e2, e3, e4, e5, e6, e7, e8, e9]
theorem rlast_at (w : World) (B g : Nat) (A : Option Addr) (c : Nat) (fl : Int) (L : List Ent) (h : RefAt w B g A c fl L) :
    Calls Try.prog 23 #[.pointer (some ⟨g, 0, none⟩)] w fun x w' => x = .returned (.tuple #[(L.getLast?.getD ⟨0, 0, 0, 0, 0, 0, 0, 0, 0, none, 0, 0⟩).val, .bool (!L.isEmpty)]) ∧ Below w.heap.size w w' := by
  cases hl : L.length with
  | zero =>
    obtain rfl : L = [] := List.eq_nil_of_length_eq_zero hl
    exact rlast_none w B g A c fl h
  | succ m =>
    have hne : L.isEmpty = false := by cases L <;> simp at hl ⊢
    rw [getLast_at L m hl, hne]
    exact rlast_some w B g A c fl L h m hl
end Go.Proofs.Ytemedggbodkhcaa.Past

set_option linter.unusedVariables false
set_option linter.unusedSimpArgs false
namespace Go.Proofs.Ytemedggbodkhcaa.Past
open Go.RowKit Go.Proofs.YtemedggbodkhcaaW.PrintWords Go.Proofs.YtemedggbodkhcaaW.PrintLast
theorem own_form {w : World} {base : Nat} {e : TypeId} {size n : Nat} {v : Value} {xs : List Value} (h : w.ownsRow base e size v n xs) : ∃ A c, v = .slice A n c := by
  rcases h.2 with ⟨rfl, h0⟩ | ⟨g, cap, cur, rfl, _⟩
  · exact ⟨none, 0, by rw [h0]⟩
  · exact ⟨_, _, rfl⟩
/-- the walk is held here -/
def Pause (p : Prop) : Prop := p
theorem Pause.go {p : Prop} (h : Pause p) : p := h
theorem Pause.mk {p : Prop} (h : p) : Pause p := h
/-- append onto a row of the call's own, from a slice that may be nil -/
theorem wpList_app {P : Program} {w : World} {ops : Array Oper} {rest : List Oper} {o : Oper} {a : Act} {Q : Exit → Act → World → Prop} (hgd : o.guard = none) (s x : Operand) (t : TypeId)
    (ho : o.op = .call { callee := .builtin .append, args := #[s, x], argTypes := #[t, t] })
    (base : Nat) (e : TypeId) (i : TypeInfo) (z : Value) (size bytes : Nat) (ht : P.underlying t = some (.slice e)) (hi : P.info? e = some i) (hz : i.zero = some z)
    (hsize : i.size = size) (hby : i.bytes = bytes) (hzs : z.cells.size = size) (hsz : 0 < size)
    (v : Value) (n : Nat) (xs : List Value) (hs : a.eval s = v) (hown : w.ownsRow base e size v n xs)
    (A : Option Addr) (m c : Nat) (news : List Value) (hx : a.eval x = .slice A m c) (hl : news.length = m * size) (hA : A = none → m = 0 ∧ c = 0) (hnews : ∀ ad, A = some ad → ∀ j u, news[j]? = some u → w.cell? (ad.add j) = some u) (h1 : ∀ u ∈ news, u.oneCell' = true)
    (h63 : n + m ≤ maxLen) (hbytes : (n + m) * bytes ≤ 140737488355328) (hbase : base ≤ w.heap.size)
    (h : ∀ v' w', w'.ownsRow base e size v' (n + m) (xs ++ news) → w.grownBy w' v.ownBlock → wpList P ops Q rest (a.put o.dst v') w') : wpList P ops Q (o :: rest) a w := by
  cases A with
  | some ad => exact wpList_append_own w hgd s x t ho base e i z size bytes ht hi hz hsize hby hzs hsz v n xs hs hown ad m c news hx hl (hnews ad rfl) h1 h63 hbytes hbase fun v' w' h2 h3 _ => h v' w' h2 h3
  | none =>
    obtain ⟨rfl, rfl⟩ := hA rfl
    obtain rfl : news = [] := List.eq_nil_of_length_eq_zero (by omega)
    exact wpList_append_own_none hgd s x t ho base e i size ht hi v n xs hs hown hx (h v w (by simpa using hown) (World.grownBy.refl w _))
/-- what the reference's Push says -/
def RPushP (w : World) (B g : Nat) (fl : Int) (L : List Ent) (e : Ent) (A : Option Addr) (c : Nat) (x : Ending) (w' : World) : Prop :=
  x = .returned (.int .i64 (pushR fl L e.t e.f e.s)) ∧ Kept w w' (fun q => q = g) ∧ (∀ B', B' ≤ g → B' ≤ w.heap.size → Below B' w w') ∧
  ((pushR fl L e.t e.f e.s = 0 ∧ ∃ A' c', RefAt w' B g A' c' fl (L ++ [e])) ∨ (pushR fl L e.t e.f e.s ≠ 0 ∧ RefAt w' B g A c fl L))
set_option maxHeartbeats 1000000 in
set_option maxRecDepth 100000 in
theorem rpush_early (w : World) (B g : Nat) (A : Option Addr) (c : Nat) (fl : Int) (L : List Ent) (h : RefAt w B g A c fl L) (e : Ent) (h1 : e.t < fl) :
    Calls Try.prog 18 #[.pointer (some ⟨g, 0, none⟩), e.val] w fun x w' => x = .returned (.int .i64 110) ∧ Below w.heap.size w w' := by
  have hu52 := Try.underlying52
  have hu63 := Try.underlying63
  have hu54 := Try.underlying54
  have hu29 := Try.underlying29
  have hu27 := Try.underlying27
  obtain ⟨t, f, s, d, cl, bd, ah, se, st, oa, on_, oc⟩ := e
  simp only [Ent.val] at *
  have hgl := blk_lt h.1
  obtain ⟨W0, hW0⟩ : ∃ W0, W0 = w.alloc (.cells #[.int .i64 t, .int .i64 f, .int .i64 s, .int .i64 d, .int .i64 cl, .int .i64 bd, .int .i64 ah, .int .i64 se, .int .i64 st, .slice oa on_ oc] 52) := ⟨_, rfl⟩
  have hB0 : Below w.heap.size w W0 := by rw [hW0]; exact (Below.refl _ w).alloc (Nat.le_refl _) _
  have m0 : W0.heap[w.heap.size]? = some (.cells #[.int .i64 t, .int .i64 f, .int .i64 s, .int .i64 d, .int .i64 cl, .int .i64 bd, .int .i64 ah, .int .i64 se, .int .i64 st, .slice oa on_ oc] 52 (0, 0)) := by rw [hW0]; exact blk_new' _ _
  have m1 := (hB0.block _ hgl).trans h.1
  have a0 := mcell m0 0
  have c0 := mcell m1 0
  simp at a0 c0
  have hlt : decide (t < fl) = true := decide_eq_true h1
  have HB0 := Lib.hid hB0
  have HW0 := Lib.hid hW0
  clear hB0 hW0
  clear m0 m1 h
  go_enter Try.func18, Try.ntmps18
  go_wp2_with fail
  rw [← HW0.out]
  go_quiet (fail)
  go_wp2_with fail
  go_ret
  exact ⟨rfl, pw_below_drewN HB0.out nq⟩
/-- what Push does, once the entry is taken -/
theorem rpush_fin {w w3 : World} {B g : Nat} {A : Option Addr} {c : Nat} {fl : Int} {L : List Ent} (h : RefAt w B g A c fl L) (e : Ent) (h3 : L.length < 64) (hb : Below w.heap.size w w3) {v : Value} (ho : w3.ownsRow w.heap.size 52 10 v (L.length + 1) (flat L ++ e.cells)) :
    Kept w (w3.setCell ⟨g, 1, none⟩ v) (fun q => q = g) ∧ (∀ B', B' ≤ g → B' ≤ w.heap.size → Below B' w (w3.setCell ⟨g, 1, none⟩ v)) ∧ ∃ A' c', RefAt (w3.setCell ⟨g, 1, none⟩ v) B g A' c' fl (L ++ [e]) := by
  have hgl := blk_lt h.1
  refine ⟨(Kept.of_below hb (fun q => q = g)).setCell (p := ⟨g, 1, none⟩) (Or.inl (Eq.refl g)) _, fun B' h1 h2 => (hb.mono h2).setCell (p := ⟨g, 1, none⟩) h1 _, ?_⟩
  have hf : ∃ A' c', v = .slice A' (L.length + 1) c' := by
    rcases ho.2 with ⟨rfl, h0⟩ | ⟨b, cap, cur, rfl, _⟩
    · omega
    · exact ⟨_, _, rfl⟩
  obtain ⟨A', c', rfl⟩ := hf
  have hbg := own_base ho
  refine ⟨A', c', ?_, ?_, h.2.2.1, by simp; omega⟩
  · have := blk_set ((hb.block _ hgl).trans h.1) 1 (.slice A' (L.length + 1) c')
    simpa using this
  · have e1 : flat (L ++ [e]) = flat L ++ e.cells := by simp [flat]
    rw [e1, List.length_append, List.length_singleton]
    exact own_mono (own_move ho (fun q hq => Below.heap_setCell _ _ _ q (by have := hbg q hq; show q ≠ g; omega))) (Nat.le_trans h.2.2.1 (Nat.le_of_lt hgl))
theorem ref_src {w : World} {B g : Nat} {A : Option Addr} {c : Nat} {fl : Int} {L : List Ent} (h : RefAt w B g A c fl L) : (A = none → L.length = 0 ∧ c = 0) ∧ ∀ ad, A = some ad → ∀ j u, (flat L)[j]? = some u → w.cell? (ad.add j) = some u := by
  refine ⟨fun e => ?_, fun ad e j u hj => ?_⟩
  · subst e
    rcases h.2.1.2 with ⟨q, _⟩ | ⟨b', cap', cur, q, _⟩
    · injection q with _ q1 q2; exact ⟨q1, q2⟩
    · cases q
  · subst e
    have hlt := (List.getElem?_eq_some_iff.1 hj).1
    rw [flat_len] at hlt
    obtain ⟨b, q, _⟩ := h.cells 0 (by omega)
    cases q
    exact h.2.1.cells rfl j u hj
set_option maxHeartbeats 3000000 in
set_option maxRecDepth 100000 in
theorem rpush_nil (w : World) (B g : Nat) (A : Option Addr) (c : Nat) (fl : Int) (h : RefAt w B g A c fl []) (e : Ent) (h1 : fl ≤ e.t) :
    Calls Try.prog 18 #[.pointer (some ⟨g, 0, none⟩), e.val] w fun x w' => x = .returned (.int .i64 0) ∧ ∃ w3 v, w' = w3.setCell ⟨g, 1, none⟩ v ∧ Below w.heap.size w w3 ∧ w3.ownsRow w.heap.size 52 10 v 1 (flat [] ++ e.cells) := by
  have hu52 := Try.underlying52
  have hu63 := Try.underlying63
  have hu54 := Try.underlying54
  have hu29 := Try.underlying29
  have hu27 := Try.underlying27
  obtain ⟨i0, hi, hi0, hi1, hi2⟩ := info_parts info52
  obtain ⟨t, f, s, d, cl, bd, ah, se, st, oa, on_, oc⟩ := e
  simp only [Ent.val, Ent.cells] at *
  have hgl := blk_lt h.1
  obtain ⟨W0, hW0⟩ : ∃ W0, W0 = w.alloc (.cells #[.int .i64 t, .int .i64 f, .int .i64 s, .int .i64 d, .int .i64 cl, .int .i64 bd, .int .i64 ah, .int .i64 se, .int .i64 st, .slice oa on_ oc] 52) := ⟨_, rfl⟩
  have hB0 : Below w.heap.size w W0 := by rw [hW0]; exact (Below.refl _ w).alloc (Nat.le_refl _) _
  have hz : W0.heap.size = w.heap.size + 1 := by rw [hW0]; simp
  have m0 : W0.heap[w.heap.size]? = some (.cells #[.int .i64 t, .int .i64 f, .int .i64 s, .int .i64 d, .int .i64 cl, .int .i64 bd, .int .i64 ah, .int .i64 se, .int .i64 st, .slice oa on_ oc] 52 (0, 0)) := by rw [hW0]; exact blk_new' _ _
  have hR := h.below hB0
  have a0 := mcell m0 0
  have c0 := mcell hR.1 0
  have c1 := mcell hR.1 1
  simp at a0 c0 c1
  have hlt : decide (t < fl) = false := decide_eq_false (by omega)
  have HB0 := Lib.hid hB0
  have HW0 := Lib.hid hW0
  have M0 := Lib.hid m0
  have HR := Lib.hid hR
  have HZ0 := Lib.hid hz
  clear hB0 hW0 m0 hR hz
  clear h
  go_enter Try.func18, Try.ntmps18
  go_wp2_with fail
  rw [← HW0.out]
  go_quiet (fail)
  have HB1 := Lib.hid (pw_below_drewN (Below.refl W0.heap.size W0) nq)
  obtain ⟨W1, hW1⟩ : ∃ W1, W1 = W0.drewN nq := ⟨_, rfl⟩
  rw [← hW1]
  have hB1 : Below W0.heap.size W0 W1 := by rw [hW1]; exact HB1.out
  have hz1 : W1.heap.size = w.heap.size + 1 := by rw [hW1]; exact HZ0.out
  have m1 := (hB1.block _ (by rw [HZ0.out]; omega)).trans M0.out
  have hR1 := HR.out.below hB1
  clear a0 c0 c1
  have a0 := mcell m1 0
  have a1 := mcell m1 1
  have a2 := mcell m1 2
  have a3 := mcell m1 3
  have a4 := mcell m1 4
  have a5 := mcell m1 5
  have a6 := mcell m1 6
  have a7 := mcell m1 7
  have a8 := mcell m1 8
  have a9 := mcell m1 9
  simp at a0 a1 a2 a3 a4 a5 a6 a7 a8 a9
  have c0 := mcell hR1.1 0
  have c1 := mcell hR1.1 1
  have f1 := mfrozen hR1.1 1
  simp at c0 c1
  have HW1 := Lib.hid hW1
  have M1 := Lib.hid m1
  have HR1 := Lib.hid hR1
  have HB10 := Lib.hid hB1
  have HZ1 := Lib.hid hz1
  clear hW1 m1 hR1 hB1 hz1
  go_wp2_with fail
  go_quiet (fail)
  have HB2 := Lib.hid (pw_below_drewN (Below.refl W1.heap.size W1) nq)
  obtain ⟨W2, hW2⟩ : ∃ W2, W2 = W1.drewN nq := ⟨_, rfl⟩
  rw [← hW2]
  have hB2 : Below W1.heap.size W1 W2 := by rw [hW2]; exact HB2.out
  have hz2 : W2.heap.size = w.heap.size + 1 := by rw [hW2]; exact HZ1.out
  clear hW2 HB2
  have hR2 := HR1.out.below hB2
  have m2 := (hB2.block _ (by rw [HZ1.out]; omega)).trans M1.out
  clear a0 a1 a2 a3 a4 a5 a6 a7 a8 a9 c0 c1 f1
  have hb02 : Below w.heap.size w W2 := (HB0.out.trans (HB10.out.mono (by have := HZ0.out; omega))).trans (hB2.mono (by have := HZ1.out; omega))
  have c1 := mcell hR2.1 1
  simp at c1
  obtain ⟨W3, hW3⟩ : ∃ W3, W3 = W2.alloc (.cells #[] 52) := ⟨_, rfl⟩
  have hb23 : Below W2.heap.size W2 W3 := by rw [hW3]; exact (Below.refl _ W2).alloc (Nat.le_refl _) _
  have ho3 : W3.ownsRow W2.heap.size 52 10 (.slice (some ⟨W2.heap.size, 0, none⟩) 0 0) 0 [] := by rw [hW3]; exact World.ownsRow_lit (base := W2.heap.size) (e := 52) (size := 10) W2 #[] 0 (Nat.le_refl _) (by unfold maxLen; omega) rfl
  have hgl2 : g < W2.heap.size := by omega
  have hsrc := ref_src (hR2.below hb23)
  have hn64 := hR2.2.2.2
  have c1' := pw_cell_below hb23 c1
  have HZ2 := Lib.hid hz2
  have HB23 := Lib.hid hb23
  have HO3 := Lib.hid ho3
  have HSRC := Lib.hid hsrc
  have HW3 := Lib.hid hW3
  have M2 := Lib.hid m2
  have HR2 := Lib.hid hR2
  have HB02 := Lib.hid hb02
  have HB2 := Lib.hid hB2
  clear hz2 hb23 ho3 hsrc hW3 m2 hR2 hb02 hB2
  go_wp2_with (at_builtin; rw [← HW3.out]; clear c1; go_loud (refine wpList_app rfl (.tmp 43) (.tmp 47) 54 rfl W2.heap.size 52 i0 _ 10 96 Try.underlying54 hi hi0 hi1 hi2 rfl (by decide) (.slice (some ⟨W2.heap.size, 0, none⟩) 0 0) 0 [] rfl HO3.out A 0 c (flat []) rfl (flat_len _) HSRC.out.1 HSRC.out.2 (flat_one _) (by unfold maxLen; omega) (by omega) HB23.out.size ?_); go_loud (intro v4 w4 hown hg; refine Pause.go ?_))
  refine Pause.mk ?_
  have hb4 := HB23.out.grown hg HB23.out.size (own_base HO3.out)
  have HO4 := Lib.hid hown
  have HG4 := Lib.hid hg
  clear hown hg
  have m4 := ((hb4.block _ (by have := HZ2.out; omega)).trans M2.out)
  have hz4 := hb4.size
  have a0 := mcell m4 0
  have a1 := mcell m4 1
  have a2 := mcell m4 2
  have a3 := mcell m4 3
  have a4 := mcell m4 4
  have a5 := mcell m4 5
  have a6 := mcell m4 6
  have a7 := mcell m4 7
  have a8 := mcell m4 8
  have a9 := mcell m4 9
  simp at a0 a1 a2 a3 a4 a5 a6 a7 a8 a9
  have hgl4 : g < w4.heap.size := by omega
  have hR4 := HR2.out.below hb4
  have HB4 := Lib.hid hb4
  have M4 := Lib.hid m4
  clear hb4 m4
  have c1 := mcell hR4.1 1
  have f1 := mfrozen hR4.1 1
  simp at c1
  clear c1'
  obtain ⟨W5, hW5⟩ : ∃ W5, W5 = w4.alloc (.cells #[.int .i64 t, .int .i64 f, .int .i64 s, .int .i64 d, .int .i64 cl, .int .i64 bd, .int .i64 ah, .int .i64 se, .int .i64 st, .slice oa on_ oc] 52) := ⟨_, rfl⟩
  have hb45 : Below w4.heap.size w4 W5 := by rw [hW5]; exact (Below.refl _ w4).alloc (Nat.le_refl _) _
  have c1' := pw_cell_below hb45 c1
  have HO5 : Hid (W5.ownsRow W2.heap.size 52 10 v4 0 (flat [])) := Lib.hid (by rw [hW5]; have h5 := HO4.out; rw [List.nil_append, Nat.zero_add] at h5; exact h5.alloc _)
  have HN := Lib.hid (World.news_of_block (show W5.heap[w4.heap.size]? = some (.cells #[.int .i64 t, .int .i64 f, .int .i64 s, .int .i64 d, .int .i64 cl, .int .i64 bd, .int .i64 ah, .int .i64 se, .int .i64 st, .slice oa on_ oc] 52 (0, 0)) by rw [hW5]; exact blk_new' _ _))
  have HB45 := Lib.hid hb45
  have HW5 := Lib.hid hW5
  have HR4 := Lib.hid hR4
  clear hb45 hW5 hR4
  have hzz : W2.heap.size ≤ W5.heap.size := Nat.le_trans hz4 HB45.out.size
  go_wp2_with (at_builtin; go_loud (rw [← HW5.out]); go_loud (refine wpList_app rfl (.tmp 50) (.tmp 52) 54 rfl W2.heap.size 52 i0 _ 10 96 Try.underlying54 hi hi0 hi1 hi2 rfl (by decide) v4 0 (flat []) rfl HO5.out (some ⟨w4.heap.size, 0, none⟩) 1 1 _ rfl rfl (by simp) (fun ad q => by cases q; simpa using HN.out) (by simp [Value.oneCell']) (by unfold maxLen; omega) (by omega) hzz ?_); go_loud (intro v6 w6 hown6 hg6; refine Pause.go ?_))
  refine Pause.mk ?_
  obtain ⟨A6, c6, rfl⟩ := own_form hown6
  have hb6 := (HB4.out.trans (HB45.out.mono hz4)).grown hg6 hzz (own_base HO5.out)
  have hR6 := HR2.out.below hb6
  have c16 := mcell hR6.1 1
  have f16 := mfrozen hR6.1 1
  simp at c16
  have hb26 : Below w.heap.size w w6 := HB02.out.trans (hb6.mono (by have := HZ2.out; omega))
  have HB6 := Lib.hid hb6
  have HR6 := Lib.hid hR6
  have HO6 := Lib.hid hown6
  have HG6 := Lib.hid hg6
  have HB26 := Lib.hid hb26
  clear hb6 hR6 hown6 hg6 hb26
  clear c1 c1' f1
  go_wp2_with fail
  go_ret
  exact ⟨rfl, w6, _, rfl, HB26.out, by have h7 := HO6.out; exact own_mono h7 (by have := HZ2.out; omega)⟩
set_option maxHeartbeats 3000000 in
set_option maxRecDepth 100000 in
theorem rpush_some (w : World) (B g : Nat) (b c : Nat) (fl : Int) (L : List Ent) (h : RefAt w B g (some ⟨b, 0, none⟩) c fl L) (m : Nat) (hm : L.length = m + 1) (e : Ent) (h1 : fl ≤ e.t) (h2 : kc (L[m]'(by omega)).t (L[m]'(by omega)).f (L[m]'(by omega)).s e.t e.f e.s < 0) (h3 : L.length < 64) :
    Calls Try.prog 18 #[.pointer (some ⟨g, 0, none⟩), e.val] w fun x w' => x = .returned (.int .i64 0) ∧ ∃ w3 v, w' = w3.setCell ⟨g, 1, none⟩ v ∧ Below w.heap.size w w3 ∧ w3.ownsRow w.heap.size 52 10 v (L.length + 1) (flat L ++ e.cells) := by
  have hu52 := Try.underlying52
  have hu63 := Try.underlying63
  have hu54 := Try.underlying54
  have hu29 := Try.underlying29
  have hu27 := Try.underlying27
  obtain ⟨i0, hi, hi0, hi1, hi2⟩ := info_parts info52
  obtain ⟨t, f, s, d, cl, bd, ah, se, st, oa, on_, oc⟩ := e
  simp only [Ent.val, Ent.cells] at *
  have hgl := blk_lt h.1
  obtain ⟨W0, hW0⟩ : ∃ W0, W0 = w.alloc (.cells #[.int .i64 t, .int .i64 f, .int .i64 s, .int .i64 d, .int .i64 cl, .int .i64 bd, .int .i64 ah, .int .i64 se, .int .i64 st, .slice oa on_ oc] 52) := ⟨_, rfl⟩
  have hB0 : Below w.heap.size w W0 := by rw [hW0]; exact (Below.refl _ w).alloc (Nat.le_refl _) _
  have hz : W0.heap.size = w.heap.size + 1 := by rw [hW0]; simp
  have m0 : W0.heap[w.heap.size]? = some (.cells #[.int .i64 t, .int .i64 f, .int .i64 s, .int .i64 d, .int .i64 cl, .int .i64 bd, .int .i64 ah, .int .i64 se, .int .i64 st, .slice oa on_ oc] 52 (0, 0)) := by rw [hW0]; exact blk_new' _ _
  have hR := h.below hB0
  have a0 := mcell m0 0
  have c0 := mcell hR.1 0
  have c1 := mcell hR.1 1
  simp at a0 c0 c1
  have hlt : decide (t < fl) = false := decide_eq_false (by omega)
  have hcap : L.length ≤ c := by
    rcases h.2.1.2 with ⟨q, _⟩ | ⟨b', cap', cur, q, _, _, h5, _⟩
    · cases q
    · cases q; omega
  have hn0 := h.2.2.2
  obtain ⟨b', hb', _, _, hlc⟩ := h.cells m (by omega)
  cases hb'
  have hbl : b < w.heap.size := by
    have := h.2.1.form (by omega)
    obtain ⟨b2, cap2, q, _, hb2⟩ := this
    cases q; exact hb2
  generalize hE : L[m]'(by omega) = el at hlc h2
  obtain ⟨pt, pf, ps, pd, pcl, pbd, pah, pse, pst, poa, pon, poc⟩ := el
  simp only [Ent.cells] at hlc
  have hp0 : w.cell? ⟨b, m * 10, none⟩ = some (.int .i64 pt) := hlc 0 (by omega)
  have hp1 : w.cell? ⟨b, m * 10 + 1, none⟩ = some (.int .i64 pf) := hlc 1 (by omega)
  have hp2 : w.cell? ⟨b, m * 10 + 2, none⟩ = some (.int .i64 ps) := hlc 2 (by omega)
  have p0 := pw_cell_below hB0 hp0
  have p1 := pw_cell_below hB0 hp1
  have p2 := pw_cell_below hB0 hp2
  have hbW : b < W0.heap.size := by omega
  have H2 := Lib.hid h2
  clear h2
  clear hE hlc hp0 hp1 hp2
  have HB0 := Lib.hid hB0
  have HW0 := Lib.hid hW0
  have M0 := Lib.hid m0
  have HR := Lib.hid hR
  have HZ0 := Lib.hid hz
  clear hB0 hW0 m0 hR hz
  clear h
  go_enter Try.func18, Try.ntmps18
  go_wp2_with fail
  rw [← HW0.out]
  go_quiet (fail)
  have HB1 := Lib.hid (pw_below_drewN (Below.refl W0.heap.size W0) nq)
  obtain ⟨W1, hW1⟩ : ∃ W1, W1 = W0.drewN nq := ⟨_, rfl⟩
  rw [← hW1]
  have hB1 : Below W0.heap.size W0 W1 := by rw [hW1]; exact HB1.out
  have hz1 : W1.heap.size = w.heap.size + 1 := by rw [hW1]; exact HZ0.out
  have m1 := (hB1.block _ (by rw [HZ0.out]; omega)).trans M0.out
  have hR1 := HR.out.below hB1
  clear a0 c0 c1
  have a0 := mcell m1 0
  have a1 := mcell m1 1
  have a2 := mcell m1 2
  have a3 := mcell m1 3
  have a4 := mcell m1 4
  have a5 := mcell m1 5
  have a6 := mcell m1 6
  have a7 := mcell m1 7
  have a8 := mcell m1 8
  have a9 := mcell m1 9
  simp at a0 a1 a2 a3 a4 a5 a6 a7 a8 a9
  have c0 := mcell hR1.1 0
  have c1 := mcell hR1.1 1
  have f1 := mfrozen hR1.1 1
  simp at c0 c1
  have HW1 := Lib.hid hW1
  have M1 := Lib.hid m1
  have HR1 := Lib.hid hR1
  have HB10 := Lib.hid hB1
  have HZ1 := Lib.hid hz1
  clear hW1 m1 hR1 hB1 hz1
  have p0' := pw_cell_below HB10.out p0
  have p1' := pw_cell_below HB10.out p1
  have p2' := pw_cell_below HB10.out p2
  clear p0 p1 p2
  have hd2 : decide (0 < L.length) = true := decide_eq_true (by omega)
  have hd3 : decide ((0 : Int) < (L.length : Int)) = true := decide_eq_true (by omega)
  have hwr : IntKind.i64.wrap ((L.length : Int) - 1) = (m : Int) := by rw [IntWalk.i64_in _ (by omega)]; omega
  have hmi : (m : Int) < (L.length : Int) := by omega
  have hd4 : decide (0 ≤ kc pt pf ps t f s) = false := decide_eq_false (by have := H2.out; omega)
  have HM := Lib.hid hm
  clear hm
  go_wp2_with fail
  go_region_held3 (fun w' => w'.cell? ⟨g, 1, none⟩ = some (.slice (some ⟨b, 0, none⟩) L.length c) ∧ w'.cell? ⟨b, m * 10, none⟩ = some (.int .i64 pt) ∧ w'.cell? ⟨b, m * 10 + 1, none⟩ = some (.int .i64 pf) ∧ w'.cell? ⟨b, m * 10 + 2, none⟩ = some (.int .i64 ps) ∧ w'.cell? ⟨w.heap.size, 0, none⟩ = some (.int .i64 t) ∧ w'.cell? ⟨w.heap.size, 1, none⟩ = some (.int .i64 f) ∧ w'.cell? ⟨w.heap.size, 2, none⟩ = some (.int .i64 s))
    ((go_split_ands; refine ⟨?_, ?_, ?_, ?_, ?_, ?_, ?_⟩ <;> first | assumption | exact pw_cell_below hb8 (by assumption)))
    ((go_at_call 14; refine (RefCmp.ref_cmp _ _ _ _ _ _ _).mono ?_; rintro e w8 ⟨rfl, hb8⟩))
  have hB2 : Below W1.heap.size W1 w8 := ⟨hb8.os, hb8.tape, hb8.output, hb8.size, hb8.block⟩
  clear hb8
  obtain ⟨W2, hW2⟩ : ∃ W2, W2 = w8 := ⟨_, rfl⟩
  subst hW2
  have hz2 : w.heap.size + 1 ≤ W2.heap.size := by have := hB2.size; have := HZ1.out; omega
  have hR2 := HR1.out.below hB2
  have m2 := (hB2.block _ (by rw [HZ1.out]; omega)).trans M1.out
  clear a0 a1 a2 a3 a4 a5 a6 a7 a8 a9 c0 c1 f1 p0' p1' p2'
  have hb02 : Below w.heap.size w W2 := (HB0.out.trans (HB10.out.mono (by have := HZ0.out; omega))).trans (hB2.mono (by have := HZ1.out; omega))
  have hd5 : decide (64 ≤ L.length) = false := decide_eq_false (by omega)
  have hd6 : decide ((64 : Int) ≤ (L.length : Int)) = false := decide_eq_false (by omega)
  have c1 := mcell hR2.1 1
  simp at c1
  obtain ⟨W3, hW3⟩ : ∃ W3, W3 = W2.alloc (.cells #[] 52) := ⟨_, rfl⟩
  have hb23 : Below W2.heap.size W2 W3 := by rw [hW3]; exact (Below.refl _ W2).alloc (Nat.le_refl _) _
  have ho3 : W3.ownsRow W2.heap.size 52 10 (.slice (some ⟨W2.heap.size, 0, none⟩) 0 0) 0 [] := by rw [hW3]; exact World.ownsRow_lit (base := W2.heap.size) (e := 52) (size := 10) W2 #[] 0 (Nat.le_refl _) (by unfold maxLen; omega) rfl
  have hgl2 : g < W2.heap.size := by omega
  have hsrc := ref_src (hR2.below hb23)
  have hn64 := hR2.2.2.2
  have c1' := pw_cell_below hb23 c1
  have HZ2 := Lib.hid hz2
  have HB23 := Lib.hid hb23
  have HO3 := Lib.hid ho3
  have HSRC := Lib.hid hsrc
  have HW3 := Lib.hid hW3
  have M2 := Lib.hid m2
  have HR2 := Lib.hid hR2
  have HB02 := Lib.hid hb02
  have HB2 := Lib.hid hB2
  clear hz2 hb23 ho3 hsrc hW3 m2 hR2 hb02 hB2
  go_wp2_with (at_builtin; rw [← HW3.out]; clear c1; go_loud (refine wpList_app rfl (.tmp 43) (.tmp 47) 54 rfl W2.heap.size 52 i0 _ 10 96 Try.underlying54 hi hi0 hi1 hi2 rfl (by decide) (.slice (some ⟨W2.heap.size, 0, none⟩) 0 0) 0 [] rfl HO3.out (some ⟨b, 0, none⟩) L.length c (flat L) rfl (flat_len _) HSRC.out.1 HSRC.out.2 (flat_one _) (by unfold maxLen; omega) (by omega) HB23.out.size ?_); go_loud (intro v4 w4 hown hg; refine Pause.go ?_))
  refine Pause.mk ?_
  have hb4 := HB23.out.grown hg HB23.out.size (own_base HO3.out)
  have HO4 := Lib.hid hown
  have HG4 := Lib.hid hg
  clear hown hg
  have m4 := ((hb4.block _ (by have := HZ2.out; omega)).trans M2.out)
  have hz4 := hb4.size
  have a0 := mcell m4 0
  have a1 := mcell m4 1
  have a2 := mcell m4 2
  have a3 := mcell m4 3
  have a4 := mcell m4 4
  have a5 := mcell m4 5
  have a6 := mcell m4 6
  have a7 := mcell m4 7
  have a8 := mcell m4 8
  have a9 := mcell m4 9
  simp at a0 a1 a2 a3 a4 a5 a6 a7 a8 a9
  have hgl4 : g < w4.heap.size := by omega
  have hR4 := HR2.out.below hb4
  have HB4 := Lib.hid hb4
  have M4 := Lib.hid m4
  clear hb4 m4
  have c1 := mcell hR4.1 1
  have f1 := mfrozen hR4.1 1
  simp at c1
  clear c1'
  obtain ⟨W5, hW5⟩ : ∃ W5, W5 = w4.alloc (.cells #[.int .i64 t, .int .i64 f, .int .i64 s, .int .i64 d, .int .i64 cl, .int .i64 bd, .int .i64 ah, .int .i64 se, .int .i64 st, .slice oa on_ oc] 52) := ⟨_, rfl⟩
  have hb45 : Below w4.heap.size w4 W5 := by rw [hW5]; exact (Below.refl _ w4).alloc (Nat.le_refl _) _
  have c1' := pw_cell_below hb45 c1
  have HO5 : Hid (W5.ownsRow W2.heap.size 52 10 v4 L.length (flat L)) := Lib.hid (by rw [hW5]; have h5 := HO4.out; rw [List.nil_append, Nat.zero_add] at h5; exact h5.alloc _)
  have HN := Lib.hid (World.news_of_block (show W5.heap[w4.heap.size]? = some (.cells #[.int .i64 t, .int .i64 f, .int .i64 s, .int .i64 d, .int .i64 cl, .int .i64 bd, .int .i64 ah, .int .i64 se, .int .i64 st, .slice oa on_ oc] 52 (0, 0)) by rw [hW5]; exact blk_new' _ _))
  have HB45 := Lib.hid hb45
  have HW5 := Lib.hid hW5
  have HR4 := Lib.hid hR4
  clear hb45 hW5 hR4
  have hzz : W2.heap.size ≤ W5.heap.size := Nat.le_trans hz4 HB45.out.size
  go_wp2_with (at_builtin; go_loud (rw [← HW5.out]); go_loud (refine wpList_app rfl (.tmp 50) (.tmp 52) 54 rfl W2.heap.size 52 i0 _ 10 96 Try.underlying54 hi hi0 hi1 hi2 rfl (by decide) v4 L.length (flat L) rfl HO5.out (some ⟨w4.heap.size, 0, none⟩) 1 1 _ rfl rfl (by simp) (fun ad q => by cases q; simpa using HN.out) (by simp [Value.oneCell']) (by unfold maxLen; omega) (by omega) hzz ?_); go_loud (intro v6 w6 hown6 hg6; refine Pause.go ?_))
  refine Pause.mk ?_
  obtain ⟨A6, c6, rfl⟩ := own_form hown6
  have hb6 := (HB4.out.trans (HB45.out.mono hz4)).grown hg6 hzz (own_base HO5.out)
  have hR6 := HR2.out.below hb6
  have c16 := mcell hR6.1 1
  have f16 := mfrozen hR6.1 1
  simp at c16
  have hb26 : Below w.heap.size w w6 := HB02.out.trans (hb6.mono (by have := HZ2.out; omega))
  have HB6 := Lib.hid hb6
  have HR6 := Lib.hid hR6
  have HO6 := Lib.hid hown6
  have HG6 := Lib.hid hg6
  have HB26 := Lib.hid hb26
  clear hb6 hR6 hown6 hg6 hb26
  clear c1 c1' f1
  go_wp2_with fail
  go_ret
  exact ⟨rfl, w6, _, rfl, HB26.out, by have h7 := HO6.out; exact own_mono h7 (by have := HZ2.out; omega)⟩

set_option maxHeartbeats 3000000 in
set_option maxRecDepth 100000 in
theorem rpush_order (w : World) (B g : Nat) (b c : Nat) (fl : Int) (L : List Ent) (h : RefAt w B g (some ⟨b, 0, none⟩) c fl L) (m : Nat) (hm : L.length = m + 1) (e : Ent) (h1 : fl ≤ e.t) (h2 : 0 ≤ kc (L[m]'(by omega)).t (L[m]'(by omega)).f (L[m]'(by omega)).s e.t e.f e.s) :
    Calls Try.prog 18 #[.pointer (some ⟨g, 0, none⟩), e.val] w fun x w' => x = .returned (.int .i64 130) ∧ Below w.heap.size w w' := by
  have hu52 := Try.underlying52
  have hu63 := Try.underlying63
  have hu54 := Try.underlying54
  have hu29 := Try.underlying29
  have hu27 := Try.underlying27
  obtain ⟨i0, hi, hi0, hi1, hi2⟩ := info_parts info52
  obtain ⟨t, f, s, d, cl, bd, ah, se, st, oa, on_, oc⟩ := e
  simp only [Ent.val, Ent.cells] at *
  have hgl := blk_lt h.1
  obtain ⟨W0, hW0⟩ : ∃ W0, W0 = w.alloc (.cells #[.int .i64 t, .int .i64 f, .int .i64 s, .int .i64 d, .int .i64 cl, .int .i64 bd, .int .i64 ah, .int .i64 se, .int .i64 st, .slice oa on_ oc] 52) := ⟨_, rfl⟩
  have hB0 : Below w.heap.size w W0 := by rw [hW0]; exact (Below.refl _ w).alloc (Nat.le_refl _) _
  have hz : W0.heap.size = w.heap.size + 1 := by rw [hW0]; simp
  have m0 : W0.heap[w.heap.size]? = some (.cells #[.int .i64 t, .int .i64 f, .int .i64 s, .int .i64 d, .int .i64 cl, .int .i64 bd, .int .i64 ah, .int .i64 se, .int .i64 st, .slice oa on_ oc] 52 (0, 0)) := by rw [hW0]; exact blk_new' _ _
  have hR := h.below hB0
  have a0 := mcell m0 0
  have c0 := mcell hR.1 0
  have c1 := mcell hR.1 1
  simp at a0 c0 c1
  have hlt : decide (t < fl) = false := decide_eq_false (by omega)
  have hcap : L.length ≤ c := by
    rcases h.2.1.2 with ⟨q, _⟩ | ⟨b', cap', cur, q, _, _, h5, _⟩
    · cases q
    · cases q; omega
  have hn0 := h.2.2.2
  obtain ⟨b', hb', _, _, hlc⟩ := h.cells m (by omega)
  cases hb'
  have hbl : b < w.heap.size := by
    have := h.2.1.form (by omega)
    obtain ⟨b2, cap2, q, _, hb2⟩ := this
    cases q; exact hb2
  generalize hE : L[m]'(by omega) = el at hlc h2
  obtain ⟨pt, pf, ps, pd, pcl, pbd, pah, pse, pst, poa, pon, poc⟩ := el
  simp only [Ent.cells] at hlc
  have hp0 : w.cell? ⟨b, m * 10, none⟩ = some (.int .i64 pt) := hlc 0 (by omega)
  have hp1 : w.cell? ⟨b, m * 10 + 1, none⟩ = some (.int .i64 pf) := hlc 1 (by omega)
  have hp2 : w.cell? ⟨b, m * 10 + 2, none⟩ = some (.int .i64 ps) := hlc 2 (by omega)
  have p0 := pw_cell_below hB0 hp0
  have p1 := pw_cell_below hB0 hp1
  have p2 := pw_cell_below hB0 hp2
  have hbW : b < W0.heap.size := by omega
  have H2 := Lib.hid h2
  clear h2
  clear hE hlc hp0 hp1 hp2
  have HB0 := Lib.hid hB0
  have HW0 := Lib.hid hW0
  have M0 := Lib.hid m0
  have HR := Lib.hid hR
  have HZ0 := Lib.hid hz
  clear hB0 hW0 m0 hR hz
  clear h
  go_enter Try.func18, Try.ntmps18
  go_wp2_with fail
  rw [← HW0.out]
  go_quiet (fail)
  have HB1 := Lib.hid (pw_below_drewN (Below.refl W0.heap.size W0) nq)
  obtain ⟨W1, hW1⟩ : ∃ W1, W1 = W0.drewN nq := ⟨_, rfl⟩
  rw [← hW1]
  have hB1 : Below W0.heap.size W0 W1 := by rw [hW1]; exact HB1.out
  have hz1 : W1.heap.size = w.heap.size + 1 := by rw [hW1]; exact HZ0.out
  have m1 := (hB1.block _ (by rw [HZ0.out]; omega)).trans M0.out
  have hR1 := HR.out.below hB1
  clear a0 c0 c1
  have a0 := mcell m1 0
  have a1 := mcell m1 1
  have a2 := mcell m1 2
  have a3 := mcell m1 3
  have a4 := mcell m1 4
  have a5 := mcell m1 5
  have a6 := mcell m1 6
  have a7 := mcell m1 7
  have a8 := mcell m1 8
  have a9 := mcell m1 9
  simp at a0 a1 a2 a3 a4 a5 a6 a7 a8 a9
  have c0 := mcell hR1.1 0
  have c1 := mcell hR1.1 1
  have f1 := mfrozen hR1.1 1
  simp at c0 c1
  have HW1 := Lib.hid hW1
  have M1 := Lib.hid m1
  have HR1 := Lib.hid hR1
  have HB10 := Lib.hid hB1
  have HZ1 := Lib.hid hz1
  clear hW1 m1 hR1 hB1 hz1
  have p0' := pw_cell_below HB10.out p0
  have p1' := pw_cell_below HB10.out p1
  have p2' := pw_cell_below HB10.out p2
  clear p0 p1 p2
  have hd2 : decide (0 < L.length) = true := decide_eq_true (by omega)
  have hd3 : decide ((0 : Int) < (L.length : Int)) = true := decide_eq_true (by omega)
  have hwr : IntKind.i64.wrap ((L.length : Int) - 1) = (m : Int) := by rw [IntWalk.i64_in _ (by omega)]; omega
  have hmi : (m : Int) < (L.length : Int) := by omega
  have hd4 : decide (0 ≤ kc pt pf ps t f s) = true := decide_eq_true H2.out
  have HM := Lib.hid hm
  clear hm
  go_wp2_with fail
  go_region_held3 (fun w' => w'.cell? ⟨g, 1, none⟩ = some (.slice (some ⟨b, 0, none⟩) L.length c) ∧ w'.cell? ⟨b, m * 10, none⟩ = some (.int .i64 pt) ∧ w'.cell? ⟨b, m * 10 + 1, none⟩ = some (.int .i64 pf) ∧ w'.cell? ⟨b, m * 10 + 2, none⟩ = some (.int .i64 ps) ∧ w'.cell? ⟨w.heap.size, 0, none⟩ = some (.int .i64 t) ∧ w'.cell? ⟨w.heap.size, 1, none⟩ = some (.int .i64 f) ∧ w'.cell? ⟨w.heap.size, 2, none⟩ = some (.int .i64 s))
    ((go_split_ands; refine ⟨?_, ?_, ?_, ?_, ?_, ?_, ?_⟩ <;> first | assumption | exact pw_cell_below hb8 (by assumption)))
    ((go_at_call 14; refine (RefCmp.ref_cmp _ _ _ _ _ _ _).mono ?_; rintro e w8 ⟨rfl, hb8⟩))
  have hB2 : Below W1.heap.size W1 w8 := ⟨hb8.os, hb8.tape, hb8.output, hb8.size, hb8.block⟩
  clear hb8
  obtain ⟨W2, hW2⟩ : ∃ W2, W2 = w8 := ⟨_, rfl⟩
  subst hW2
  have hz2 : w.heap.size + 1 ≤ W2.heap.size := by have := hB2.size; have := HZ1.out; omega
  have hR2 := HR1.out.below hB2
  have m2 := (hB2.block _ (by rw [HZ1.out]; omega)).trans M1.out
  clear a0 a1 a2 a3 a4 a5 a6 a7 a8 a9 c0 c1 f1 p0' p1' p2'
  have hb02 : Below w.heap.size w W2 := (HB0.out.trans (HB10.out.mono (by have := HZ0.out; omega))).trans (hB2.mono (by have := HZ1.out; omega))
  have HB02 := Lib.hid hb02
  have HB2 := Lib.hid hB2
  clear hb02 hB2
  go_wp2_with fail
  go_ret
  exact ⟨rfl, HB02.out⟩
set_option maxHeartbeats 3000000 in
set_option maxRecDepth 100000 in
theorem rpush_full (w : World) (B g : Nat) (b c : Nat) (fl : Int) (L : List Ent) (h : RefAt w B g (some ⟨b, 0, none⟩) c fl L) (m : Nat) (hm : L.length = m + 1) (e : Ent) (h1 : fl ≤ e.t) (h2 : kc (L[m]'(by omega)).t (L[m]'(by omega)).f (L[m]'(by omega)).s e.t e.f e.s < 0) (h3 : L.length = 64) :
    Calls Try.prog 18 #[.pointer (some ⟨g, 0, none⟩), e.val] w fun x w' => x = .returned (.int .i64 2) ∧ Below w.heap.size w w' := by
  have hu52 := Try.underlying52
  have hu63 := Try.underlying63
  have hu54 := Try.underlying54
  have hu29 := Try.underlying29
  have hu27 := Try.underlying27
  obtain ⟨i0, hi, hi0, hi1, hi2⟩ := info_parts info52
  obtain ⟨t, f, s, d, cl, bd, ah, se, st, oa, on_, oc⟩ := e
  simp only [Ent.val, Ent.cells] at *
  have hgl := blk_lt h.1
  obtain ⟨W0, hW0⟩ : ∃ W0, W0 = w.alloc (.cells #[.int .i64 t, .int .i64 f, .int .i64 s, .int .i64 d, .int .i64 cl, .int .i64 bd, .int .i64 ah, .int .i64 se, .int .i64 st, .slice oa on_ oc] 52) := ⟨_, rfl⟩
  have hB0 : Below w.heap.size w W0 := by rw [hW0]; exact (Below.refl _ w).alloc (Nat.le_refl _) _
  have hz : W0.heap.size = w.heap.size + 1 := by rw [hW0]; simp
  have m0 : W0.heap[w.heap.size]? = some (.cells #[.int .i64 t, .int .i64 f, .int .i64 s, .int .i64 d, .int .i64 cl, .int .i64 bd, .int .i64 ah, .int .i64 se, .int .i64 st, .slice oa on_ oc] 52 (0, 0)) := by rw [hW0]; exact blk_new' _ _
  have hR := h.below hB0
  have a0 := mcell m0 0
  have c0 := mcell hR.1 0
  have c1 := mcell hR.1 1
  simp at a0 c0 c1
  have hlt : decide (t < fl) = false := decide_eq_false (by omega)
  have hcap : L.length ≤ c := by
    rcases h.2.1.2 with ⟨q, _⟩ | ⟨b', cap', cur, q, _, _, h5, _⟩
    · cases q
    · cases q; omega
  have hn0 := h.2.2.2
  obtain ⟨b', hb', _, _, hlc⟩ := h.cells m (by omega)
  cases hb'
  have hbl : b < w.heap.size := by
    have := h.2.1.form (by omega)
    obtain ⟨b2, cap2, q, _, hb2⟩ := this
    cases q; exact hb2
  generalize hE : L[m]'(by omega) = el at hlc h2
  obtain ⟨pt, pf, ps, pd, pcl, pbd, pah, pse, pst, poa, pon, poc⟩ := el
  simp only [Ent.cells] at hlc
  have hp0 : w.cell? ⟨b, m * 10, none⟩ = some (.int .i64 pt) := hlc 0 (by omega)
  have hp1 : w.cell? ⟨b, m * 10 + 1, none⟩ = some (.int .i64 pf) := hlc 1 (by omega)
  have hp2 : w.cell? ⟨b, m * 10 + 2, none⟩ = some (.int .i64 ps) := hlc 2 (by omega)
  have p0 := pw_cell_below hB0 hp0
  have p1 := pw_cell_below hB0 hp1
  have p2 := pw_cell_below hB0 hp2
  have hbW : b < W0.heap.size := by omega
  have H2 := Lib.hid h2
  have H3 := Lib.hid h3
  clear h2 h3
  clear hE hlc hp0 hp1 hp2
  have HB0 := Lib.hid hB0
  have HW0 := Lib.hid hW0
  have M0 := Lib.hid m0
  have HR := Lib.hid hR
  have HZ0 := Lib.hid hz
  clear hB0 hW0 m0 hR hz
  clear h
  go_enter Try.func18, Try.ntmps18
  go_wp2_with fail
  rw [← HW0.out]
  go_quiet (fail)
  have HB1 := Lib.hid (pw_below_drewN (Below.refl W0.heap.size W0) nq)
  obtain ⟨W1, hW1⟩ : ∃ W1, W1 = W0.drewN nq := ⟨_, rfl⟩
  rw [← hW1]
  have hB1 : Below W0.heap.size W0 W1 := by rw [hW1]; exact HB1.out
  have hz1 : W1.heap.size = w.heap.size + 1 := by rw [hW1]; exact HZ0.out
  have m1 := (hB1.block _ (by rw [HZ0.out]; omega)).trans M0.out
  have hR1 := HR.out.below hB1
  clear a0 c0 c1
  have a0 := mcell m1 0
  have a1 := mcell m1 1
  have a2 := mcell m1 2
  have a3 := mcell m1 3
  have a4 := mcell m1 4
  have a5 := mcell m1 5
  have a6 := mcell m1 6
  have a7 := mcell m1 7
  have a8 := mcell m1 8
  have a9 := mcell m1 9
  simp at a0 a1 a2 a3 a4 a5 a6 a7 a8 a9
  have c0 := mcell hR1.1 0
  have c1 := mcell hR1.1 1
  have f1 := mfrozen hR1.1 1
  simp at c0 c1
  have HW1 := Lib.hid hW1
  have M1 := Lib.hid m1
  have HR1 := Lib.hid hR1
  have HB10 := Lib.hid hB1
  have HZ1 := Lib.hid hz1
  clear hW1 m1 hR1 hB1 hz1
  have p0' := pw_cell_below HB10.out p0
  have p1' := pw_cell_below HB10.out p1
  have p2' := pw_cell_below HB10.out p2
  clear p0 p1 p2
  have hd2 : decide (0 < L.length) = true := decide_eq_true (by omega)
  have hd3 : decide ((0 : Int) < (L.length : Int)) = true := decide_eq_true (by omega)
  have hwr : IntKind.i64.wrap ((L.length : Int) - 1) = (m : Int) := by rw [IntWalk.i64_in _ (by omega)]; omega
  have hmi : (m : Int) < (L.length : Int) := by omega
  have hd4 : decide (0 ≤ kc pt pf ps t f s) = false := decide_eq_false (by have := H2.out; omega)
  have HM := Lib.hid hm
  clear hm
  go_wp2_with fail
  go_region_held3 (fun w' => w'.cell? ⟨g, 1, none⟩ = some (.slice (some ⟨b, 0, none⟩) L.length c) ∧ w'.cell? ⟨b, m * 10, none⟩ = some (.int .i64 pt) ∧ w'.cell? ⟨b, m * 10 + 1, none⟩ = some (.int .i64 pf) ∧ w'.cell? ⟨b, m * 10 + 2, none⟩ = some (.int .i64 ps) ∧ w'.cell? ⟨w.heap.size, 0, none⟩ = some (.int .i64 t) ∧ w'.cell? ⟨w.heap.size, 1, none⟩ = some (.int .i64 f) ∧ w'.cell? ⟨w.heap.size, 2, none⟩ = some (.int .i64 s))
    ((go_split_ands; refine ⟨?_, ?_, ?_, ?_, ?_, ?_, ?_⟩ <;> first | assumption | exact pw_cell_below hb8 (by assumption)))
    ((go_at_call 14; refine (RefCmp.ref_cmp _ _ _ _ _ _ _).mono ?_; rintro e w8 ⟨rfl, hb8⟩))
  have hB2 : Below W1.heap.size W1 w8 := ⟨hb8.os, hb8.tape, hb8.output, hb8.size, hb8.block⟩
  clear hb8
  obtain ⟨W2, hW2⟩ : ∃ W2, W2 = w8 := ⟨_, rfl⟩
  subst hW2
  have hz2 : w.heap.size + 1 ≤ W2.heap.size := by have := hB2.size; have := HZ1.out; omega
  have hR2 := HR1.out.below hB2
  have m2 := (hB2.block _ (by rw [HZ1.out]; omega)).trans M1.out
  clear a0 a1 a2 a3 a4 a5 a6 a7 a8 a9 c0 c1 f1 p0' p1' p2'
  have hb02 : Below w.heap.size w W2 := (HB0.out.trans (HB10.out.mono (by have := HZ0.out; omega))).trans (hB2.mono (by have := HZ1.out; omega))
  have hd5 : decide (64 ≤ L.length) = true := decide_eq_true (by have := H3.out; omega)
  have hd6 : decide ((64 : Int) ≤ (L.length : Int)) = true := decide_eq_true (by have := H3.out; omega)
  have HB02 := Lib.hid hb02
  have HB2 := Lib.hid hB2
  clear hb02 hB2
  go_wp2_with fail
  go_ret
  exact ⟨rfl, HB02.out⟩
theorem rpush_at (w : World) (B g : Nat) (A : Option Addr) (c : Nat) (fl : Int) (L : List Ent) (h : RefAt w B g A c fl L) (e : Ent) :
    Calls Try.prog 18 #[.pointer (some ⟨g, 0, none⟩), e.val] w (RPushP w B g fl L e A c) := by
  have hgl := blk_lt h.1
  have hno : ∀ {r : Int} {x : Ending} {w' : World}, r ≠ 0 → pushR fl L e.t e.f e.s = r → x = .returned (.int .i64 r) ∧ Below w.heap.size w w' → RPushP w B g fl L e A c x w' := by
    rintro r x w' h0 hr ⟨rfl, hb⟩
    exact ⟨by rw [hr], Kept.of_below hb _, fun B' _ h2 => hb.mono h2, .inr ⟨by rw [hr]; exact h0, h.below hb⟩⟩
  have hyes : ∀ {x : Ending} {w' : World}, L.length < 64 → pushR fl L e.t e.f e.s = 0 → (x = .returned (.int .i64 0) ∧ ∃ w3 v, w' = w3.setCell ⟨g, 1, none⟩ v ∧ Below w.heap.size w w3 ∧ w3.ownsRow w.heap.size 52 10 v (L.length + 1) (flat L ++ e.cells)) → RPushP w B g fl L e A c x w' := by
    rintro x w' h3 hr ⟨rfl, w3, v, rfl, hb, ho⟩
    obtain ⟨k1, k2, k3⟩ := rpush_fin h e h3 hb ho
    exact ⟨by rw [hr], k1, k2, .inl ⟨hr, k3⟩⟩
  by_cases h1 : e.t < fl
  · exact (rpush_early w B g A c fl L h e h1).mono fun x w' hx => hno (by decide) (by unfold pushR; rw [if_pos h1]) hx
  · cases hl : L.length with
    | zero =>
      obtain rfl : L = [] := List.eq_nil_of_length_eq_zero hl
      exact (rpush_nil w B g A c fl h e (by omega)).mono fun x w' hx => hyes (by decide) (by unfold pushR; rw [if_neg h1]; rfl) hx
    | succ m =>
      obtain ⟨b, rfl, _⟩ := h.cells 0 (by omega)
      have hg := getLast_at L m hl
      by_cases h2 : kc (L[m]'(by omega)).t (L[m]'(by omega)).f (L[m]'(by omega)).s e.t e.f e.s < 0
      · by_cases h3 : L.length < 64
        · exact (rpush_some w B g b c fl L h m hl e (by omega) h2 h3).mono fun x w' hx => hyes h3 (by unfold pushR; rw [if_neg h1, hg]; simp only; rw [if_pos h2, if_pos h3]) hx
        · exact (rpush_full w B g b c fl L h m hl e (by omega) h2 (by have := h.2.2.2; omega)).mono fun x w' hx => hno (by decide) (by unfold pushR; rw [if_neg h1, hg]; simp only; rw [if_pos h2, if_neg h3]) hx
      · exact (rpush_order w B g b c fl L h m hl e (by omega) (by omega)).mono fun x w' hx => hno (by decide) (by unfold pushR; rw [if_neg h1, hg]; simp only; rw [if_neg h2]) hx
end Go.Proofs.Ytemedggbodkhcaa.Past

set_option linter.unusedVariables false
set_option linter.unusedSimpArgs false
namespace Go.Proofs.Ytemedggbodkhcaa.Past
open Go.RowKit Go.Proofs.YtemedggbodkhcaaW.PrintWords Go.Proofs.YtemedggbodkhcaaW.PrintLast
theorem flat_snoc (L : List Ent) (k : Nat) (h : k < L.length) : flat (L.take (k + 1)) = flat (L.take k) ++ L[k].cells := by
  rw [List.take_succ_eq_append_getElem h, flat, List.flatMap_append, flat]; simp
theorem flat_rsnoc (L : List Ent) (k : Nat) (h : k < L.length) : flat (L.drop k).reverse = flat (L.drop (k + 1)).reverse ++ L[k].cells := by
  rw [List.drop_eq_getElem_cons h, List.reverse_cons, flat, List.flatMap_append, flat]; simp
/-- the reference's list while entries are looked at: the key's block, the other list's, the row of what stands ahead -/
structure RB (w : World) (L : List Ent) (k0 k1 k2 : Int) (Al : Option Addr) (n cl : Nat) (wr : World) : Prop where
  key : wr.heap[w.heap.size]? = some (.cells #[.int .i64 k0, .int .i64 k1, .int .i64 k2] 27 (0, 0))
  out : wr.heap[w.heap.size + 1]? = some (.cells #[] 52 (0, 0))
  row : wr.ownsRow (w.heap.size + 2) 52 10 (.slice Al n cl) n (flat (L.take n))
  sz : w.heap.size + 3 ≤ wr.heap.size
  below : Below w.heap.size w wr
theorem RB.next {w : World} {L : List Ent} {k0 k1 k2 : Int} {Al : Option Addr} {n cl : Nat} {wr w' : World} (h : RB w L k0 k1 k2 Al n cl wr) (hb : Below wr.heap.size wr w') : RB w L k0 k1 k2 Al n cl w' :=
  have hz := h.sz
  ⟨(hb.block _ (by omega)).trans h.key, (hb.block _ (by omega)).trans h.out, own_below h.row hb, Nat.le_trans h.sz hb.size, h.below.trans (hb.mono (by omega))⟩
theorem RB.put {w : World} {L : List Ent} {k0 k1 k2 : Int} {Al Al' : Option Addr} {n cl cl' : Nat} {wr w' : World} {o : Obj} (h : RB w L k0 k1 k2 Al n cl wr) (hg : (wr.alloc o).grownBy w' (Value.slice Al n cl).ownBlock) (hr : w'.ownsRow (w.heap.size + 2) 52 10 (.slice Al' (n + 1) cl') (n + 1) (flat (L.take (n + 1)))) : RB w L k0 k1 k2 Al' (n + 1) cl' w' := by
  have hz := h.sz
  have hbs := own_base h.row
  have h1 := h.next (below_alloc (Below.refl _ wr) o)
  have hz1 := h1.sz
  have hlow : ∀ q, q < w.heap.size + 2 → some q ≠ (Value.slice Al n cl).ownBlock := fun q hq e => by have := hbs q e.symm; omega
  exact ⟨(hg.block _ (by omega) (hlow _ (by omega))).trans h1.key, (hg.block _ (by omega) (hlow _ (by omega))).trans h1.out, hr, Nat.le_trans hz1 hg.size, h1.below.grown hg (by omega) (fun q hq => by have := hbs q hq; omega)⟩
/-- the lists while entries are taken back -/
structure RB2 (w wo : World) (L : List Ent) (Al : Option Addr) (n cl : Nat) (Ao : Option Addr) (j co : Nat) (wr : World) : Prop where
  out : wr.ownsRow w.heap.size 52 10 (.slice Ao (L.length - j) co) (L.length - j) (flat (L.drop j).reverse)
  loc : ∀ q, ablk Ao = some q → q = w.heap.size + 1 ∨ wo.heap.size ≤ q
  row : wr.ownsRow (w.heap.size + 2) 52 10 (.slice Al n cl) n (flat (L.take n))
  llt : ∀ q, ablk Al = some q → q < wo.heap.size
  sz : wo.heap.size ≤ wr.heap.size
  osz : w.heap.size + 3 ≤ wo.heap.size
  below : Below w.heap.size w wr
theorem RB2.start {w wo : World} {L : List Ent} {k0 k1 k2 : Int} {Al : Option Addr} {n cl : Nat} (h : RB w L k0 k1 k2 Al n cl wo) : RB2 w wo L Al n cl (some ⟨w.heap.size + 1, 0, none⟩) L.length 0 wo := by
  refine ⟨?_, fun q hq => .inl (by cases hq; rfl), h.row, fun q hq => own_lt h.row q (by rw [ablk_own]; exact hq), Nat.le_refl _, h.sz, h.below⟩
  rw [Nat.sub_self, List.drop_length]
  exact ⟨rfl, .inr ⟨_, 0, #[], rfl, by omega, h.out, Nat.le_refl _, by unfold maxLen; omega, rfl, rfl⟩⟩
theorem RB2.put {w wo : World} {L : List Ent} {Al : Option Addr} {n cl : Nat} {Ao : Option Addr} {j co : Nat} {wr w' : World} {o : Obj} (h : RB2 w wo L Al n cl Ao (j + 1) co wr) {g' cap : Nat} (hg : (wr.alloc o).grownBy w' (Value.slice Ao (L.length - (j + 1)) co).ownBlock)
    (hr : w'.ownsRow w.heap.size 52 10 (.slice (some ⟨g', 0, none⟩) (L.length - j) cap) (L.length - j) (flat (L.drop j).reverse)) (hat : (Value.slice Ao (L.length - (j + 1)) co).ownBlock = some g' ∨ g' = wr.heap.size + 1) : RB2 w wo L Al n cl (some ⟨g', 0, none⟩) j cap w' := by
  have hz := h.sz
  have hoz := h.osz
  rw [ablk_own] at hg hat
  have hbr : Below wr.heap.size wr (wr.alloc o) := below_alloc (Below.refl _ wr) o
  have h1 := own_below h.row hbr
  have hs : (wr.alloc o).heap.size = wr.heap.size + 1 := by simp
  refine ⟨hr, fun q hq => ?_, own_move h1 (fun q hq => hg.block q (own_lt h1 q hq) (fun e => ?_)), h.llt, by have := hg.size; omega, h.osz, ((h.below.trans (hbr.mono (by omega))).grown hg (by omega) (fun q hq => ?_))⟩
  · cases hq
    rcases hat with e | e
    · exact h.loc _ e
    · exact .inr (by show wo.heap.size ≤ g'; omega)
  · have a := own_base h.row q hq
    rw [ablk_own] at hq
    have b := h.llt q hq
    have c := h.loc q e.symm
    omega
  · have := h.loc q hq
    omega
/-- what the reference's Back says -/
def RBackP (w : World) (B g : Nat) (fl : Int) (L : List Ent) (k : Nat) (x : Ending) (w' : World) : Prop :=
  ∃ A1 c1 A2 c2, x = .returned (.slice A1 (L.length - k) c1) ∧ w'.ownsRow w.heap.size 52 10 (.slice A1 (L.length - k) c1) (L.length - k) (flat (L.drop k).reverse) ∧ RefAt w' B g A2 c2 fl (L.take k) ∧ Kept w w' (fun q => q = g) ∧ (∀ B', B' ≤ g → B' ≤ w.heap.size → Below B' w w') ∧ (∀ q, ablk A1 = some q → ablk A2 ≠ some q)
set_option maxHeartbeats 6000000 in
set_option maxRecDepth 100000 in
theorem rback_at (w : World) (B g : Nat) (A : Option Addr) (c : Nat) (fl : Int) (L : List Ent) (h : RefAt w B g A c fl L) (k0 k1 k2 : Int) (k : Nat) (hk : k ≤ L.length)
    (h1 : ∀ i (hi : i < L.length), i < k → kc (L[i]).t (L[i]).f (L[i]).s k0 k1 k2 < 0) (h2 : ∀ i (hi : i < L.length), k ≤ i → 0 ≤ kc (L[i]).t (L[i]).f (L[i]).s k0 k1 k2) :
    Calls Try.prog 20 #[.pointer (some ⟨g, 0, none⟩), .agg #[.int .i64 k0, .int .i64 k1, .int .i64 k2]] w (RBackP w B g fl L k) := by
  have hu52 := Try.underlying52
  have hu63 := Try.underlying63
  have hu54 := Try.underlying54
  have hu29 := Try.underlying29
  have hu27 := Try.underlying27
  obtain ⟨i0, hi, hi0, hi1, hi2⟩ := info_parts info52
  have hgl := blk_lt h.1
  have hn := h.2.2.2
  obtain ⟨W0, hW0⟩ : ∃ W0, W0 = ((w.alloc (.cells #[.int .i64 k0, .int .i64 k1, .int .i64 k2] 27)).alloc (.cells #[] 52)).alloc (.cells #[] 52) := ⟨_, rfl⟩
  have hRB : RB w L k0 k1 k2 (some ⟨w.heap.size + 2, 0, none⟩) 0 0 W0 := by
    rw [hW0]
    refine ⟨?_, ?_, ?_, by simp, ?_⟩
    · exact blk_old' _ (blk_old' _ (blk_new' _ _))
    · have := blk_old' (.cells #[] 52) (blk_new' (w.alloc (.cells #[.int .i64 k0, .int .i64 k1, .int .i64 k2] 27)) (.cells #[] 52))
      rwa [World.size_alloc] at this
    · have := World.ownsRow_lit (base := w.heap.size + 2) (e := 52) (size := 10) ((w.alloc (.cells #[.int .i64 k0, .int .i64 k1, .int .i64 k2] 27)).alloc (.cells #[] 52)) #[] 0 (by simp) (by unfold maxLen; omega) rfl
      simpa [Nat.add_assoc, flat] using this
    · exact (((Below.refl _ w).alloc (Nat.le_refl _) _).alloc (by simp) _).alloc (by simp; omega) _
  have HR := Lib.hid h
  have HRB := Lib.hid hRB
  have HW0 := Lib.hid hW0
  have H1 := Lib.hid h1
  have H2 := Lib.hid h2
  clear h hRB hW0 h1 h2
  go_enter Try.func20, Try.ntmps20
  go_wp2_with fail
  rw [← HW0.out]
  go_loopw [6, 7] (fun v i wr => ∃ (Al : Option Addr) (cl j n : Nat), j ≤ L.length ∧ n ≤ j ∧ n ≤ k ∧ (n = j ∨ n = k) ∧ i = .int .i64 j ∧ v = .slice Al n cl ∧ RB w L k0 k1 k2 Al n cl wr) (fun _ i _ => L.length - (intOf i).toNat)
  case atStart => exact ⟨_, 0, 0, 0, Nat.zero_le _, Nat.le_refl _, Nat.zero_le _, .inl rfl, rfl, rfl, HRB.out⟩
  case round =>
    obtain ⟨Al, cl, j, n, hj, hnj, hnk, hn2, rfl, rfl, hrb⟩ := hrel
    have hRw := HR.out.below (hrb.below)
    have g1 := mcell hRw.1 1
    simp at g1
    have hgw := blk_lt hRw.1
    have hzr := hrb.sz
    by_cases hlt : j < L.length
    · obtain ⟨b, rfl, _, hbw, hlc⟩ := hRw.cells j hlt
      have hcap : L.length ≤ c := by
        rcases hRw.2.1.2 with ⟨q, _⟩ | ⟨b', cap', cur, q, _, _, h5, _⟩
        · cases q
        · cases q; omega
      have q0 := mcell hrb.key 0
      have q1 := mcell hrb.key 1
      have q2 := mcell hrb.key 2
      simp at q0 q1 q2
      have hji : (j : Int) < (L.length : Int) := by omega
      have hkc : (j < k → kc (L[j]).t (L[j]).f (L[j]).s k0 k1 k2 < 0) ∧ (k ≤ j → 0 ≤ kc (L[j]).t (L[j]).f (L[j]).s k0 k1 k2) := ⟨H1.out j hlt, H2.out j hlt⟩
      have hsn := flat_snoc L j hlt
      have hln := flat_len (L.take n)
      generalize hE : L[j] = el at hlc hkc hsn
      clear hE
      obtain ⟨pt, pf, ps, pd, pcl, pbd, pah, pse, pst, poa, pon, poc⟩ := el
      simp only [Ent.cells] at hlc hsn
      have p0 : wr.cell? ⟨b, j * 10, none⟩ = some (.int .i64 pt) := hlc 0 (by omega)
      have p1 : wr.cell? ⟨b, j * 10 + 1, none⟩ = some (.int .i64 pf) := hlc 1 (by omega)
      have p2 : wr.cell? ⟨b, j * 10 + 2, none⟩ = some (.int .i64 ps) := hlc 2 (by omega)
      have p3 : wr.cell? ⟨b, j * 10 + 3, none⟩ = some (.int .i64 pd) := hlc 3 (by omega)
      have p4 : wr.cell? ⟨b, j * 10 + 4, none⟩ = some (.int .i64 pcl) := hlc 4 (by omega)
      have p5 : wr.cell? ⟨b, j * 10 + 5, none⟩ = some (.int .i64 pbd) := hlc 5 (by omega)
      have p6 : wr.cell? ⟨b, j * 10 + 6, none⟩ = some (.int .i64 pah) := hlc 6 (by omega)
      have p7 : wr.cell? ⟨b, j * 10 + 7, none⟩ = some (.int .i64 pse) := hlc 7 (by omega)
      have p8 : wr.cell? ⟨b, j * 10 + 8, none⟩ = some (.int .i64 pst) := hlc 8 (by omega)
      have p9 : wr.cell? ⟨b, j * 10 + 9, none⟩ = some (.slice poa pon poc) := hlc 9 (by omega)
      have HKC := Lib.hid hkc
      have HSN := Lib.hid hsn
      have HRBw := Lib.hid hrb
      have HLN := Lib.hid hln
      clear hkc hsn hrb hln
      clear hlc hRw
      by_cases hjk : j < k
      · obtain rfl : j = n := by omega
        have hd1 : decide (kc pt pf ps k0 k1 k2 < 0) = true := decide_eq_true (HKC.out.1 hjk)
        have HN2 := Lib.hid hn2
        clear hn2
        go_wp2_with fail
        go_region_held3 (fun w' => w'.cell? ⟨g, 1, none⟩ = some (.slice (some ⟨b, 0, none⟩) L.length c) ∧ w'.cell? ⟨b, j * 10, none⟩ = some (.int .i64 pt) ∧ w'.cell? ⟨b, j * 10 + 1, none⟩ = some (.int .i64 pf) ∧ w'.cell? ⟨b, j * 10 + 2, none⟩ = some (.int .i64 ps) ∧ w'.cell? ⟨w.heap.size, 0, none⟩ = some (.int .i64 k0) ∧ w'.cell? ⟨w.heap.size, 1, none⟩ = some (.int .i64 k1) ∧ w'.cell? ⟨w.heap.size, 2, none⟩ = some (.int .i64 k2))
          ((go_split_ands; refine ⟨?_, ?_, ?_, ?_, ?_, ?_, ?_⟩ <;> first | assumption | exact pw_cell_below hb8 (by assumption)))
          ((go_at_call 14; refine (RefCmp.ref_cmp _ _ _ _ _ _ _).mono ?_; rintro e w8 ⟨rfl, hb8⟩))
        have hB2 : Below wr.heap.size wr w8 := ⟨hb8.os, hb8.tape, hb8.output, hb8.size, hb8.block⟩
        clear hb8
        have g1' := pw_cell_below hB2 g1
        have r0 := pw_cell_below hB2 p0
        have r1 := pw_cell_below hB2 p1
        have r2 := pw_cell_below hB2 p2
        have r3 := pw_cell_below hB2 p3
        have r4 := pw_cell_below hB2 p4
        have r5 := pw_cell_below hB2 p5
        have r6 := pw_cell_below hB2 p6
        have r7 := pw_cell_below hB2 p7
        have r8 := pw_cell_below hB2 p8
        have r9 := pw_cell_below hB2 p9
        have hz8 := hB2.size
        have hR8 := HRBw.out.next hB2
        have HN := Lib.hid (World.news_of_block (blk_new' w8 (.cells #[.int .i64 pt, .int .i64 pf, .int .i64 ps, .int .i64 pd, .int .i64 pcl, .int .i64 pbd, .int .i64 pah, .int .i64 pse, .int .i64 pst, .slice poa pon poc] 52)))
        clear p0 p1 p2 p3 p4 p5 p6 p7 p8 p9 g1 q0 q1 q2
        have HB2 := Lib.hid hB2
        have HR8 := Lib.hid hR8
        clear hB2 hR8
        go_wp2_with (at_builtin; go_loud (refine wpList_append_own _ rfl (.tmp 32) (.tmp 40) 54 rfl (w.heap.size + 2) 52 i0 _ 10 96 Try.underlying54 hi hi0 hi1 hi2 rfl (by decide) (.slice Al j cl) j (flat (L.take j)) rfl (HR8.out.row.alloc _) ⟨w8.heap.size, 0, none⟩ 1 1 (#[.int .i64 pt, .int .i64 pf, .int .i64 ps, .int .i64 pd, .int .i64 pcl, .int .i64 pbd, .int .i64 pah, .int .i64 pse, .int .i64 pst, .slice poa pon poc] : Array Value).toList rfl (by simp) (by simpa using HN.out) (by simp [Value.oneCell']) (by unfold maxLen; omega) (by omega) (by simp; omega) ?_); go_loud (intro v1 w1 hown hg hnn))
        obtain ⟨A', c', rfl⟩ := own_form hown
        rw [show flat (L.take j) ++ (#[.int .i64 pt, .int .i64 pf, .int .i64 ps, .int .i64 pd, .int .i64 pcl, .int .i64 pbd, .int .i64 pah, .int .i64 pse, .int .i64 pst, .slice poa pon poc] : Array Value).toList = flat (L.take (j + 1)) from HSN.out.symm] at hown
        exact ⟨⟨A', c', j + 1, j + 1, hlt, Nat.le_refl _, hjk, .inl rfl, by go_num, rfl, HR8.out.put hg hown⟩, by simp [intOf]; omega⟩
      · obtain rfl : n = k := by omega
        have hd1 : decide (kc pt pf ps k0 k1 k2 < 0) = false := decide_eq_false (Int.not_lt.2 (HKC.out.2 (by omega)))
        have HN2 := Lib.hid hn2
        clear hn2
        go_wp2_with fail
        go_region_held3 (fun w' => w'.cell? ⟨g, 1, none⟩ = some (.slice (some ⟨b, 0, none⟩) L.length c) ∧ w'.cell? ⟨b, j * 10, none⟩ = some (.int .i64 pt) ∧ w'.cell? ⟨b, j * 10 + 1, none⟩ = some (.int .i64 pf) ∧ w'.cell? ⟨b, j * 10 + 2, none⟩ = some (.int .i64 ps) ∧ w'.cell? ⟨w.heap.size, 0, none⟩ = some (.int .i64 k0) ∧ w'.cell? ⟨w.heap.size, 1, none⟩ = some (.int .i64 k1) ∧ w'.cell? ⟨w.heap.size, 2, none⟩ = some (.int .i64 k2))
          ((go_split_ands; refine ⟨?_, ?_, ?_, ?_, ?_, ?_, ?_⟩ <;> first | assumption | exact pw_cell_below hb8 (by assumption)))
          ((go_at_call 14; refine (RefCmp.ref_cmp _ _ _ _ _ _ _).mono ?_; rintro e w8 ⟨rfl, hb8⟩))
        have hB2 : Below wr.heap.size wr w8 := ⟨hb8.os, hb8.tape, hb8.output, hb8.size, hb8.block⟩
        clear hb8
        have hR8 := HRBw.out.next hB2
        have HB2 := Lib.hid hB2
        have HR8 := Lib.hid hR8
        clear hB2 hR8
        go_wp2_with fail
        exact ⟨⟨Al, cl, j + 1, n, hlt, by omega, Nat.le_refl _, .inr rfl, by go_num, rfl, HR8.out⟩, by simp [intOf]; omega⟩
    · obtain rfl : j = L.length := by omega
      obtain rfl : n = k := by omega
      have hwr : IntKind.i64.wrap ((L.length : Int) - 1) = (L.length : Int) - 1 := IntWalk.i64_in _ (by omega)
      have hR2 := RB2.start hrb
      obtain ⟨wo, hwo⟩ : ∃ wo, wo = wr := ⟨_, rfl⟩
      subst hwo
      have HN2 := Lib.hid hn2
      have HRBw := Lib.hid hrb
      have HR2 := Lib.hid hR2
      clear hn2 hrb hR2
      go_wp2_with fail
      go_loopw [5, 8] (fun v i wr => ∃ (Ao : Option Addr) (co j : Nat) (z : Int), n ≤ j ∧ j ≤ L.length ∧ z = (j : Int) - 1 ∧ i = .int .i64 z ∧ v = .slice Ao (L.length - j) co ∧ RB2 w wo L Al n cl Ao j co wr) (fun _ i _ => (intOf i + 1).toNat)
      case atStart => exact ⟨_, 0, L.length, (L.length : Int) - 1, hk, Nat.le_refl _, rfl, rfl, by rw [Nat.sub_self], HR2.out⟩
      case round =>
        obtain ⟨Ao, co, jo, z, hnj2, hj2, hz, rfl, rfl, hrb2⟩ := hrel
        have hRr := HR.out.below hrb2.below
        have g1' := mcell hRr.1 1
        simp at g1'
        have hgr := blk_lt hRr.1
        by_cases hjn : n < jo
        · obtain ⟨j, hj'⟩ : ∃ j, jo = j + 1 := ⟨jo - 1, by omega⟩
          subst hj'
          obtain rfl : z = (j : Int) := by omega
          obtain ⟨b, rfl, _, hbw, hlc⟩ := hRr.cells j (by omega)
          have hcap : L.length ≤ c := by
            rcases hRr.2.1.2 with ⟨q, _⟩ | ⟨b', cap', cur, q, _, _, h5, _⟩
            · cases q
            · cases q; omega
          have hji : (j : Int) < (L.length : Int) := by omega
          have hd1 : decide (n ≤ j) = true := decide_eq_true (by omega)
          have hd2 : decide ((n : Int) ≤ (j : Int)) = true := decide_eq_true (by omega)
          have hsn := flat_rsnoc L j (by omega)
          generalize hE : L[j] = el at hlc hsn
          clear hE
          obtain ⟨pt, pf, ps, pd, pcl, pbd, pah, pse, pst, poa, pon, poc⟩ := el
          simp only [Ent.cells] at hlc hsn
          have p0 : wr.cell? ⟨b, j * 10, none⟩ = some (.int .i64 pt) := hlc 0 (by omega)
          have p1 : wr.cell? ⟨b, j * 10 + 1, none⟩ = some (.int .i64 pf) := hlc 1 (by omega)
          have p2 : wr.cell? ⟨b, j * 10 + 2, none⟩ = some (.int .i64 ps) := hlc 2 (by omega)
          have p3 : wr.cell? ⟨b, j * 10 + 3, none⟩ = some (.int .i64 pd) := hlc 3 (by omega)
          have p4 : wr.cell? ⟨b, j * 10 + 4, none⟩ = some (.int .i64 pcl) := hlc 4 (by omega)
          have p5 : wr.cell? ⟨b, j * 10 + 5, none⟩ = some (.int .i64 pbd) := hlc 5 (by omega)
          have p6 : wr.cell? ⟨b, j * 10 + 6, none⟩ = some (.int .i64 pah) := hlc 6 (by omega)
          have p7 : wr.cell? ⟨b, j * 10 + 7, none⟩ = some (.int .i64 pse) := hlc 7 (by omega)
          have p8 : wr.cell? ⟨b, j * 10 + 8, none⟩ = some (.int .i64 pst) := hlc 8 (by omega)
          have p9 : wr.cell? ⟨b, j * 10 + 9, none⟩ = some (.slice poa pon poc) := hlc 9 (by omega)
          have hln := flat_len (L.drop (j + 1)).reverse
          have hle : L.length - (j + 1) + 1 = L.length - j := by omega
          have hwj : IntKind.i64.wrap ((j : Int) - 1) = (j : Int) - 1 := IntWalk.i64_in _ (by omega)
          have HN := Lib.hid (World.news_of_block (blk_new' wr (.cells #[.int .i64 pt, .int .i64 pf, .int .i64 ps, .int .i64 pd, .int .i64 pcl, .int .i64 pbd, .int .i64 pah, .int .i64 pse, .int .i64 pst, .slice poa pon poc] 52)))
          have hzr2 := hrb2.sz
          have hzo2 := hrb2.osz
          have HSN := Lib.hid hsn
          have HRB2 := Lib.hid hrb2
          have HLN := Lib.hid hln
          have HLE := Lib.hid hle
          have HZ := Lib.hid hz
          clear hsn hrb2 hln hle hz
          clear hlc hRr
          go_wp2_with (at_builtin; go_loud (refine wpList_append_lies _ rfl (.tmp 54) (.tmp 62) 54 rfl w.heap.size 52 i0 _ 10 96 Try.underlying54 hi hi0 hi1 hi2 rfl (by decide) (.slice Ao (L.length - (j + 1)) co) (L.length - (j + 1)) (flat (L.drop (j + 1)).reverse) rfl (HRB2.out.out.alloc _) ⟨wr.heap.size, 0, none⟩ 1 1 (#[.int .i64 pt, .int .i64 pf, .int .i64 ps, .int .i64 pd, .int .i64 pcl, .int .i64 pbd, .int .i64 pah, .int .i64 pse, .int .i64 pst, .slice poa pon poc] : Array Value).toList rfl (by simp) (by simpa using HN.out) (by simp [Value.oneCell']) (by decide) (by unfold maxLen; omega) (by omega) (by simp; omega) (wr.heap.size + 1) (by simp) ?_); go_loud (intro g' cap w1 hown hg hat hlt1; refine Pause.go ?_))
          refine Pause.mk ?_
          rw [HLE.out, show flat (L.drop (j + 1)).reverse ++ (#[.int .i64 pt, .int .i64 pf, .int .i64 ps, .int .i64 pd, .int .i64 pcl, .int .i64 pbd, .int .i64 pah, .int .i64 pse, .int .i64 pst, .slice poa pon poc] : Array Value).toList = flat (L.drop j).reverse from HSN.out.symm] at hown
          have hR3 := Lib.hid (HRB2.out.put hg hown hat)
          rw [HLE.out]
          have HG := Lib.hid hg
          have HOWN := Lib.hid hown
          have HAT := Lib.hid hat
          clear hg hown hat
          go_wp2_with fail
          exact ⟨⟨some ⟨g', 0, none⟩, cap, j, (j : Int) - 1, by omega, by omega, rfl, rfl, rfl, hR3.out⟩, by simp [intOf]⟩
        · obtain rfl : n = jo := by omega
          have hd1 : decide ((n : Int) ≤ z) = false := decide_eq_false (by omega)
          have f1 := mfrozen hRr.1 1
          have HRB2 := Lib.hid hrb2
          have HZ := Lib.hid hz
          have HRR := Lib.hid hRr
          clear hrb2 hz hRr
          go_wp2_with fail
          go_ret
          have hq := HRB2.out
          have hb1 := own_base hq.out
          have hb2 := own_base hq.row
          refine ⟨Ao, co, Al, cl, rfl, own_move hq.out (fun q h => Below.heap_setCell _ _ _ q (by have := hb1 q h; show q ≠ g; omega)), ⟨?_, ?_, HRR.out.2.2.1, by simp; omega⟩, ?_, fun B' e1 e2 => (hq.below.mono e2).setCell (p := ⟨g, 1, none⟩) e1 _, fun q h1 h2 => ?_⟩
          · have := blk_set HRR.out.1 1 (.slice Al n cl)
            have hln2 : (L.take n).length = n := by simp; omega
            rw [hln2]
            simpa using this
          · have hln2 : (L.take n).length = n := by simp; omega
            rw [hln2]
            exact own_mono (own_move hq.row (fun q h => Below.heap_setCell _ _ _ q (by have := hb2 q h; show q ≠ g; omega))) (by have := HRR.out.2.2.1; omega)
          · exact (Kept.of_below hq.below (fun q => q = g)).setCell (p := ⟨g, 1, none⟩) (Or.inl (Eq.refl g)) _
          · have e1 := hq.loc q h1
            have e2 := hq.llt q h2
            have e3 := hb2 q (by rw [ablk_own]; exact h2)
            omega
end Go.Proofs.Ytemedggbodkhcaa.Past

set_option linter.unusedVariables false
set_option linter.unusedSimpArgs false
namespace Go.Proofs.Ytemedggbodkhcaa.Past
open Go.RowKit Go.Proofs.YtemedggbodkhcaaW.PrintWords Go.Proofs.YtemedggbodkhcaaW.PrintLast
/-- two rows of the call's own, apart from each other -/
structure RS (w : World) (L M : List Ent) (Ao : Option Addr) (n co : Nat) (Al : Option Addr) (m cl : Nat) (wr : World) : Prop where
  out : wr.ownsRow w.heap.size 52 10 (.slice Ao n co) n (flat (L.take n))
  row : wr.ownsRow w.heap.size 52 10 (.slice Al m cl) m (flat (M.take m))
  ne : ∀ q, ablk Ao = some q → ablk Al ≠ some q
  below : Below w.heap.size w wr
theorem RS.flip {w : World} {L M : List Ent} {Ao : Option Addr} {n co : Nat} {Al : Option Addr} {m cl : Nat} {wr : World} (h : RS w L M Ao n co Al m cl wr) : RS w M L Al m cl Ao n co wr :=
  ⟨h.row, h.out, fun q h1 h2 => h.ne q h2 h1, h.below⟩
theorem RS.put {w : World} {L M : List Ent} {Ao : Option Addr} {n co : Nat} {Al : Option Addr} {m cl : Nat} {wr w' : World} {o : Obj} (h : RS w L M Ao n co Al m cl wr) {g' cap : Nat} (hg : (wr.alloc o).grownBy w' (Value.slice Ao n co).ownBlock)
    (hr : w'.ownsRow w.heap.size 52 10 (.slice (some ⟨g', 0, none⟩) (n + 1) cap) (n + 1) (flat (L.take (n + 1)))) (hat : (Value.slice Ao n co).ownBlock = some g' ∨ g' = wr.heap.size + 1) : RS w L M (some ⟨g', 0, none⟩) (n + 1) cap Al m cl w' := by
  rw [ablk_own] at hg hat
  have hbr : Below wr.heap.size wr (wr.alloc o) := below_alloc (Below.refl _ wr) o
  have h1 := own_below h.row hbr
  have hz := h.below.size
  have hl := own_lt h.row
  have hbo := own_base h.out
  refine ⟨hr, own_move h1 (fun q hq => hg.block q (own_lt h1 q hq) (fun e => ?_)), fun q h1 h2 => ?_, ((h.below.trans (hbr.mono hz)).grown hg (by simp; omega) (fun q hq => hbo q (by rw [ablk_own]; exact hq)))⟩
  · rw [ablk_own] at hq
    exact h.ne q e.symm hq
  · cases h1
    have a := hl _ (by rw [ablk_own]; exact h2)
    rcases hat with e | e
    · exact h.ne _ e h2
    · exact absurd a (by show ¬ g' < _; omega)
/-- what the reference's Settle says -/
def RSettleP (w : World) (B g : Nat) (fl t : Int) (L : List Ent) (k : Nat) (x : Ending) (w' : World) : Prop :=
  ∃ A1 c1 A2 c2, x = .returned (.slice A1 k c1) ∧ w'.ownsRow w.heap.size 52 10 (.slice A1 k c1) k (flat (L.take k)) ∧ RefAt w' B g A2 c2 (max fl t) (L.drop k) ∧ Kept w w' (fun q => q = g) ∧ (∀ B', B' ≤ g → B' ≤ w.heap.size → Below B' w w') ∧ (∀ q, ablk A1 = some q → ablk A2 ≠ some q)
theorem flat_snoc' (L : List Ent) (k m : Nat) (h : k + m < L.length) : flat ((L.drop k).take (m + 1)) = flat ((L.drop k).take m) ++ (L[k + m]).cells := by
  rw [flat_snoc _ _ (by simp; omega)]
  congr 2
  simp
theorem rsettle_fin {w wr : World} {B g : Nat} {A : Option Addr} {c : Nat} {fl t y : Int} {L : List Ent} {k : Nat} {Ao Al : Option Addr} {co m cl : Nat} (hr : RefAt wr B g A c fl L) (hgl : g < w.heap.size) (hk : k ≤ L.length) (hm : m = L.length - k) (hq : RS w L (L.drop k) Ao k co Al m cl wr) (hy : y = max fl t) :
    RSettleP w B g fl t L k (.returned (.slice Ao k co)) ((wr.setCell ⟨g, 1, none⟩ (.slice Al m cl)).setCell ⟨g, 0, none⟩ (.int .i64 y)) := by
  have hb1 := own_base hq.out
  have hb2 := own_base hq.row
  have hfar : ∀ q, q ≠ g → ((wr.setCell ⟨g, 1, none⟩ (.slice Al m cl)).setCell ⟨g, 0, none⟩ (.int .i64 y)).heap[q]? = wr.heap[q]? := fun q hq => (Below.heap_setCell _ _ _ q hq).trans (Below.heap_setCell _ _ _ q hq)
  have hln2 : (L.drop k).length = m := by simp; omega
  refine ⟨Ao, co, Al, cl, rfl, own_move hq.out (fun q h => hfar q (by have := hb1 q h; omega)), ⟨?_, ?_, hr.2.2.1, by have := hr.2.2.2; omega⟩, ?_, fun B' e1 e2 => ((hq.below.mono e2).setCell (p := ⟨g, 1, none⟩) e1 _).setCell (p := ⟨g, 0, none⟩) e1 _, hq.ne⟩
  · have := blk_set (blk_set hr.1 1 (.slice Al m cl)) 0 (.int .i64 y)
    rw [hln2, ← hy]
    simpa using this
  · rw [hln2]
    have := hq.row
    rw [List.take_of_length_le (by omega)] at this
    exact own_mono (own_move this (fun q h => hfar q (by have := hb2 q h; omega))) (by have := hr.2.2.1; omega)
  · exact ((Kept.of_below hq.below (fun q => q = g)).setCell (p := ⟨g, 1, none⟩) (Or.inl (Eq.refl g)) _).setCell (p := ⟨g, 0, none⟩) (Or.inl (Eq.refl g)) _
set_option maxHeartbeats 6000000 in
set_option maxRecDepth 100000 in
theorem rsettle_at (w : World) (B g : Nat) (A : Option Addr) (c : Nat) (fl : Int) (L : List Ent) (h : RefAt w B g A c fl L) (t : Int) (k : Nat) (hk : k ≤ L.length)
    (h1 : ∀ i (hi : i < L.length), i < k → (L[i]).t < t) (h2 : ∀ i (hi : i < L.length), k ≤ i → t ≤ (L[i]).t) :
    Calls Try.prog 21 #[.pointer (some ⟨g, 0, none⟩), .int .i64 t] w (RSettleP w B g fl t L k) := by
  have hu52 := Try.underlying52
  have hu63 := Try.underlying63
  have hu54 := Try.underlying54
  have hu29 := Try.underlying29
  have hu27 := Try.underlying27
  obtain ⟨i0, hi, hi0, hi1, hi2⟩ := info_parts info52
  have hgl := blk_lt h.1
  have hn := h.2.2.2
  obtain ⟨W0, hW0⟩ : ∃ W0, W0 = (w.alloc (.cells #[] 52)).alloc (.cells #[] 52) := ⟨_, rfl⟩
  have hRS : RS w L (L.drop k) (some ⟨w.heap.size, 0, none⟩) 0 0 (some ⟨w.heap.size + 1, 0, none⟩) 0 0 W0 := by
    rw [hW0]
    refine ⟨?_, ?_, fun q e1 e2 => ?_, ?_⟩
    · have := World.ownsRow_lit (base := w.heap.size) (e := 52) (size := 10) w #[] 0 (by simp) (by unfold maxLen; omega) rfl
      simpa [flat] using this.alloc (.cells #[] 52)
    · have := World.ownsRow_lit (base := w.heap.size) (e := 52) (size := 10) (w.alloc (.cells #[] 52)) #[] 0 (by simp) (by unfold maxLen; omega) rfl
      simpa [flat] using this
    · cases e1; simp [ablk] at e2
    · exact ((Below.refl _ w).alloc (Nat.le_refl _) _).alloc (by simp) _
  have HR := Lib.hid h
  have HRS := Lib.hid hRS
  have HW0 := Lib.hid hW0
  have H1 := Lib.hid h1
  have H2 := Lib.hid h2
  clear h hRS hW0 h1 h2
  go_enter Try.func21, Try.ntmps21
  go_wp2_with fail
  rw [← HW0.out]
  go_loopw [5, 6, 7] (fun o v i wr => ∃ (Ao : Option Addr) (co n : Nat) (Al : Option Addr) (cl m j : Nat), j ≤ L.length ∧ n ≤ k ∧ j = n + m ∧ (m = 0 ∨ n = k) ∧ i = .int .i64 j ∧ o = .slice Ao n co ∧ v = .slice Al m cl ∧ RS w L (L.drop k) Ao n co Al m cl wr) (fun _ _ i _ => L.length - (intOf i).toNat)
  case atStart => exact ⟨_, 0, 0, _, 0, 0, 0, Nat.zero_le _, Nat.zero_le _, rfl, .inl rfl, rfl, rfl, rfl, HRS.out⟩
  case round =>
    obtain ⟨Ao, co, n, Al, cl, m, j, hj, hnk, hjs, hmn, rfl, rfl, rfl, hrs⟩ := hrel
    have hRw := HR.out.below hrs.below
    have g1 := mcell hRw.1 1
    simp at g1
    have hgw := blk_lt hRw.1
    have hzw := hrs.below.size
    by_cases hlt : j < L.length
    · obtain ⟨b, rfl, _, hbw, hlc⟩ := hRw.cells j hlt
      have hcap : L.length ≤ c := by
        rcases hRw.2.1.2 with ⟨q, _⟩ | ⟨b', cap', cur, q, _, _, h5, _⟩
        · cases q
        · cases q; omega
      have hji : (j : Int) < (L.length : Int) := by omega
      have hsn := flat_snoc L j hlt
      have hsn' := fun (e : j = k + m) => flat_snoc' L k m (by omega)
      have hq1 := H1.out j hlt
      have hq2 := H2.out j hlt
      have hsn2 : j = k + m → flat ((L.drop k).take (m + 1)) = flat ((L.drop k).take m) ++ (L[j]).cells := by
        intro e
        subst e
        exact hsn' rfl
      clear hsn'
      generalize hE : L[j] = el at hlc hsn hsn2 hq1 hq2
      clear hE
      obtain ⟨pt, pf, ps, pd, pcl, pbd, pah, pse, pst, poa, pon, poc⟩ := el
      simp only [Ent.cells] at hlc hsn hsn2 hq1 hq2
      have p0 : wr.cell? ⟨b, j * 10, none⟩ = some (.int .i64 pt) := hlc 0 (by omega)
      have p1 : wr.cell? ⟨b, j * 10 + 1, none⟩ = some (.int .i64 pf) := hlc 1 (by omega)
      have p2 : wr.cell? ⟨b, j * 10 + 2, none⟩ = some (.int .i64 ps) := hlc 2 (by omega)
      have p3 : wr.cell? ⟨b, j * 10 + 3, none⟩ = some (.int .i64 pd) := hlc 3 (by omega)
      have p4 : wr.cell? ⟨b, j * 10 + 4, none⟩ = some (.int .i64 pcl) := hlc 4 (by omega)
      have p5 : wr.cell? ⟨b, j * 10 + 5, none⟩ = some (.int .i64 pbd) := hlc 5 (by omega)
      have p6 : wr.cell? ⟨b, j * 10 + 6, none⟩ = some (.int .i64 pah) := hlc 6 (by omega)
      have p7 : wr.cell? ⟨b, j * 10 + 7, none⟩ = some (.int .i64 pse) := hlc 7 (by omega)
      have p8 : wr.cell? ⟨b, j * 10 + 8, none⟩ = some (.int .i64 pst) := hlc 8 (by omega)
      have p9 : wr.cell? ⟨b, j * 10 + 9, none⟩ = some (.slice poa pon poc) := hlc 9 (by omega)
      have HN := Lib.hid (World.news_of_block (blk_new' wr (.cells #[.int .i64 pt, .int .i64 pf, .int .i64 ps, .int .i64 pd, .int .i64 pcl, .int .i64 pbd, .int .i64 pah, .int .i64 pse, .int .i64 pst, .slice poa pon poc] 52)))
      by_cases hjk : j < k
      · obtain ⟨rfl, rfl⟩ : j = n ∧ m = 0 := by omega
        have hd1 : decide (pt < t) = true := decide_eq_true (hq1 hjk)
        have hln := flat_len (L.take j)
        have HSN := Lib.hid hsn
        have HSN2 := Lib.hid hsn2
        have HQ1 := Lib.hid hq1
        have HQ2 := Lib.hid hq2
        have HRSw := Lib.hid hrs
        have HLN := Lib.hid hln
        have HJS := Lib.hid hjs
        have HMN := Lib.hid hmn
        clear hsn hsn2 hq1 hq2 hrs hln hjs hmn
        clear hlc hRw
        go_wp2_with (at_builtin; go_loud (refine wpList_append_lies _ rfl (.tmp 31) (.tmp 39) 54 rfl w.heap.size 52 i0 _ 10 96 Try.underlying54 hi hi0 hi1 hi2 rfl (by decide) (.slice Ao j co) j (flat (L.take j)) rfl (HRSw.out.out.alloc _) ⟨wr.heap.size, 0, none⟩ 1 1 (#[.int .i64 pt, .int .i64 pf, .int .i64 ps, .int .i64 pd, .int .i64 pcl, .int .i64 pbd, .int .i64 pah, .int .i64 pse, .int .i64 pst, .slice poa pon poc] : Array Value).toList rfl (by simp) (by simpa using HN.out) (by simp [Value.oneCell']) (by decide) (by unfold maxLen; omega) (by omega) (by simp; omega) (wr.heap.size + 1) (by simp) ?_); go_loud (intro g' cap w1 hown hg hat hlt1; refine Pause.go ?_))
        refine Pause.mk ?_
        rw [show flat (L.take j) ++ (#[.int .i64 pt, .int .i64 pf, .int .i64 ps, .int .i64 pd, .int .i64 pcl, .int .i64 pbd, .int .i64 pah, .int .i64 pse, .int .i64 pst, .slice poa pon poc] : Array Value).toList = flat (L.take (j + 1)) from HSN.out.symm] at hown
        have hR3 := Lib.hid (HRSw.out.put hg hown hat)
        have HG := Lib.hid hg
        have HOWN := Lib.hid hown
        have HAT := Lib.hid hat
        clear hg hown hat
        go_wp2_with fail
        exact ⟨⟨some ⟨g', 0, none⟩, cap, j + 1, Al, cl, 0, j + 1, hlt, hjk, rfl, .inl rfl, by go_num, rfl, rfl, hR3.out⟩, by simp [intOf]; omega⟩
      · obtain rfl : k = n := by omega
        have hd1 : decide (pt < t) = false := decide_eq_false (by have := hq2 (by omega); omega)
        have hln := flat_len ((L.drop k).take m)
        have hsn3 := hsn2 hjs
        have HSN := Lib.hid hsn
        have HSN2 := Lib.hid hsn2
        have HSN3 := Lib.hid hsn3
        have HQ1 := Lib.hid hq1
        have HQ2 := Lib.hid hq2
        have HRSw := Lib.hid hrs
        have HLN := Lib.hid hln
        have HJS := Lib.hid hjs
        have HMN := Lib.hid hmn
        clear hsn hsn2 hsn3 hq1 hq2 hrs hln hjs hmn
        clear hlc hRw
        have hml : m ≤ 64 := by have := HJS.out; omega
        go_wp2_with (at_builtin; go_loud (refine wpList_append_lies _ rfl (.tmp 41) (.tmp 49) 54 rfl w.heap.size 52 i0 _ 10 96 Try.underlying54 hi hi0 hi1 hi2 rfl (by decide) (.slice Al m cl) m (flat ((L.drop k).take m)) rfl (HRSw.out.row.alloc _) ⟨wr.heap.size, 0, none⟩ 1 1 (#[.int .i64 pt, .int .i64 pf, .int .i64 ps, .int .i64 pd, .int .i64 pcl, .int .i64 pbd, .int .i64 pah, .int .i64 pse, .int .i64 pst, .slice poa pon poc] : Array Value).toList rfl (by simp) (by simpa using HN.out) (by simp [Value.oneCell']) (by decide) (by unfold maxLen; omega) (by omega) (by simp; omega) (wr.heap.size + 1) (by simp) ?_); go_loud (intro g' cap w1 hown hg hat hlt1; refine Pause.go ?_))
        refine Pause.mk ?_
        rw [show flat ((L.drop k).take m) ++ (#[.int .i64 pt, .int .i64 pf, .int .i64 ps, .int .i64 pd, .int .i64 pcl, .int .i64 pbd, .int .i64 pah, .int .i64 pse, .int .i64 pst, .slice poa pon poc] : Array Value).toList = flat ((L.drop k).take (m + 1)) from HSN3.out.symm] at hown
        have hR3 := Lib.hid (HRSw.out.flip.put hg hown hat).flip
        have HG := Lib.hid hg
        have HOWN := Lib.hid hown
        have HAT := Lib.hid hat
        clear hg hown hat
        go_wp2_with fail
        exact ⟨⟨Ao, co, k, some ⟨g', 0, none⟩, cap, m + 1, j + 1, hlt, Nat.le_refl _, by have := HJS.out; omega, .inr rfl, by go_num, rfl, rfl, hR3.out⟩, by simp [intOf]; omega⟩
    · obtain rfl : j = L.length := by omega
      obtain rfl : k = n := by omega
      have f1 := mfrozen hRw.1 1
      have f0 := mfrozen hRw.1 0
      have g0 := mcell hRw.1 0
      simp at g0
      have HRSw := Lib.hid hrs
      have HRW := Lib.hid hRw
      have HJS := Lib.hid hjs
      have HMN := Lib.hid hmn
      clear hrs hRw hjs hmn
      go_wp2_with fail
      all_goals
        go_ret
        refine rsettle_fin (fl := fl) (t := t) HRW.out hgl hk (by have := HJS.out; omega) HRSw.out ?_
        rfl
end Go.Proofs.Ytemedggbodkhcaa.Past
