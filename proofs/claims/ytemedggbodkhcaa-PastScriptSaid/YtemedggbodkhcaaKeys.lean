/- past.Keys. -/
import Derived.Test.YtemedggbodkhcaaBack
set_option linter.unusedVariables false
set_option linter.unusedSimpArgs false
namespace Go.Proofs.Ytemedggbodkhcaa.Past
open Go.RowKit Go.Proofs.YtemedggbodkhcaaW.PrintWords Go.Proofs.YtemedggbodkhcaaW.PrintLast
theorem info27 : (Try.prog.info? 27).map (fun i => (i.zero, i.size, i.bytes)) = some (some (.agg #[.int .i64 0, .int .i64 0, .int .i64 0]), 3, 24) := by kernel_rfl
/-- an entry's key: three cells -/
def Ent.key (e : Ent) : List Value := [.int .i64 e.t, .int .i64 e.f, .int .i64 e.s]
def keyCells (L : List Ent) : List Value := L.flatMap Ent.key
theorem keyCells_succ (L : List Ent) (k : Nat) (h : k < L.length) : keyCells (L.take (k + 1)) = keyCells (L.take k) ++ L[k].key := by
  rw [List.take_succ_eq_append_getElem h]
  rw [keyCells, List.flatMap_append, keyCells]
  simp
theorem keyCells_len (L : List Ent) : (keyCells L).length = L.length * 3 := by
  induction L with
  | nil => rfl
  | cons x L ih => rw [keyCells, List.flatMap_cons, List.length_append, ← keyCells, ih, List.length_cons]; simp [Ent.key]; omega
set_option maxHeartbeats 2000000 in
set_option maxRecDepth 100000 in
theorem keys_at (w : World) (B g : Nat) (A : Option Addr) (c : Nat) (fl : Int) (L : List Ent) (h : PastAt w B g A c fl L) :
    Calls Try.prog 16 #[.pointer (some ⟨g, 0, none⟩)] w fun x w' => ∃ A1 c1, x = .returned (.slice A1 L.length c1) ∧ w'.ownsRow w.heap.size 27 3 (.slice A1 L.length c1) L.length (keyCells L) ∧ Below w.heap.size w w' := by
  have hu32 := Try.underlying32
  have hu65 := Try.underlying65
  have hu35 := Try.underlying35
  have hu27 := Try.underlying27
  have hu29 := Try.underlying29
  have hu45 := Try.underlying45
  obtain ⟨i0, hi, hz0, hz1, hz2⟩ := info_parts info27
  have G1 := mcell h.1 1
  simp at G1
  have hn := h.2.2.2
  have HP := Lib.hid h
  clear h
  go_enter Try.func16, Try.ntmps16
  go_wp2
  go_loopw [3, 11] (fun v i wr => ∃ (A1 : Option Addr) (c1 k : Nat), k ≤ L.length ∧ i = .int .i64 k ∧ v = .slice A1 k c1 ∧ wr.ownsRow w.heap.size 27 3 (.slice A1 k c1) k (keyCells (L.take k)) ∧ Below w.heap.size w wr) (fun _ i _ => L.length - (intOf i).toNat)
  case atStart => exact ⟨none, 0, 0, Nat.zero_le _, rfl, rfl, World.ownsRow_nil _ _ _ _, Below.refl _ _⟩
  case round =>
    obtain ⟨A1, c1, k, hk, rfl, rfl, ho, hb⟩ := hrel
    by_cases hlt : k < L.length
    · obtain ⟨b, rfl, hb1, hb2, hC, hc⟩ := (HP.out.below hb).cells k hlt
      have hsn := keyCells_succ L k hlt
      have hkl := keyCells_len (L.take k)
      generalize L[k] = e at hc hsn
      obtain ⟨t, f, s, d, cl, bd, ah, se, st, oa, on_, oc⟩ := e
      simp only [Ent.cells] at hc
      simp only [Ent.key] at hsn
      have hcs : ∀ j v, ([.int .i64 t, .int .i64 f, .int .i64 s, .int .i64 d, .int .i64 cl, .int .i64 bd, .int .i64 ah, .int .i64 se, .int .i64 st, .slice oa on_ oc] : List Value)[j]? = some v → wr.cell? ⟨b, k * 10 + j, none⟩ = some v := fun j v hv => (hc j (by have := (List.getElem?_eq_some_iff.1 hv).1; exact this)).trans hv
      have d0 := hcs 0 _ rfl
      have d1 := hcs 1 _ rfl
      have d2 := hcs 2 _ rfl
      have d3 := hcs 3 _ rfl
      have d4 := hcs 4 _ rfl
      have d5 := hcs 5 _ rfl
      have d6 := hcs 6 _ rfl
      have d7 := hcs 7 _ rfl
      have d8 := hcs 8 _ rfl
      have d9 := hcs 9 _ rfl
      rw [Nat.add_zero] at d0
      have HSN := Lib.hid hsn
      have HO := Lib.hid ho
      have HB := Lib.hid hb
      have hsz := hb.size
      have HKL := Lib.hid hkl
      clear hcs hc hC hsn ho hb hkl
      have hka : (k : Int) < (L.length : Int) := by omega
      have hb2' := Lib.hid (((Below.refl wr.heap.size wr).alloc (Nat.le_refl _) (.cells #[.int .i64 t, .int .i64 f, .int .i64 s, .int .i64 d, .int .i64 cl, .int .i64 bd, .int .i64 ah, .int .i64 se, .int .i64 st, .slice oa on_ oc] 32)).alloc (by simp) (.cells #[.int .i64 t, .int .i64 f, .int .i64 s] 27))
      have HN := Lib.hid (World.news_of_block (heap_alloc_new (wr.alloc (.cells #[.int .i64 t, .int .i64 f, .int .i64 s, .int .i64 d, .int .i64 cl, .int .i64 bd, .int .i64 ah, .int .i64 se, .int .i64 st, .slice oa on_ oc] 32)) (.cells #[.int .i64 t, .int .i64 f, .int .i64 s] 27)))
      go_wp2_with (at_builtin; go_loud (refine wpList_append_own _ rfl (.tmp 15) (.tmp 19) 45 rfl w.heap.size 27 i0 _ 3 24 Try.underlying45 hi hz0 hz1 hz2 rfl (by decide) (.slice A1 k c1) k (keyCells (L.take k)) rfl ((HO.out.alloc _).alloc _) ⟨wr.heap.size + 1, 0, none⟩ 1 1 [.int .i64 t, .int .i64 f, .int .i64 s] (by rfl) rfl (by simpa using HN.out) (by simp [Value.oneCell']) (by unfold maxLen; omega) (by omega) (by simp; omega) ?_); go_loud (intro v1 w1 hown hg hnn))
      have hf : ∃ A' c', v1 = .slice A' (k + 1) c' := by
        rcases hown.2 with ⟨rfl, h0⟩ | ⟨g, cap, cur, rfl, _⟩
        · omega
        · exact ⟨_, _, rfl⟩
      obtain ⟨A', c', rfl⟩ := hf
      rw [← HSN.out] at hown
      refine ⟨⟨A', c', k + 1, hlt, by go_num, rfl, hown, ?_⟩, by simp [intOf]; omega⟩
      exact ((HB.out.trans (hb2'.out.mono hsz))).grown hg (by simp; omega) (fun q hq => own_base HO.out q hq)
    · obtain rfl : k = L.length := by omega
      have HO := Lib.hid ho
      have HB := Lib.hid hb
      clear ho hb
      go_wp2
      go_ret
      have h1 := HO.out
      rw [List.take_length] at h1
      exact ⟨A1, c1, rfl, h1, HB.out⟩
end Go.Proofs.Ytemedggbodkhcaa.Past
