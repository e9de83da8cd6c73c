/- grant.upTo of the given program: of a list that does not fall, how many elements are at most t: sort.Search by its contract, the closure by a walk. -/
import Derived.Test.YtmjjejjlfkigjaaShelf
import Derived.Test.YtmjjejjlfkigjaaWMore
namespace Go.Proofs.Ytmjjejjlfkigjaa.Ext
open Go.RowKit Go.Shelf Go.Lib Go.Sort Go.Proofs.YtmjjejjlfkigjaaW.PrintWords Go.Proofs.YtmjjejjlfkigjaaW.PrintLast

set_option maxHeartbeats 2000000 in
theorem closure_calls (bq bt : Nat) (A : Addr) (n c : Nat) (x t : Int) (i : Nat) (W : World) (hi : i < n) (_hn : n < 4611686018427387904)
    (ha : W.cell? ⟨bq, 0, none⟩ = some (.slice (some A) n c)) (hx : W.cell? ⟨bt, 0, none⟩ = some (.int .i64 t)) (hc : W.cell? (A.add i) = some (.int .i64 x)) :
    Calls Try.prog 16 #[.int .i64 i, .pointer (some ⟨bq, 0, none⟩), .pointer (some ⟨bt, 0, none⟩)] W fun e w' => e = .returned (.bool (decide (t < x))) ∧ ∃ q, w' = W.drewN q := by
  have hiz : (i : Int) < (n : Int) := by omega
  go_enter Try.func16, Try.ntmps16
  go_wp2
  go_region
  all_goals go_wp2
  all_goals go_ret
  all_goals exact ⟨by first | rfl | simp, 1, rfl⟩

/-- how many are at most t -/
def upN (l : List Int) (t : Int) : Nat := l.countP fun x => decide (x ≤ t)
def grant_upTo.f (l : List Int) (t : Int) : Option Int := if l.Pairwise (· ≤ ·) ∧ l.length ≤ 4096 then some (upN l t : Nat) else none

theorem count_range (l : List Int) (t : Int) : (List.range l.length).countP (fun i => !decide (t < l.getD i 0)) = upN l t := by
  have h : l = (List.range l.length).map (fun i => l.getD i 0) := by
    apply List.ext_getElem
    · simp
    · intro i h1 h2
      simp [h1]
  unfold upN
  conv => rhs; rw [h]
  rw [List.countP_map]
  congr 1
  funext i
  simp only [Function.comp]
  rw [Bool.eq_iff_iff]
  simp

set_option maxHeartbeats 2000000 in
theorem grant_upTo.calls (A0 : Option Addr) (c0 : Nat) (l0 : List Int) (a1 : Int) (r : Int) (w : World) (hr0 : Kd.C (Kd.int .i64) w A0 l0.length l0) (_hc0 : l0.length ≤ c0) (h : grant_upTo.f l0 a1 = some r) :
    Calls Try.prog 12 #[.slice A0 l0.length c0, .int .i64 a1] w fun e w' => e = .returned (.int .i64 r) ∧ Below w.heap.size w w' := by
  have hR : ReadsInt w .i64 A0 l0.length l0 := Kd.reads_of_C (d := 0) hr0
  clear hr0
  unfold grant_upTo.f at h
  split at h
  case isFalse => cases h
  rename_i hs
  obtain rfl := Option.some.inj h
  clear h
  obtain ⟨W0, hW0⟩ : ∃ W0, W0 = (w.alloc (.cells #[.slice A0 l0.length c0] 22)).alloc (.cells #[.int .i64 a1] 3) := ⟨_, rfl⟩
  have hsize : W0.heap.size = w.heap.size + 1 + 1 := by rw [hW0]; simp
  have ca : W0.cell? ⟨w.heap.size, 0, none⟩ = some (.slice A0 l0.length c0) := by rw [hW0]; exact cell_alloc_sl _ (cell_new_sl w _ _)
  have cx : W0.cell? ⟨w.heap.size + 1, 0, none⟩ = some ((Value.int .i64) a1) := by rw [hW0]; have := cell_new_sl (w.alloc (.cells #[.slice A0 l0.length c0] 22)) ((Value.int .i64) a1) 3; rwa [World.size_alloc] at this
  have hR0 : ReadsInt W0 .i64 A0 l0.length l0 := by rw [hW0]; exact (hR.allocS _).allocS _
  have eg : ∀ args w, (callFunc 16 args).run Try.prog w = .ok (.enter 16 args) w := enters_of Try.func16 (by kernel_rfl) rfl
  have hlen : l0.length < 4611686018427387904 := by omega
  have hS := Any.sort_Search Try.search 16 #[.pointer (some ⟨w.heap.size, 0, none⟩), .pointer (some ⟨w.heap.size + 1, 0, none⟩)] l0.length (fun i => decide (a1 < l0.getD i 0)) W0 eg hlen
    (fun m os i hi => by
      obtain ⟨ad, rfl, hcell⟩ := hR0.2.2 (by omega)
      have hci := hcell i hi
      exact (closure_calls w.heap.size (w.heap.size + 1) ad l0.length c0 _ a1 i _ hi hlen (cell_grown (by simp [hsize]; omega) ca m os) (cell_grown (by simp [hsize]) cx m os) (cell_grown (World.block_lt_of_cell? _ _ hci) hci m os)).mono
        fun _ _ ⟨he, q, hq⟩ => ⟨he, q, #[], by rw [hq, grow_empty]⟩)
    (fun a b hab hb h => by
      have hp := List.pairwise_iff_getElem.1 hs.1
      simp only [decide_eq_true_eq] at h ⊢
      by_cases e : a = b
      · subst e; exact h
      · have := hp a b (by omega) hb (by omega)
        rw [List.getD_eq_getElem?_getD, List.getElem?_eq_getElem (by omega)] at h ⊢
        simp only [Option.getD_some] at h ⊢
        omega)
  change Calls Try.prog 15 _ _ _ at hS
  rw [count_range] at hS
  clear hR hR0 ca cx hs
  generalize upN l0 a1 = r at hS ⊢
  have HS := Aside0.mk hS
  clear hS
  go_enter Try.func12, Try.ntmps12
  go_wp2_with (go_at_call 15; rw [← hW0]; refine HS.out.mono ?_; rintro e w' ⟨rfl, q, os, rfl⟩)
  go_ret
  refine ⟨rfl, ?_⟩
  rw [← hW0]
  have hB0 : Below w.heap.size w W0 := by rw [hW0]; exact ((Below.refl _ w).alloc (Nat.le_refl _) _).alloc (by simp) _
  exact hB0.trans (below_grown_sl w.heap.size W0 q os (by omega))
end Go.Proofs.Ytmjjejjlfkigjaa.Ext
