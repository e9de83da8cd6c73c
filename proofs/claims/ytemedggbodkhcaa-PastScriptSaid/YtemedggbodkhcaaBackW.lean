/- past: the walk of PastBack. -/
import Derived.Test.YtemedggbodkhcaaParts
import Derived.Test.YtemedggbodkhcaaRefCmp
import Derived.Deep.RegionHeld3
set_option linter.unusedVariables false
set_option linter.unusedSimpArgs false
namespace Go.Proofs.Ytemedggbodkhcaa.Past
open Go.RowKit Go.Proofs.YtemedggbodkhcaaW.PrintWords Go.Proofs.YtemedggbodkhcaaW.PrintLast
theorem entsA_succ1 (z : List Int) (k : Nat) : entsA 1 z (k + 1) = entsA 1 z k ++ [⟨sumTo z (k + 1), 0, k, 0, 0, k, 0, 0, k, none, 0, 0⟩] := by
  rw [entsA_succ]
  simp [entA]
theorem entsA_take (m : Int) (z : List Int) (n k : Nat) (h : k ≤ n) : (entsA m z n).take k = entsA m z k := by
  simp [entsA, ← List.map_take, List.take_range, Nat.min_eq_left h]
theorem entA1_cells (z : List Int) (q : Nat) : (entA 1 z q).cells = [.int .i64 (sumTo z (q + 1)), .int .i64 0, .int .i64 q, .int .i64 0, .int .i64 0, .int .i64 q, .int .i64 0, .int .i64 0, .int .i64 q, .slice none 0 0] := by
  simp [entA, Ent.cells]
theorem u8_bd {p : Int} (h : (Lit.int .u8 p).wf = true) : 0 ≤ p ∧ p ≤ 255 := by
  have := h
  simp only [Lit.wf, Bool.and_eq_true, decide_eq_true_eq] at this
  exact this
/-- what stands in memory while PastBack goes on -/
structure BK (N g : Nat) (z : List Int) (n k1 : Nat) (A1 : Option Addr) (c1 : Nat) (Aa : Option Addr) (ca kb : Nat) (key : Int) (A : Option Addr) (c q : Nat) (wr : World) : Prop where
  past : PastAt wr N g A c 0 (entsA 1 z q)
  gone : wr.ownsRow N 32 10 (.slice A1 (n - k1) c1) (n - k1) (flat ((entsA 1 z n).drop k1).reverse)
  all : wr.ownsRow N 32 10 (.slice Aa n ca) n (flat (entsA 1 z n))
  key : wr.heap[kb]? = some (.cells #[.int .i64 key, .int .i64 0, .int .i64 0] 27 (0, 0))
  ap1 : ∀ b, ablk A = some b → ablk A1 ≠ some b
  apa : ∀ b, ablk A = some b → ablk Aa ≠ some b
theorem own_below {w w' : World} {base : Nat} {e : TypeId} {size n : Nat} {v : Value} {xs : List Value} (h : w.ownsRow base e size v n xs) (hb : Below w.heap.size w w') : w'.ownsRow base e size v n xs :=
  own_move h (fun b hb' => hb.block b (own_lt h b hb'))
theorem own_apart {w : World} {base g' : Nat} {n c : Nat} {A : Option Addr} {xs : List Value} {cs : Array Value} {fr : Nat × Nat} {T : TypeId} (h : w.ownsRow base 32 10 (.slice A n c) n xs) (h' : w.heap[g']? = some (.cells cs T fr)) (hT : T ≠ 32) : ablk A ≠ some g' := by
  intro e
  rw [← ablk_own A n c] at e
  rcases h.2 with ⟨q, _⟩ | ⟨b, cap, cur, q, _, hb, _⟩
  · rw [q] at e; simp [Value.ownBlock] at e
  · rw [q] at e
    simp only [Value.ownBlock, Option.some.injEq] at e
    subst e
    rw [h'] at hb
    injection hb with hb
    injection hb with _ hb
    exact hT hb
theorem BK.below {N g : Nat} {z : List Int} {n k1 : Nat} {A1 : Option Addr} {c1 : Nat} {Aa : Option Addr} {ca kb : Nat} {key : Int} {A : Option Addr} {c q : Nat} {w w' : World} (h : BK N g z n k1 A1 c1 Aa ca kb key A c q w) (hb : Below w.heap.size w w') : BK N g z n k1 A1 c1 Aa ca kb key A c q w' :=
  ⟨h.past.below hb, own_below h.gone hb, own_below h.all hb, (hb.block _ (blk_lt h.key)).trans h.key, h.ap1, h.apa⟩
theorem BK.notFP {N g : Nat} {z : List Int} {n k1 : Nat} {A1 : Option Addr} {c1 : Nat} {Aa : Option Addr} {ca kb : Nat} {key : Int} {A : Option Addr} {c q : Nat} {w : World} (h : BK N g z n k1 A1 c1 Aa ca kb key A c q w) :
    ¬ FP g A kb ∧ (∀ b, ablk A1 = some b → ¬ FP g A b) ∧ (∀ b, ablk Aa = some b → ¬ FP g A b) := by
  refine ⟨fun hf => ?_, fun b hb hf => ?_, fun b hb hf => ?_⟩
  · rcases hf with hf | hf
    · have h1 := h.past.1
      rw [← hf, h.key] at h1
      injection h1 with h1
      injection h1 with _ h1
      exact absurd h1 (by decide)
    · exact own_apart h.past.2.1 h.key (by decide) hf
  · rcases hf with hf | hf
    · exact own_apart h.gone h.past.1 (by decide) (by rw [← hf]; exact hb)
    · exact h.ap1 b hf hb
  · rcases hf with hf | hf
    · exact own_apart h.all h.past.1 (by decide) (by rw [← hf]; exact hb)
    · exact h.apa b hf hb
theorem BK.push {N g : Nat} {z : List Int} {n k1 : Nat} {A1 : Option Addr} {c1 : Nat} {Aa : Option Addr} {ca kb : Nat} {key : Int} {A A' : Option Addr} {c c' q : Nat} {w w' : World} (h : BK N g z n k1 A1 c1 Aa ca kb key A c q w)
    (hP : PastAt w' N g A' c' 0 (entsA 1 z (q + 1))) (hK : Kept w w' (FP g A)) (hA : ablk A' = ablk A ∨ ∀ k, ablk A' = some k → w.heap.size ≤ k) : BK N g z n k1 A1 c1 Aa ca kb key A' c' (q + 1) w' := by
  obtain ⟨f1, f2, f3⟩ := h.notFP
  refine ⟨hP, own_keep h.gone hK (fun b hb => f2 b (by rw [ablk_own] at hb; exact hb)), own_keep h.all hK (fun b hb => f3 b (by rw [ablk_own] at hb; exact hb)), blk_kept h.key hK f1, fun b hb e => ?_, fun b hb e => ?_⟩
  · rcases hA with hA | hA
    · exact h.ap1 b (by rw [← hA]; exact hb) e
    · have h1 := hA b hb
      have h2 := own_lt h.gone b (by rw [ablk_own]; exact e)
      omega
  · rcases hA with hA | hA
    · exact h.apa b (by rw [← hA]; exact hb) e
    · have h1 := hA b hb
      have h2 := own_lt h.all b (by rw [ablk_own]; exact e)
      omega
theorem rev_get {L : List Ent} {n k1 q : Nat} (hl : L.length = n) (h1 : k1 ≤ q) (h2 : q < n) (h3 : n - 1 - q < (L.drop k1).reverse.length) : (L.drop k1).reverse[n - 1 - q] = L[q]'(by omega) := by
  rw [List.getElem_reverse, List.getElem_drop]
  congr 1
  simp only [List.length_reverse, List.length_drop] at h3 ⊢
  omega
theorem all_cells {w : World} {base n c : Nat} {A : Option Addr} {L : List Ent} (h : w.ownsRow base 32 10 (.slice A n c) n (flat L)) (hn : L.length = n) (i : Nat) (hi : i < n) :
    ∃ b, A = some ⟨b, 0, none⟩ ∧ n ≤ c ∧ ∀ j u, (L[i]'(by omega)).cells[j]? = some u → w.cell? ⟨b, i * 10 + j, none⟩ = some u := by
  obtain ⟨b, e, h1, _⟩ := ent_cell h hn i 0 (by omega) _ rfl
  refine ⟨b, e, h1, fun j u hu => ?_⟩
  obtain ⟨b', e', _, h2⟩ := ent_cell h hn i j (by omega) u hu
  rw [e] at e'
  cases e'
  exact h2
end Go.Proofs.Ytemedggbodkhcaa.Past
