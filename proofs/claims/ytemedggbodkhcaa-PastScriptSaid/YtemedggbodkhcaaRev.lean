/- past.Back: slices.Reverse of entries; what is undone. -/
import Derived.Test.YtemedggbodkhcaaSettle
import Derived.Shelf.SlicesQ.Reverse
import Derived.Lib.OwnBridge
set_option linter.unusedVariables false
set_option linter.unusedSimpArgs false
namespace Go.Proofs
def Try.reverse31_ren : Go.Shelf.Ren := ⟨fun | 35 => 31 | n => n, fun | 22 => 35 | 23 => 32 | n => n, fun n => n⟩
theorem Try.reverse31 : Go.Proofs.SlLaysE0.n35 Try.prog Try.reverse31_ren := {
  mixed := by kernel_rfl
  f35 := ⟨Try.f31.name, by decide, Try.func31.trans (congrArg some (by kernel_rfl))⟩
  t0 := Try.underlying0
  a0 := Try.isAgg0
  z0 := Try.sizeOf0
  v0 := Try.zeroValue0
  t3 := Try.underlying3
  a3 := Try.isAgg3
  z3 := Try.sizeOf3
  v3 := Try.zeroValue3
  t4 := Try.underlying4
  a4 := Try.isAgg4
  z4 := Try.sizeOf4
  v4 := Try.zeroValue4
  t22 := Try.underlying35
  a22 := Try.isAgg35
  z22 := Try.sizeOf35
  v22 := Try.zeroValue35 }
end Go.Proofs
namespace Go.Proofs.Ytemedggbodkhcaa.Past
open Go.RowKit Go.Proofs.YtemedggbodkhcaaW.PrintWords Go.Proofs.YtemedggbodkhcaaW.PrintLast
/-! ### rows of elements of k cells: a slice that owns its cells, in the words of the sort's row kit -/
theorem flatMap_get {α : Type} [Inhabited α] (enc : α → List Value) (k : Nat) (hk : ∀ x, (enc x).length = k) : ∀ (L : List α) (t : Nat), t < L.length * k → (L.flatMap enc)[t]? = (enc (L[t / k]!))[t % k]?
  | [], t, h => by simp at h
  | x :: L, t, h => by
    have k0 : 0 < k := by
      rcases Nat.eq_zero_or_pos k with h0 | h0
      · subst h0; simp at h
      · exact h0
    rw [List.flatMap_cons]
    by_cases ht : t < k
    · rw [List.getElem?_append_left (by rw [hk]; exact ht), Nat.div_eq_of_lt ht, Nat.mod_eq_of_lt ht]
      rfl
    · rw [List.getElem?_append_right (by rw [hk]; omega), hk, flatMap_get enc k hk L (t - k) (by simp only [List.length_cons, Nat.add_mul, Nat.one_mul] at h; omega)]
      obtain ⟨u, rfl⟩ : ∃ u, t = u + k := ⟨t - k, by omega⟩
      rw [Nat.add_sub_cancel, Nat.add_div_right _ k0, Nat.add_mod_right]
      congr 1
theorem flatK_list {α : Type} [Inhabited α] (enc : α → List Value) (k : Nat) (hk : ∀ x, (enc x).length = k) (L : List α) : (Go.Sort.flatK enc k L.toArray).toList = L.flatMap enc := by
  have hl : (L.flatMap enc).length = L.length * k := by
    induction L with
    | nil => simp
    | cons x L ih => rw [List.flatMap_cons, List.length_append, hk, ih, List.length_cons, Nat.add_mul, Nat.one_mul]; omega
  apply List.ext_getElem?
  intro t
  by_cases ht : t < L.length * k
  · rw [flatMap_get enc k hk L t ht]
    have k0 : 0 < k := by
      rcases Nat.eq_zero_or_pos k with h0 | h0
      · subst h0; simp at ht
      · exact h0
    have hm : t % k < (enc L[t / k]!).length := by rw [hk]; exact Nat.mod_lt _ k0
    simp only [Go.Sort.flatK, Array.toList_map, Array.toList_range, List.getElem?_map, List.size_toArray]
    rw [List.getElem?_eq_getElem hm, List.getElem?_range ht]
    simp only [Option.map_some, Option.some.injEq]
    have e0 : (L.toArray)[t / k]! = L[t / k]! := by simp
    rw [e0]
    exact getElem!_pos (enc L[t / k]!) (t % k) hm
  · rw [List.getElem?_eq_none (by simp; omega), List.getElem?_eq_none (by omega)]
theorem holdsK_own {α : Type} [Inhabited α] {enc : α → List Value} {k : Nat} (hk : ∀ x, (enc x).length = k) {w : World} {base : Nat} {e : TypeId} {g n cap : Nat} {L : List α} (h : w.ownsRow base e k (.slice (some ⟨g, 0, none⟩) n cap) n (L.flatMap enc)) (hn : L.length = n) :
    Go.Sort.HoldsK enc k w g 0 L.toArray := by
  rcases h.2 with ⟨e0, _⟩ | ⟨g', cap', cur, e0, hb, hg, hn', hm, hs, ht⟩
  · cases e0
  · cases e0
    intro j hj
    have hj' : j < L.length * k := by simpa [Go.Sort.flatK] using hj
    refine ⟨?_, by simp [World.frozen?, hg]⟩
    have e1 : (cur.toList.take (n * k))[j]? = (Go.Sort.flatK enc k L.toArray).toList[j]? := by rw [ht, flatK_list enc k hk]
    rw [List.getElem?_take, if_pos (by rw [← hn]; exact hj'), Array.getElem?_toList, Array.getElem?_toList] at e1
    simp only [World.cell?, hg, Nat.zero_add, Option.isSome_none, Bool.false_eq_true, if_false]
    rw [e1, Array.getElem?_eq_getElem hj]
    simp only [id, Option.some.injEq]
    exact (getElem!_pos (Go.Sort.flatK enc k L.toArray) j hj).symm
theorem own_putRowK {α : Type} [Inhabited α] {enc : α → List Value} {k : Nat} (hk : ∀ x, (enc x).length = k) {w : World} {base : Nat} {e : TypeId} {g n cap : Nat} (q : Nat) {L M : List α} (h : w.ownsRow base e k (.slice (some ⟨g, 0, none⟩) n cap) n (L.flatMap enc)) (hn : L.length = n) (hM : M.length = n) :
    (Go.Sort.putRowK enc k (Go.Sort.ahead w q) g 0 M.toArray).ownsRow base e k (.slice (some ⟨g, 0, none⟩) n cap) n (M.flatMap enc) := by
  rcases h.2 with ⟨e0, _⟩ | ⟨g', cap', cur, e0, hb, hg, hn', hm, hs, ht⟩
  · cases e0
  · cases e0
    have hF := flatK_list enc k hk M
    have hFs : (Go.Sort.flatK enc k M.toArray).size = n * k := by simp [Go.Sort.flatK, hM]
    refine ⟨by rw [← hF]; simpa using hFs, .inr ⟨g, cap, Go.Sort.putCells id 0 (Go.Sort.flatK enc k M.toArray) cur, rfl, hb, ?_, hn', hm, by simpa [Go.Sort.putCells] using hs, ?_⟩⟩
    · simp [Go.Sort.putRowK, Go.Sort.putRow, Go.Sort.mapBlock, Go.Sort.ahead, Array.getElem?_modify, hg, Go.Sort.onCells]
    · have hnc : n * k ≤ cur.size := by rw [hs]; exact Nat.mul_le_mul_right k hn'
      rw [← hF]
      apply List.ext_getElem?
      intro j
      rw [List.getElem?_take, Array.getElem?_toList, Array.getElem?_toList]
      by_cases hj : j < n * k
      · have hjc : j < cur.size := by omega
        simp only [if_pos hj, Go.Sort.putCells, Array.getElem?_mapIdx, Array.getElem?_eq_getElem hjc, Option.map_some]
        rw [if_pos (by omega), Array.getElem?_eq_getElem (by omega)]
        simp only [id, Option.some.injEq, Nat.sub_zero]
        exact getElem!_pos (Go.Sort.flatK enc k M.toArray) j (by omega)
      · rw [if_neg hj, Array.getElem?_eq_none (by omega)]
theorem kept_putRowK {α : Type} [Inhabited α] (enc : α → List Value) (k : Nat) (w : World) (q g : Nat) (d : Array α) : Kept w (Go.Sort.putRowK enc k (Go.Sort.ahead w q) g 0 d) (fun b => b = g) :=
  ⟨by simp [Go.Sort.putRowK, Go.Sort.putRow, Go.Sort.mapBlock, Go.Sort.ahead], fun i hi hn => by simp [Go.Sort.putRowK, Go.Sort.putRow, Go.Sort.mapBlock, Go.Sort.ahead, Array.getElem?_modify, Ne.symm hn]⟩
theorem below_putRowK {α : Type} [Inhabited α] (enc : α → List Value) (k : Nat) {B : Nat} {w0 w : World} (q g : Nat) (d : Array α) (h : Below B w0 w) (hg : B ≤ g) : Below B w0 (Go.Sort.putRowK enc k (Go.Sort.ahead w q) g 0 d) :=
  Go.Lib.below_putRow h hg

instance : Inhabited Ent := ⟨⟨0, 0, 0, 0, 0, 0, 0, 0, 0, none, 0, 0⟩⟩
theorem cells_len (e : Ent) : e.cells.length = 10 := rfl
theorem reverse_at (w : World) (base g n cap : Nat) (L : List Ent) (h : w.ownsRow base 32 10 (.slice (some ⟨g, 0, none⟩) n cap) n (flat L)) (hn : L.length = n) (hs : n ≤ 64) :
    Calls Try.prog 31 #[.slice (some ⟨g, 0, none⟩) n cap] w fun x w' => x = .returned (.tuple #[]) ∧ w'.ownsRow base 32 10 (.slice (some ⟨g, 0, none⟩) n cap) n (flat L.reverse) ∧ Kept w w' (fun b => b = g) ∧ ∀ B w0, Below B w0 w → B ≤ g → Below B w0 w' := by
  have hH := holdsK_own cells_len h hn
  have := AnyQ.slices_Reverse Try.reverse31 10 Try.isAgg32 Try.sizeOf32 Ent.cells cells_len cells_one g 0 cap L.toArray w hH (by simp; omega)
  rw [show (L.toArray.size : Nat) = n by simpa using hn] at this
  refine this.mono ?_
  rintro x w' ⟨rfl, q, rfl⟩
  rw [List.reverse_toArray]
  exact ⟨rfl, own_putRowK cells_len q h hn (by simpa using hn), kept_putRowK _ _ _ _ _ _, fun B w0 hb hg => below_putRowK _ _ _ _ _ hb hg⟩
theorem reverse_any (w : World) (base n cap : Nat) (A : Option Addr) (L : List Ent) (h : w.ownsRow base 32 10 (.slice A n cap) n (flat L)) (hn : L.length = n) (hs : n ≤ 64) :
    Calls Try.prog 31 #[.slice A n cap] w fun x w' => x = .returned (.tuple #[]) ∧ w'.ownsRow base 32 10 (.slice A n cap) n (flat L.reverse) ∧ Kept w w' (fun b => base ≤ b) ∧ ∀ B w0, Below B w0 w → B ≤ base → Below B w0 w' := by
  rcases h.2 with ⟨e0, e1⟩ | ⟨g, cap', cur, e0, hb, _⟩
  · cases e0
    have hL : L = [] := List.eq_nil_of_length_eq_zero hn
    subst hL
    refine (AnyQ.slices_Reverse_empty Try.reverse31 none 0 w).mono ?_
    rintro x w' ⟨rfl, rfl⟩
    exact ⟨rfl, h, Kept.refl _ _, fun B w0 hb _ => hb⟩
  · cases e0
    refine (reverse_at w base g n cap L h hn hs).mono ?_
    rintro x w' ⟨rfl, h1, h2, h3⟩
    exact ⟨rfl, h1, h2.mono (fun k hk => by rw [hk]; exact hb), fun B w0 hb' hB => h3 B w0 hb' (Nat.le_trans hB hb)⟩
/-- what Back says -/
def BackP (w : World) (B g c : Nat) (A : Option Addr) (fl : Int) (L : List Ent) (k0 k1 k2 : Int) (x : Ending) (w' : World) : Prop :=
  ∃ k A1 c1, x = .returned (.slice A1 (L.length - k) c1) ∧ k ≤ L.length ∧ (∀ i (hi : i < L.length), i < k → kc (L[i]).t (L[i]).f (L[i]).s k0 k1 k2 < 0) ∧ (∀ i (hi : i < L.length), k ≤ i → 0 ≤ kc (L[i]).t (L[i]).f (L[i]).s k0 k1 k2) ∧
    w'.ownsRow w.heap.size 32 10 (.slice A1 (L.length - k) c1) (L.length - k) (flat (L.drop k).reverse) ∧ PastAt w' B g A c fl (L.take k) ∧ Kept w w' (fun q => q = g) ∧ (∀ B', B' ≤ g → B' ≤ w.heap.size → Below B' w w')
theorem own_take {w : World} {base n c k : Nat} {A : Option Addr} {L : List Ent} (h : w.ownsRow base 32 10 (.slice A n c) n (flat L)) (hn : L.length = n) (hk : k ≤ n) (hA : A ≠ none) : w.ownsRow base 32 10 (.slice A k c) k (flat (L.take k)) := by
  rcases h.2 with ⟨e0, _⟩ | ⟨g, cap, cur, e0, hb, hg, hn', hm, hs, ht⟩
  · cases e0; exact absurd rfl hA
  · cases e0
    refine ⟨by rw [flat_len, List.length_take]; omega, .inr ⟨g, c, cur, rfl, hb, hg, by omega, hm, hs, ?_⟩⟩
    rw [flat_take, ← ht, List.take_take]
    congr 1
    omega
/-- what Back comes to, out of what its calls came to -/
theorem back_fin {w w1 w2 w3 : World} {B g c k c1 : Nat} {fl : Int} {A A1 : Option Addr} {L : List Ent} (hgl : g < w.heap.size) (hb0 : Below w.heap.size w w1) (hb1 : Below w1.heap.size w1 w2)
    (ho : w3.ownsRow w1.heap.size 32 10 (.slice A1 (L.length - k) c1) (L.length - k) (flat (L.drop k).reverse)) (hk3 : Kept w2 w3 (fun b => w1.heap.size ≤ b)) (hB3 : ∀ B w0, Below B w0 w2 → B ≤ w1.heap.size → Below B w0 w3) (h : PastAt w1 B g A c fl L) (hA : A ≠ none ∨ L = []) (hk : k ≤ L.length) :
    (w3.setCell ⟨g, 1, none⟩ (.slice A k c)).ownsRow w.heap.size 32 10 (.slice A1 (L.length - k) c1) (L.length - k) (flat (L.drop k).reverse) ∧
    PastAt (w3.setCell ⟨g, 1, none⟩ (.slice A k c)) B g A c fl (L.take k) ∧ Kept w (w3.setCell ⟨g, 1, none⟩ (.slice A k c)) (fun q => q = g) ∧ (∀ B', B' ≤ g → B' ≤ w.heap.size → Below B' w (w3.setCell ⟨g, 1, none⟩ (.slice A k c))) := by
  have z0 := hb0.size
  have z1 := hb1.size
  have hP2 := h.below hb1
  have hgl1 : g < w1.heap.size := Nat.lt_of_lt_of_le hgl z0
  have hK : Kept w w3 (fun q => q = g) := (Kept.of_below (hb0.trans (hb1.mono z0)) (fun q => q = g)).then_ hk3 (fun q hq => .inr (by omega))
  have e2 : w3.heap[g]? = some (.cells #[.int .i64 fl, .slice A L.length c] 65 (0, 0)) := (hk3.2 g (blk_lt hP2.1) (by omega)).trans hP2.1
  have kb := own_base ho
  refine ⟨own_mono (own_move ho (fun q hq => Below.heap_setCell _ _ _ q (by have := kb q hq; show q ≠ g; omega))) z0, ⟨?_, ?_, h.2.2.1, by have := h.2.2.2; simp; omega⟩, ?_, ?_⟩
  · have := blk_set e2 1 (.slice A k c)
    rw [List.length_take, Nat.min_eq_left hk]
    simpa using this
  · rw [List.length_take, Nat.min_eq_left hk]
    have hmove : (w3.setCell ⟨g, 1, none⟩ (.slice A k c)).ownsRow B 32 10 (.slice A L.length c) L.length (flat L) := own_move hP2.2.1 (fun q hq => by
      have hq1 : q < w1.heap.size := own_lt h.2.1 q hq
      have hne : q ≠ g := fun e => hP2.ne (by rw [hq, e])
      exact (Below.heap_setCell _ _ _ q hne).trans (hk3.2 q (by omega) (by omega)))
    rcases hA with hA | rfl
    · exact own_take hmove rfl hk hA
    · have : k = 0 := by simpa using hk
      subst this
      exact hmove
  · exact hK.setCell (p := ⟨g, 1, none⟩) (Or.inl (Eq.refl g)) _
  · intro B' h1 h2
    exact (hB3 B' w ((hb0.mono h2).trans (hb1.mono (by omega))) (by omega)).setCell (p := ⟨g, 1, none⟩) h1 _
end Go.Proofs.Ytemedggbodkhcaa.Past
