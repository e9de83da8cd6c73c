/- past: the methods' contracts for entries without messages, as the laws use them. -/
import Derived.Test.YtemedggbodkhcaaKeys
set_option linter.unusedVariables false
set_option linter.unusedSimpArgs false
namespace Go.Proofs.Ytemedggbodkhcaa.Past
open Go.RowKit Go.Proofs.YtemedggbodkhcaaW.PrintWords Go.Proofs.YtemedggbodkhcaaW.PrintLast
/-- no messages -/
def NoO (L : List Ent) : Prop := ∀ e ∈ L, e.o = .slice none 0 0
theorem NoO.rds {L : List Ent} (h : NoO L) (w : World) : Rds w L := fun e he => ⟨[], .inl ⟨⟨0, h e he⟩, rfl⟩⟩
theorem NoO.append {L : List Ent} {e : Ent} (h : NoO L) (he : e.o = .slice none 0 0) : NoO (L ++ [e]) := fun x hx => by
  rcases List.mem_append.1 hx with h1 | h1
  · exact h x h1
  · rw [List.mem_singleton.1 h1]; exact he
theorem NoO.take {L : List Ent} (h : NoO L) (k : Nat) : NoO (L.take k) := fun e he => h e (List.mem_of_mem_take he)
theorem NoO.drop {L : List Ent} (h : NoO L) (k : Nat) : NoO (L.drop k) := fun e he => h e (List.mem_of_mem_drop he)
/-- the block of a slice -/
def ablk (A : Option Addr) : Option Nat := A.map (·.block)
theorem ablk_own (A : Option Addr) (n c : Nat) : (Value.slice A n c).ownBlock = ablk A := by cases A <;> rfl
/-- what a past's call may write -/
def FP (g : Nat) (A : Option Addr) (k : Nat) : Prop := k = g ∨ ablk A = some k
theorem PastAt.lt {w : World} {B g : Nat} {A : Option Addr} {c : Nat} {fl : Int} {L : List Ent} (h : PastAt w B g A c fl L) : g < w.heap.size ∧ (∀ k, ablk A = some k → B ≤ k ∧ k < w.heap.size) ∧ ablk A ≠ some g :=
  ⟨blk_lt h.1, fun k hk => ⟨own_base h.2.1 k (by rw [ablk_own]; exact hk), own_lt h.2.1 k (by rw [ablk_own]; exact hk)⟩, fun e => h.ne (by rw [ablk_own]; exact e.symm)⟩
theorem PastAt.kept {w w' : World} {S : Nat → Prop} {B g : Nat} {A : Option Addr} {c : Nat} {fl : Int} {L : List Ent} (h : PastAt w B g A c fl L) (hk : Kept w w' S) (hg : ¬ S g) (hA : ∀ k, ablk A = some k → ¬ S k) : PastAt w' B g A c fl L :=
  ⟨blk_kept h.1 hk hg, own_move h.2.1 (fun k hk' => hk.2 k (own_lt h.2.1 k hk') (hA k (by rw [← ablk_own A L.length c]; exact hk'))), h.2.2⟩
/-- what Push says, of an entry without messages that is taken -/
def PushP (w : World) (B g : Nat) (A : Option Addr) (fl : Int) (L : List Ent) (e : Ent) (x : Ending) (w' : World) : Prop :=
  ∃ A' c', x = .returned (.int .i64 0) ∧ PastAt w' B g A' c' fl (L ++ [e]) ∧ Kept w w' (FP g A) ∧ Below B w w' ∧ (ablk A' = ablk A ∨ ∀ k, ablk A' = some k → w.heap.size ≤ k)
theorem push_n (w : World) (B g : Nat) (A : Option Addr) (c : Nat) (fl : Int) (L : List Ent) (h : PastAt w B g A c fl L) (hr : NoO L) (t f s d cl bd ah se st : Int) (h1 : fl ≤ t) (h2 : ∀ l, L.getLast? = some l → kc l.t l.f l.s t f s < 0) (h3 : L.length < 64) :
    Calls Try.prog 9 #[.pointer (some ⟨g, 0, none⟩), .agg #[.int .i64 t, .int .i64 f, .int .i64 s, .int .i64 d, .int .i64 cl, .int .i64 bd, .int .i64 ah, .int .i64 se, .int .i64 st, .slice none 0 0]] w (PushP w B g A fl L ⟨t, f, s, d, cl, bd, ah, se, st, none, 0, 0⟩) := by
  refine (push_ok w B g A c fl L h (hr.rds w) ⟨t, f, s, d, cl, bd, ah, se, st, none, 0, 0⟩ [] (.inl ⟨⟨0, rfl⟩, rfl⟩) h1 h2 h3).mono ?_
  rintro x w' ⟨A', c', a, n, k, rfl, hP, _, hK, hB, hA, hn, _⟩
  have e := hn rfl
  injection e with e1 e2 e3
  subst e1 e2 e3
  have hl := h.lt
  refine ⟨A', c', rfl, hP, hK.mono (fun q hq => ?_), hB B h.2.2.1 (fun q hq => ?_) (Nat.le_trans h.2.2.1 (Nat.le_of_lt hl.1)), ?_⟩
  · rcases hq with hq | hq
    · exact .inl hq
    · exact .inr (by rw [ablk_own] at hq; exact hq.symm)
  · exact (hl.2.1 q (by rw [ablk_own] at hq; exact hq)).1
  · rcases hA with hA | ⟨q, hA, hq⟩
    · exact .inl (by rw [ablk_own] at hA; exact hA)
    · exact .inr (fun q' hq' => by have : some q = some q' := hA.symm.trans hq'; injection this with this; omega)
theorem push_n_early (w : World) (B g : Nat) (A : Option Addr) (c : Nat) (fl : Int) (L : List Ent) (h : PastAt w B g A c fl L) (hr : NoO L) (t f s d cl bd ah se st : Int) (h1 : t < fl) :
    Calls Try.prog 9 #[.pointer (some ⟨g, 0, none⟩), .agg #[.int .i64 t, .int .i64 f, .int .i64 s, .int .i64 d, .int .i64 cl, .int .i64 bd, .int .i64 ah, .int .i64 se, .int .i64 st, .slice none 0 0]] w fun x w' => x = .returned (.int .i64 110) ∧ Below w.heap.size w w' :=
  push_early w B g A c fl L h (hr.rds w) ⟨t, f, s, d, cl, bd, ah, se, st, none, 0, 0⟩ [] (.inl ⟨⟨0, rfl⟩, rfl⟩) h1
theorem new_n (w : World) (B : Nat) (hB : B ≤ w.heap.size) : Calls Try.prog 8 #[] w fun x w' => ∃ g, x = .returned (.pointer (some ⟨g, 0, none⟩)) ∧ PastAt w' B g none 0 0 [] ∧ Below w.heap.size w w' ∧ w.heap.size ≤ g := new_at w B hB
/-- what Settle says, shorter -/
def SettleN (w : World) (B g : Nat) (fl t : Int) (L : List Ent) (x : Ending) (w' : World) : Prop :=
  ∃ k A1 c1 A2 c2, x = .returned (.slice A1 k c1) ∧ k ≤ L.length ∧ (∀ i (hi : i < L.length), i < k → L[i].t < t) ∧ (∀ i (hi : i < L.length), k ≤ i → t ≤ L[i].t) ∧
    w'.ownsRow w.heap.size 32 10 (.slice A1 k c1) k (flat (L.take k)) ∧ PastAt w' B g A2 c2 (max fl t) (L.drop k) ∧ Kept w w' (fun q => q = g) ∧ Below B w w' ∧ (∀ q, ablk A2 = some q → w.heap.size ≤ q ∧ ablk A1 ≠ some q)
theorem settle_n (w : World) (B g c : Nat) (A : Option Addr) (fl : Int) (L : List Ent) (h : PastAt w B g A c fl L) (t : Int)
    (hm : ∀ x y (hx : x < L.length) (hy : y < L.length), x ≤ y → ¬ (L[x].t < t) → ¬ (L[y].t < t)) :
    Calls Try.prog 10 #[.pointer (some ⟨g, 0, none⟩), .int .i64 t] w (SettleN w B g fl t L) := by
  have hl := h.lt
  have hBw : B ≤ w.heap.size := Nat.le_trans h.2.2.1 (Nat.le_of_lt hl.1)
  refine (settle_at w B g c A fl L h t hBw hm).mono ?_
  rintro x w' ⟨k, A1, c1, A2, c2, rfl, h1, h2, h3, h4, h5, h6, h7, h8⟩
  refine ⟨k, A1, c1, A2, c2, rfl, h1, h2, h3, h4, h5, h6, h7 B h.2.2.1 hBw, fun q hq => ?_⟩
  have := h8 q (by rw [ablk_own]; exact hq)
  rw [ablk_own] at this
  exact this
/-- an entry's cell, of a slice of entries -/
theorem ent_cell {w : World} {base n c : Nat} {A : Option Addr} {L : List Ent} (h : w.ownsRow base 32 10 (.slice A n c) n (flat L)) (hn : L.length = n) (i j : Nat) (hi : i < L.length) (u : Value) (hu : (L[i].cells)[j]? = some u) :
    ∃ b, A = some ⟨b, 0, none⟩ ∧ n ≤ c ∧ w.cell? ⟨b, i * 10 + j, none⟩ = some u := by
  have hj : j < 10 := by have := (List.getElem?_eq_some_iff.1 hu).1; simpa [Ent.cells] using this
  rcases h.2 with ⟨e, e0⟩ | ⟨g, cap, cur, e, hb, hg, hn', hm, hs, ht⟩
  · omega
  · cases e
    refine ⟨g, rfl, hn', ?_⟩
    have := h.cells rfl (i * 10 + j) u ?_
    · rwa [add_plain] at this
    · rw [flat, flatMap_get Ent.cells 10 cells_len L (i * 10 + j) (by omega)]
      have e1 : (i * 10 + j) / 10 = i := by omega
      have e2 : (i * 10 + j) % 10 = j := by omega
      rw [e1, e2, getElem!_pos L i hi]
      exact hu
end Go.Proofs.Ytemedggbodkhcaa.Past
