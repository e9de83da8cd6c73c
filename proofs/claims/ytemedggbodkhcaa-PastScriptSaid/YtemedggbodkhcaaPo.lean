/- past: the methods' contracts for entries with messages. -/
import Derived.Test.YtemedggbodkhcaaLawB
set_option linter.unusedVariables false
set_option linter.unusedSimpArgs false
namespace Go.Proofs.Ytemedggbodkhcaa.Past
open Go.RowKit Go.Proofs.YtemedggbodkhcaaW.PrintWords Go.Proofs.YtemedggbodkhcaaW.PrintLast
/-- an entry's messages can be read, and lie elsewhere than what the past writes -/
def Out (w : World) (X : Nat → Prop) (e : Ent) (ms : List Value) : Prop := Rd w e.o ms ∧ (ms ≠ [] → ∀ q, e.o.ownBlock = some q → ¬ X q)
/-- lists that go together -/
inductive Outs (w : World) (X : Nat → Prop) : List Ent → List (List Value) → Prop
  | nil : Outs w X [] []
  | cons {e : Ent} {ms : List Value} {L : List Ent} {M : List (List Value)} : Out w X e ms → Outs w X L M → Outs w X (e :: L) (ms :: M)
theorem Outs.imp {w w' : World} {X X' : Nat → Prop} {L : List Ent} {M : List (List Value)} (h : Outs w X L M) (hi : ∀ e ms, e ∈ L → Out w X e ms → Out w' X' e ms) : Outs w' X' L M := by
  induction h with
  | nil => exact .nil
  | cons h1 _ ih => exact .cons (hi _ _ List.mem_cons_self h1) (ih (fun e ms he => hi e ms (List.mem_cons_of_mem _ he)))
theorem Outs.len {w : World} {X : Nat → Prop} {L : List Ent} {M : List (List Value)} (h : Outs w X L M) : L.length = M.length := by
  induction h with
  | nil => rfl
  | cons _ _ ih => simp [ih]
theorem Outs.snoc {w : World} {X : Nat → Prop} {L : List Ent} {M : List (List Value)} {e : Ent} {ms : List Value} (h : Outs w X L M) (he : Out w X e ms) : Outs w X (L ++ [e]) (M ++ [ms]) := by
  induction h with
  | nil => exact .cons he .nil
  | cons h1 _ ih => exact .cons h1 ih
theorem Outs.take {w : World} {X : Nat → Prop} {L : List Ent} {M : List (List Value)} (h : Outs w X L M) : ∀ k, Outs w X (L.take k) (M.take k) := by
  induction h with
  | nil => intro k; simp; exact .nil
  | cons h1 _ ih => intro k; cases k with
    | zero => exact .nil
    | succ k => exact .cons h1 (ih k)
theorem Outs.drop {w : World} {X : Nat → Prop} {L : List Ent} {M : List (List Value)} (h : Outs w X L M) : ∀ k, Outs w X (L.drop k) (M.drop k) := by
  induction h with
  | nil => intro k; simp; exact .nil
  | cons h1 h2 ih => intro k; cases k with
    | zero => exact .cons h1 h2
    | succ k => exact ih k
theorem Outs.get {w : World} {X : Nat → Prop} {L : List Ent} {M : List (List Value)} (h : Outs w X L M) : ∀ e ∈ L, ∃ ms, Out w X e ms := by
  induction h with
  | nil => intro e he; cases he
  | cons h1 _ ih => intro e he; rcases List.mem_cons.1 he with rfl | h
                    · exact ⟨_, h1⟩
                    · exact ih e h
theorem Outs.at_ {w : World} {X : Nat → Prop} {L : List Ent} {M : List (List Value)} (h : Outs w X L M) : ∀ i (h1 : i < L.length) (h2 : i < M.length), Out w X L[i] M[i] := by
  induction h with
  | nil => intro i h1; cases h1
  | cons h1 _ ih => intro i a b; cases i with
    | zero => exact h1
    | succ i => exact ih i _ _
theorem Outs.rds {w : World} {X : Nat → Prop} {L : List Ent} {M : List (List Value)} (h : Outs w X L M) : Rds w L := fun e he => by
  obtain ⟨ms, hm⟩ := h.get e he
  exact ⟨ms, hm.1⟩
theorem rd_nil_any {w w' : World} {o : Value} (h : Rd w o []) : Rd w' o [] := by
  rcases h with h | ⟨ad, n, c, e, h1, h2, h3, h4⟩
  · exact .inl h
  · exact .inr ⟨ad, n, c, e, h1, h2, h3, fun j u hj => by simp at hj⟩
/-- what is written changes no messages -/
theorem Out.kept {w w' : World} {X X' : Nat → Prop} {e : Ent} {ms : List Value} {S : Nat → Prop} (h : Out w X e ms) (hk : Kept w w' S) (hS : ∀ q, S q → X q ∨ w.heap.size ≤ q) (hX : ∀ q, X' q → X q ∨ w.heap.size ≤ q) : Out w' X' e ms := by
  by_cases hm : ms = []
  · subst hm
    exact ⟨rd_nil_any h.1, fun h => absurd rfl h⟩
  · have h2 := h.2 hm
    have hlt : ∀ q, e.o.ownBlock = some q → q < w.heap.size := fun q hq => by
      obtain ⟨a, n, c, ho⟩ := h.1.form
      have h1 := h.1
      rw [ho] at h1 hq
      exact rd_block_lt h1 hm hq
    refine ⟨h.1.kept hk (fun q hq hs => ?_), fun _ q hq e' => ?_⟩
    · have hl4 := hlt q hq
      rcases hS q hs with h | h
      · exact h2 q hq h
      · omega
    · have h4 := hlt q hq
      rcases hX q e' with h | h
      · exact h2 q hq h
      · omega
/-- a past and what its entries' messages read as; they lie elsewhere than what is written -/
structure PO (w : World) (B g : Nat) (A : Option Addr) (c : Nat) (fl : Int) (L : List Ent) (M : List (List Value)) (Y : Nat → Prop) : Prop where
  past : PastAt w B g A c fl L
  outs : Outs w (fun q => FP g A q ∨ Y q) L M
theorem PO.below {w w' : World} {B g : Nat} {A : Option Addr} {c : Nat} {fl : Int} {L : List Ent} {M : List (List Value)} {Y : Nat → Prop} (h : PO w B g A c fl L M Y) (hb : Below w.heap.size w w') : PO w' B g A c fl L M Y :=
  ⟨h.past.below hb, h.outs.imp (fun e ms _ ho => ⟨ho.1.below hb, ho.2⟩)⟩
/-- others' blocks are written, new ones are made -/
theorem PO.others {w w' : World} {S : Nat → Prop} {B g : Nat} {A : Option Addr} {c : Nat} {fl : Int} {L : List Ent} {M : List (List Value)} {Y Y' : Nat → Prop} (h : PO w B g A c fl L M Y) (hk : Kept w w' S) (hS : ∀ q, S q → (Y q ∧ ¬ FP g A q) ∨ w.heap.size ≤ q) (hY : ∀ q, Y' q → Y q ∨ w.heap.size ≤ q) : PO w' B g A c fl L M Y' :=
  ⟨h.past.kept hk (fun hs => (hS g hs).elim (fun h => h.2 (.inl rfl)) (fun h' => by have := h.past.lt.1; omega)) (fun q hq hs => (hS q hs).elim (fun h => h.2 (.inr hq)) (fun h' => by have := (h.past.lt.2.1 q hq).2; omega)),
    h.outs.imp (fun e ms _ ho => ho.kept hk (fun q hq => (hS q hq).elim (fun h => .inl (.inr h.1)) .inr) (fun q hq => hq.elim (fun h => .inl (.inl h)) (fun h => (hY q h).elim (fun h => .inl (.inr h)) .inr)))⟩
/-- what Push answers -/
def pushR (fl : Int) (L : List Ent) (t f s : Int) : Int :=
  if t < fl then 110 else match L.getLast? with
    | some l => if kc l.t l.f l.s t f s < 0 then (if L.length < 64 then 0 else 2) else 130
    | none => 0
/-- what Push says -/
def PushQ (w : World) (B g : Nat) (A : Option Addr) (c : Nat) (fl : Int) (L : List Ent) (M : List (List Value)) (Y : Nat → Prop) (e : Ent) (ms : List Value) (x : Ending) (w' : World) : Prop :=
  x = .returned (.int .i64 (pushR fl L e.t e.f e.s)) ∧ Below B w w' ∧ Kept w w' (fun q => FP g A q ∨ w.heap.size ≤ q) ∧
  ((pushR fl L e.t e.f e.s = 0 ∧ ∃ A' c' a n k, PO w' B g A' c' fl (L ++ [{ e with oa := a, on_ := n, oc := k }]) (M ++ [ms]) Y ∧ (ablk A' = ablk A ∨ ∀ q, ablk A' = some q → w.heap.size ≤ q)) ∨ (pushR fl L e.t e.f e.s ≠ 0 ∧ PO w' B g A c fl L M Y))
theorem push_q (w : World) (B g : Nat) (A : Option Addr) (c : Nat) (fl : Int) (L : List Ent) (M : List (List Value)) (Y : Nat → Prop) (h : PO w B g A c fl L M Y) (hY : ∀ q, Y q → q < w.heap.size) (e : Ent) (ms : List Value) (he : Rd w e.o ms) :
    Calls Try.prog 9 #[.pointer (some ⟨g, 0, none⟩), e.val] w (PushQ w B g A c fl L M Y e ms) := by
  have hl := h.past.lt
  have hBw : B ≤ w.heap.size := Nat.le_trans h.past.2.2.1 (Nat.le_of_lt hl.1)
  by_cases h1 : e.t < fl
  · refine (push_early w B g A c fl L h.past h.outs.rds e ms he h1).mono ?_
    rintro x w' ⟨rfl, hb⟩
    have hr : pushR fl L e.t e.f e.s = 110 := by unfold pushR; rw [if_pos h1]
    exact ⟨by rw [hr], hb.mono hBw, (Kept.of_below hb _), .inr ⟨by rw [hr]; decide, h.below hb⟩⟩
  · by_cases h2 : ∃ l, L.getLast? = some l ∧ ¬ kc l.t l.f l.s e.t e.f e.s < 0
    · refine (push_order w B g A c fl L h.past h.outs.rds e ms he (by omega) h2).mono ?_
      rintro x w' ⟨rfl, hb⟩
      obtain ⟨l, hl2, hl3⟩ := h2
      have hr : pushR fl L e.t e.f e.s = 130 := by unfold pushR; rw [if_neg h1, hl2]; simp only; rw [if_neg hl3]
      exact ⟨by rw [hr], hb.mono hBw, (Kept.of_below hb _), .inr ⟨by rw [hr]; decide, h.below hb⟩⟩
    · have h2' : ∀ l, L.getLast? = some l → kc l.t l.f l.s e.t e.f e.s < 0 := fun l hl => Decidable.byContradiction fun hn => h2 ⟨l, hl, hn⟩
      by_cases h3 : L.length < 64
      · have hr : pushR fl L e.t e.f e.s = 0 := by
          unfold pushR
          rw [if_neg h1]
          cases hg : L.getLast? with
          | none => rfl
          | some l => simp only; rw [if_pos (h2' l hg), if_pos h3]
        refine (push_ok w B g A c fl L h.past h.outs.rds e ms he (by omega) h2' h3).mono ?_
        rintro x w' ⟨A', c', a, n, k, rfl, hP, hR, hK, hB, hA, _, hnew⟩
        have hS : ∀ q, (q = g ∨ some q = (Value.slice A L.length c).ownBlock) → FP g A q := fun q hq => by
          rcases hq with h | h
          · exact .inl h
          · exact .inr (by rw [ablk_own] at h; exact h.symm)
        have hA' : ∀ q, FP g A' q → FP g A q ∨ w.heap.size ≤ q := fun q hq => by
          rcases hq with hq | hq
          · exact .inl (.inl hq)
          · rcases hA with h | ⟨q', h, h'⟩
            · exact .inl (.inr (by rw [ablk_own] at h; rw [← h]; exact hq))
            · have : some q' = some q := h.symm.trans hq
              injection this with this
              exact .inr (by omega)
        refine ⟨by rw [hr], hB B h.past.2.2.1 (fun q hq => (hl.2.1 q (by rw [ablk_own] at hq; exact hq)).1) hBw, hK.mono (fun q hq => .inl ?_), .inl ⟨hr, A', c', a, n, k, ⟨hP, ?_⟩, ?_⟩⟩
        · rcases hq with h | h
          · exact .inl h
          · exact .inr (by rw [ablk_own] at h; exact h.symm)
        · refine (h.outs.imp (fun e ms _ ho => ho.kept hK (fun q hq => .inl (.inl (hS q hq))) (fun q hq => hq.elim (fun h => (hA' q h).elim (fun h => .inl (.inl h)) .inr) (fun h => .inl (.inr h))))).snoc ⟨hR, fun hm q hq hx => ?_⟩
          have hn := hnew q hq
          rcases hx with (hx | hx) | hx
          · omega
          · exact hn.2 hm hx
          · have := hY q hx
            omega
        · rcases hA with h | ⟨q', h, h'⟩
          · exact .inl (by rw [ablk_own] at h; exact h)
          · exact .inr (fun q hq => by have : some q' = some q := h.symm.trans hq; injection this with this; omega)
      · have h64 : L.length = 64 := by have := h.past.2.2.2; omega
        have hr : pushR fl L e.t e.f e.s = 2 := by
          unfold pushR
          rw [if_neg h1]
          cases hg : L.getLast? with
          | none => rw [List.getLast?_eq_none_iff] at hg; rw [hg] at h64; simp at h64
          | some l => simp only; rw [if_pos (h2' l hg), if_neg h3]
        refine (push_full w B g A c fl L h.past h.outs.rds e ms he (by omega) h2' h64).mono ?_
        rintro x w' ⟨rfl, hb⟩
        exact ⟨by rw [hr], hb.mono hBw, (Kept.of_below hb _), .inr ⟨by rw [hr]; decide, h.below hb⟩⟩
/-- what Settle says -/
def SettleQ (w : World) (B g : Nat) (fl t : Int) (L : List Ent) (M : List (List Value)) (Y : Nat → Prop) (x : Ending) (w' : World) : Prop :=
  ∃ k A1 c1 A2 c2, x = .returned (.slice A1 k c1) ∧ k ≤ L.length ∧ (∀ i (hi : i < L.length), i < k → L[i].t < t) ∧ (∀ i (hi : i < L.length), k ≤ i → t ≤ L[i].t) ∧
    w'.ownsRow w.heap.size 32 10 (.slice A1 k c1) k (flat (L.take k)) ∧ PO w' B g A2 c2 (max fl t) (L.drop k) (M.drop k) Y ∧ Outs w' (fun q => FP g A2 q ∨ Y q) (L.take k) (M.take k) ∧ Kept w w' (fun q => q = g) ∧ Below B w w' ∧ (∀ q, ablk A2 = some q → w.heap.size ≤ q ∧ ablk A1 ≠ some q)
theorem settle_q (w : World) (B g c : Nat) (A : Option Addr) (fl : Int) (L : List Ent) (M : List (List Value)) (Y : Nat → Prop) (h : PO w B g A c fl L M Y) (t : Int)
    (hm : ∀ x y (hx : x < L.length) (hy : y < L.length), x ≤ y → ¬ (L[x].t < t) → ¬ (L[y].t < t)) :
    Calls Try.prog 10 #[.pointer (some ⟨g, 0, none⟩), .int .i64 t] w (SettleQ w B g fl t L M Y) := by
  refine (settle_n w B g c A fl L h.past t hm).mono ?_
  rintro x w' ⟨k, A1, c1, A2, c2, rfl, h1, h2, h3, h4, h5, h6, h7, h8⟩
  have ho : Outs w' (fun q => FP g A2 q ∨ Y q) L M := h.outs.imp (fun e ms _ ho => ho.kept h6 (fun q hq => .inl (.inl (.inl hq))) (fun q hq => hq.elim (fun h => h.elim (fun h => .inl (.inl (.inl h))) (fun h => .inr (h8 q h).1)) (fun h => .inl (.inr h))))
  exact ⟨k, A1, c1, A2, c2, rfl, h1, h2, h3, h4, ⟨h5, ho.drop k⟩, ho.take k, h6, h7, h8⟩
/-- what Back says -/
def BackQ (w : World) (B g c : Nat) (A : Option Addr) (fl : Int) (L : List Ent) (M : List (List Value)) (Y : Nat → Prop) (k0 k1 k2 : Int) (x : Ending) (w' : World) : Prop :=
  ∃ k A1 c1, x = .returned (.slice A1 (L.length - k) c1) ∧ k ≤ L.length ∧ (∀ i (hi : i < L.length), i < k → kc (L[i]).t (L[i]).f (L[i]).s k0 k1 k2 < 0) ∧ (∀ i (hi : i < L.length), k ≤ i → 0 ≤ kc (L[i]).t (L[i]).f (L[i]).s k0 k1 k2) ∧
    w'.ownsRow w.heap.size 32 10 (.slice A1 (L.length - k) c1) (L.length - k) (flat (L.drop k).reverse) ∧ PO w' B g A c fl (L.take k) (M.take k) Y ∧ Outs w' (fun q => FP g A q ∨ Y q) (L.drop k) (M.drop k) ∧ Kept w w' (fun q => q = g) ∧ Below B w w'
theorem back_q (w : World) (B g c : Nat) (A : Option Addr) (fl : Int) (L : List Ent) (M : List (List Value)) (Y : Nat → Prop) (h : PO w B g A c fl L M Y) (k0 k1 k2 : Int)
    (hm : ∀ a b (ha : a < L.length) (hb : b < L.length), a ≤ b → ¬ (kc (L[a]).t (L[a]).f (L[a]).s k0 k1 k2 < 0) → ¬ (kc (L[b]).t (L[b]).f (L[b]).s k0 k1 k2 < 0)) :
    Calls Try.prog 13 #[.pointer (some ⟨g, 0, none⟩), .agg #[.int .i64 k0, .int .i64 k1, .int .i64 k2]] w (BackQ w B g c A fl L M Y k0 k1 k2) := by
  have hl := h.past.lt
  have hBw : B ≤ w.heap.size := Nat.le_trans h.past.2.2.1 (Nat.le_of_lt hl.1)
  refine (back_at w B g c A fl L h.past k0 k1 k2 hm).mono ?_
  rintro x w' ⟨k, A1, c1, rfl, h1, h2, h3, h4, h5, h6, h7⟩
  have ho : Outs w' (fun q => FP g A q ∨ Y q) L M := h.outs.imp (fun e ms _ ho => ho.kept h6 (fun q hq => .inl (.inl (.inl hq))) (fun q hq => .inl hq))
  exact ⟨k, A1, c1, rfl, h1, h2, h3, h4, ⟨h5, ho.take k⟩, ho.drop k, h6, h7 B h.past.2.2.1 hBw⟩
end Go.Proofs.Ytemedggbodkhcaa.Past
