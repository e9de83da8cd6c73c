/- past: the order of entries and keys (plain); the steps that came in; keys in memory. -/
import Derived.Test.YtemedggbodkhcaaPo
import Derived.Test.YtemedggbodkhcaaBackW
import Derived.Test.YtemedggbodkhcaaRefCmp
set_option linter.unusedVariables false
set_option linter.unusedSimpArgs false
namespace Go.Proofs.Ytemedggbodkhcaa.Past
open Go.RowKit Go.Proofs.YtemedggbodkhcaaW.PrintWords Go.Proofs.YtemedggbodkhcaaW.PrintLast
/-- entries in order, at the floor or above -/
structure Inv (L : List Ent) (fl : Int) : Prop where
  sorted : L.Pairwise (fun a b => kc a.t a.f a.s b.t b.f b.s < 0)
  floor : ∀ e ∈ L, fl ≤ e.t
  pos : 0 ≤ fl
/-- keys in order, below the floor -/
structure InvG (G : List Ent) (fl : Int) : Prop where
  sorted : G.Pairwise (fun a b => kc a.t a.f a.s b.t b.f b.s < 0)
  floor : ∀ e ∈ G, e.t < fl
theorem kc_trans {a0 a1 a2 b0 b1 b2 c0 c1 c2 : Int} (h1 : kc a0 a1 a2 b0 b1 b2 < 0) (h2 : kc b0 b1 b2 c0 c1 c2 < 0) : kc a0 a1 a2 c0 c1 c2 < 0 := by
  rw [kc_lt] at *
  omega
theorem Inv.push {L : List Ent} {fl : Int} (h : Inv L fl) (e : Ent) (a : Option Addr) (n k : Nat) (hr : pushR fl L e.t e.f e.s = 0) : Inv (L ++ [{ e with oa := a, on_ := n, oc := k }]) fl := by
  unfold pushR at hr
  split at hr
  · cases hr
  · rename_i h1
    refine ⟨List.pairwise_append.2 ⟨h.sorted, List.pairwise_singleton _ _, fun x hx y hy => ?_⟩, fun x hx => ?_, h.pos⟩
    · rw [List.mem_singleton.1 hy]
      show kc x.t x.f x.s e.t e.f e.s < 0
      cases hg : L.getLast? with
      | none => rw [List.getLast?_eq_none_iff] at hg; rw [hg] at hx; cases hx
      | some l =>
        rw [hg] at hr
        simp only at hr
        split at hr
        · rename_i h2
          obtain ⟨ys, hys⟩ := List.getLast?_eq_some_iff.1 hg
          rw [hys] at hx
          rcases List.mem_append.1 hx with hx | hx
          · have := h.sorted
            rw [hys] at this
            exact kc_trans ((List.pairwise_append.1 this).2.2 x hx l (List.mem_singleton.2 rfl)) h2
          · rw [List.mem_singleton.1 hx]; exact h2
        · cases hr
    · rcases List.mem_append.1 hx with hx | hx
      · exact h.floor x hx
      · rw [List.mem_singleton.1 hx]; show fl ≤ e.t; omega
theorem Inv.take {L : List Ent} {fl : Int} (h : Inv L fl) (k : Nat) : Inv (L.take k) fl := ⟨h.sorted.sublist (List.take_sublist _ _), fun e he => h.floor e (List.mem_of_mem_take he), h.pos⟩
theorem pw_get {L : List Ent} (h : L.Pairwise (fun a b => kc a.t a.f a.s b.t b.f b.s < 0)) (i j : Nat) (hi : i < L.length) (hj : j < L.length) (hij : i < j) : kc L[i].t L[i].f L[i].s L[j].t L[j].f L[j].s < 0 := List.pairwise_iff_getElem.1 h i j hi hj hij
theorem Inv.monoT {L : List Ent} {fl : Int} (h : Inv L fl) : MonoT L := by
  intro t x y hx hy hxy hn
  rcases Nat.lt_or_ge x y with hlt | hge
  · have := pw_get h.sorted x y hx hy hlt
    rw [kc_lt] at this
    omega
  · have : x = y := by omega
    subst this
    exact hn
theorem Inv.monoT_at {L : List Ent} {fl t : Int} (h : Inv L fl) : ∀ x y (hx : x < L.length) (hy : y < L.length), x ≤ y → ¬ (L[x].t < t) → ¬ (L[y].t < t) := h.monoT t
theorem Inv.monoK {L : List Ent} {fl : Int} (h : Inv L fl) (k0 k1 k2 : Int) : ∀ a b (ha : a < L.length) (hb : b < L.length), a ≤ b → ¬ (kc (L[a]).t (L[a]).f (L[a]).s k0 k1 k2 < 0) → ¬ (kc (L[b]).t (L[b]).f (L[b]).s k0 k1 k2 < 0) := by
  intro x y hx hy hxy hn
  rcases Nat.lt_or_ge x y with hlt | hge
  · have := pw_get h.sorted x y hx hy hlt
    intro h2
    exact hn (kc_trans this h2)
  · have : x = y := by omega
    subst this
    exact hn
theorem Inv.settle {L G : List Ent} {fl t : Int} {k : Nat} (h : Inv L fl) (hg : InvG G fl) (h1 : ∀ i (hi : i < L.length), i < k → L[i].t < t) (h2 : ∀ i (hi : i < L.length), k ≤ i → t ≤ L[i].t) : Inv (L.drop k) (max fl t) ∧ InvG (G ++ L.take k) (max fl t) := by
  refine ⟨⟨h.sorted.sublist (List.drop_sublist _ _), fun e he => ?_, by have := h.pos; omega⟩, ⟨List.pairwise_append.2 ⟨hg.sorted, h.sorted.sublist (List.take_sublist _ _), fun x hx y hy => ?_⟩, fun e he => ?_⟩⟩
  · have a := h.floor e (List.mem_of_mem_drop he)
    obtain ⟨i, hi, rfl⟩ := List.mem_iff_getElem.1 he
    rw [List.getElem_drop] at a ⊢
    have := h2 (k + i) (by simp at hi; omega) (by omega)
    omega
  · have a := hg.floor x hx
    have b := h.floor y (List.mem_of_mem_take hy)
    rw [kc_lt]
    omega
  · rcases List.mem_append.1 he with he | he
    · have := hg.floor e he; omega
    · obtain ⟨i, hi, rfl⟩ := List.mem_iff_getElem.1 he
      rw [List.getElem_take]
      simp only [List.length_take] at hi
      have := h1 i (by omega) (by omega)
      omega
/-- the steps that came in: each one's kind, its entry, the entry's messages -/
def Steps (W : World) (a : Option Addr) (n : Nat) : Prop :=
  ∀ i, i < n → ∃ (x : Addr) (kd : Int) (e : Ent) (ms : List Value), a = some x ∧ (∀ j u, (.int .i64 kd :: e.cells)[j]? = some u → W.cell? (x.add (i * 11 + j)) = some u) ∧ Rd W e.o ms
theorem keyCells_append (L M : List Ent) : keyCells (L ++ M) = keyCells L ++ keyCells M := by simp [keyCells]
/-- a key's cells, of a slice of keys -/
theorem key_cells {w : World} {base n c : Nat} {A : Option Addr} {L : List Ent} (h : w.ownsRow base 27 3 (.slice A n c) n (keyCells L)) (hn : L.length = n) (i : Nat) (hi : i < L.length) :
    ∃ b, A = some ⟨b, 0, none⟩ ∧ n ≤ c ∧ w.cell? ⟨b, i * 3, none⟩ = some (.int .i64 L[i].t) ∧ w.cell? ⟨b, i * 3 + 1, none⟩ = some (.int .i64 L[i].f) ∧ w.cell? ⟨b, i * 3 + 2, none⟩ = some (.int .i64 L[i].s) := by
  rcases h.2 with ⟨e, e0⟩ | ⟨g, cap, cur, e, hb, hg, hn', hm, hs, ht⟩
  · omega
  · cases e
    have hc : ∀ j u, j < 3 → (L[i].key)[j]? = some u → w.cell? ⟨g, i * 3 + j, none⟩ = some u := by
      intro j u hj hu
      have := h.cells rfl (i * 3 + j) u ?_
      · rwa [add_plain] at this
      · rw [keyCells, flatMap_get Ent.key 3 (fun e => rfl) L (i * 3 + j) (by omega)]
        have e1 : (i * 3 + j) / 3 = i := by omega
        have e2 : (i * 3 + j) % 3 = j := by omega
        rw [e1, e2, getElem!_pos L i hi]
        exact hu
    exact ⟨g, rfl, hn', hc 0 _ (by decide) rfl, hc 1 _ (by decide) rfl, hc 2 _ (by decide) rfl⟩
theorem own_type {w : World} {base n c : Nat} {e : TypeId} {sz : Nat} {A : Option Addr} {xs : List Value} (h : w.ownsRow base e sz (.slice A n c) n xs) {q : Nat} (hq : ablk A = some q) : ∃ cs, w.heap[q]? = some (.cells cs e (0, 0)) := by
  rw [← ablk_own A n c] at hq
  rcases h.2 with ⟨e0, _⟩ | ⟨b, cap, cur, e0, _, hb, _⟩
  · rw [e0] at hq; simp [Value.ownBlock] at hq
  · rw [e0] at hq
    simp only [Value.ownBlock, Option.some.injEq] at hq
    subst hq
    exact ⟨cur, hb⟩
theorem type_ne {w : World} {q : Nat} {c1 c2 : Array Value} {e1 e2 : TypeId} {f1 f2 : Nat × Nat} (h1 : w.heap[q]? = some (.cells c1 e1 f1)) (h2 : w.heap[q]? = some (.cells c2 e2 f2)) (hne : e1 ≠ e2) : False := by
  rw [h1] at h2
  injection h2 with h2
  injection h2 with _ h2
  exact hne h2
/-- a row of another type is not what a past writes -/
theorem own_noFP {w : World} {base n c B g cA : Nat} {fl : Int} {L : List Ent} {e : TypeId} {sz : Nat} {A Ag : Option Addr} {xs : List Value} (h : w.ownsRow base e sz (.slice Ag n c) n xs) (hp : PastAt w B g A cA fl L) (h1 : e ≠ 65) (h2 : e ≠ 32) : ∀ q, ablk Ag = some q → ¬ FP g A q := by
  intro q hq hf
  obtain ⟨cs, hc⟩ := own_type h hq
  rcases hf with rfl | hf
  · exact type_ne hc hp.1 h1
  · obtain ⟨cs', hc'⟩ := own_type hp.2.1 hf
    exact type_ne hc hc' h2
/-- what stands in memory while PastOrder goes on -/
structure OR (W : World) (gp : Nat) (A : Option Addr) (c : Nat) (fl : Int) (L : List Ent) (M : List (List Value)) (Ag : Option Addr) (cg : Nat) (G : List Ent) (k : Nat) (wr : World) : Prop where
  po : PO wr W.heap.size gp A c fl L M (fun q => ablk Ag = some q)
  gone : wr.ownsRow W.heap.size 27 3 (.slice Ag G.length cg) G.length (keyCells G)
  inv : Inv L fl
  invg : InvG G fl
  bd : G.length ≤ 64 * k
  below : Below W.heap.size W wr
section
variable {W wr w' : World} {gp : Nat} {A : Option Addr} {c : Nat} {fl : Int} {L : List Ent} {M : List (List Value)} {Ag : Option Addr} {cg : Nat} {G : List Ent} {k : Nat}
theorem OR.belows (h : OR W gp A c fl L M Ag cg G k wr) (hb : Below wr.heap.size wr w') : OR W gp A c fl L M Ag cg G k w' :=
  ⟨h.po.below hb, own_move h.gone (fun b hb' => hb.block b (own_lt h.gone b hb')), h.inv, h.invg, h.bd, h.below.trans (hb.mono h.below.size)⟩
theorem OR.next (h : OR W gp A c fl L M Ag cg G k wr) : OR W gp A c fl L M Ag cg G (k + 1) wr := { h with bd := by have := h.bd; omega }
theorem OR.gone_lt (h : OR W gp A c fl L M Ag cg G k wr) : ∀ q, ablk Ag = some q → q < wr.heap.size := fun q hq => own_lt h.gone q (by rw [ablk_own]; exact hq)
theorem OR.push {e : Ent} {ms : List Value} {x : Ending} (h : OR W gp A c fl L M Ag cg G k wr) (hq : PushQ wr W.heap.size gp A c fl L M (fun q => ablk Ag = some q) e ms x w') :
    ∃ v A' c' L' M', x = .returned v ∧ OR W gp A' c' fl L' M' Ag cg G (k + 1) w' := by
  obtain ⟨rfl, hb, hk, hr⟩ := hq
  have hgone : w'.ownsRow W.heap.size 27 3 (.slice Ag G.length cg) G.length (keyCells G) := own_move h.gone (fun b hb' => hk.2 b (own_lt h.gone b hb') (fun hf => by
    rcases hf with hf | hf
    · exact own_noFP h.gone h.po.past (by decide) (by decide) b (by rw [← ablk_own Ag G.length cg]; exact hb') hf
    · have := own_lt h.gone b hb'; omega))
  rcases hr with ⟨hr, A', c', a, n, k', hP, _⟩ | ⟨_, hP⟩
  · exact ⟨_, A', c', _, _, rfl, ⟨hP, hgone, h.inv.push e a n k' hr, h.invg, by have := h.bd; omega, h.below.trans hb⟩⟩
  · exact ⟨_, A, c, L, M, rfl, ⟨hP, hgone, h.inv, h.invg, by have := h.bd; omega, h.below.trans hb⟩⟩
theorem OR.back {k0 k1 k2 : Int} {x : Ending} (h : OR W gp A c fl L M Ag cg G k wr) (hq : BackQ wr W.heap.size gp c A fl L M (fun q => ablk Ag = some q) k0 k1 k2 x w') :
    ∃ v L' M', x = .returned v ∧ OR W gp A c fl L' M' Ag cg G (k + 1) w' := by
  obtain ⟨j, A1, c1, rfl, h1, h2, h3, h4, h5, h6, h7, h8⟩ := hq
  exact ⟨_, L.take j, M.take j, rfl, ⟨h5, own_keep h.gone h7 (fun b hb e => own_noFP h.gone h.po.past (by decide) (by decide) b (by rw [← ablk_own Ag G.length cg]; exact hb) (.inl e)), h.inv.take j, h.invg, by have := h.bd; omega, h.below.trans h8⟩⟩
/-- while what is settled is laid beside what was gone -/
structure OS (W : World) (gp : Nat) (A : Option Addr) (c : Nat) (fl : Int) (L : List Ent) (M : List (List Value)) (Ag : Option Addr) (cg : Nat) (G S : List Ent) (A1 : Option Addr) (c1 j : Nat) (wr : World) : Prop where
  po : PO wr W.heap.size gp A c fl L M (fun q => ablk Ag = some q)
  gone : wr.ownsRow W.heap.size 27 3 (.slice Ag (G.length + j) cg) (G.length + j) (keyCells (G ++ S.take j))
  set : wr.ownsRow W.heap.size 32 10 (.slice A1 S.length c1) S.length (flat S)
  below : Below W.heap.size W wr
theorem OS.app {S : List Ent} {A1 : Option Addr} {c1 j : Nat} {gA capA : Nat} {o : Obj} (h : OS W gp A c fl L M Ag cg G S A1 c1 j wr) (hj : j < S.length)
    (hown : w'.ownsRow W.heap.size 27 3 (.slice (some ⟨gA, 0, none⟩) (G.length + j + 1) capA) (G.length + j + 1) (keyCells (G ++ S.take j) ++ S[j].key)) (hg : (wr.alloc o).grownBy w' (Value.slice Ag (G.length + j) cg).ownBlock)
    (hat : (Value.slice Ag (G.length + j) cg).ownBlock = some gA ∨ gA = wr.heap.size + 1) : OS W gp A c fl L M (some ⟨gA, 0, none⟩) capA G S A1 c1 (j + 1) w' := by
  have hK : Kept wr w' (fun q => ablk Ag = some q) := Kept.of_grown hg ((Kept.refl wr _).alloc o) (fun b hb => .inl (by rw [ablk_own] at hb; exact hb))
  refine ⟨h.po.others hK (fun q hq => .inl ⟨hq, own_noFP h.gone h.po.past (by decide) (by decide) q hq⟩) (fun q hq => ?_), ?_, own_keep h.set hK (fun b hb e => ?_), ?_⟩
  · have e : gA = q := Option.some.inj hq
    rcases hat with h' | h'
    · exact .inl (by rw [← e, ← ablk_own Ag (G.length + j) cg]; exact h')
    · exact .inr (by omega)
  · rw [List.take_succ_eq_append_getElem hj, ← List.append_assoc, keyCells_append, ← Nat.add_assoc]
    have e1 : keyCells [S[j]] = S[j].key := by simp [keyCells]
    rw [e1]
    exact hown
  · obtain ⟨cs, hc⟩ := own_type h.gone e
    obtain ⟨cs', hc'⟩ := own_type h.set (by rw [← ablk_own A1 S.length c1]; exact hb)
    exact type_ne hc hc' (by decide)
  · exact (h.below.alloc h.below.size o).grown hg (by simp; have := h.below.size; omega) (fun q hq => own_base h.gone q hq)
end
end Go.Proofs.Ytemedggbodkhcaa.Past
