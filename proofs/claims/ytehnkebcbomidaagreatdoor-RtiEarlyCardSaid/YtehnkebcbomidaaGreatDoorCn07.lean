/- Part of a proof over the given program: Hp, Hq, Qk, XCmpx0. -/
import Derived.Test.YtehnkebcbomidaaGreatDoorCn06
import Derived.Test.YtehnkebcbomidaaGreatDoorProg
import Derived.Maps.Own
import Derived.Maps.OwnOps
import Derived.Maps.OwnSet
import Derived.Maps.Views
import Derived.DeepKeys4
import Derived.Test.YtehnkebcbomidaaGreatDoorCn04
import Derived.Laws.StructEq
set_option linter.unusedVariables false
set_option linter.unusedSimpArgs false
section
namespace Go.Proofs.YtehnkebcbomidaaGreatDoor.Rt
def mg0 : Mg := ⟨⟨0, 0, 0⟩, 0, 0, 0⟩
def K (L : List Mg) (i : Nat) : Ky := (L.getD i mg0).k
def sw (L : List Mg) (i k : Nat) : List Mg := (L.set i (L.getD k mg0)).set k (L.getD i mg0)
theorem sw_length (L : List Mg) (i k : Nat) : (sw L i k).length = L.length := by simp [sw]
theorem sw_getD (L : List Mg) (i k x : Nat) (hi : i < L.length) (hk : k < L.length) : (sw L i k).getD x mg0 = if x = k then L.getD i mg0 else if x = i then L.getD k mg0 else L.getD x mg0 := by
 unfold sw
 simp only [List.getD_eq_getElem?_getD, List.getElem?_set, List.length_set]
 by_cases c : x = k
 ·subst c; simp [hk]
 ·have c' : ¬ k = x := fun e => c e.symm
  by_cases d : x = i
  ·subst d; simp [c, c', hi]
  ·have d' : ¬ i = x := fun e => d e.symm
   simp [c, c', d, d']
theorem sw_K (L : List Mg) (i k x : Nat) (hi : i < L.length) (hk : k < L.length) : K (sw L i k) x = if x = k then K L i else if x = i then K L k else K L x := by
 unfold K
 rw [sw_getD L i k x hi hk]
 split
 ·rfl
 ·split <;> rfl
theorem sw_perm (L : List Mg) (i k : Nat) (hi : i < L.length) (hk : k < L.length) : (sw L i k).Perm L := by
 have h := Array.swap_perm (xs := L.toArray) (i := i) (j := k) (by simpa using hi) (by simpa using hk)
 have e : (L.toArray.swap i k (by simpa using hi) (by simpa using hk)).toList = sw L i k := by
  unfold sw
  simp [List.getD_eq_getElem?_getD, List.getElem?_eq_getElem hi, List.getElem?_eq_getElem hk]
 have := h.toList
 rw [e] at this
 simpa using this
theorem sw_self (L : List Mg) (i : Nat) (hi : i < L.length) : sw L i i = L := by
 apply List.ext_getElem?
 intro x
 unfold sw
 simp only [List.getElem?_set, List.length_set]
 by_cases c : i = x
 ·subst c; simp [hi, List.getD_eq_getElem?_getD, List.getElem?_eq_getElem hi]
 ·simp [c]
def HeapOk (L : List Mg) (n : Nat) : Prop := ∀ i, 0 < i → i < n → ¬ (K L i).lt (K L ((i - 1) / 2))
theorem le_trans' {a b c : Ky} (h : ¬ b.lt a) (g : ¬ c.lt b) : ¬ c.lt a := by unfold Ky.lt at *; omega
theorem heap_min {L : List Mg} {n : Nat} (h : HeapOk L n) : ∀ m i, i ≤ m → i < n → ¬ (K L i).lt (K L 0) := by
 intro m
 induction m with
 | zero =>
  intro i hi _
  have : i = 0 := by omega
  subst this
  exact Ky.lt_irrefl _
 | succ m ih =>
  intro i hi hn
  by_cases c : i = 0
  ·subst c; exact Ky.lt_irrefl _
  ·exact le_trans' (ih ((i - 1) / 2) (by omega) (by omega)) (h i (by omega) hn)
def upF : Nat → List Mg → Nat → List Mg
 | 0, L, _ => L
 | n + 1, L, j => if j = 0 then L else if (K L j).lt (K L ((j - 1) / 2)) then upF n (sw L ((j - 1) / 2) j) ((j - 1) / 2) else L
structure UpInv (L : List Mg) (n j : Nat) : Prop where
 ok : ∀ i, 0 < i → i < n → i ≠ j → ¬ (K L i).lt (K L ((i - 1) / 2))
 gr : ∀ i, 0 < i → i < n → (i - 1) / 2 = j → 0 < j → ¬ (K L i).lt (K L ((j - 1) / 2))
theorem upF_spec (n : Nat) : ∀ (m : Nat) (L : List Mg) (j : Nat), j < m → j < n → n ≤ L.length → UpInv L n j → HeapOk (upF m L j) n ∧ (upF m L j).Perm L := by
 intro m
 induction m with
 | zero => intro L j h; omega
 | succ m ih =>
  intro L j hj hjn hn h
  unfold upF
  by_cases c : j = 0
  ·rw [if_pos c]
   exact ⟨fun i h0 hi => h.ok i h0 hi (by omega), List.Perm.refl _⟩
  ·rw [if_neg c]
   by_cases d : (K L j).lt (K L ((j - 1) / 2))
   ·rw [if_pos d]
    have hK := fun x => sw_K L ((j - 1) / 2) j x (by omega) (by omega)
    have hinv : UpInv (sw L ((j - 1) / 2) j) n ((j - 1) / 2) := by
     refine ⟨fun i h0 hi hij => ?_, fun i h0 hi hij hp => ?_⟩
     ·rw [hK, hK]
      by_cases e : i = j
      ·subst e
       rw [if_pos rfl, if_neg (by omega), if_pos rfl]
       exact Ky.lt_asymm d
      ·rw [if_neg e, if_neg hij]
       by_cases e2 : (i - 1) / 2 = j
       ·rw [if_pos e2]
        exact h.gr i h0 hi e2 (by omega)
       ·rw [if_neg e2]
        by_cases e3 : (i - 1) / 2 = (j - 1) / 2
        ·rw [if_pos e3]
         have := h.ok i h0 hi e
         rw [e3] at this
         exact le_trans' (Ky.lt_asymm d) this
        ·rw [if_neg e3]
         exact h.ok i h0 hi e
     ·rw [hK, hK]
      have hpp : ((j - 1) / 2 - 1) / 2 ≠ j := by omega
      have hpq : ((j - 1) / 2 - 1) / 2 ≠ (j - 1) / 2 := by omega
      rw [if_neg hpp, if_neg hpq]
      have h1 := h.ok ((j - 1) / 2) hp (by omega) (by omega)
      by_cases e : i = j
      ·rw [if_pos e]; exact h1
      ·rw [if_neg e, if_neg (by omega)]
       have h2 := h.ok i h0 hi e
       rw [hij] at h2
       exact le_trans' h1 h2
    obtain ⟨r1, r2⟩ := ih (sw L ((j - 1) / 2) j) ((j - 1) / 2) (by omega) (by omega) (by rw [sw_length]; exact hn) hinv
    exact ⟨r1, r2.trans (sw_perm L _ _ (by omega) (by omega))⟩
   ·rw [if_neg d]
    refine ⟨fun i h0 hi => ?_, List.Perm.refl _⟩
    by_cases e : i = j
    ·rw [e]; exact d
    ·exact h.ok i h0 hi e
theorem upF_length : ∀ (m : Nat) (L : List Mg) (j : Nat), (upF m L j).length = L.length := by
 intro m
 induction m with
 | zero => intro L j; rfl
 | succ m ih =>
  intro L j
  unfold upF
  split
  ·rfl
  ·split
   ·rw [ih, sw_length]
   ·rfl
def childF (L : List Mg) (n i : Nat) : Nat := if 2 * i + 2 < n ∧ (K L (2 * i + 2)).lt (K L (2 * i + 1)) then 2 * i + 2 else 2 * i + 1
def downF (n : Nat) : Nat → List Mg → Nat → List Mg × Nat
 | 0, L, i => (L, i)
 | m + 1, L, i => if n ≤ 2 * i + 1 then (L, i) else if (K L (childF L n i)).lt (K L i) then downF n m (sw L i (childF L n i)) (childF L n i) else (L, i)
structure DnInv (L : List Mg) (n i : Nat) : Prop where
 ok : ∀ k, 0 < k → k < n → (k - 1) / 2 ≠ i → ¬ (K L k).lt (K L ((k - 1) / 2))
 gr : ∀ k, 0 < k → k < n → (k - 1) / 2 = i → 0 < i → ¬ (K L k).lt (K L ((i - 1) / 2))
theorem child_spec (L : List Mg) (n i : Nat) (h : 2 * i + 1 < n) : childF L n i < n ∧ (childF L n i = 2 * i + 1 ∨ childF L n i = 2 * i + 2) ∧ ∀ k, 0 < k → k < n → (k - 1) / 2 = i → ¬ (K L k).lt (K L (childF L n i)) := by
 unfold childF
 by_cases c : 2 * i + 2 < n ∧ (K L (2 * i + 2)).lt (K L (2 * i + 1))
 ·rw [if_pos c]
  refine ⟨c.1, .inr rfl, fun k h0 hk hp => ?_⟩
  have : k = 2 * i + 1 ∨ k = 2 * i + 2 := by omega
  rcases this with e | e
  ·rw [e]; exact Ky.lt_asymm c.2
  ·rw [e]; exact Ky.lt_irrefl _
 ·rw [if_neg c]
  refine ⟨h, .inl rfl, fun k h0 hk hp => ?_⟩
  have : k = 2 * i + 1 ∨ k = 2 * i + 2 := by omega
  rcases this with e | e
  ·rw [e]; exact Ky.lt_irrefl _
  ·rw [e] at hk ⊢
   exact fun k => c ⟨hk, k⟩
theorem down_step (L : List Mg) (n i : Nat) (hn : n ≤ L.length) (h : 2 * i + 1 < n) (hc : (K L (childF L n i)).lt (K L i))
  (ok : ∀ k, 0 < k → k < n → k ≠ i → (k - 1) / 2 ≠ i → ¬ (K L k).lt (K L ((k - 1) / 2))) (gr : ∀ k, 0 < k → k < n → (k - 1) / 2 = i → 0 < i → ¬ (K L k).lt (K L ((i - 1) / 2))) : DnInv (sw L i (childF L n i)) n (childF L n i) := by
 obtain ⟨c1, c2, c3⟩ := child_spec L n i h
 generalize childF L n i = c at *
 have hK := fun x => sw_K L i c x (by omega) (by omega)
 refine ⟨fun k h0 hk hp => ?_, fun k h0 hk hp _ => ?_⟩
 ·rw [hK, hK]
  by_cases e : k = c
  ·rw [if_pos e, if_neg hp, if_pos (by omega)]
   exact Ky.lt_asymm hc
  ·rw [if_neg e, if_neg hp]
   by_cases e2 : k = i
   ·rw [if_pos e2, if_neg (by omega)]
    have := gr c (by omega) c1 (by omega) (by omega)
    rw [e2]
    exact this
   ·rw [if_neg e2]
    by_cases e3 : (k - 1) / 2 = i
    ·rw [if_pos e3]; exact c3 k h0 hk e3
    ·rw [if_neg e3]; exact ok k h0 hk e2 e3
 ·rw [hK, hK]
  rw [if_neg (by omega), if_neg (by omega), if_neg (by omega), if_pos (by omega)]
  have := ok k h0 hk (by omega) (by omega)
  rw [hp] at this
  exact this
theorem downF_spec (n : Nat) : ∀ (m : Nat) (L : List Mg) (i : Nat), n ≤ m + i → n ≤ L.length → DnInv L n i → HeapOk (downF n m L i).1 n ∧ (downF n m L i).1.Perm L := by
 intro m
 induction m with
 | zero =>
  intro L i hm hn h
  refine ⟨fun k h0 hk => h.ok k h0 hk (by omega), List.Perm.refl _⟩
 | succ m ih =>
  intro L i hm hn h
  unfold downF
  by_cases c : n ≤ 2 * i + 1
  ·rw [if_pos c]
   exact ⟨fun k h0 hk => h.ok k h0 hk (by omega), List.Perm.refl _⟩
  ·rw [if_neg c]
   obtain ⟨c1, c2, c3⟩ := child_spec L n i (by omega)
   by_cases d : (K L (childF L n i)).lt (K L i)
   ·rw [if_pos d]
    have hinv := down_step L n i hn (by omega) d (fun k h0 hk _ hp => h.ok k h0 hk hp) h.gr
    obtain ⟨r1, r2⟩ := ih _ _ (by omega) (by rw [sw_length]; exact hn) hinv
    exact ⟨r1, r2.trans (sw_perm L _ _ (by omega) (by omega))⟩
   ·rw [if_neg d]
    refine ⟨fun k h0 hk => ?_, List.Perm.refl _⟩
    by_cases e : (k - 1) / 2 = i
    ·rw [e]; exact le_trans' d (c3 k h0 hk e)
    ·exact h.ok k h0 hk e
theorem downF_length (n : Nat) : ∀ (m : Nat) (L : List Mg) (i : Nat), (downF n m L i).1.length = L.length := by
 intro m
 induction m with
 | zero => intro L i; rfl
 | succ m ih =>
  intro L i
  unfold downF
  split
  ·rfl
  ·split
   ·rw [ih, sw_length]
   ·rfl
theorem downF_ge (n : Nat) : ∀ (m : Nat) (L : List Mg) (i : Nat), i ≤ (downF n m L i).2 := by
 intro m
 induction m with
 | zero => intro L i; exact Nat.le_refl _
 | succ m ih =>
  intro L i
  unfold downF
  split
  ·exact Nat.le_refl _
  ·split
   ·have := ih (sw L i (childF L n i)) (childF L n i)
    have : childF L n i = 2 * i + 1 ∨ childF L n i = 2 * i + 2 := by unfold childF; split <;> simp
    omega
   ·exact Nat.le_refl _
theorem downF_high (n : Nat) : ∀ (m : Nat) (L : List Mg) (i : Nat), n ≤ L.length → i < n → ∀ x, n ≤ x → (downF n m L i).1.getD x mg0 = L.getD x mg0 := by
 intro m
 induction m with
 | zero => intro L i _ _ x _; rfl
 | succ m ih =>
  intro L i hn hi x hx
  unfold downF
  split
  ·rfl
  ·rename_i c
   split
   ·obtain ⟨c1, c2, c3⟩ := child_spec L n i (by omega)
    rw [ih _ _ (by rw [sw_length]; exact hn) c1 x hx, sw_getD L _ _ x (by omega) (by omega), if_neg (by omega), if_neg (by omega)]
   ·rfl
theorem upF_high (n : Nat) : ∀ (m : Nat) (L : List Mg) (j : Nat), n ≤ L.length → j < n → ∀ x, n ≤ x → (upF m L j).getD x mg0 = L.getD x mg0 := by
 intro m
 induction m with
 | zero => intro L i _ _ x _; rfl
 | succ m ih =>
  intro L j hn hj x hx
  unfold upF
  split
  ·rfl
  ·split
   ·rw [ih _ _ (by rw [sw_length]; exact hn) (by omega) x hx, sw_getD L _ _ x (by omega) (by omega), if_neg (by omega), if_neg (by omega)]
   ·rfl
def fixF (n : Nat) (L : List Mg) (i : Nat) : List Mg := if (downF n n L i).2 > i then (downF n n L i).1 else upF (i + 1) (downF n n L i).1 i
theorem fixF_spec (n : Nat) (L : List Mg) (i : Nat) (hi : i < n) (hn : n ≤ L.length) (ok : ∀ k, 0 < k → k < n → k ≠ i → (k - 1) / 2 ≠ i → ¬ (K L k).lt (K L ((k - 1) / 2))) (gr : ∀ k, 0 < k → k < n → (k - 1) / 2 = i → 0 < i → ¬ (K L k).lt (K L ((i - 1) / 2))) : HeapOk (fixF n L i) n ∧ (fixF n L i).Perm L := by
 unfold fixF
 obtain ⟨m, rfl⟩ : ∃ m, n = m + 1 := ⟨n - 1, by omega⟩
 by_cases c : m + 1 ≤ 2 * i + 1
 ·have e : downF (m + 1) (m + 1) L i = (L, i) := by unfold downF; rw [if_pos c]
  rw [e, if_neg (by omega)]
  exact upF_spec (m + 1) (i + 1) L i (by omega) hi hn ⟨fun k h0 hk hki => ok k h0 hk hki (by omega), gr⟩
 ·obtain ⟨c1, c2, c3⟩ := child_spec L (m + 1) i (by omega)
  by_cases d : (K L (childF L (m + 1) i)).lt (K L i)
  ·have e : downF (m + 1) (m + 1) L i = downF (m + 1) m (sw L i (childF L (m + 1) i)) (childF L (m + 1) i) := by rw [downF, if_neg c, if_pos d]
   have hge := downF_ge (m + 1) m (sw L i (childF L (m + 1) i)) (childF L (m + 1) i)
   rw [e, if_pos (by omega)]
   have hinv := down_step L (m + 1) i hn (by omega) d ok gr
   obtain ⟨r1, r2⟩ := downF_spec (m + 1) m _ _ (by omega) (by rw [sw_length]; exact hn) hinv
   exact ⟨r1, r2.trans (sw_perm L _ _ (by omega) (by omega))⟩
  ·have e : downF (m + 1) (m + 1) L i = (L, i) := by rw [downF, if_neg c, if_neg d]
   rw [e, if_neg (by omega)]
   refine upF_spec (m + 1) (i + 1) L i (by omega) hi hn ⟨fun k h0 hk hki => ?_, gr⟩
   by_cases e2 : (k - 1) / 2 = i
   ·rw [e2]; exact le_trans' d (c3 k h0 hk e2)
   ·exact ok k h0 hk hki e2
end Go.Proofs.YtehnkebcbomidaaGreatDoor.Rt
end
section
namespace Go.Proofs.YtehnkebcbomidaaGreatDoor.Rt
structure QH (L Q : List Mg) : Prop where
 heap : HeapOk L L.length
 perm : L.Perm Q
 srt : Srt Q
theorem QH.nil : QH [] [] := ⟨fun i _ h => by simp at h, List.Perm.refl _, List.Pairwise.nil⟩
theorem srt_nodup {Q : List Mg} (h : Srt Q) : (Q.map Mg.k).Nodup := by
 unfold List.Nodup
 rw [List.pairwise_map]
 exact h.imp (fun {a b} hab e => by rw [e] at hab; exact Ky.lt_irrefl _ hab)
theorem QH.nodup {L Q : List Mg} (h : QH L Q) : (L.map Mg.k).Nodup := (h.perm.map Mg.k).nodup_iff.2 (srt_nodup h.srt)
theorem QH.len {L Q : List Mg} (h : QH L Q) : L.length = Q.length := h.perm.length_eq
theorem K_take (L : List Mg) (n x : Nat) (h : x < n) : K (L.take n) x = K L x := by
 unfold K
 simp [List.getD_eq_getElem?_getD, List.getElem?_take, h]
theorem heap_take {L : List Mg} {n : Nat} (h : HeapOk L n) (hn : n ≤ L.length) : HeapOk (L.take n) (L.take n).length := by
 intro i h0 hi
 rw [List.length_take, Nat.min_eq_left hn] at hi
 rw [K_take _ _ _ hi, K_take _ _ _ (by omega)]
 exact h i h0 hi
theorem K_append (L : List Mg) (m : Mg) (x : Nat) : K (L ++ [m]) x = if x < L.length then K L x else if x = L.length then m.k else mg0.k := by
 unfold K
 simp only [List.getD_eq_getElem?_getD, List.getElem?_append]
 by_cases c : x < L.length
 ·simp [c]
 ·by_cases d : x = L.length
  ·subst d; simp
  ·have : x - L.length ≠ 0 := by omega
   simp [c, d, List.getElem?_eq_none (show [m].length ≤ x - L.length by simp; omega)]
theorem ins_perm (m : Mg) (Q : List Mg) : (ins m Q).Perm (m :: Q) := by
 induction Q with
 | nil => exact List.Perm.refl _
 | cons q Q ih =>
  unfold ins
  split
  ·exact List.Perm.refl _
  ·exact (List.Perm.cons q ih).trans (List.Perm.swap m q Q)
def pushL (L : List Mg) (m : Mg) : List Mg := upF (L.length + 1) (L ++ [m]) L.length
theorem upF_len (m : Nat) (L : List Mg) (j : Nat) : (upF m L j).length = L.length := upF_length m L j
theorem QH.push {L Q : List Mg} (h : QH L Q) (m : Mg) (hn : ∀ x ∈ Q, x.k ≠ m.k) : QH (pushL L m) (ins m Q) := by
 have hinv : UpInv (L ++ [m]) (L.length + 1) L.length := by
  refine ⟨fun i h0 hi hij => ?_, fun i h0 hi hp => by omega⟩
  rw [K_append, K_append, if_pos (by omega), if_pos (by omega)]
  exact h.heap i h0 (by omega)
 obtain ⟨r1, r2⟩ := upF_spec (L.length + 1) (L.length + 1) (L ++ [m]) L.length (by omega) (by omega) (by simp) hinv
 have hl : (pushL L m).length = L.length + 1 := by unfold pushL; rw [upF_len]; simp
 refine ⟨by rw [hl]; exact r1, ?_, ins_srt m Q h.srt hn⟩
 refine r2.trans ((List.perm_append_comm (l₁ := L) (l₂ := [m])).trans ?_)
 exact (List.Perm.cons m h.perm).trans (ins_perm m Q).symm
theorem QH.head {L Q : List Mg} {q : Mg} (h : QH L (q :: Q)) : 0 < L.length ∧ L.getD 0 mg0 = q := by
 have hl := h.len
 have h0 : 0 < L.length := by simp at hl; omega
 refine ⟨h0, ?_⟩
 have e0 : L.getD 0 mg0 = L[0] := by simp [List.getD_eq_getElem?_getD, List.getElem?_eq_getElem h0]
 have hm : L.getD 0 mg0 ∈ q :: Q := h.perm.mem_iff.1 (by rw [e0]; exact List.getElem_mem _)
 have hq : q ∈ L := h.perm.mem_iff.2 List.mem_cons_self
 obtain ⟨i, hi, rfl⟩ := List.getElem_of_mem hq
 have hmin := heap_min h.heap i i (Nat.le_refl _) hi
 rcases List.mem_cons.1 hm with e | e
 ·exact e
 ·have h1 := (List.pairwise_cons.1 h.srt).1 _ e
  have e1 : K L i = L[i].k := by unfold K; simp [List.getD_eq_getElem?_getD, List.getElem?_eq_getElem hi]
  rw [e1] at hmin
  exact absurd h1 hmin
theorem take_last (L : List Mg) (n : Nat) (h : L.length = n + 1) : L = L.take n ++ [L.getD n mg0] := by
 conv => lhs; rw [← List.take_append_drop n L]
 rw [List.drop_eq_getElem_cons (by omega), List.drop_of_length_le (by omega)]
 simp [List.getD_eq_getElem?_getD, List.getElem?_eq_getElem (show n < L.length by omega)]
def popT (L : List Mg) : List Mg := (downF (L.length - 1) (L.length - 1) (sw L 0 (L.length - 1)) 0).1
def popL (L : List Mg) : List Mg := (popT L).take (L.length - 1)
theorem popT_length (L : List Mg) : (popT L).length = L.length := by unfold popT; rw [downF_length, sw_length]
theorem QH.pop {L Q : List Mg} {q : Mg} (h : QH L (q :: Q)) : QH (popL L) Q ∧ (popT L).getD (L.length - 1) mg0 = q := by
 obtain ⟨h0, hq⟩ := h.head
 have hK := fun x => sw_K L 0 (L.length - 1) x h0 (by omega)
 have hsl := sw_length L 0 (L.length - 1)
 have hinv : DnInv (sw L 0 (L.length - 1)) (L.length - 1) 0 := by
  refine ⟨fun k k0 hk hp => ?_, fun k _ _ _ z => by omega⟩
  rw [hK, hK, if_neg (by omega), if_neg (by omega), if_neg (by omega), if_neg hp]
  exact h.heap k k0 (by omega)
 obtain ⟨r1, r2⟩ := downF_spec (L.length - 1) (L.length - 1) (sw L 0 (L.length - 1)) 0 (by omega) (by omega) hinv
 have hlast : (popT L).getD (L.length - 1) mg0 = q := by
  by_cases c : L.length - 1 = 0
  ·unfold popT
   rw [c]
   show (sw L 0 0).getD 0 mg0 = q
   rw [sw_self L 0 h0]; exact hq
  ·unfold popT
   rw [downF_high (L.length - 1) _ _ 0 (by omega) (by omega) _ (Nat.le_refl _), sw_getD L 0 (L.length - 1) _ h0 (by omega), if_pos rfl]
   exact hq
 have hp : ((popT L).take (L.length - 1) ++ [q]).Perm (q :: Q) := by
  have e := take_last (popT L) (L.length - 1) (by rw [popT_length]; omega)
  rw [hlast] at e
  rw [← e]
  exact r2.trans ((sw_perm L 0 (L.length - 1) h0 (by omega)).trans h.perm)
 refine ⟨⟨heap_take r1 (by show L.length - 1 ≤ (popT L).length; have := popT_length L; omega), ?_, (List.pairwise_cons.1 h.srt).2⟩, hlast⟩
 exact ((List.perm_append_comm (l₁ := [q])).trans hp).cons_inv
def remT (L : List Mg) (i : Nat) : List Mg := if L.length - 1 = i then L else fixF (L.length - 1) (sw L i (L.length - 1)) i
def remL (L : List Mg) (i : Nat) : List Mg := (remT L i).take (L.length - 1)
theorem fixF_length (n : Nat) (L : List Mg) (i : Nat) : (fixF n L i).length = L.length := by
 unfold fixF
 split
 ·exact downF_length _ _ _ _
 ·rw [upF_length, downF_length]
theorem fixF_high (n : Nat) (L : List Mg) (i : Nat) (hn : n ≤ L.length) (hi : i < n) (x : Nat) (hx : n ≤ x) : (fixF n L i).getD x mg0 = L.getD x mg0 := by
 unfold fixF
 split
 ·exact downF_high n _ L i hn hi x hx
 ·rw [upF_high n _ _ i (by rw [downF_length]; exact hn) hi x hx]
  exact downF_high n _ L i hn hi x hx
theorem remT_length (L : List Mg) (i : Nat) : (remT L i).length = L.length := by
 unfold remT
 split
 ·rfl
 ·rw [fixF_length, sw_length]
def rmQ (Q : List Mg) (k : Ky) : List Mg := Q.filter fun x => decide (x.k ≠ k)
theorem QH.remove {L Q : List Mg} (h : QH L Q) (i : Nat) (hi : i < L.length) : QH (remL L i) (rmQ Q (K L i)) ∧ (remT L i).getD (L.length - 1) mg0 = L.getD i mg0 := by
 have main : HeapOk (remT L i) (L.length - 1) ∧ (remT L i).Perm L ∧ (remT L i).getD (L.length - 1) mg0 = L.getD i mg0 := by
  unfold remT
  by_cases c : L.length - 1 = i
  ·rw [if_pos c]
   exact ⟨fun k k0 hk => h.heap k k0 (by omega), List.Perm.refl _, by rw [c]⟩
  ·rw [if_neg c]
   have hK := fun x => sw_K L i (L.length - 1) x hi (by omega)
   have hsl := sw_length L i (L.length - 1)
   obtain ⟨r1, r2⟩ := fixF_spec (L.length - 1) (sw L i (L.length - 1)) i (by omega) (by omega) (fun k k0 hk hki hp => by
     rw [hK, hK, if_neg (by omega), if_neg hki, if_neg (by omega), if_neg hp]
     exact h.heap k k0 (by omega)) (fun k k0 hk hp hi0 => by
     rw [hK, hK, if_neg (by omega), if_neg (by omega), if_neg (by omega), if_neg (by omega)]
     have h1 := h.heap k k0 (by omega)
     rw [hp] at h1
     exact le_trans' (h.heap i hi0 (by omega)) h1)
   exact ⟨r1, r2.trans (sw_perm L _ _ hi (by omega)), by rw [fixF_high _ _ _ (by omega) (by omega) _ (Nat.le_refl _), sw_getD L _ _ _ hi (by omega), if_pos rfl]⟩
 obtain ⟨m1, m2, m3⟩ := main
 have hrl := remT_length L i
 refine ⟨⟨heap_take m1 (by omega), ?_, List.Pairwise.sublist List.filter_sublist h.srt⟩, m3⟩
 have e := take_last (remT L i) (L.length - 1) (by omega)
 rw [m3] at e
 have hp : (remL L i ++ [L.getD i mg0]).Perm Q := by unfold remL; rw [← e]; exact m2.trans h.perm
 have hnd : ((remL L i ++ [L.getD i mg0]).map Mg.k).Nodup := (hp.map Mg.k).nodup_iff.2 (srt_nodup h.srt)
 have hf := hp.filter (fun x => decide (x.k ≠ K L i))
 rw [List.filter_append] at hf
 have e1 : [L.getD i mg0].filter (fun x => decide (x.k ≠ K L i)) = [] := by simp [K]
 have e2 : (remL L i).filter (fun x => decide (x.k ≠ K L i)) = remL L i := by
  rw [List.filter_eq_self]
  intro x hx
  rw [List.map_append, List.nodup_append] at hnd
  have := hnd.2.2 x.k (List.mem_map_of_mem hx) (K L i) (by simp [K])
  simpa using this
 rw [e1, e2, List.append_nil] at hf
 exact hf
theorem srt_unique : ∀ {A B : List Mg}, Srt A → Srt B → A.Perm B → A = B := by
 intro A
 induction A with
 | nil => intro B _ _ h; exact (List.nil_perm.1 h).symm ▸ rfl
 | cons a A ih =>
  intro B hA hB h
  cases B with
  | nil => exact absurd h.length_eq (by simp)
  | cons b B =>
   obtain ⟨a1, a2⟩ := List.pairwise_cons.1 hA
   obtain ⟨b1, b2⟩ := List.pairwise_cons.1 hB
   have hab : a = b := by
    rcases List.mem_cons.1 (h.mem_iff.1 List.mem_cons_self) with e | e
    ·exact e
    ·rcases List.mem_cons.1 (h.mem_iff.2 List.mem_cons_self) with e2 | e2
     ·exact e2.symm
     ·exact absurd (a1 b e2) (Ky.lt_asymm (b1 a e))
   subst hab
   rw [ih a2 b2 h.cons_inv]
def idx (L : List Mg) (k : Ky) : Option Nat := L.findIdx? (fun m => decide (m.k = k))
theorem idx_iff {L : List Mg} (hn : (L.map Mg.k).Nodup) (k : Ky) (i : Nat) : idx L k = some i ↔ i < L.length ∧ K L i = k := by
 unfold idx
 rw [List.findIdx?_eq_some_iff_getElem]
 constructor
 ·rintro ⟨h, h1, h2⟩
  exact ⟨h, by unfold K; simpa [List.getD_eq_getElem?_getD, List.getElem?_eq_getElem h] using h1⟩
 ·rintro ⟨h, h1⟩
  have h1' : L[i].k = k := by unfold K at h1; simpa [List.getD_eq_getElem?_getD, List.getElem?_eq_getElem h] using h1
  refine ⟨h, by simpa using h1', fun j hji => ?_⟩
  simp only [decide_eq_true_eq]
  intro e
  exact List.pairwise_iff_getElem.1 hn j i (by simp; omega) (by simpa using h) hji (by simp [e, h1'])
theorem idx_none {L : List Mg} (k : Ky) : idx L k = none ↔ ∀ m ∈ L, m.k ≠ k := by
 unfold idx
 rw [List.findIdx?_eq_none_iff]
 simp
end Go.Proofs.YtehnkebcbomidaaGreatDoor.Rt
end
namespace Go.Proofs.YtehnkebcbomidaaGreatDoor.Rt
open Go Go.RowKit Go.Proofs
def I64 (n : Int) : Prop := (Lit.int .i64 n).wf = true
def Ky.ok (k : Ky) : Prop := I64 k.t ∧ I64 k.f ∧ I64 k.s
def Ky.val (k : Ky) : Value := .agg #[.int .i64 k.t, .int .i64 k.f, .int .i64 k.s]
def Mg.cells (m : Mg) : List Value := [.int .i64 m.k.t, .int .i64 m.k.f, .int .i64 m.k.s, .int .i64 m.d, .int .i64 m.cl, .int .i64 m.bd]
def Mg.val (m : Mg) : Value := .agg #[.int .i64 m.k.t, .int .i64 m.k.f, .int .i64 m.k.s, .int .i64 m.d, .int .i64 m.cl, .int .i64 m.bd]
def flatM (L : List Mg) : List Value := L.flatMap Mg.cells
theorem flatM_length (L : List Mg) : (flatM L).length = L.length * 6 := by
 induction L with
 | nil => rfl
 | cons m L ih => simp only [flatM, List.flatMap_cons, List.length_append, List.length_cons] at ih ⊢; rw [ih]; simp [Mg.cells]; omega
theorem laidOut : laidOutB Tryz.prog = true := by kernel_rfl
theorem law39 : Go.Maps.Keyed Tryz.prog 39 := Go.Maps.Keyed.of_law (deep_law_laid laidOut (m := 8) (by decide) (of_decide_eq_true (by kernel_rfl)) (by kernel_rfl) (by kernel_rfl))
theorem zero3 (w : World) : (zeroValue 3).run Tryz.prog w = .ok (.int .i64 0) w := by kernel_rfl
theorem types_succ : ∃ n, Tryz.prog.types.size + 1 = n + 2 := by
 have : 1 ≤ Tryz.prog.types.size := of_decide_eq_true (by kernel_rfl)
 exact ⟨Tryz.prog.types.size - 1, by omega⟩
def klit (k : Ky) : Lit := .string (keyBytes [.int .i64 k.t, .int .i64 k.f, .int .i64 k.s])
theorem lit3 (n : Nat) (a : Int) (h : I64 a) : Tryz.prog.keyLits (n + 1) 3 [.int .i64 a] = some [.int .i64 a] := by
 unfold Program.keyLits
 rw [Tryz.underlying3]
 simp [show (Lit.int .i64 a).wf = true from h]
theorem kt39 : Tryz.prog.keyType 39 = true := by kernel_rfl
theorem cells39 : Tryz.prog.cellsOf 39 = 3 := by kernel_rfl
theorem cells3 : Tryz.prog.cellsOf 3 = 1 := by kernel_rfl
theorem formed39 (k : Ky) : k.val.formed Tryz.prog 39 = true := by kernel_rfl
theorem key_of (k : Ky) (h : k.ok) : keyOf Tryz.prog 39 k.val = some (klit k) := by
 obtain ⟨n, hn⟩ := types_succ
 unfold keyOf
 rw [Tryz.underlying39]
 simp only [kt39, formed39, Bool.and_self, if_true, hn]
 have e : Tryz.prog.keyLits (n + 2) 39 k.val.cells.toList = some [.int .i64 k.t, .int .i64 k.f, .int .i64 k.s] := by
  unfold Program.keyLits
  rw [Tryz.underlying39]
  simp [cells39, cells3, Ky.val, Value.cells, lit3 n _ h.1, lit3 n _ h.2.1, lit3 n _ h.2.2]
 rw [e]; rfl
theorem klit_inj {a b : Ky} (ha : a.ok) (hb : b.ok) (h : klit a = klit b) : a = b := by
 have h1 := key_of a ha
 have h2 := key_of b hb
 rw [h] at h1
 have h3 := law39.inj h1 h2
 obtain ⟨a1, a2, a3⟩ := a
 obtain ⟨b1, b2, b3⟩ := b
 simp [Ky.val] at h3
 simp [h3]
end Go.Proofs.YtehnkebcbomidaaGreatDoor.Rt
section
namespace Go.Proofs.YtehnkebcbomidaaGreatDoor.XCmp
open Go.RowKit Go.Proofs.YtehnkebcbomidaaGreatDoorW.PrintWords Go.Proofs.YtehnkebcbomidaaGreatDoorW.PrintLast Go.Proofs.YtehnkebcbomidaaGreatDoorW.PrintMore
attribute [local go_sem] max2_int min2_int max_two min_two max_three min_three max_four min_four   -- for this text's walks alone
def errW : Option Int → Value
 | none => .nilIface
 | some c => .iface 0 (.int .i64 c)
theorem errW_none : errW none = .nilIface := rfl
theorem errW_some (c : Int) : errW (some c) = .iface 0 (.int .i64 c) := rfl
end Go.Proofs.YtehnkebcbomidaaGreatDoor.XCmp
end
