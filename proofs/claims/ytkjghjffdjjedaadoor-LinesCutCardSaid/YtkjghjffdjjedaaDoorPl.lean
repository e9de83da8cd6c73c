/- lines, plain: the program's reading of a text as a machine over its bytes. -/
import Derived.Test.YtkjghjffdjjedaaDoorRws
set_option linter.unusedVariables false
set_option linter.unusedSimpArgs false
namespace Go.Proofs.YtkjghjffdjjedaaDoor.Enc
open Go Go.RowKit Go.Lib Go.Proofs
def bl (l : List UInt8) : ByteArray := ⟨l.toArray⟩
theorem bl_data (l : List UInt8) : (bl l).data.toList = l := by simp [bl]
theorem bl_of (s : ByteArray) : bl s.data.toList = s := by obtain ⟨⟨l⟩⟩ := s; rfl
theorem bl_inj {a b : List UInt8} (h : bl a = bl b) : a = b := by rw [← bl_data a, h, bl_data]
theorem bl_size (l : List UInt8) : (bl l).size = l.length := by simp [bl, ByteArray.size]
theorem bl_extract (l : List UInt8) (a b : Nat) : (bl l).extract a b = bl ((l.drop a).take (b - a)) := by
  rw [← bl_of ((bl l).extract a b), ByteArray.data_extract, Array.toList_extract, bl_data]
theorem bl_drop (l : List UInt8) (a : Nat) : (bl l).extract a (bl l).size = bl (l.drop a) := by
  rw [bl_extract, bl_size, List.take_of_length_le (by simp)]
def consH (b : UInt8) : List (List UInt8) → List (List UInt8)
  | [] => [[b]]
  | f :: fs => (b :: f) :: fs
def splitL (c : UInt8) : List UInt8 → List (List UInt8)
  | [] => [[]]
  | b :: l => if b = c then [] :: splitL c l else consH b (splitL c l)
theorem splitL_ne (c : UInt8) (l : List UInt8) : ∃ f fs, splitL c l = f :: fs := by
  cases l with
  | nil => exact ⟨_, _, rfl⟩
  | cons b l =>
    unfold splitL
    split
    · exact ⟨_, _, rfl⟩
    · cases splitL c l <;> exact ⟨_, _, rfl⟩
theorem index_one (b c : UInt8) (l : List UInt8) : index (b :: l) [c] = if b = c then 0 else if index l [c] = -1 then -1 else index l [c] + 1 := by
  rw [index]
  by_cases h : b = c
  · subst h; simp [List.isPrefixOf]
  · have : ([c] : List UInt8).isPrefixOf (b :: l) = false := by simp [List.isPrefixOf, Ne.symm h]
    rw [this, if_neg h]; simp
theorem splitB_eq (c : UInt8) : ∀ l : List UInt8, splitB ⟨#[c]⟩ 0 (count l [c]) (bl l) = (splitL c l).map bl := by
  intro l
  induction l with
  | nil => rw [count_miss (by simp [index]), splitB_zero]; rfl
  | cons b l ih =>
    unfold splitL
    by_cases h : b = c
    · subst h
      rw [if_pos rfl, count_cons_eq, Nat.add_comm, splitB_hit ⟨#[b]⟩ 0 _ (bl (b :: l)) 0 (by show index (bl (b :: l)).data.toList [b] = _; rw [bl_data, index_one, if_pos rfl]; rfl), bl_drop]
      simp only [List.map_cons, bl_extract]
      rw [← ih]; rfl
    · rw [if_neg h, count_cons_ne b c l h]
      by_cases hm : index l [c] = -1
      · have hc : count l [c] = 0 := by rw [count_miss hm]
        rw [hc, splitB_zero] at ih
        rw [hc, splitB_zero]
        obtain ⟨f, fs, hf⟩ := splitL_ne c l
        rw [hf] at ih ⊢
        simp only [List.map_cons, List.cons.injEq] at ih
        obtain ⟨e1, e2⟩ := ih
        have e3 : fs = [] := by cases fs with | nil => rfl | cons a t => simp at e2
        rw [← bl_inj e1, e3]; rfl
      · have hge := index_ge l [c]
        obtain ⟨j, hj⟩ : ∃ j : Nat, index l [c] = j := ⟨(index l [c]).toNat, by omega⟩
        rw [count_hit (by simp) hj] at ih ⊢
        have hix : index (b :: l) [c] = ((j + 1 : Nat) : Int) := by rw [index_one, if_neg h, if_neg hm, hj]; rfl
        generalize hk : count (List.drop (j + [c].length) l) [c] = k at *
        rw [Nat.add_comm, splitB_hit ⟨#[c]⟩ 0 _ (bl l) j (by show index (bl l).data.toList [c] = _; rw [bl_data, hj]), bl_drop] at ih
        rw [Nat.add_comm, splitB_hit ⟨#[c]⟩ 0 _ (bl (b :: l)) (j + 1) (by show index (bl (b :: l)).data.toList [c] = _; rw [bl_data, hix]), bl_drop]
        obtain ⟨f, fs, hf⟩ := splitL_ne c l
        rw [hf] at ih ⊢
        simp only [List.map_cons, List.cons.injEq, consH, bl_extract] at ih ⊢
        obtain ⟨e1, e2⟩ := ih
        refine ⟨?_, ?_⟩
        · rw [← bl_inj e1]; simp
        · rw [← e2]; rfl
/-- a line's text, and whether it is ended -/
def linesP : List UInt8 → List (List UInt8 × Bool)
  | [] => []
  | b :: l => if b = 10 then ([], true) :: linesP l else match linesP l with
    | [] => [([b], false)]
    | (h, e) :: t => (b :: h, e) :: t
def lineT (p : List UInt8 × Bool) : ByteArray := bl (if p.2 then p.1 ++ [10] else p.1)
theorem indexByte_cons (b c : UInt8) (l : List UInt8) : indexByte (b :: l) c = if b = c then 0 else if indexByte l c = -1 then -1 else indexByte l c + 1 := by
  rw [indexByte]; simp
theorem linesN_succ (n : Nat) (s : ByteArray) : linesN (n + 1) s = if s.size = 0 then [] else if indexByte s.data.toList 10 = -1 then [s] else s.extract 0 ((indexByte s.data.toList 10).toNat + 1) :: linesN n (s.extract ((indexByte s.data.toList 10).toNat + 1) s.size) := rfl
theorem linesN_more : ∀ (n : Nat) (l : List UInt8), l.length ≤ n → linesN (n + 1) (bl l) = linesN n (bl l) := by
  intro n
  induction n with
  | zero =>
    intro l h
    have : l = [] := List.length_eq_zero_iff.1 (by omega)
    subst this; rfl
  | succ n ih =>
    intro l h
    rw [linesN_succ (n + 1) (bl l), linesN_succ n (bl l)]
    by_cases h0 : (bl l).size = 0
    · rw [if_pos h0, if_pos h0]
    · rw [if_neg h0, if_neg h0]
      by_cases h1 : indexByte (bl l).data.toList 10 = -1
      · rw [if_pos h1, if_pos h1]
      · rw [if_neg h1, if_neg h1, bl_drop, ih]
        rw [List.length_drop]; omega
theorem linesN_eq : ∀ (n : Nat) (l : List UInt8), l.length ≤ n → linesN n (bl l) = (linesP l).map lineT := by
  intro n l
  induction l generalizing n with
  | nil => intro _; exact linesN_empty n
  | cons b l ih =>
    intro h
    obtain ⟨n, rfl⟩ : ∃ m, n = m + 1 := ⟨n - 1, by simp at h; omega⟩
    have hn : l.length ≤ n := by simpa using h
    have hih := ih n hn
    rw [linesN, if_neg (by rw [bl_size]; simp), linesP, bl_data, indexByte_cons]
    by_cases h10 : b = 10
    · subst h10
      rw [if_pos rfl, if_neg (by decide), if_pos rfl, bl_drop]
      simp only [List.map_cons]
      rw [← hih, bl_extract]; rfl
    · rw [if_neg h10, if_neg h10]
      have hge := indexByte_ge l 10
      cases hl : l with
      | nil =>
        rw [if_pos (by simp [indexByte])]
        simp [linesP, indexByte, lineT]
      | cons b2 l2 =>
        rw [← hl]
        have hn1 : 1 ≤ n := by rw [hl] at hn; simp at hn; omega
        obtain ⟨n, rfl⟩ : ∃ m, n = m + 1 := ⟨n - 1, by omega⟩
        have hih0 := hih
        rw [linesN, if_neg (by rw [bl_size, hl]; simp), bl_data] at hih
        by_cases hm : indexByte l 10 = -1
        · rw [if_pos hm] at hih
          rw [if_pos hm, if_pos rfl]
          cases hp : linesP l with
          | nil => rw [hp] at hih; simp at hih
          | cons p t =>
            obtain ⟨h', e⟩ := p
            rw [hp] at hih
            simp only [List.map_cons, List.cons.injEq] at hih ⊢
            obtain ⟨e1, e2⟩ := hih
            have e3 : t = [] := by cases t with | nil => rfl | cons a t => simp at e2
            subst e3
            have e4 : l = if e then h' ++ [10] else h' := bl_inj e1
            simp only [List.map_nil, and_true]
            unfold lineT
            congr 1
            rw [e4]; cases e <;> simp
        · rw [if_neg hm] at hih
          rw [if_neg hm]
          obtain ⟨j, hj⟩ : ∃ j : Nat, indexByte l 10 = j := ⟨(indexByte l 10).toNat, by omega⟩
          rw [hj] at hih ⊢
          rw [if_neg (by omega)]
          cases hp : linesP l with
          | nil => rw [hp] at hih; simp at hih
          | cons p t =>
            obtain ⟨h', e⟩ := p
            rw [hp] at hih
            have ej : ((j : Int) + 1).toNat = j + 1 := by omega
            rw [ej, bl_extract, bl_drop]
            rw [show ((j : Int)).toNat = j from rfl, bl_extract, bl_drop] at hih
            simp only [List.map_cons, List.cons.injEq] at hih ⊢
            obtain ⟨e1, e2⟩ := hih
            refine ⟨?_, ?_⟩
            · have e4 := bl_inj e1
              unfold lineT
              congr 1
              simp only [List.drop_zero, Nat.sub_zero] at e4 ⊢
              rw [List.take_succ_cons, e4]
              cases e <;> simp
            · rw [← e2, List.drop_succ_cons]
              refine linesN_more _ _ ?_
              rw [List.length_drop]; omega
theorem linesB_eq (s : ByteArray) : linesB s = (linesP s.data.toList).map lineT := by
  have h := linesN_eq s.size s.data.toList (by simp)
  rw [bl_of] at h; exact h
theorem linesP_no : ∀ (l : List UInt8) (p : List UInt8 × Bool), p ∈ linesP l → ∀ x ∈ p.1, x ≠ 10 := by
  intro l
  induction l with
  | nil => intro p hp; cases hp
  | cons b l ih =>
    intro p hp x hx
    rw [linesP] at hp
    split at hp
    · rcases List.mem_cons.1 hp with rfl | hp
      · cases hx
      · exact ih p hp x hx
    · rename_i h10
      split at hp
      · rcases List.mem_cons.1 hp with rfl | hp
        · simp at hx; subst hx; exact h10
        · cases hp
      · rename_i h e t ht
        rcases List.mem_cons.1 hp with rfl | hp
        · rcases List.mem_cons.1 hx with rfl | hx
          · exact h10
          · exact ih (h, e) (by rw [ht]; exact List.mem_cons_self) x hx
        · exact ih p (by rw [ht]; exact List.mem_cons_of_mem _ hp) x hx
end Go.Proofs.YtkjghjffdjjedaaDoor.Enc
