/- lines, plain: fields and rows as a machine over bytes; what Decode's rows are. -/
import Derived.Test.YtkjghjffdjjedaaDoorPl
set_option linter.unusedVariables false
set_option linter.unusedSimpArgs false
namespace Go.Proofs.YtkjghjffdjjedaaDoor.Enc
open Go Go.RowKit Go.Lib Go.Proofs
def cd (x y : UInt8) : Option UInt8 := if x = 50 ∧ y = 53 then some 37 else if x = 50 ∧ y = 67 then some 44 else if x = 48 ∧ y = 65 then some 10 else none
theorem pre2 (a b x y : UInt8) (l : List UInt8) : (hasPrefix (x :: y :: l) [a, b] = true) = (x = a ∧ y = b) := by
  unfold hasPrefix
  simp only [List.isPrefixOf, Bool.and_true, Bool.and_eq_true, beq_iff_eq]
  exact propext ⟨fun h => ⟨h.1.symm, h.2.symm⟩, fun h => ⟨h.1.symm, h.2.symm⟩⟩
theorem codeB_cons (x y : UInt8) (l : List UInt8) : codeB (x :: y :: l) = cd x y := by
  unfold codeB cd
  simp only [pre2]
theorem pre1 (a b x : UInt8) : hasPrefix [x] [a, b] = false := by
  unfold hasPrefix
  simp only [List.isPrefixOf, Bool.and_false]
theorem pre0 (a b : UInt8) : hasPrefix [] [a, b] = false := rfl
theorem codeB_one (x : UInt8) : codeB [x] = none := by unfold codeB; simp only [pre1, Bool.false_eq_true, if_false]
theorem codeB_nil : codeB [] = none := by unfold codeB; simp only [pre0, Bool.false_eq_true, if_false]
theorem cd_ne {x y c : UInt8} (h : cd x y = some c) : (x = 50 ∨ x = 48) ∧ (y = 53 ∨ y = 67 ∨ y = 65) := by
  unfold cd at h
  split at h
  · rename_i q; exact ⟨.inl q.1, .inl q.2⟩
  · split at h
    · rename_i q; exact ⟨.inl q.1, .inr (.inl q.2)⟩
    · split at h
      · rename_i q; exact ⟨.inr q.1, .inr (.inr q.2)⟩
      · cases h
/-- a field's text, byte by byte -/
def fieldS : List UInt8 → Option (List UInt8)
  | [] => some []
  | b :: l => if b = 37 then (match l with
      | x :: y :: l' => (match cd x y with
        | some c => (fieldS l').map (c :: ·)
        | none => none)
      | _ => none) else (fieldS l).map (b :: ·)
def goL : List (List UInt8) → Option (List UInt8)
  | [] => some []
  | p :: ps => match codeB p with
    | some c => (goL ps).map (fun t => c :: (p.drop 2 ++ t))
    | none => none
theorem goF_eq : ∀ (ps : List (List UInt8)) (acc : List UInt8), goF (ps.map bl) acc = (goL ps).map (acc ++ ·) := by
  intro ps
  induction ps with
  | nil => intro acc; simp [goF, goL]
  | cons p ps ih =>
    intro acc
    simp only [List.map_cons, goF, goL, bl_data]
    cases hc : codeB p with
    | none => rfl
    | some c => simp only [ih]; cases goL ps <;> simp
theorem consH_head (b : UInt8) (f : List UInt8) (fs : List (List UInt8)) : consH b (f :: fs) = (b :: f) :: fs := rfl
/-- the head of a split, and what is behind it -/
theorem goL_split : ∀ (n : Nat) (l : List UInt8), l.length ≤ n → ∀ f fs, splitL 37 l = f :: fs → fieldS l = (goL fs).map (f ++ ·) := by
  intro n
  induction n with
  | zero =>
    intro l hl f fs h
    have : l = [] := List.length_eq_zero_iff.1 (by omega)
    subst this
    simp [splitL] at h
    obtain ⟨rfl, rfl⟩ := h
    rfl
  | succ n ih =>
    intro l hl f fs h
    cases l with
    | nil => simp [splitL] at h; obtain ⟨rfl, rfl⟩ := h; rfl
    | cons b l =>
      have hl' : l.length ≤ n := by simpa using hl
      rw [splitL] at h
      by_cases hb : b = 37
      · rw [if_pos hb] at h
        simp only [List.cons.injEq] at h
        obtain ⟨rfl, rfl⟩ := h
        rw [fieldS.eq_def]
        simp only
        rw [if_pos hb]
        cases l with
        | nil => simp [splitL, goL, codeB_nil]
        | cons x l =>
          cases l with
          | nil =>
            simp only [splitL]
            by_cases hx : x = 37
            · rw [if_pos hx]; simp [goL, codeB_nil]
            · rw [if_neg hx]; simp [goL, consH, codeB_one]
          | cons y l =>
            simp only
            cases hc : cd x y with
            | none =>
              simp only
              obtain ⟨f, fs, hs⟩ := splitL_ne 37 l
              by_cases hx : x = 37
              · simp [splitL, hx, goL, codeB_nil]
              · by_cases hy : y = 37
                · simp [splitL, hx, hy, consH, goL, codeB_one]
                · simp [splitL, hx, hy, hs, consH, goL, codeB_cons, hc]
            | some c =>
              simp only
              have hn := cd_ne hc
              have hx : x ≠ 37 := by rcases hn.1 with rfl | rfl <;> decide
              have hy : y ≠ 37 := by rcases hn.2 with rfl | rfl | rfl <;> decide
              obtain ⟨f, fs, hs⟩ := splitL_ne 37 l
              rw [ih l (by simp at hl'; omega) f fs hs]
              simp only [splitL, if_neg hx, if_neg hy, hs, consH, goL, codeB_cons, hc]
              cases goL fs <;> simp
      · rw [if_neg hb] at h
        obtain ⟨f', fs', hs⟩ := splitL_ne 37 l
        rw [hs, consH] at h
        simp only [List.cons.injEq] at h
        obtain ⟨rfl, rfl⟩ := h
        rw [fieldS.eq_def]
        simp only
        rw [if_neg hb, ih l hl' f' fs' hs]
        cases goL fs' <;> simp
theorem fieldF_eq (l : List UInt8) : fieldF (bl l) = fieldS l := by
  obtain ⟨f, fs, hs⟩ := splitL_ne 37 l
  have h1 : partsB (bl l) = (splitL 37 l).map bl := by
    have h := splitB_eq 37 l
    unfold partsB
    rw [show countB (bl l) ⟨#[37]⟩ = count l [37] by show count (bl l).data.toList [37] = _; rw [bl_data]]
    exact h
  unfold fieldF
  rw [h1, hs]
  simp only [List.map_cons, List.tail_cons, List.getD_cons_zero, bl_data]
  rw [goF_eq, goL_split l.length l (Nat.le_refl _) f fs hs]
def fldsS : List (List UInt8) → Option (List (List UInt8))
  | [] => some []
  | f :: fs => match fieldS f with
    | some t => (fldsS fs).map (t :: ·)
    | none => none
theorem fldsF_eq : ∀ fs : List (List UInt8), fldsF (fs.map bl) = (fldsS fs).map (·.map bl) := by
  intro fs
  induction fs with
  | nil => rfl
  | cons f fs ih =>
    simp only [List.map_cons, fldsF, fldsS, fieldF_eq]
    cases fieldS f with
    | none => rfl
    | some t => simp only [ih]; cases fldsS fs <;> simp [bl]
theorem commaB_eq (l : List UInt8) : commaB (bl l) = (splitL 44 l).map bl := by
  have h := splitB_eq 44 l
  unfold commaB
  rw [show countB (bl l) ⟨#[44]⟩ = count l [44] by show count (bl l).data.toList [44] = _; rw [bl_data]]
  exact h
def rowS (p : List UInt8 × Bool) : Option (List (List UInt8)) := if p.2 then fldsS (splitL 44 p.1) else none
theorem rowL_eq (p : List UInt8 × Bool) (h : ∀ x ∈ p.1, x ≠ 10) : rowL (lineT p) = (rowS p).map (·.map bl) := by
  obtain ⟨t, e⟩ := p
  unfold rowL rowS lineT
  rw [bl_data]
  cases e with
  | true =>
    have hs : hasSuffix (t ++ [10]) [10] = true := by
      unfold hasSuffix; exact List.isSuffixOf_iff_suffix.2 ⟨t, rfl⟩
    simp only [if_true]
    rw [hs, if_pos rfl]
    have hc : cutLf (bl (t ++ [10])) = bl t := by
      unfold cutLf
      rw [bl_data]
      unfold trimSuffix
      rw [hs, if_pos rfl]
      simp [bl]
    rw [hc, commaB_eq, fldsF_eq]
  | false =>
    have hs : hasSuffix t [10] = false := by
      unfold hasSuffix
      rw [Bool.eq_false_iff]
      intro hx
      obtain ⟨u, hu⟩ := List.isSuffixOf_iff_suffix.1 hx
      exact h 10 (by rw [← hu]; simp) rfl
    simp only [Bool.false_eq_true, if_false]
    rw [hs]; simp
def goS : List (List UInt8 × Bool) → Sum (List (List (List UInt8))) Nat
  | [] => .inl []
  | p :: ps => match rowS p with
    | some r => (match goS ps with
      | .inl rs => .inl (r :: rs)
      | .inr k => .inr (k + 1))
    | none => .inr 1
def toB (rs : List (List (List UInt8))) : List (List ByteArray) := rs.map (·.map bl)
theorem goR_eq : ∀ (ps : List (List UInt8 × Bool)) (n : Nat) (acc : List (List ByteArray)), (∀ p ∈ ps, ∀ x ∈ p.1, x ≠ 10) →
    goR (ps.map lineT) n acc = match goS ps with
      | .inl rs => .inl (acc ++ toB rs)
      | .inr k => .inr (n + k) := by
  intro ps
  induction ps with
  | nil => intro n acc _; simp [goR, goS, toB]
  | cons p ps ih =>
    intro n acc h
    simp only [List.map_cons, goR, goS, rowL_eq p (h p List.mem_cons_self)]
    cases rowS p with
    | none => simp
    | some r =>
      simp only [Option.map_some]
      rw [ih _ _ (fun q hq => h q (List.mem_cons_of_mem _ hq))]
      cases goS ps with
      | inl rs => simp [toB]
      | inr k => simp; omega
theorem rowsF_eq (s : ByteArray) : rowsF s = match goS (linesP s.data.toList) with
      | .inl rs => .inl (toB rs)
      | .inr k => .inr k := by
  unfold rowsF
  rw [linesB_eq, goR_eq _ _ _ (linesP_no _)]
  cases goS (linesP s.data.toList) <;> simp
end Go.Proofs.YtkjghjffdjjedaaDoor.Enc
