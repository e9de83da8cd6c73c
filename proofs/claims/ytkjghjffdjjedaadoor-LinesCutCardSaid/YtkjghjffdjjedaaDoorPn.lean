/- lines, plain: a machine over a text's bytes answers as Decode; the reference's Decode is that machine. -/
import Derived.Test.YtkjghjffdjjedaaDoorPm
import Derived.Test.YtkjghjffdjjedaaDoorXLinesDecodesx1
set_option linter.unusedVariables false
set_option linter.unusedSimpArgs false
namespace Go.Proofs.YtkjghjffdjjedaaDoor.Enc
open Go Go.RowKit Go.Lib Go.Proofs Go.Proofs.YtkjghjffdjjedaaDoorW.PrintWords
abbrev Row8 := List (List UInt8)
def comb : Option Row8 × Bool × Sum (List Row8) Nat → Sum (List Row8) Nat
  | (some r, true, .inl rs) => .inl (r :: rs)
  | (some r, true, .inr k) => .inr (k + 1)
  | _ => .inr 1
/-- the rest of the first line, whether it is ended, and what the lines behind it are -/
def P : List UInt8 → Option Row8 × Bool × Sum (List Row8) Nat
  | [] => (some [[]], false, .inl [])
  | b :: l => if b = 10 then (some [[]], true, if l = [] then .inl [] else comb (P l))
    else if b = 44 then ((P l).1.map ([] :: ·), (P l).2)
    else if b = 37 then (match l with
      | x :: y :: l' => (match cd x y with
        | some c => ((P l').1.map (consH c), (P l').2)
        | none => (none, (P (x :: y :: l')).2))
      | [x] => (none, (P [x]).2)
      | [] => (none, (P []).2))
    else ((P l).1.map (consH b), (P l).2)
def Q (l : List UInt8) : Sum (List Row8) Nat := if l = [] then .inl [] else comb (P l)
theorem P_10 (l : List UInt8) : P (10 :: l) = (some [[]], true, Q l) := by
  rw [P.eq_def (10 :: l)]; dsimp only; rw [if_pos rfl]; rfl
theorem P_44 (l : List UInt8) : P (44 :: l) = ((P l).1.map ([] :: ·), (P l).2) := by
  rw [P.eq_def (44 :: l)]; dsimp only; rw [if_neg (by decide), if_pos rfl]
theorem P_c {x y c : UInt8} (l : List UInt8) (h : cd x y = some c) : P (37 :: x :: y :: l) = ((P l).1.map (consH c), (P l).2) := by
  rw [P.eq_def (37 :: x :: y :: l)]; dsimp only; rw [if_neg (by decide), if_neg (by decide), if_pos rfl, h]
theorem P_bad {x y : UInt8} (l : List UInt8) (h : cd x y = none) : P (37 :: x :: y :: l) = (none, (P (x :: y :: l)).2) := by
  rw [P.eq_def (37 :: x :: y :: l)]; dsimp only; rw [if_neg (by decide), if_neg (by decide), if_pos rfl, h]
theorem P_one (x : UInt8) : P [37, x] = (none, (P [x]).2) := by
  rw [P.eq_def [37, x]]; dsimp only; rw [if_neg (by decide), if_neg (by decide), if_pos rfl]
theorem P_end : P [37] = (none, (P []).2) := by
  rw [P.eq_def [37]]; dsimp only; rw [if_neg (by decide), if_neg (by decide), if_pos rfl]
theorem P_b {b : UInt8} (l : List UInt8) (h1 : b ≠ 10) (h2 : b ≠ 44) (h3 : b ≠ 37) : P (b :: l) = ((P l).1.map (consH b), (P l).2) := by
  rw [P.eq_def (b :: l)]; dsimp only; rw [if_neg h1, if_neg h2, if_neg h3]
def lineH (l : List UInt8) : List UInt8 × Bool × List (List UInt8 × Bool) := match linesP l with
  | [] => ([], false, [])
  | (h, e) :: t => (h, e, t)
theorem linesP_10 (l : List UInt8) : linesP (10 :: l) = ([], true) :: linesP l := by rw [linesP, if_pos rfl]
theorem linesP_b {b : UInt8} (l : List UInt8) (h : b ≠ 10) : linesP (b :: l) = (b :: (lineH l).1, (lineH l).2.1) :: (lineH l).2.2 := by
  rw [linesP, if_neg h]
  unfold lineH
  cases linesP l with
  | nil => rfl
  | cons p t => rfl
theorem lineH_b {b : UInt8} (l : List UInt8) (h : b ≠ 10) : lineH (b :: l) = (b :: (lineH l).1, (lineH l).2.1, (lineH l).2.2) := by
  rw [lineH, linesP_b l h]
theorem fs44 (h : List UInt8) : fldsS (splitL 44 (44 :: h)) = (fldsS (splitL 44 h)).map ([] :: ·) := by
  rw [splitL, if_pos rfl]; rfl
theorem fsb {b : UInt8} (h : List UInt8) (h1 : b ≠ 44) (h2 : b ≠ 37) : fldsS (splitL 44 (b :: h)) = (fldsS (splitL 44 h)).map (consH b) := by
  rw [splitL, if_neg h1]
  obtain ⟨f, fs, hf⟩ := splitL_ne 44 h
  rw [hf, consH, fldsS, fldsS, fieldS.eq_def]
  simp only
  rw [if_neg h2]
  cases fieldS f with
  | none => rfl
  | some t => simp only [Option.map_some]; cases fldsS fs <;> simp [consH]
theorem fsc {x y c : UInt8} (h : List UInt8) (hc : cd x y = some c) : fldsS (splitL 44 (37 :: x :: y :: h)) = (fldsS (splitL 44 h)).map (consH c) := by
  have hn := cd_ne hc
  have hx : x ≠ 44 := by rcases hn.1 with rfl | rfl <;> decide
  have hy : y ≠ 44 := by rcases hn.2 with rfl | rfl | rfl <;> decide
  rw [splitL, if_neg (by decide), splitL, if_neg hx, splitL, if_neg hy]
  obtain ⟨f, fs, hf⟩ := splitL_ne 44 h
  rw [hf, consH, consH, consH, fldsS, fldsS, fieldS.eq_def]
  simp only [if_true, hc]
  cases fieldS f with
  | none => rfl
  | some t => simp only [Option.map_some]; cases fldsS fs <;> simp [consH]
theorem fsbad {x y : UInt8} (h : List UInt8) (hc : cd x y = none) : fldsS (splitL 44 (37 :: x :: y :: h)) = none := by
  rw [splitL, if_neg (by decide)]
  by_cases hx : x = 44
  · subst hx
    rw [splitL, if_pos rfl]
    simp [consH, fldsS, fieldS]
  · rw [splitL, if_neg hx]
    by_cases hy : y = 44
    · subst hy
      rw [splitL, if_pos rfl]
      simp [consH, fldsS, fieldS]
    · rw [splitL, if_neg hy]
      obtain ⟨f, fs, hf⟩ := splitL_ne 44 h
      rw [hf]
      simp [consH, fldsS, fieldS, hc]
theorem fsone (x : UInt8) : fldsS (splitL 44 [37, x]) = none := by
  rw [splitL, if_neg (by decide)]
  by_cases hx : x = 44
  · subst hx
    simp [splitL, consH, fldsS, fieldS]
  · simp [splitL, hx, consH, fldsS, fieldS]
theorem fsend : fldsS (splitL 44 [37]) = none := by simp [splitL, consH, fldsS, fieldS]
theorem goS_comb (h : List UInt8) (e : Bool) (t : List (List UInt8 × Bool)) : goS ((h, e) :: t) = comb (fldsS (splitL 44 h), e, goS t) := by
  rw [goS, rowS]
  cases e with
  | false => cases fldsS (splitL 44 h) <;> rfl
  | true =>
    simp only [if_true]
    cases fldsS (splitL 44 h) with
    | none => rfl
    | some r => cases goS t <;> rfl
theorem P_eq : ∀ (n : Nat) (l : List UInt8), l.length ≤ n → P l = (fldsS (splitL 44 (lineH l).1), (lineH l).2.1, goS (lineH l).2.2) := by
  intro n
  induction n with
  | zero =>
    intro l h
    have : l = [] := List.length_eq_zero_iff.1 (by omega)
    subst this; rfl
  | succ n ih =>
    intro l h
    cases l with
    | nil => rfl
    | cons b l =>
      have hl : l.length ≤ n := by simpa using h
      by_cases h10 : b = 10
      · subst h10
        rw [P_10, lineH, linesP_10]
        simp only
        have : Q l = goS (linesP l) := by
          unfold Q
          cases hl0 : l with
          | nil => rfl
          | cons b2 l2 =>
            rw [← hl0, if_neg (by rw [hl0]; simp), ih l hl]
            have : linesP l = ((lineH l).1, (lineH l).2.1) :: (lineH l).2.2 := by
              unfold lineH
              cases hp : linesP l with
              | nil =>
                rw [hl0, linesP] at hp
                split at hp
                · cases hp
                · split at hp <;> cases hp
              | cons p t => rfl
            rw [this, goS_comb]
        rw [this]; rfl
      · rw [lineH_b l h10]
        by_cases h44 : b = 44
        · subst h44
          rw [P_44, fs44, ih l hl]
        · by_cases h37 : b = 37
          · subst h37
            cases l with
            | nil => rw [P_end]; simp only [lineH, linesP]; rw [fsend]; rfl
            | cons x l =>
              cases l with
              | nil =>
                rw [P_one, ih [x] hl]
                by_cases hx : x = 10
                · subst hx; simp only [lineH, linesP_10]; rw [fsend]
                · rw [lineH_b _ hx]; simp only [lineH, linesP]; rw [fsone]
              | cons y l =>
                cases hc : cd x y with
                | none =>
                  rw [P_bad l hc, ih _ hl]
                  by_cases hx : x = 10
                  · subst hx; simp only [lineH, linesP_10]; rw [fsend]
                  · rw [lineH_b _ hx]
                    by_cases hy : y = 10
                    · subst hy; simp only [lineH, linesP_10]; rw [fsone]
                    · rw [lineH_b _ hy]; simp only; rw [fsbad _ hc]
                | some c =>
                  have hn := cd_ne hc
                  have hx : x ≠ 10 := by rcases hn.1 with rfl | rfl <;> decide
                  have hy : y ≠ 10 := by rcases hn.2 with rfl | rfl | rfl <;> decide
                  rw [P_c l hc, ih l (by simp at hl; omega), lineH_b _ hx, lineH_b _ hy]
                  simp only
                  rw [fsc _ hc]
          · rw [P_b l h10 h44 h37, fsb _ h44 h37, ih l hl]
theorem Q_eq (l : List UInt8) : Q l = goS (linesP l) := by
  have h := P_10 l
  rw [P_eq _ _ (Nat.le_refl _), lineH, linesP_10] at h
  simp only [Prod.mk.injEq] at h
  exact h.2.2.symm
theorem rowsF_Q (s : ByteArray) : rowsF s = match Q s.data.toList with
      | .inl rs => .inl (toB rs)
      | .inr k => .inr k := by rw [rowsF_eq, Q_eq]; cases goS (linesP s.data.toList) <;> rfl
theorem P_ne : ∀ (n : Nat) (l : List UInt8), l.length ≤ n → ∀ r, (P l).1 = some r → ∃ f fs, r = f :: fs := by
  intro n l _ r h
  rw [P_eq l.length l (Nat.le_refl _)] at h
  obtain ⟨f, fs, hf⟩ := splitL_ne 44 (lineH l).1
  rw [hf, fldsS] at h
  simp only at h
  cases hs : fieldS f with
  | none => rw [hs] at h; cases h
  | some t =>
    rw [hs] at h
    cases hq : fldsS fs with
    | none => rw [hq] at h; cases h
    | some q => rw [hq] at h; cases h; exact ⟨_, _, rfl⟩
end Go.Proofs.YtkjghjffdjjedaaDoor.Enc
