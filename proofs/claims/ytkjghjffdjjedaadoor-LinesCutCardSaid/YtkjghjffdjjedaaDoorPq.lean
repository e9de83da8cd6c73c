/- lines, plain: what is encoded is read back, and what is read is encoded so. -/
import Derived.Test.YtkjghjffdjjedaaDoorPo
set_option linter.unusedVariables false
set_option linter.unusedSimpArgs false
namespace Go.Proofs.YtkjghjffdjjedaaDoor.Enc
open Go Go.RowKit Go.Lib Go.Proofs Go.Proofs.YtkjghjffdjjedaaDoorW.PrintWords
def tailE (fs : Row8) : List UInt8 := fs.flatMap (fun f => 44 :: escS f)
def encR : Row8 → List UInt8
  | [] => []
  | f :: fs => escS f ++ tailE fs
def encT (rows : List Row8) : List UInt8 := rows.flatMap (fun r => encR r ++ [10])
def preH (f : List UInt8) : Row8 → Row8
  | [] => [f]
  | g :: gs => (f ++ g) :: gs
theorem consH_preH (c : UInt8) (f : List UInt8) (r : Row8) : consH c (preH f r) = preH (c :: f) r := by cases r <;> rfl
theorem preH_nil (r : Row8) (h : ∃ f fs, r = f :: fs) : preH [] r = r := by obtain ⟨f, fs, rfl⟩ := h; rfl
theorem P_escB (c : UInt8) (l : List UInt8) : P (escB c ++ l) = ((P l).1.map (consH c), (P l).2) := by
  unfold escB
  by_cases h1 : c = 37
  · subst h1; rw [if_pos rfl]; exact P_c l (by decide)
  · rw [if_neg h1]
    by_cases h2 : c = 44
    · subst h2; rw [if_pos rfl]; exact P_c l (by decide)
    · rw [if_neg h2]
      by_cases h3 : c = 10
      · subst h3; rw [if_pos rfl]; exact P_c l (by decide)
      · rw [if_neg h3]; exact P_b l h3 h2 h1
theorem P_esc (f : List UInt8) (l : List UInt8) : P (escS f ++ l) = ((P l).1.map (preH f), (P l).2) := by
  induction f with
  | nil =>
    have hn := P_ne _ l (Nat.le_refl _)
    show P l = _
    revert hn
    generalize P l = p
    intro hn
    obtain ⟨o, q⟩ := p
    cases o with
    | none => rfl
    | some r => simp [preH_nil r (hn r rfl)]
  | cons c f ih =>
    have e : escS (c :: f) ++ l = escB c ++ (escS f ++ l) := by simp [escS]
    rw [e, P_escB, ih]
    simp only [Option.map_map, Prod.mk.injEq, and_true]
    congr 1
    funext r
    exact consH_preH c f r
theorem P_row : ∀ (fs : Row8) (f : List UInt8) (rest : List UInt8), P (escS f ++ (tailE fs ++ 10 :: rest)) = (some (f :: fs), true, Q rest) := by
  intro fs
  induction fs with
  | nil =>
    intro f rest
    rw [P_esc]
    show (Option.map (preH f) (P (10 :: rest)).1, _) = _
    rw [show tailE [] ++ 10 :: rest = 10 :: rest from rfl, P_10]
    simp [preH]
  | cons g gs ih =>
    intro f rest
    have e : tailE (g :: gs) ++ 10 :: rest = 44 :: (escS g ++ (tailE gs ++ 10 :: rest)) := by simp [tailE]
    rw [P_esc, e, P_44, ih]
    simp [preH]
theorem Q_rows : ∀ rows : List Row8, (∀ r ∈ rows, r ≠ []) → Q (encT rows) = .inl rows := by
  intro rows
  induction rows with
  | nil => intro _; rfl
  | cons r rows ih =>
    intro h
    cases r with
    | nil => exact absurd rfl (h [] List.mem_cons_self)
    | cons f fs =>
      have e : encT ((f :: fs) :: rows) = escS f ++ (tailE fs ++ 10 :: encT rows) := by simp [encT, encR]
      unfold Q
      rw [if_neg (by rw [e]; simp), e, P_row, ih (fun r hr => h r (List.mem_cons_of_mem _ hr))]
      rfl
theorem escB_cd {x y c : UInt8} (h : cd x y = some c) : escB c = [37, x, y] := by
  unfold cd at h
  split at h
  · rename_i q; obtain ⟨rfl, rfl⟩ := q; cases h; rfl
  · split at h
    · rename_i q; obtain ⟨rfl, rfl⟩ := q; cases h; rfl
    · split at h
      · rename_i q; obtain ⟨rfl, rfl⟩ := q; cases h; rfl
      · cases h
theorem consH_inv {c : UInt8} {o : Option Row8} {f : List UInt8} {fs : Row8} (hn : ∀ r, o = some r → ∃ f fs, r = f :: fs) (h : o.map (consH c) = some (f :: fs)) : ∃ g, f = c :: g ∧ o = some (g :: fs) := by
  cases o with
  | none => cases h
  | some r =>
    obtain ⟨g, gs, rfl⟩ := hn r rfl
    simp [consH] at h
    exact ⟨g, h.1.symm, by rw [h.2]⟩
theorem P_inv : ∀ (n : Nat) (l : List UInt8), l.length ≤ n → ∀ f fs r, P l = (some (f :: fs), true, r) → ∃ rest, l = escS f ++ (tailE fs ++ 10 :: rest) ∧ r = Q rest ∧ rest.length < l.length := by
  intro n
  induction n with
  | zero =>
    intro l h f fs r hp
    have : l = [] := List.length_eq_zero_iff.1 (by omega)
    subst this
    cases hp
  | succ n ih =>
    intro l h f fs r hp
    cases l with
    | nil => cases hp
    | cons b l =>
      have hl : l.length ≤ n := by simpa using h
      have hn := P_ne _ l (Nat.le_refl _)
      by_cases h10 : b = 10
      · subst h10
        rw [P_10] at hp
        simp only [Prod.mk.injEq, Option.some.injEq, List.cons.injEq, true_and] at hp
        obtain ⟨⟨rfl, rfl⟩, rfl⟩ := hp
        exact ⟨l, rfl, rfl, by simp⟩
      · by_cases h44 : b = 44
        · subst h44
          rw [P_44] at hp
          cases hP : P l with
          | mk o q =>
            rw [hP] at hp
            cases o with
            | none => simp at hp
            | some r0 =>
              obtain ⟨g, gs, rfl⟩ := hn r0 (by rw [hP])
              simp only [Option.map_some, Prod.mk.injEq, Option.some.injEq, List.cons.injEq] at hp
              obtain ⟨⟨rfl, rfl⟩, rfl⟩ := hp
              obtain ⟨rest, e1, e2, e3⟩ := ih l hl g gs r hP
              exact ⟨rest, by rw [e1]; simp [escS, tailE], e2, by simp; omega⟩
        · by_cases h37 : b = 37
          · subst h37
            cases l with
            | nil => rw [P_end] at hp; simp at hp
            | cons x l =>
              cases l with
              | nil => rw [P_one] at hp; simp at hp
              | cons y l =>
                cases hc : cd x y with
                | none => rw [P_bad l hc] at hp; simp at hp
                | some c =>
                  rw [P_c l hc] at hp
                  simp only [Prod.mk.injEq] at hp
                  obtain ⟨g, rfl, ho⟩ := consH_inv (P_ne _ l (Nat.le_refl _)) hp.1
                  obtain ⟨rest, e1, e2, e3⟩ := ih l (by simp at hl; omega) g fs r (by rw [← ho, ← hp.2])
                  refine ⟨rest, ?_, e2, by simp; omega⟩
                  have e4 : escS (c :: g) = [37, x, y] ++ escS g := by rw [← escB_cd hc]; simp [escS]
                  rw [e4, e1]; simp
          · rw [P_b l h10 h44 h37] at hp
            simp only [Prod.mk.injEq] at hp
            obtain ⟨g, rfl, ho⟩ := consH_inv hn hp.1
            obtain ⟨rest, e1, e2, e3⟩ := ih l hl g fs r (by rw [← ho, ← hp.2])
            refine ⟨rest, ?_, e2, by simp; omega⟩
            have e4 : escS (b :: g) = b :: escS g := by simp [escS, escB, h10, h44, h37]
            rw [e4, e1]; simp
theorem comb_inv {l : List UInt8} {rows : List Row8} (h : comb (P l) = .inl rows) : ∃ f fs rs, P l = (some (f :: fs), true, .inl rs) ∧ rows = (f :: fs) :: rs := by
  have hn := P_ne _ l (Nat.le_refl _)
  revert h hn
  generalize P l = p
  intro h hn
  obtain ⟨o, e, r⟩ := p
  cases o with
  | none => cases h
  | some q =>
    obtain ⟨f, fs, rfl⟩ := hn q rfl
    cases e with
    | false => cases h
    | true =>
      cases r with
      | inl rs => cases h; exact ⟨f, fs, rs, rfl, rfl⟩
      | inr k => cases h
theorem Q_inv : ∀ (n : Nat) (l : List UInt8), l.length ≤ n → ∀ rows, Q l = .inl rows → l = encT rows ∧ ∀ r ∈ rows, r ≠ [] := by
  intro n
  induction n with
  | zero =>
    intro l h rows hq
    have : l = [] := List.length_eq_zero_iff.1 (by omega)
    subst this
    cases hq
    exact ⟨rfl, fun r hr => by cases hr⟩
  | succ n ih =>
    intro l h rows hq
    by_cases hl : l = []
    · subst hl; cases hq; exact ⟨rfl, fun r hr => by cases hr⟩
    · rw [Q, if_neg hl] at hq
      obtain ⟨f, fs, rs, hp, rfl⟩ := comb_inv hq
      obtain ⟨rest, e1, e2, e3⟩ := P_inv _ l (Nat.le_refl _) f fs _ hp
      obtain ⟨e4, e5⟩ := ih rest (by omega) rs e2.symm
      refine ⟨?_, ?_⟩
      · rw [e1]
        show _ = (encR (f :: fs) ++ [10]) ++ encT rs
        rw [← e4]; simp [encR]
      · intro r hr
        rcases List.mem_cons.1 hr with rfl | hr
        · simp
        · exact e5 r hr
/-- rows as bytes -/
def toL (rows : List (List ByteArray)) : List Row8 := rows.map (·.map (·.data.toList))
theorem toL_toB (rs : List Row8) : toL (toB rs) = rs := by
  unfold toL toB
  rw [List.map_map]
  conv => rhs; rw [← List.map_id rs]
  congr 1
  funext r
  simp only [Function.comp, List.map_map]
  conv => rhs; rw [id, ← List.map_id r]
  congr 1
theorem toB_toL (rows : List (List ByteArray)) : toB (toL rows) = rows := by
  unfold toL toB
  rw [List.map_map]
  conv => rhs; rw [← List.map_id rows]
  congr 1
  funext r
  simp only [Function.comp, List.map_map]
  conv => rhs; rw [id, ← List.map_id r]
  congr 1
theorem tail_range (fs : List ByteArray) (g : ByteArray) : (List.range fs.length).flatMap (fun i => (if 0 < i + 1 then [44] else []) ++ escS ((g :: fs).getD (i + 1) ByteArray.empty).data.toList) = tailE (fs.map (·.data.toList)) := by
  induction fs generalizing g with
  | nil => rfl
  | cons f fs ih =>
    rw [List.length_cons, List.range_succ_eq_map, List.flatMap_cons, List.flatMap_map]
    simp only [List.map_cons, tailE, List.flatMap_cons]
    congr 1
    have := ih f
    unfold tailE at this
    rw [← this]
    simp
theorem rowE_eq (r : List ByteArray) : rowE r r.length = encR (r.map (·.data.toList)) := by
  cases r with
  | nil => rfl
  | cons f fs =>
    unfold rowE
    rw [List.length_cons, List.range_succ_eq_map, List.flatMap_cons, List.flatMap_map]
    simp only [List.map_cons, encR]
    congr 1
    exact tail_range fs f
theorem allE_eq (l : List (List ByteArray)) : allE l l.length = encT (toL l) := by
  unfold allE toL encT
  induction l with
  | nil => rfl
  | cons r l ih =>
    rw [List.length_cons, List.range_succ_eq_map, List.flatMap_cons, List.flatMap_map, List.map_cons, List.flatMap_cons]
    congr 1
    simp [rowE_eq]
theorem toL_ne {rows : List (List ByteArray)} (h : ∀ r ∈ rows, r ≠ []) : ∀ r ∈ toL rows, r ≠ [] := by
  intro r hr
  obtain ⟨q, hq, rfl⟩ := List.mem_map.1 hr
  intro e
  exact h q hq (List.map_eq_nil_iff.1 e)
theorem toB_ne {rows : List Row8} (h : ∀ r ∈ rows, r ≠ []) : ∀ r ∈ toB rows, r ≠ [] := by
  intro r hr
  obtain ⟨q, hq, rfl⟩ := List.mem_map.1 hr
  intro e
  exact h q hq (List.map_eq_nil_iff.1 e)
theorem encF_ok {rows : List (List ByteArray)} (h : ∀ r ∈ rows, r ≠ []) : encF rows = (bl (encT (toL rows)), 0) := by
  unfold encF
  rw [if_neg (by rintro ⟨r, hr, e⟩; exact h r hr e), allE_eq]; rfl
theorem encF_inv {rows : List (List ByteArray)} (h : (encF rows).2 = 0) : ∀ r ∈ rows, r ≠ [] := by
  intro r hr e
  unfold encF at h
  rw [if_pos ⟨r, hr, e⟩] at h
  cases h
theorem encF_bad {rows : List (List ByteArray)} (h : (encF rows).2 ≠ 0) : encF rows = (⟨#[]⟩, 1) := by
  unfold encF at h ⊢
  split
  · rfl
  · rename_i q; rw [if_neg q] at h; exact absurd rfl h
/-- what was encoded is read back -/
theorem dec_enc {rows : List (List ByteArray)} (h : (encF rows).2 = 0) : decF (encF rows).1 = (rows, 0, 0) := by
  rw [encF_ok (encF_inv h)]
  unfold decF
  rw [bl_data, Q_rows _ (toL_ne (encF_inv h))]
  simp only [toB_toL]
/-- what is read is the text of these rows -/
theorem enc_dec {s : ByteArray} (h : (decF s).2.2 = 0) : encF (decF s).1 = (s, 0) ∧ (decF s).2.1 = 0 := by
  unfold decF at h ⊢
  cases hq : Q s.data.toList with
  | inr k => rw [hq] at h; cases h
  | inl rs =>
    simp only
    obtain ⟨e1, e2⟩ := Q_inv _ _ (Nat.le_refl _) rs hq
    refine ⟨?_, trivial⟩
    rw [encF_ok (toB_ne e2), toL_toB, ← e1, bl_of]
theorem dec_bad {s : ByteArray} (h : (decF s).2.2 ≠ 0) : (decF s).1 = [] ∧ (decF s).2.2 = 20 := by
  unfold decF at h ⊢
  cases hq : Q s.data.toList with
  | inr k => exact ⟨rfl, rfl⟩
  | inl rs => rw [hq] at h; exact absurd rfl h
end Go.Proofs.YtkjghjffdjjedaaDoor.Enc
