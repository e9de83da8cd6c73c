/- Part of a proof over the given program: Pc, Pf, Pg, Pi, Oc. -/
import Derived.Test.YtehnkebcbomidaaGreatDoorCb21
set_option linter.unusedVariables false
set_option linter.unusedSimpArgs false
section
namespace Go.Proofs.YtehnkebcbomidaaGreatDoor.Rt
theorem later_mono (m : LM) {a b : Int} (h : a ≤ b) : m.later a ≤ m.later b := by
  unfold LM.later tadd tclamp; repeat' split <;> omega
theorem later_inf (m : LM) (a : Int) : m.later a ≤ 1125899906842624 := by
  unfold LM.later tadd tclamp; repeat' split <;> omega
theorem later_ge (m : LM) {a : Int} (h : a ≤ 1125899906842624) : a ≤ m.later a := by
  unfold LM.later tadd tclamp; repeat' split <;> omega
def om (l : List LM) (j : Nat) : LM := l.getD j default
structure IsOut (l : List LM) (o : Nat → Int) : Prop where
  no : ∀ j, j < l.length → (om l j).reg = false → o j = 1125899906842624
  own : ∀ j, j < l.length → (om l j).reg = true → (om l j).hangs = false → o j = (om l j).later (om l j).base
  le : ∀ j, j < l.length → (om l j).reg = true → (om l j).hangs = true → o j ≤ (om l j).later (om l j).base ∧ ∀ i, i < l.length → (om l i).reg = true → i ≠ j → o j ≤ (om l j).later (max (tadd (om l j).time 0) (o i))
  at_ : ∀ j, j < l.length → (om l j).reg = true → (om l j).hangs = true → o j = (om l j).later (om l j).base ∨ ∃ i, i < l.length ∧ (om l i).reg = true ∧ i ≠ j ∧ o j = (om l j).later (max (tadd (om l j).time 0) (o i))
theorem IsOut.inf {l : List LM} {o : Nat → Int} (h : IsOut l o) {j : Nat} (hj : j < l.length) : o j ≤ 1125899906842624 := by
  cases hr : (om l j).reg with
  | false => rw [h.no j hj hr]; exact Int.le_refl _
  | true => cases hh : (om l j).hangs with
    | false => rw [h.own j hj hr hh]; exact later_inf _ _
    | true => exact Int.le_trans (h.le j hj hr hh).1 (later_inf _ _)
theorem leastO_spec (out : List Int) (op : List Bool) : ∀ n, (leastO out op n = none → ∀ j, j < n → op.getD j false = false) ∧ ∀ b, leastO out op n = some b → b < n ∧ op.getD b false = true ∧ ∀ j, j < n → op.getD j false = true → out.getD b 0 ≤ out.getD j 0 := by
  intro n
  induction n with
  | zero => exact ⟨fun _ j hj => by omega, fun b h => by cases h⟩
  | succ n ih =>
    obtain ⟨ih1, ih2⟩ := ih
    unfold leastO
    cases hl : leastO out op n with
    | none =>
      simp only
      refine ⟨fun h j hj => ?_, fun b h => ?_⟩
      · by_cases c : j = n
        · subst c
          cases e : op.getD j false with
          | false => rfl
          | true => rw [e] at h; cases h
        · exact ih1 hl j (by omega)
      · obtain ⟨h1, h2⟩ : op.getD n false = true ∧ n = b := by simpa using h
        cases e : op.getD n false with
        | false => rw [e] at h1; cases h1
        | true =>
          subst h2
          refine ⟨by omega, e, fun j hj hoj => ?_⟩
          by_cases c : j = n
          · subst c; exact Int.le_refl _
          · have := ih1 hl j (by omega)
            rw [this] at hoj; cases hoj
    | some b =>
      obtain ⟨b1, b2, b3⟩ := ih2 b hl
      simp only
      refine ⟨(fun h => by split at h <;> cases h), fun c h => ?_⟩
      split at h
      · rename_i hc
        simp only [Bool.and_eq_true, decide_eq_true_eq] at hc
        cases h
        refine ⟨by omega, hc.1, fun j hj hoj => ?_⟩
        by_cases d : j = n
        · subst d; exact Int.le_refl _
        · have := b3 j (by omega) hoj
          omega
      · rename_i hc
        cases h
        refine ⟨by omega, b2, fun j hj hoj => ?_⟩
        by_cases d : j = n
        · subst d
          simp only [Bool.and_eq_true, decide_eq_true_eq, not_and, hoj, true_implies] at hc
          omega
        · exact b3 j (by omega) hoj
structure OutInv (l : List LM) (out : List Int) (op : List Bool) : Prop where
  len : out.length = l.length
  opr : ∀ j, op.getD j false = true → j < l.length ∧ (om l j).reg = true
  no : ∀ j, j < l.length → (om l j).reg = false → out.getD j 0 = 1125899906842624
  own : ∀ j, j < l.length → (om l j).reg = true → (om l j).hangs = false → out.getD j 0 = (om l j).later (om l j).base
  le : ∀ j, j < l.length → (om l j).reg = true → (om l j).hangs = true → out.getD j 0 ≤ (om l j).later (om l j).base ∧ ∀ i, i < l.length → (om l i).reg = true → op.getD i false = false → i ≠ j → out.getD j 0 ≤ (om l j).later (max (tadd (om l j).time 0) (out.getD i 0))
  at_ : ∀ j, j < l.length → (om l j).reg = true → (om l j).hangs = true → out.getD j 0 = (om l j).later (om l j).base ∨ ∃ i, i < l.length ∧ (om l i).reg = true ∧ op.getD i false = false ∧ i ≠ j ∧ out.getD j 0 = (om l j).later (max (tadd (om l j).time 0) (out.getD i 0))
  ord : ∀ i j, i < l.length → (om l i).reg = true → op.getD i false = false → op.getD j false = true → out.getD i 0 ≤ out.getD j 0
theorem OutInv.inf {l : List LM} {out : List Int} {op : List Bool} (h : OutInv l out op) {j : Nat} (hj : j < l.length) : out.getD j 0 ≤ 1125899906842624 := by
  cases hr : (om l j).reg with
  | false => rw [h.no j hj hr]; exact Int.le_refl _
  | true => cases hh : (om l j).hangs with
    | false => rw [h.own j hj hr hh]; exact later_inf _ _
    | true => exact Int.le_trans (h.le j hj hr hh).1 (later_inf _ _)
theorem round_getD (l : List LM) (i : Nat) (op hg : List Bool) (out : List Int) (j : Nat) (hj : j < l.length) : (roundO l i op hg out).getD j 0 = if op.getD j false && hg.getD j false then min (out.getD j 0) ((om l j).later (max (tadd (om l j).time 0) (out.getD i 0))) else out.getD j 0 := by
  unfold roundO om
  rw [List.getD_eq_getElem?_getD, List.getElem?_map, List.getElem?_range hj]
  rfl
theorem set_getD (op : List Bool) (i j : Nat) : (op.set i false).getD j false = if j = i then false else op.getD j false := by
  simp only [List.getD_eq_getElem?_getD, List.getElem?_set]
  split
  · rename_i h; subst h
    simp only [if_true]
    split <;> rfl
  · rename_i h; rw [if_neg (fun e => h e.symm)]
def hgs (l : List LM) : List Bool := l.map fun m => m.reg && m.hangs
theorem hgs_getD (l : List LM) (j : Nat) (hj : j < l.length) : (hgs l).getD j false = ((om l j).reg && (om l j).hangs) := by
  unfold hgs om
  simp [List.getD_eq_getElem?_getD, List.getElem?_eq_getElem hj]
theorem OutInv.step {l : List LM} {out : List Int} {op : List Bool} (h : OutInv l out op) {i : Nat} (hi : leastO out op l.length = some i) : OutInv l (roundO l i (op.set i false) (hgs l) out) (op.set i false) := by
  obtain ⟨i1, i2, i3⟩ := (leastO_spec out op l.length).2 i hi
  have ir := (h.opr i i2).2
  have hii := h.inf i1
  have hr := fun j hj => round_getD l i (op.set i false) (hgs l) out j hj
  have hsame : ∀ j, j < l.length → (op.set i false).getD j false = false → (roundO l i (op.set i false) (hgs l) out).getD j 0 = out.getD j 0 := fun j hj e => by rw [hr j hj, e]; rfl
  have hiout : (roundO l i (op.set i false) (hgs l) out).getD i 0 = out.getD i 0 := hsame i i1 (by rw [set_getD, if_pos rfl])
  have hnh : ∀ j, j < l.length → ((om l j).reg && (om l j).hangs) = false → (roundO l i (op.set i false) (hgs l) out).getD j 0 = out.getD j 0 := fun j hj e => by rw [hr j hj, hgs_getD l j hj, e, Bool.and_false]; rfl
  have hle : ∀ j, j < l.length → (roundO l i (op.set i false) (hgs l) out).getD j 0 ≤ out.getD j 0 := fun j hj => by rw [hr j hj]; split <;> omega
  have hclosed : ∀ k, (op.set i false).getD k false = false → op.getD k false = false ∨ k = i := fun k hk => by
    rw [set_getD] at hk
    by_cases c : k = i
    · exact .inr c
    · rw [if_neg c] at hk; exact .inl hk
  have hci : ∀ k, k < l.length → (om l k).reg = true → (op.set i false).getD k false = false → out.getD k 0 ≤ out.getD i 0 := fun k hk hkr hkc => by
    rcases hclosed k hkc with e | e
    · exact h.ord k i hk hkr e i2
    · subst e; exact Int.le_refl _
  refine ⟨by simp [roundO], fun j hj => ?_, fun j hj e => ?_, fun j hj e1 e2 => ?_, fun j hj e1 e2 => ⟨?_, fun k hk hkr hkc hkj => ?_⟩, fun j hj e1 e2 => ?_, fun k j hk hkr hkc hjo => ?_⟩
  · rw [set_getD] at hj
    split at hj
    · cases hj
    · exact h.opr j hj
  · rw [hnh j hj (by rw [e]; rfl)]; exact h.no j hj e
  · rw [hnh j hj (by rw [e1, e2]; rfl)]; exact h.own j hj e1 e2
  · exact Int.le_trans (hle j hj) (h.le j hj e1 e2).1
  · rw [hsame k hk hkc]
    cases hjo : (op.set i false).getD j false with
    | true =>
      have e3 := hr j hj
      rw [hjo, hgs_getD l j hj, e1, e2] at e3
      simp only [Bool.and_self, if_true] at e3
      rcases hclosed k hkc with e | e
      · have := (h.le j hj e1 e2).2 k hk hkr e hkj
        omega
      · subst e; omega
    | false =>
      rw [hsame j hj hjo]
      rcases hclosed k hkc with e | e
      · exact (h.le j hj e1 e2).2 k hk hkr e hkj
      · subst e
        have h1 := hci j hj e1 hjo
        have h2 := later_ge (om l j) (a := out.getD k 0) hii
        have h3 := later_mono (om l j) (a := out.getD k 0) (b := max (tadd (om l j).time 0) (out.getD k 0)) (by omega)
        omega
  · cases hjo : (op.set i false).getD j false with
    | true =>
      have e3 := hr j hj
      rw [hjo, hgs_getD l j hj, e1, e2] at e3
      simp only [Bool.and_self, if_true] at e3
      have hji : i ≠ j := fun e => by rw [set_getD, if_pos e.symm] at hjo; cases hjo
      by_cases c : out.getD j 0 ≤ (om l j).later (max (tadd (om l j).time 0) (out.getD i 0))
      · rw [e3, Int.min_eq_left c]
        rcases h.at_ j hj e1 e2 with e | ⟨k, k1, k2, k3, k4, k5⟩
        · exact .inl e
        · have hkc : (op.set i false).getD k false = false := by rw [set_getD]; split <;> first | rfl | exact k3
          exact .inr ⟨k, k1, k2, hkc, k4, by rw [hsame k k1 hkc]; exact k5⟩
      · exact .inr ⟨i, i1, ir, by rw [set_getD, if_pos rfl], hji, by rw [hiout, e3]; omega⟩
    | false =>
      rw [hsame j hj hjo]
      rcases h.at_ j hj e1 e2 with e | ⟨k, k1, k2, k3, k4, k5⟩
      · exact .inl e
      · have hkc : (op.set i false).getD k false = false := by rw [set_getD]; split <;> first | rfl | exact k3
        exact .inr ⟨k, k1, k2, hkc, k4, by rw [hsame k k1 hkc]; exact k5⟩
  · have hjo' : op.getD j false = true := by
      rw [set_getD] at hjo
      split at hjo
      · cases hjo
      · exact hjo
    have hjl := (h.opr j hjo').1
    rw [hsame k hk hkc]
    have h1 := hci k hk hkr hkc
    have h2 := i3 j hjl hjo'
    rw [hr j hjl]
    have h3 := later_ge (om l j) (a := out.getD i 0) hii
    have h4 := later_mono (om l j) (a := out.getD i 0) (b := max (tadd (om l j).time 0) (out.getD i 0)) (by omega)
    split <;> omega
theorem count_set (op : List Bool) (i : Nat) (h : op.getD i false = true) : (op.set i false).count true + 1 = op.count true := by
  induction op generalizing i with
  | nil => simp at h
  | cons a op ih =>
    cases i with
    | zero =>
      simp at h
      subst h
      simp
    | succ i =>
      have := ih i (by simpa using h)
      cases a <;> simp_all <;> omega
theorem outsGo_spec (l : List LM) : ∀ (n : Nat) (out : List Int) (op : List Bool), OutInv l out op → op.count true < n → IsOut l (fun j => (outsGo l (hgs l) n out op).getD j 0) ∧ (outsGo l (hgs l) n out op).length = l.length := by
  intro n
  induction n with
  | zero => intro out op _ h; omega
  | succ n ih =>
    intro out op h hc
    unfold outsGo
    cases hl : leastO out op l.length with
    | none =>
      have hno := (leastO_spec out op l.length).1 hl
      refine ⟨⟨h.no, h.own, fun j hj e1 e2 => ⟨(h.le j hj e1 e2).1, fun i hi hir hij => (h.le j hj e1 e2).2 i hi hir (hno i hi) hij⟩, fun j hj e1 e2 => ?_⟩, h.len⟩
      rcases h.at_ j hj e1 e2 with e | ⟨k, k1, k2, k3, k4, k5⟩
      · exact .inl e
      · exact .inr ⟨k, k1, k2, k4, k5⟩
    | some i =>
      have h2 := ((leastO_spec out op l.length).2 i hl).2.1
      have := count_set op i h2
      exact ih _ _ (h.step hl) (by omega)
theorem getD_map' {α β : Type} (l : List α) (f : α → β) (j : Nat) (hj : j < l.length) (d : α) (e : β) : (l.map f).getD j e = f (l.getD j d) := by
  simp [List.getD_eq_getElem?_getD, List.getElem?_eq_getElem hj]
theorem outs_spec (l : List LM) : IsOut l (fun j => (outs l).getD j 0) ∧ (outs l).length = l.length := by
  unfold outs
  refine outsGo_spec l (l.length + 1) _ _ ?_ (by have := List.count_le_length (a := true) (l := l.map (·.reg)); simp at this; omega)
  have hop : ∀ j, j < l.length → (l.map (·.reg)).getD j false = (om l j).reg := fun j hj => getD_map' l _ j hj default false
  have hout : ∀ j, j < l.length → (l.map fun m => if m.reg then m.later m.base else 1125899906842624).getD j 0 = if (om l j).reg then (om l j).later (om l j).base else 1125899906842624 := fun j hj => getD_map' l _ j hj default 0
  refine ⟨by simp, fun j hj => ?_, fun j hj e => by rw [hout j hj, e]; rfl, fun j hj e _ => by rw [hout j hj, e]; rfl, fun j hj e _ => ⟨by rw [hout j hj, e]; exact Int.le_refl _, fun i hi hir hio => ?_⟩, fun j hj e _ => .inl (by rw [hout j hj, e]; rfl), fun i j hi hir hio _ => ?_⟩
  · have hjl : j < l.length := by
      rcases Nat.lt_or_ge j l.length with c | c
      · exact c
      · rw [List.getD_eq_getElem?_getD, List.getElem?_eq_none (by simpa using c)] at hj; cases hj
    exact ⟨hjl, by rw [← hop j hjl]; exact hj⟩
  · rw [hop i hi, hir] at hio; cases hio
  · rw [hop i hi, hir] at hio; cases hio
theorem lbtsGo_le (l : List LM) (out : List Int) (i : Int) : ∀ n : Nat, (∀ j : Nat, j < n → (j : Int) ≠ i → (om l j).reg = true → lbtsGo l out i n ≤ out.getD j 0) ∧ lbtsGo l out i n ≤ 1125899906842624 ∧ ∀ c, c ≤ 1125899906842624 → (∀ j : Nat, j < n → (j : Int) ≠ i → (om l j).reg = true → c ≤ out.getD j 0) → c ≤ lbtsGo l out i n := by
  intro n
  induction n with
  | zero => exact ⟨fun j hj => by omega, Int.le_refl _, fun c hc _ => hc⟩
  | succ n ih =>
    obtain ⟨a, b, d⟩ := ih
    unfold lbtsGo
    refine ⟨fun j hj hji hr => ?_, ?_, fun c hc hall => ?_⟩
    · by_cases e : j = n
      · subst e
        rw [if_pos ⟨hji, hr⟩]
        omega
      · have := a j (by omega) hji hr
        split <;> omega
    · split <;> omega
    · have h1 := d c hc (fun j hj hji hr => hall j (by omega) hji hr)
      split
      · rename_i h
        have := hall n (by omega) h.1 h.2
        omega
      · exact h1
end Go.Proofs.YtehnkebcbomidaaGreatDoor.Rt
end
section
namespace Go.Proofs.YtehnkebcbomidaaGreatDoor.Rt
def O (S : St) (j : Nat) : Int := (outs S.members).getD j 0
theorem members_len (S : St) : S.members.length = S.l.length := by simp [St.members]
theorem om_members (S : St) (j : Nat) (hj : j < S.l.length) : om S.members j = (S.get j).lm := by
  unfold om St.members St.get
  exact getD_map' S.l Mem.lm j hj {} default
theorem O_spec (S : St) : IsOut S.members (O S) := (outs_spec S.members).1
theorem lm_reg (m : Mem) : m.lm.reg = true ↔ m.look > 0 := by simp [Mem.lm]
theorem lbts_att (l : List LM) (out : List Int) (i : Int) : ∀ n : Nat, lbtsGo l out i n = 1125899906842624 ∨ ∃ j : Nat, j < n ∧ (j : Int) ≠ i ∧ (om l j).reg = true ∧ lbtsGo l out i n = out.getD j 0 := by
  intro n
  induction n with
  | zero => exact .inl rfl
  | succ n ih =>
    unfold lbtsGo
    split
    · rename_i h
      by_cases c : lbtsGo l out i n ≤ out.getD n 0
      · rw [Int.min_eq_left c]
        rcases ih with e | ⟨j, j1, j2, j3, j4⟩
        · exact .inl e
        · exact .inr ⟨j, by omega, j2, j3, j4⟩
      · exact .inr ⟨n, by omega, h.1, h.2, by omega⟩
    · rcases ih with e | ⟨j, j1, j2, j3, j4⟩
      · exact .inl e
      · exact .inr ⟨j, by omega, j2, j3, j4⟩
theorem bound_le {S : St} (h8 : S.l.length = 8) (f g : Nat) (hg : g < 8) (hne : g ≠ f) (hr : (S.get g).look > 0) : S.bound f ≤ O S g := by
  have := (lbtsGo_le S.members (outs S.members) f S.members.length).1 g (by rw [members_len]; omega) (by omega) (by rw [om_members S g (by omega)]; exact (lm_reg _).2 hr)
  exact this
theorem bound_att {S : St} (h8 : S.l.length = 8) (f : Nat) : S.bound f = 1125899906842624 ∨ ∃ g, g < 8 ∧ g ≠ f ∧ (S.get g).look > 0 ∧ S.bound f = O S g := by
  rcases lbts_att S.members (outs S.members) f S.members.length with e | ⟨j, j1, j2, j3, j4⟩
  · exact .inl e
  · rw [members_len, h8] at j1
    rw [om_members S j (by omega)] at j3
    exact .inr ⟨j, j1, by omega, (lm_reg _).1 j3, j4⟩
theorem O_le (S : St) (j : Nat) (hj : j < S.l.length) : O S j ≤ 1125899906842624 := (O_spec S).inf (by rw [members_len]; exact hj)
theorem O_own {S : St} {j : Nat} (hj : j < S.l.length) (hr : (S.get j).look > 0) (hh : (S.get j).lm.hangs = false) : O S j = (S.get j).lm.later (S.get j).lm.base := by
  have := (O_spec S).own j (by rw [members_len]; exact hj) (by rw [om_members S j hj]; exact (lm_reg _).2 hr) (by rw [om_members S j hj]; exact hh)
  rwa [om_members S j hj] at this
structure Fl where
  t : Int
  strict : Bool
def st (S : St) (low : Nat → Fl) (f : Nat) : Prop := (low f).strict = true ∧ (low f).t = (S.get f).time
theorem srt_le {Q : List Mg} (h : Srt Q) : (Q.map fun m => m.k.t).Pairwise (· ≤ ·) := by
  rw [List.pairwise_map]
  exact h.imp (fun {a b} hab => by unfold Ky.lt at hab; omega)
end Go.Proofs.YtehnkebcbomidaaGreatDoor.Rt
end
section
namespace Go.Proofs.YtehnkebcbomidaaGreatDoor.Rt
theorem hangs_eq (m : Mem) : m.lm.hangs = (decide (m.kind = 2 ∨ m.kind = 3) && m.con) := rfl
theorem base_kind0 (m : Mem) (h : m.kind = 0) : m.lm.base = tadd m.time 0 := by
  unfold LM.base
  show (if m.kind = 1 then _ else if m.kind = 2 ∨ m.kind = 3 then _ else tadd m.time 0) = _
  rw [if_neg (by omega), if_neg (by omega)]
end Go.Proofs.YtehnkebcbomidaaGreatDoor.Rt
end
section
namespace Go.Proofs.YtehnkebcbomidaaGreatDoor.Rt
theorem give_snoc (reg : Bool) (x : Mg) : ∀ (l : List Nat) (S : St) (g : Nat), S.give reg x (l ++ [g]) = (S.give reg x l).put g (((S.give reg x l).get g).take reg { x with d := (g : Int) }) := by
  intro l
  induction l with
  | nil => intro S g; rfl
  | cons a l ih => intro S g; exact ih _ g
theorem give_step {S : St} (h8 : S.l.length = 8) (reg : Bool) (x : Mg) (l : List Nat) (hnd : l.Nodup) (hlt : ∀ g ∈ l, g < 8) (j : Nat) (hj : j < l.length) :
    S.give reg x (l.take (j + 1)) = (S.give reg x (l.take j)).put l[j] ((S.get l[j]).take reg { x with d := (l[j] : Int) }) ∧ (S.give reg x (l.take j)).get l[j] = S.get l[j] := by
  have h1 : (S.give reg x (l.take j)).get l[j] = S.get l[j] := by
    rw [give_get reg x _ S h8 (hnd.sublist (List.take_sublist _ _)) (fun g hg => hlt g (List.mem_of_mem_take hg)), if_neg]
    intro hm
    obtain ⟨i, hi, e⟩ := List.getElem_of_mem hm
    rw [List.length_take] at hi
    rw [List.getElem_take] at e
    have := List.pairwise_iff_getElem.1 hnd i j (by omega) hj (by omega)
    exact this e
  refine ⟨?_, h1⟩
  rw [List.take_succ_eq_append_getElem hj, give_snoc, h1]
theorem get_el (S : St) (i : Nat) (h : i < S.l.length) : S.l[i] = S.get i := by
  unfold St.get
  rw [List.getD_eq_getElem?_getD, List.getElem?_eq_getElem h]
  rfl
theorem put_put (S : St) (n : Nat) (a b : Mem) : (S.put n a).put n b = S.put n b := by simp [St.put]
theorem put_self (S : St) (h8 : S.l.length = 8) (n : Nat) (hn : n < 8) : S.put n (S.get n) = S := by
  have : S.l.set n (S.get n) = S.l := by
    have hi : n < S.l.length := by omega
    have e : S.get n = S.l[n] := by simp [St.get, List.getD_eq_getElem?_getD, List.getElem?_eq_getElem hi]
    rw [e]
    exact List.set_getElem_self hi
  unfold St.put
  rw [this]
end Go.Proofs.YtehnkebcbomidaaGreatDoor.Rt
end
namespace Go.Proofs.YtehnkebcbomidaaGreatDoor.Rt
open Go Go.RowKit Go.Proofs
def rdV (L : List LM) (i : Nat) (out : List Int) (k : Nat) : Int := min (out.getD k 0) ((L.getD k default).later (max (tadd (L.getD k default).time 0) (out.getD i 0)))
def rdTo (L : List LM) (i : Nat) (op hg : List Bool) (out : List Int) (j : Nat) : List Int := (List.range L.length).map fun k => if decide (k < j) && (op.getD k false && hg.getD k false) then rdV L i out k else out.getD k 0
theorem rdTo_length (L : List LM) (i : Nat) (op hg : List Bool) (out : List Int) (j : Nat) : (rdTo L i op hg out j).length = L.length := by simp [rdTo]
theorem rdTo_get (L : List LM) (i : Nat) (op hg : List Bool) (out : List Int) (j k : Nat) (hk : k < L.length) : (rdTo L i op hg out j)[k]? = some (if decide (k < j) && (op.getD k false && hg.getD k false) then rdV L i out k else out.getD k 0) := by
  unfold rdTo
  rw [List.getElem?_map, List.getElem?_range hk]
  rfl
theorem rdTo_zero (L : List LM) (i : Nat) (op hg : List Bool) (out : List Int) (h : out.length = L.length) : rdTo L i op hg out 0 = out := by
  refine List.ext_getElem? fun k => ?_
  by_cases hk : k < L.length
  · rw [rdTo_get L i op hg out 0 k hk]
    have hk2 : k < out.length := by omega
    simp [List.getD_eq_getElem?_getD, List.getElem?_eq_getElem hk2]
  · rw [List.getElem?_eq_none (by rw [rdTo_length]; omega), List.getElem?_eq_none (by omega)]
theorem rdTo_all (L : List LM) (i : Nat) (op hg : List Bool) (out : List Int) : rdTo L i op hg out L.length = roundO L i op hg out := by
  unfold rdTo roundO
  refine List.map_congr_left fun k hk => ?_
  have hk : k < L.length := by simpa using hk
  rw [decide_eq_true hk, Bool.true_and]
  rfl
theorem rdTo_no (L : List LM) (i : Nat) (op hg : List Bool) (out : List Int) (j : Nat) (h : (op.getD j false && hg.getD j false) = false) : rdTo L i op hg out (j + 1) = rdTo L i op hg out j := by
  unfold rdTo
  refine List.map_congr_left fun k hk => ?_
  by_cases e : k = j
  · subst e
    rw [h]
    simp
  · have : decide (k < j + 1) = decide (k < j) := decide_eq_decide.2 (by omega)
    rw [this]
theorem rdTo_yes (L : List LM) (i : Nat) (op hg : List Bool) (out : List Int) (j : Nat) (hj : j < L.length) (h : (op.getD j false && hg.getD j false) = true) : rdTo L i op hg out (j + 1) = (rdTo L i op hg out j).set j (rdV L i out j) := by
  refine List.ext_getElem? fun k => ?_
  rw [List.getElem?_set]
  by_cases hk : k < L.length
  · rw [rdTo_get L i op hg out (j + 1) k hk, rdTo_get L i op hg out j k hk, rdTo_length]
    by_cases e : j = k
    · subst e
      rw [if_pos rfl, if_pos hj, h, decide_eq_true (Nat.lt_succ_self _)]
      rfl
    · have : decide (k < j + 1) = decide (k < j) := decide_eq_decide.2 (by omega)
      rw [if_neg e, this]
  · rw [List.getElem?_eq_none (by rw [rdTo_length]; omega), if_neg (by omega), List.getElem?_eq_none (by rw [rdTo_length]; omega)]
theorem rdTo_at (L : List LM) (i : Nat) (op hg : List Bool) (out : List Int) (j k : Nat) (hk : k < L.length) (h : j ≤ k ∨ op.getD k false = false) : (rdTo L i op hg out j).getD k 0 = out.getD k 0 := by
  rw [List.getD_eq_getElem?_getD, rdTo_get L i op hg out j k hk]
  rcases h with h | h
  · rw [decide_eq_false (by omega : ¬ k < j)]; rfl
  · rw [h]; simp
theorem leastO_open (out : List Int) (op : List Bool) (n b : Nat) (h : leastO out op n = some b) : op.getD b false = true := by
  induction n generalizing b with
  | zero => cases h
  | succ n ih =>
    unfold leastO at h
    split at h
    · split at h
      · rename_i e; cases h; exact e
      · cases h
    · rename_i b' hb'
      split at h
      · rename_i e; cases h; simp only [Bool.and_eq_true] at e; exact e.1
      · cases h; exact ih _ hb'
theorem countP_set (op : List Bool) (i : Nat) (h : op.getD i false = true) : (op.set i false).countP id + 1 = op.countP id := by
  induction op generalizing i with
  | nil => simp at h
  | cons a l ih =>
    cases i with
    | zero =>
      have : a = true := by simpa using h
      subst this
      simp
    | succ i =>
      have h' : l.getD i false = true := by simpa using h
      have := ih i h'
      rw [List.set_cons_succ, List.countP_cons, List.countP_cons]
      omega
theorem oset_getD (op : List Bool) (i : Nat) : (op.set i false).getD i false = false := by
  rw [List.getD_eq_getElem?_getD, List.getElem?_set]
  rw [if_pos rfl]
  split <;> rfl
end Go.Proofs.YtehnkebcbomidaaGreatDoor.Rt
