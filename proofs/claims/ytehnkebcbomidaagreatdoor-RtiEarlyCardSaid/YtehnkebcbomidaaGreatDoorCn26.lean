/- Part of a proof over the given program: Pd, Pe, Pf, Ph, Pi. -/
import Derived.Test.YtehnkebcbomidaaGreatDoorCn25
set_option linter.unusedVariables false
set_option linter.unusedSimpArgs false
section
namespace Go.Proofs.YtehnkebcbomidaaGreatDoor.Rt
structure Cl where
 kind : Int
 f : Int
 a : Int
 b : Int
 t : Int
 is : Bool
deriving DecidableEq
structure Rs where
 e : Int
 n : Int
 g : Gv
 S : St
def gv0 : Gv := ⟨[], [], false, 0⟩
def St.does (S : St) (o : Cl) : Rs :=
 if o.kind = 0 then ⟨(S.join o.f).1, 0, gv0, (S.join o.f).2⟩
 else if o.kind = 1 then ⟨(S.resign o.f).1, 0, gv0, (S.resign o.f).2⟩
 else if o.kind = 2 then ⟨(S.publish o.f o.a o.is).1, 0, gv0, (S.publish o.f o.a o.is).2⟩
 else if o.kind = 3 then ⟨(S.subscribe o.f o.a o.is).1, 0, gv0, (S.subscribe o.f o.a o.is).2⟩
 else if o.kind = 4 then ⟨(S.regulate o.f o.a).1, 0, gv0, (S.regulate o.f o.a).2⟩
 else if o.kind = 5 then ⟨(S.unregulate o.f).1, 0, gv0, (S.unregulate o.f).2⟩
 else if o.kind = 6 then ⟨(S.constrain o.f).1, 0, gv0, (S.constrain o.f).2⟩
 else if o.kind = 7 then ⟨(S.unconstrain o.f).1, 0, gv0, (S.unconstrain o.f).2⟩
 else if o.kind = 8 then ⟨(S.send o.f o.a o.b o.t o.is).2.1, (S.send o.f o.a o.b o.t o.is).1, gv0, (S.send o.f o.a o.b o.t o.is).2.2⟩
 else if o.kind = 9 then ⟨(S.retract o.f o.a).1, 0, gv0, (S.retract o.f o.a).2⟩
 else if o.kind = 10 then ⟨(S.ask o.f o.a o.t).1, 0, gv0, (S.ask o.f o.a o.t).2⟩
 else if o.kind = 11 then ⟨(S.look o.f).2.1, 0, (S.look o.f).1, (S.look o.f).2.2⟩
 else if o.kind = 12 then ⟨S.begin.1, 0, gv0, S.begin.2⟩
 else if o.kind = 13 then ⟨if S.saving = true then 0 else 213, 0, gv0, { S with saving := false }⟩
 else ⟨0, 0, gv0, S⟩
inductive Step (S : St) : Cl → Rs → Prop
 | no (o : Cl) (e : Int) : e ≠ 0 → 0 ≤ o.kind → o.kind ≤ 13 → Step S o ⟨e, 0, gv0, S⟩
 | none (o : Cl) (e : Int) : o.kind = 9 → S.byE o.f = 0 → e ≠ 0 → (∀ g, g < 8 → ∀ x ∈ (S.get g).Q, hasMsg o.f o.a x = false) → Step S o ⟨e, 0, gv0, { S with l := S.l.map fun m => { m with Q := m.Q.filter fun x => !hasMsg o.f o.a x } }⟩
 | other (o : Cl) : o.kind < 0 ∨ 13 < o.kind → Step S o ⟨0, 0, gv0, S⟩
 | join (f : Nat) (a b t : Int) (is : Bool) : f < 8 → S.saving = false → (S.get f).is = false → Step S ⟨0, f, a, b, t, is⟩ ⟨0, 0, gv0, S.put f { S.get f with is := true }⟩
 | resign (f : Nat) (a b t : Int) (is : Bool) : f < 8 → S.saving = false → (S.get f).is = true → Step S ⟨1, f, a, b, t, is⟩ ⟨0, 0, gv0, { S.put f { sent := (S.get f).sent } with pubs := S.pubs.set f 0 }⟩
 | publish (f : Nat) (a b t : Int) (is : Bool) : f < 8 → S.saving = false → (S.get f).is = true → ¬ S.noClass a → Step S ⟨2, f, a, b, t, is⟩ ⟨0, 0, gv0, { S with pubs := S.pubs.set f (bitSet (S.pubs.getD f 0) a.toNat is) }⟩
 | subscribe (f : Nat) (a b t : Int) (is : Bool) : f < 8 → S.saving = false → (S.get f).is = true → ¬ S.noClass a → Step S ⟨3, f, a, b, t, is⟩ ⟨0, 0, gv0, S.put f { S.get f with subs := bitSet (S.get f).subs a.toNat is }⟩
 | regulate (f : Nat) (a b t : Int) (is : Bool) : f < 8 → S.saving = false → (S.get f).is = true → (S.get f).look = 0 → (S.get f).kind = 0 → 1 ≤ a → a ≤ 1048576 → S.late f a = false → Step S ⟨4, f, a, b, t, is⟩ ⟨0, 0, gv0, S.put f { S.get f with look := a }⟩
 | unregulate (f : Nat) (a b t : Int) (is : Bool) : f < 8 → S.saving = false → (S.get f).is = true → (S.get f).look > 0 → (S.get f).kind = 0 → Step S ⟨5, f, a, b, t, is⟩ ⟨0, 0, gv0, S.put f { S.get f with look := 0 }⟩
 | constrain (f : Nat) (a b t : Int) (is : Bool) : f < 8 → S.saving = false → (S.get f).is = true → (S.get f).con = false → (S.get f).kind = 0 → S.bound f > (S.get f).time → Step S ⟨6, f, a, b, t, is⟩ ⟨0, 0, gv0, S.put f { S.get f with con := true }⟩
 | unconstrain (f : Nat) (a b t : Int) (is : Bool) : f < 8 → S.saving = false → (S.get f).is = true → (S.get f).con = true → (S.get f).kind = 0 → Step S ⟨7, f, a, b, t, is⟩ ⟨0, 0, gv0, S.put f { S.get f with P := (S.get f).P ++ (S.get f).Q, Q := [], con := false }⟩
 | send (f : Nat) (a b t : Int) (is : Bool) : f < 8 → S.saving = false → (S.get f).is = true → S.sendE f a b t is = 0 → Step S ⟨8, f, a, b, t, is⟩
   ⟨0, if is then (S.get f).sent else 0, gv0, if is then (S.give (S.reg f is) (S.msg f a b t is) (S.route f a)).put f { S.get f with sent := (S.get f).sent + 1 } else S.give (S.reg f is) (S.msg f a b t is) (S.route f a)⟩
 | retract (f : Nat) (a b t : Int) (is : Bool) : f < 8 → S.saving = false → (S.get f).is = true → (∃ g, g < 8 ∧ ∃ x ∈ (S.get g).Q, hasMsg f a x = true) → Step S ⟨9, f, a, b, t, is⟩ ⟨0, 0, gv0, { S with l := S.l.map fun m => { m with Q := m.Q.filter fun x => !hasMsg f a x } }⟩
 | ask (f : Nat) (a b t : Int) (is : Bool) : f < 8 → S.saving = false → (S.get f).is = true → 1 ≤ a → a ≤ 3 → (S.get f).kind = 0 → 0 ≤ t → t ≤ 1099511627776 → (S.get f).time ≤ t → Step S ⟨10, f, a, b, t, is⟩ ⟨0, 0, gv0, S.put f { S.get f with kind := a, ask := t }⟩
 | waits (f : Nat) (a b t : Int) (is : Bool) : f < 8 → S.saving = false → (S.get f).is = true → (S.grant f).1 = false → Step S ⟨11, f, a, b, t, is⟩ ⟨0, 0, ⟨(S.get f).P, [], false, (S.get f).time⟩, S.put f { S.get f with P := [] }⟩
 | looks (f : Nat) (a b t : Int) (is : Bool) : f < 8 → S.saving = false → (S.get f).is = true → (S.grant f).1 = true → (S.get f).kind > 0 → Step S ⟨11, f, a, b, t, is⟩
   ⟨0, 0, ⟨(S.get f).P, (S.get f).Q.take (S.grant f).2.2, true, (S.grant f).2.1⟩, S.put f { S.get f with P := [], Q := (S.get f).Q.drop (S.grant f).2.2, time := (S.grant f).2.1, kind := 0, ask := 0 }⟩
 | begin (o : Cl) : o.kind = 12 → S.saving = false → (∀ g, g < 8 → ¬ (S.get g).kind > 0) → Step S o ⟨0, 0, gv0, { S with saving := true }⟩
 | ends (o : Cl) : o.kind = 13 → S.saving = true → Step S o ⟨0, 0, gv0, { S with saving := false }⟩
theorem any_get (S : St) (h8 : S.l.length = 8) (p : Mem → Bool) : S.l.any p = true ↔ ∃ g, g < 8 ∧ p (S.get g) = true := by
 rw [List.any_eq_true]
 constructor
 ·rintro ⟨x, hx, hp⟩
  obtain ⟨i, hi, rfl⟩ := List.getElem_of_mem hx
  refine ⟨i, by omega, ?_⟩
  unfold St.get
  rw [List.getD_eq_getElem?_getD, List.getElem?_eq_getElem hi]
  exact hp
 ·rintro ⟨g, hg, hp⟩
  refine ⟨S.l[g]'(by omega), List.getElem_mem _, ?_⟩
  unfold St.get at hp
  rw [List.getD_eq_getElem?_getD, List.getElem?_eq_getElem (by omega)] at hp
  exact hp
theorem does_step {N : Int} {S : St} (h : S.Ok N) (o : Cl) : Step S o (S.does o) := by
 obtain ⟨k, f, a, b, t, is⟩ := o
 have hf : ∀ {f : Int}, S.byE f = 0 → f = (f.toNat : Int) := fun h => by have := byE_zero h; omega
 by_cases k0 : k = 0
 ·subst k0
  show Step S ⟨0, f, a, b, t, is⟩ ⟨(S.join f).1, 0, gv0, (S.join f).2⟩
  unfold St.join
  split
  ·exact .no _ _ (by simp) (by simp) (by simp)
  ·rename_i h1
   split
   ·exact .no _ _ (by simp) (by simp) (by simp)
   ·rename_i h2
    split
    ·exact .no _ _ (by simp) (by simp) (by simp)
    ·rename_i h3
     have e : f = (f.toNat : Int) := by omega
     have := Step.join (S := S) f.toNat a b t is (by omega) (by simpa using h2) (by simpa using h3)
     rw [← e] at this
     exact this
 by_cases k1 : k = 1
 ·subst k1
  show Step S ⟨1, f, a, b, t, is⟩ ⟨(S.resign f).1, 0, gv0, (S.resign f).2⟩
  unfold St.resign
  split
  ·rename_i he; exact .no _ _ he (by simp) (by simp)
  ·rename_i he
   have he := Classical.not_not.1 he
   obtain ⟨h2, h3, h4, h5, h6⟩ := byE_zero he
   have := Step.resign (S := S) f.toNat a b t is h4 h6 h5
   rw [← hf he] at this
   exact this
 by_cases k2 : k = 2
 ·subst k2
  show Step S ⟨2, f, a, b, t, is⟩ ⟨(S.publish f a is).1, 0, gv0, (S.publish f a is).2⟩
  unfold St.publish
  split
  ·rename_i he; exact .no _ _ he (by simp) (by simp)
  ·rename_i he
   have he := Classical.not_not.1 he
   obtain ⟨h2, h3, h4, h5, h6⟩ := byE_zero he
   split
   ·exact .no _ _ (by simp) (by simp) (by simp)
   ·rename_i h7
    have := Step.publish (S := S) f.toNat a b t is h4 h6 h5 h7
    rw [← hf he] at this
    exact this
 by_cases k3 : k = 3
 ·subst k3
  show Step S ⟨3, f, a, b, t, is⟩ ⟨(S.subscribe f a is).1, 0, gv0, (S.subscribe f a is).2⟩
  unfold St.subscribe
  split
  ·rename_i he; exact .no _ _ he (by simp) (by simp)
  ·rename_i he
   have he := Classical.not_not.1 he
   obtain ⟨h2, h3, h4, h5, h6⟩ := byE_zero he
   split
   ·exact .no _ _ (by simp) (by simp) (by simp)
   ·rename_i h7
    have := Step.subscribe (S := S) f.toNat a b t is h4 h6 h5 h7
    rw [← hf he] at this
    exact this
 by_cases k4 : k = 4
 ·subst k4
  show Step S ⟨4, f, a, b, t, is⟩ ⟨(S.regulate f a).1, 0, gv0, (S.regulate f a).2⟩
  unfold St.regulate
  split
  ·rename_i he; exact .no _ _ he (by simp) (by simp)
  ·rename_i he
   have he := Classical.not_not.1 he
   obtain ⟨h2, h3, h4, h5, h6⟩ := byE_zero he
   split
   ·exact .no _ _ (by simp) (by simp) (by simp)
   ·rename_i h7
    split
    ·exact .no _ _ (by simp) (by simp) (by simp)
    ·rename_i h8
     split
     ·exact .no _ _ (by simp) (by simp) (by simp)
     ·rename_i h9
      split
      ·exact .no _ _ (by simp) (by simp) (by simp)
      ·rename_i h10
       rw [hf he] at h10
       have := Step.regulate (S := S) f.toNat a b t is h4 h6 h5 (Classical.not_not.1 h7) (Classical.not_not.1 h8) (by omega) (by omega) (by simpa using h10)
       rw [← hf he] at this
       exact this
 by_cases k5 : k = 5
 ·subst k5
  show Step S ⟨5, f, a, b, t, is⟩ ⟨(S.unregulate f).1, 0, gv0, (S.unregulate f).2⟩
  unfold St.unregulate
  split
  ·rename_i he; exact .no _ _ he (by simp) (by simp)
  ·rename_i he
   have he := Classical.not_not.1 he
   obtain ⟨h2, h3, h4, h5, h6⟩ := byE_zero he
   split
   ·exact .no _ _ (by simp) (by simp) (by simp)
   ·rename_i h7
    split
    ·exact .no _ _ (by simp) (by simp) (by simp)
    ·rename_i h8
     have := Step.unregulate (S := S) f.toNat a b t is h4 h6 h5 (Classical.not_not.1 h7) (Classical.not_not.1 h8)
     rw [← hf he] at this
     exact this
 by_cases k6 : k = 6
 ·subst k6
  show Step S ⟨6, f, a, b, t, is⟩ ⟨(S.constrain f).1, 0, gv0, (S.constrain f).2⟩
  unfold St.constrain
  split
  ·rename_i he; exact .no _ _ he (by simp) (by simp)
  ·rename_i he
   have he := Classical.not_not.1 he
   obtain ⟨h2, h3, h4, h5, h6⟩ := byE_zero he
   split
   ·exact .no _ _ (by simp) (by simp) (by simp)
   ·rename_i h7
    split
    ·exact .no _ _ (by simp) (by simp) (by simp)
    ·rename_i h8
     split
     ·exact .no _ _ (by simp) (by simp) (by simp)
     ·rename_i h9
      have h9 := Classical.not_not.1 h9
      rw [hf he] at h9
      have := Step.constrain (S := S) f.toNat a b t is h4 h6 h5 (by simpa using h7) (Classical.not_not.1 h8) h9
      rw [← hf he] at this
      exact this
 by_cases k7 : k = 7
 ·subst k7
  show Step S ⟨7, f, a, b, t, is⟩ ⟨(S.unconstrain f).1, 0, gv0, (S.unconstrain f).2⟩
  unfold St.unconstrain
  split
  ·rename_i he; exact .no _ _ he (by simp) (by simp)
  ·rename_i he
   have he := Classical.not_not.1 he
   obtain ⟨h2, h3, h4, h5, h6⟩ := byE_zero he
   split
   ·exact .no _ _ (by simp) (by simp) (by simp)
   ·rename_i h7
    split
    ·exact .no _ _ (by simp) (by simp) (by simp)
    ·rename_i h8
     split
     ·exact .no _ _ (by simp) (by simp) (by simp)
     ·rename_i h9
      have := Step.unconstrain (S := S) f.toNat a b t is h4 h6 h5 (by simpa using h7) (Classical.not_not.1 h8)
      rw [← hf he] at this
      exact this
 by_cases k8 : k = 8
 ·subst k8
  show Step S ⟨8, f, a, b, t, is⟩ ⟨(S.send f a b t is).2.1, (S.send f a b t is).1, gv0, (S.send f a b t is).2.2⟩
  unfold St.send
  by_cases he : S.sendE f a b t is ≠ 0
  ·rw [if_pos he]; exact .no _ _ he (by show (0 : Int) ≤ 8; decide) (by show (8 : Int) ≤ 13; decide)
  ·rw [if_neg he]
   have he := Classical.not_not.1 he
   have hb := (sendE_zero he).1
   obtain ⟨h2, h3, h4, h5, h6⟩ := byE_zero hb
   have hfe := hf hb
   have he2 := he
   rw [hfe] at he2
   have hs := Step.send (S := S) f.toNat a b t is h4 h6 h5 he2
   rw [← hfe] at hs
   have hfr : f.toNat ∉ S.route f a := fun k => (route_mem k).2.1 (by omega)
   have hgf : ((S.give (S.reg f is) (S.msg f a b t is) (S.route f a)).get f.toNat) = S.get f.toNat := by
    rw [give_get _ _ _ _ h.l8 (route_nodup S f a) (fun g hg => (route_mem hg).1), if_neg hfr]
   cases is with
   | true => simp only [if_true] at hs ⊢; rw [hgf]; exact hs
   | false => simpa using hs
 by_cases k9 : k = 9
 ·subst k9
  show Step S ⟨9, f, a, b, t, is⟩ ⟨(S.retract f a).1, 0, gv0, (S.retract f a).2⟩
  unfold St.retract
  split
  ·rename_i he; exact .no _ _ he (by simp) (by simp)
  ·rename_i he
   have he := Classical.not_not.1 he
   obtain ⟨h2, h3, h4, h5, h6⟩ := byE_zero he
   by_cases h7 : ((List.range 8).any fun g => (S.get g).Q.any (hasMsg f a)) = true
   ·rw [if_pos h7]
    obtain ⟨g, hg, hx⟩ := List.any_eq_true.1 h7
    obtain ⟨x, hx, hm⟩ := List.any_eq_true.1 hx
    have hm2 := hm
    rw [hf he] at hm2
    have := Step.retract (S := S) f.toNat a b t is h4 h6 h5 ⟨g, by simpa using hg, x, hx, hm2⟩
    rw [← hf he] at this
    exact this
   ·rw [if_neg h7]
    refine .none _ _ rfl he (by simp) (fun g hg x hx => ?_)
    cases e : hasMsg f a x with
    | false => rfl
    | true => exact absurd (List.any_eq_true.2 ⟨g, by simpa using hg, List.any_eq_true.2 ⟨x, hx, e⟩⟩) h7
 by_cases k10 : k = 10
 ·subst k10
  show Step S ⟨10, f, a, b, t, is⟩ ⟨(S.ask f a t).1, 0, gv0, (S.ask f a t).2⟩
  unfold St.ask
  split
  ·rename_i he; exact .no _ _ he (by simp) (by simp)
  ·rename_i he
   have he := Classical.not_not.1 he
   obtain ⟨h2, h3, h4, h5, h6⟩ := byE_zero he
   split
   ·exact .no _ _ (by simp) (by simp) (by simp)
   ·rename_i h7
    split
    ·exact .no _ _ (by simp) (by simp) (by simp)
    ·rename_i h8
     split
     ·exact .no _ _ (by simp) (by simp) (by simp)
     ·rename_i h9
      split
      ·exact .no _ _ (by simp) (by simp) (by simp)
      ·rename_i h10
       have := Step.ask (S := S) f.toNat a b t is h4 h6 h5 (by omega) (by omega) (Classical.not_not.1 h8) (by omega) (by omega) (by omega)
       rw [← hf he] at this
       exact this
 by_cases k11 : k = 11
 ·subst k11
  show Step S ⟨11, f, a, b, t, is⟩ ⟨(S.look f).2.1, 0, (S.look f).1, (S.look f).2.2⟩
  unfold St.look
  split
  ·rename_i he; exact .no _ _ he (by simp) (by simp)
  ·rename_i he
   have he := Classical.not_not.1 he
   obtain ⟨h2, h3, h4, h5, h6⟩ := byE_zero he
   simp only
   split
   ·rename_i h7
    have := Step.waits (S := S) f.toNat a b t is h4 h6 h5 h7
    rw [← hf he] at this
    exact this
   ·rename_i h7
    have h7 : (S.grant f.toNat).1 = true := by simpa using h7
    have hk : (S.get f.toNat).kind > 0 := by
     have hg := h7
     unfold St.grant dec at hg
     by_cases c : (S.get f.toNat).kind = 0
     ·simp [c] at hg
     ·have := (h.m f.toNat).k0; omega
    have := Step.looks (S := S) f.toNat a b t is h4 h6 h5 h7 hk
    rw [← hf he] at this
    exact this
 by_cases k12 : k = 12
 ·subst k12
  show Step S ⟨12, f, a, b, t, is⟩ ⟨S.begin.1, 0, gv0, S.begin.2⟩
  unfold St.begin
  split
  ·exact .no _ _ (by simp) (by simp) (by simp)
  ·rename_i h1
   split
   ·exact .no _ _ (by simp) (by simp) (by simp)
   ·rename_i h2
    refine .begin _ rfl (by simpa using h1) (fun g hg hk => h2 ?_)
    rw [any_get S h.l8]
    exact ⟨g, hg, by simpa using hk⟩
 by_cases k13 : k = 13
 ·subst k13
  show Step S ⟨13, f, a, b, t, is⟩ ⟨if S.saving = true then 0 else 213, 0, gv0, { S with saving := false }⟩
  cases hs : S.saving with
  | true => exact .ends _ rfl hs
  | false =>
   have : ({ S with saving := false } : St) = S := by rw [← hs]
   rw [this]
   exact .no _ _ (by simp) (by simp) (by simp)
 ·have hk : k < 0 ∨ 13 < k := by omega
  have : S.does ⟨k, f, a, b, t, is⟩ = ⟨0, 0, gv0, S⟩ := by unfold St.does; simp only [if_neg k0, if_neg k1, if_neg k2, if_neg k3, if_neg k4, if_neg k5, if_neg k6, if_neg k7, if_neg k8, if_neg k9, if_neg k10, if_neg k11, if_neg k12, if_neg k13]
  rw [this]
  exact .other _ hk
theorem Ok.does {N : Int} {S : St} (h : S.Ok N) (hN : N + 1 < 9223372036854775808) (o : Cl) : (S.does o).S.Ok (N + 1) := by
 have up : ∀ {S : St}, S.Ok N → S.Ok (N + 1) := fun h => ⟨hN, h.l8, h.p8, h.al, h.a0, h.a1, h.ab, h.pb, (fun g => by have := h.m g; exact ⟨this.t0, this.t1, this.l0, this.l1, this.k0, this.k1, this.a0, this.a1, this.s0, by have := this.s1; omega, this.srt, this.q, this.p, this.ql, this.pl, this.su, this.kask, this.kno, this.qno, this.out⟩), h.q1, h.p1, h.pno⟩
 have sv : ∀ v, ({ S with saving := v } : St).Ok N := fun v => ⟨h.n1, h.l8, h.p8, h.al, h.a0, h.a1, h.ab, h.pb, h.m, h.q1, h.p1, h.pno⟩
 unfold St.does
 have ite : ∀ (c : Prop) [Decidable c] (a b : Rs), a.S.Ok (N + 1) → b.S.Ok (N + 1) → (if c then a else b).S.Ok (N + 1) := fun c _ a b ha hb => by
  by_cases h : c
  ·rw [if_pos h]; exact ha
  ·rw [if_neg h]; exact hb
 exact ite _ _ _ (up (Ok.join h _)) (ite _ _ _ (up (Ok.resign h _)) (ite _ _ _ (up (Ok.publish h _ _ _)) (ite _ _ _ (up (Ok.subscribe h _ _ _)) (ite _ _ _ (up (Ok.regulate h _ _)) (ite _ _ _ (up (Ok.unregulate h _)) (ite _ _ _ (up (Ok.constrain h _)) (ite _ _ _ (up (Ok.unconstrain h _)) (ite _ _ _ (Ok.send h hN _ _ _ _ _) (ite _ _ _ (up (Ok.retract h _ _)) (ite _ _ _ (up (Ok.ask h _ _ _)) (ite _ _ _ (up (Ok.look h _)) (ite _ _ _ (up (Ok.begin h)) (ite _ _ _ (up (sv _)) (up h))))))))))))))
end Go.Proofs.YtehnkebcbomidaaGreatDoor.Rt
end
section
namespace Go.Proofs.YtehnkebcbomidaaGreatDoor.Rt
theorem get_saving (S : St) (v : Bool) (g : Nat) : ({ S with saving := v } : St).get g = S.get g := rfl
theorem get_pubs (S : St) (v : List Nat) (g : Nat) : ({ S with pubs := v } : St).get g = S.get g := rfl
theorem get_filter (S : St) (p : Mg → Bool) (g : Nat) : ({ S with l := S.l.map fun m => { m with Q := m.Q.filter p } } : St).get g = { S.get g with Q := (S.get g).Q.filter p } := get_map S (fun m => { m with Q := m.Q.filter p }) rfl g
theorem send_get {N : Int} {S : St} (h : S.Ok N) (f : Nat) (a b t : Int) (is : Bool) (hf : f < 8) (g : Nat) :
  ((if is then (S.give (S.reg f is) (S.msg f a b t is) (S.route f a)).put f { S.get f with sent := (S.get f).sent + 1 } else S.give (S.reg f is) (S.msg f a b t is) (S.route f a)).get g) =
   if g ∈ S.route f a then (S.get g).take (S.reg f is) { S.msg f a b t is with d := (g : Int) } else if g = f ∧ is = true then { S.get f with sent := (S.get f).sent + 1 } else S.get g := by
 have hgg := give_get (S.reg f is) (S.msg f a b t is) _ S h.l8 (route_nodup S f a) (fun g hg => (route_mem hg).1)
 have hfr : f ∉ S.route f a := fun k => (route_mem k).2.1 rfl
 cases is with
 | false => simp [hgg]
 | true =>
  simp only [if_true, and_true]
  rw [St.get_put _ (by rw [give_l]; exact h.l8) _ _ hf, hgg]
  by_cases e : g = f
  ·subst e; simp [hfr]
  ·simp [e]
theorem take_same (m : Mem) (reg : Bool) (x : Mg) : (m.take reg x).is = m.is ∧ (m.take reg x).con = m.con ∧ (m.take reg x).time = m.time ∧ (m.take reg x).look = m.look ∧ (m.take reg x).kind = m.kind ∧ (m.take reg x).ask = m.ask ∧ (m.take reg x).sent = m.sent ∧ (m.take reg x).subs = m.subs := by
 unfold Mem.take; split <;> exact ⟨rfl, rfl, rfl, rfl, rfl, rfl, rfl, rfl⟩
theorem Step.in8 {S : St} {o : Cl} {r : Rs} (h : Step S o r) (he : r.e = 0) (h0 : 0 ≤ o.kind) (h1 : o.kind ≤ 11) : 0 ≤ o.f ∧ o.f < 8 := by
 cases h <;> simp only at * <;> omega
theorem Step.sent {N : Int} {S : St} (hok : S.Ok N) {o : Cl} {r : Rs} (h : Step S o r) (g : Nat) : (r.S.get g).sent = (S.get g).sent + if o.kind = 8 ∧ r.e = 0 ∧ o.is = true ∧ o.f = g then 1 else 0 := by
 have hp := fun (f : Nat) (hf : f < 8) (m : Mem) => St.get_put S hok.l8 f g hf m
 have hq : ∀ f : Nat, ((f : Int) = (g : Int)) = (g = f) := fun f => propext (by omega)
 cases h with
 | no o e h1 => simp [h1]
 | none o e h1 h2 h3 h4 => simp [h3, get_filter]
 | other o h1 =>
  have n8 : ¬ o.kind = 8 := by omega
  simp [n8]
 | begin o h1 h2 h3 => simp [h1, get_saving]
 | ends o h1 h2 => simp [h1, get_saving]
 | retract f a b t is hf h1 h2 h3 => simp [get_filter]
 | send f a b t is hf h1 h2 h3 =>
  have e := send_get hok f a b t is hf g
  obtain ⟨t1, t2, t3, t4, t5, t6, t7, t8⟩ := take_same (S.get g) (S.reg f is) { S.msg f a b t is with d := (g : Int) }
  have hfr : f ∉ S.route f a := fun k => (route_mem k).2.1 rfl
  simp only [e, hq]
  split
  ·rename_i c
   have : ¬ g = f := fun e => hfr (e ▸ c)
   simp [t7, this]
  ·split
   ·rename_i c; obtain ⟨c1, c2⟩ := c; subst c1; simp [c2]
   ·rename_i c
    by_cases d : g = f
    ·subst d
     simp at c
     simp [c]
    ·simp [d]
 | publish f a b t is hf h1 h2 h3 => simp [get_pubs]
 | resign f a b t is hf h1 h2 =>
  have e : ({ S.put f { sent := (S.get f).sent } with pubs := S.pubs.set f 0 } : St).get g = if g = f then { sent := (S.get f).sent } else S.get g := hp f hf _
  simp only [e, hq]
  by_cases c : g = f <;> simp [c]
 | _ f a b t is hf =>
  simp only [hp f hf, hq]
  by_cases c : g = f
  ·subst c; simp
  ·simp [c]
theorem Step.number {S : St} {o : Cl} {r : Rs} (h : Step S o r) (hk : o.kind = 8) : (r.e = 0 → o.is = true → r.n = (S.get o.f.toNat).sent) ∧ (r.e ≠ 0 ∨ o.is = false → r.n = 0) := by
 cases h <;> simp_all <;> omega
end Go.Proofs.YtehnkebcbomidaaGreatDoor.Rt
end
section
namespace Go.Proofs.YtehnkebcbomidaaGreatDoor.Rt
structure Fl where
 t : Int
 strict : Bool
def st (S : St) (low : Nat → Fl) (f : Nat) : Prop := (low f).strict = true ∧ (low f).t = (S.get f).time
theorem srt_le {Q : List Mg} (h : Srt Q) : (Q.map fun m => m.k.t).Pairwise (· ≤ ·) := by
 rw [List.pairwise_map]
 exact h.imp (fun {a b} hab => by unfold Ky.lt at hab; omega)
end Go.Proofs.YtehnkebcbomidaaGreatDoor.Rt
end
section
namespace Go.Proofs.YtehnkebcbomidaaGreatDoor.Rt
theorem take_drop_srt {Q : List Mg} (h : Srt Q) (n : Nat) {x y : Mg} (hx : x ∈ Q.take n) (hy : y ∈ Q.drop n) : x.k.lt y.k := by
 unfold Srt at h
 rw [← List.take_append_drop n Q, List.pairwise_append] at h
 exact h.2.2 x hx y hy
end Go.Proofs.YtehnkebcbomidaaGreatDoor.Rt
end
section
namespace Go.Proofs.YtehnkebcbomidaaGreatDoor.Rt
theorem give_snoc (reg : Bool) (x : Mg) : ∀ (l : List Nat) (S : St) (g : Nat), S.give reg x (l ++ [g]) = (S.give reg x l).put g (((S.give reg x l).get g).take reg { x with d := (g : Int) }) := by
 intro l
 induction l with
 | nil => intro S g; rfl
 | cons a l ih => intro S g; exact ih _ g
theorem give_pubs (reg : Bool) (x : Mg) : ∀ (l : List Nat) (S : St), (S.give reg x l).pubs = S.pubs ∧ (S.give reg x l).above = S.above ∧ (S.give reg x l).par = S.par ∧ (S.give reg x l).saving = S.saving := by
 intro l
 induction l with
 | nil => intro S; exact ⟨rfl, rfl, rfl, rfl⟩
 | cons a l ih => intro S; exact ih _
theorem give_step {S : St} (h8 : S.l.length = 8) (reg : Bool) (x : Mg) (l : List Nat) (hnd : l.Nodup) (hlt : ∀ g ∈ l, g < 8) (j : Nat) (hj : j < l.length) :
  S.give reg x (l.take (j + 1)) = (S.give reg x (l.take j)).put l[j] ((S.get l[j]).take reg { x with d := (l[j] : Int) }) ∧ (S.give reg x (l.take j)).get l[j] = S.get l[j] := by
 have h1 : (S.give reg x (l.take j)).get l[j] = S.get l[j] := by
  rw [give_get reg x _ S h8 (hnd.sublist (List.take_sublist _ _)) (fun g hg => hlt g (List.mem_of_mem_take hg)), if_neg]
  intro hm
  obtain ⟨i, hi, e⟩ := List.getElem_of_mem hm
  rw [List.length_take] at hi
  rw [List.getElem_take] at e
  have := List.pairwise_iff_getElem.1 hnd i j (by omega) hj (by omega)
  exact this e
 refine ⟨?_, h1⟩
 rw [List.take_succ_eq_append_getElem hj, give_snoc, h1]
def half (p : Mg → Bool) (Q : List Mg) (j : Nat) : List Mg := ((Q.take j).filter fun x => !p x) ++ Q.drop j
theorem half_zero (p : Mg → Bool) (Q : List Mg) : half p Q 0 = Q := by simp [half]
theorem half_all (p : Mg → Bool) (Q : List Mg) : half p Q Q.length = Q.filter fun x => !p x := by simp [half]
theorem half_keep (p : Mg → Bool) (Q : List Mg) (j : Nat) (hj : j < Q.length) (h : p Q[j] = false) : half p Q (j + 1) = half p Q j := by
 unfold half
 rw [List.take_succ_eq_append_getElem hj, List.filter_append, List.drop_eq_getElem_cons hj]
 simp [h]
theorem half_mem (p : Mg → Bool) (Q : List Mg) (j : Nat) (hj : j < Q.length) : Q[j] ∈ half p Q j := by
 unfold half
 rw [List.drop_eq_getElem_cons hj]
 exact List.mem_append_right _ List.mem_cons_self
theorem filter_ne {L : List Mg} {k : Ky} (h : ∀ x ∈ L, x.k ≠ k) : (L.filter fun x => decide (x.k ≠ k)) = L := by
 rw [List.filter_eq_self]
 intro x hx
 simpa using h x hx
theorem half_take {p : Mg → Bool} {Q : List Mg} (hs : Srt Q) (j : Nat) (hj : j < Q.length) (h : p Q[j] = true) : half p Q (j + 1) = (half p Q j).filter fun x => decide (x.k ≠ Q[j].k) := by
 have hlt : ∀ x ∈ Q.take j, x.k ≠ Q[j].k := fun x hx e => by
  have := take_drop_srt hs j hx (y := Q[j]) (by rw [List.drop_eq_getElem_cons hj]; exact List.mem_cons_self)
  rw [e] at this
  exact Ky.lt_irrefl _ this
 have hgt : ∀ x ∈ Q.drop (j + 1), x.k ≠ Q[j].k := fun x hx e => by
  have := take_drop_srt hs (j + 1) (x := Q[j]) (by rw [List.take_succ_eq_append_getElem hj]; exact List.mem_append_right _ List.mem_cons_self) hx
  rw [e] at this
  exact Ky.lt_irrefl _ this
 unfold half
 rw [List.take_succ_eq_append_getElem hj, List.filter_append, List.filter_append, List.drop_eq_getElem_cons hj, List.filter_cons, List.filter_cons, filter_ne hgt, filter_ne (fun x hx => hlt x (List.mem_filter.1 hx).1)]
 rw [if_neg (by simp [h]), if_neg (by simp), List.filter_nil, List.append_nil]
theorem get_el (S : St) (i : Nat) (h : i < S.l.length) : S.l[i] = S.get i := by
 unfold St.get
 rw [List.getD_eq_getElem?_getD, List.getElem?_eq_getElem h]
 rfl
def St.backTo (S : St) (p : Mg → Bool) (k : Nat) : St := { S with l := (List.range 8).map fun g => if g < k then { S.get g with Q := (S.get g).Q.filter fun x => !p x } else S.get g }
theorem map_get (S : St) (h8 : S.l.length = 8) (F : Mem → Mem) : S.l.map F = (List.range 8).map fun g => F (S.get g) := by
 apply List.ext_getElem
 ·simp [h8]
 ·intro i h1 h2
  have hi : i < S.l.length := by simpa using h1
  simp [St.get, List.getD_eq_getElem?_getD, List.getElem?_eq_getElem hi]
theorem backTo_zero (S : St) (h8 : S.l.length = 8) (p : Mg → Bool) : S.backTo p 0 = S := by
 unfold St.backTo
 have : (List.range 8).map (fun g => if g < 0 then { S.get g with Q := (S.get g).Q.filter fun x => !p x } else S.get g) = S.l := by
  rw [← List.map_id S.l, map_get S h8 id]
  refine List.map_congr_left fun g _ => ?_
  rw [if_neg (by omega)]
  rfl
 rw [this]
theorem backTo_all (S : St) (h8 : S.l.length = 8) (p : Mg → Bool) : S.backTo p 8 = { S with l := S.l.map fun m => { m with Q := m.Q.filter fun x => !p x } } := by
 unfold St.backTo
 rw [map_get S h8]
 have : (List.range 8).map (fun g => if g < 8 then { S.get g with Q := (S.get g).Q.filter fun x => !p x } else S.get g) = (List.range 8).map (fun g => { S.get g with Q := (S.get g).Q.filter fun x => !p x }) :=
  List.map_congr_left fun g hg => by rw [if_pos (by simpa using hg)]
 rw [this]
theorem backTo_get (S : St) (p : Mg → Bool) (k g : Nat) (hg : g < 8) : (S.backTo p k).get g = if g < k then { S.get g with Q := (S.get g).Q.filter fun x => !p x } else S.get g := by
 unfold St.backTo
 unfold St.get
 simp only
 rw [List.getD_eq_getElem?_getD, List.getElem?_map, List.getElem?_range hg]
 rfl
theorem backTo_l8 (S : St) (p : Mg → Bool) (k : Nat) : (S.backTo p k).l.length = 8 := by simp [St.backTo]
theorem backTo_put (S : St) (p : Mg → Bool) (k : Nat) (hk : k < 8) : S.backTo p (k + 1) = (S.backTo p k).put k { S.get k with Q := (S.get k).Q.filter fun x => !p x } := by
 have e : (S.backTo p (k + 1)).l = ((S.backTo p k).put k { S.get k with Q := (S.get k).Q.filter fun x => !p x }).l := by
  apply List.ext_getElem
  ·rw [St.put_l, backTo_l8, backTo_l8]
  ·intro i h1 h2
   have hi : i < 8 := by rw [backTo_l8] at h1; exact h1
   rw [get_el _ _ h1, get_el _ _ h2, backTo_get S p _ i hi, St.get_put _ (backTo_l8 S p k) k i hk, backTo_get S p _ i hi]
   by_cases c : i = k
   ·subst c; rw [if_pos (by omega), if_pos rfl]
   ·rw [if_neg c]
    by_cases c2 : i < k
    ·rw [if_pos (by omega), if_pos c2]
    ·rw [if_neg (by omega), if_neg c2]
 unfold St.put St.backTo at e ⊢
 simp only at e ⊢
 rw [e]
theorem put_put (S : St) (n : Nat) (a b : Mem) : (S.put n a).put n b = S.put n b := by simp [St.put]
theorem put_self (S : St) (h8 : S.l.length = 8) (n : Nat) (hn : n < 8) : S.put n (S.get n) = S := by
 have : S.l.set n (S.get n) = S.l := by
  have hi : n < S.l.length := by omega
  have e : S.get n = S.l[n] := by simp [St.get, List.getD_eq_getElem?_getD, List.getElem?_eq_getElem hi]
  rw [e]
  exact List.set_getElem_self hi
 unfold St.put
 rw [this]
end Go.Proofs.YtehnkebcbomidaaGreatDoor.Rt
end
