/- Part of a proof over the given program: Pa, Ti, Pe, Pf, Rx, Pn, Ad, Ne, Ek. -/
import Derived.Test.YtehnkebcbomidaaGreatDoorCn06
import Derived.Test.YtehnkebcbomidaaGreatDoorCn13
import Derived.Test.YtehnkebcbomidaaGreatDoorCn26
import Derived.Test.YtehnkebcbomidaaGreatDoorCn40
import Derived.Test.YtehnkebcbomidaaGreatDoorCn35
import Derived.Test.YtehnkebcbomidaaGreatDoorCn37
import Derived.Test.YtehnkebcbomidaaGreatDoorCn25
import Derived.Test.YtehnkebcbomidaaGreatDoorCn29
import Derived.Test.YtehnkebcbomidaaGreatDoorCn30
import Derived.Test.YtehnkebcbomidaaGreatDoorCn47
import Derived.Test.YtehnkebcbomidaaGreatDoorCn03
set_option linter.unusedVariables false
set_option linter.unusedSimpArgs false
namespace Go.Proofs.YtehnkebcbomidaaGreatDoorW.PrintLast
section
variable {P : Program} {ops : Array Oper} {Q : Exit → Act → World → Prop} {md : Region.Mode} {S : World → Prop} {ds : List Nat} {oi : Oper} {fuel : Nat} {l : Array Bool} {v : Value} {a a' : Act} {w : World} (i : Nat) (N : Option Tmp)
theorem tv_ (hi : ops[i]? = some oi) (hN : oi.dst = N) (hy : YieldsIf P ops S oi v a) (hS : S w) (h : wpAnyLast P md ops Q S ds fuel (l.setIfInBounds i true) a' w)
    (ha : a.put N v = a' := by simp only [Act.put, qa, qb, qc]; rfl) (hc : takeB md ops ds l (l.setIfInBounds i true) i = true := by kernel_rfl) (hQ : ∀ c a w, Q (.panic c) (a.put oi.dst v) w → Q (.panic c) a w := by exact fun _ _ _ h => h) : wpAnyLast P md ops Q S ds (fuel + 1) l a w := tk_ hi hN hc hQ hy hS ha h
theorem pv_ (hi : ops[i]? = some oi) (hN : oi.dst = N) (hy : Yields P ops oi v a) (h : wpAnyLast P md ops Q S ds fuel (l.setIfInBounds i true) a' w)
    (ha : a.put N v = a' := by simp only [Act.put, qa, qb, qc]; rfl) (hc : anyB md ops l (l.setIfInBounds i true) i = true := by kernel_rfl) (hQ : ∀ c a w, Q (.panic c) (a.put oi.dst v) w → Q (.panic c) a w := by exact fun _ _ _ h => h) : wpAnyLast P md ops Q S ds (fuel + 1) l a w := pu_ hi hN hc hQ hy ha h
theorem pn_ (hi : ops[i]? = some oi) (hN : oi.dst = N) (hy : Yields P ops oi undef a) (h : wpAnyLast P md ops Q S ds fuel (l.setIfInBounds i true) a' w)
    (ha : a.put N undef = a' := by simp only [Act.put, qa, qb, qc]; rfl) (hc : anyB md ops l (l.setIfInBounds i true) i = true := by kernel_rfl) (hQ : ∀ c a w, Q (.panic c) (a.put oi.dst undef) w → Q (.panic c) a w := by exact fun _ _ _ h => h) : wpAnyLast P md ops Q S ds (fuel + 1) l a w := pu_ hi hN hc hQ hy ha h
end
end Go.Proofs.YtehnkebcbomidaaGreatDoorW.PrintLast
namespace Go.Proofs.YtehnkebcbomidaaGreatDoor.Rt
def St.timeOf (S : St) (f : Int) : Int := if f < 0 ∨ 8 ≤ f ∨ (S.get f.toNat).is = false then -1 else (S.get f.toNat).time
end Go.Proofs.YtehnkebcbomidaaGreatDoor.Rt
namespace Go.Proofs.YtehnkebcbomidaaGreatDoor.Rt
open Go Go.RowKit Go.Proofs Go.Proofs.YtehnkebcbomidaaGreatDoorW.PrintWords Go.Proofs.YtehnkebcbomidaaGreatDoorW.PrintLast
theorem time_out (w : World) (g : Nat) (f : Int) (h : f < 0 ∨ 8 ≤ f) : Calls Tryz.prog 39 #[.pointer (some ⟨g, 0, none⟩), .int .i64 f] w fun e w' => e = .returned (.int .i64 (-1)) ∧ Below w.heap.size w w' := by
 rcases h with h | h
 ·go_enter Tryz.func39, Tryz.ntmps39
  go_wp2_with fail
  go_ret
  exact ⟨rfl, Below.refl _ _⟩
 ·have h0 : ¬ f < 0 := by omega
  go_enter Tryz.func39, Tryz.ntmps39
  go_wp2_with fail
  go_ret
  exact ⟨rfl, Below.refl _ _⟩
set_option maxHeartbeats 4000000 in
set_option maxRecDepth 100000 in
theorem time_call (w : World) (g n : Nat) (is : Bool) (t : Int) (hn : n < 8) (c1 : w.cell? ⟨g, 2 + n * 10, none⟩ = some (.bool is)) (c2 : w.cell? ⟨g, 2 + n * 10 + 2, none⟩ = some (.int .i64 t)) :
  Calls Tryz.prog 39 #[.pointer (some ⟨g, 0, none⟩), .int .i64 n] w fun e w' => e = .returned (.int .i64 (if is then t else -1)) ∧ Below w.heap.size w w' := by
 have hu115 := Tryz.underlying115
 have hu113 := Tryz.underlying113
 have hu112 := Tryz.underlying112
 have h0 : ¬ (n : Int) < 0 := by omega
 have h8 : ¬ (8 : Int) ≤ (n : Int) := by omega
 cases is with
 | true =>
  go_enter Tryz.func39, Tryz.ntmps39
  go_wp2_with fail
  go_ret
  exact ⟨rfl, Below.refl _ _⟩
 | false =>
  go_enter Tryz.func39, Tryz.ntmps39
  go_wp2_with fail
  go_ret
  exact ⟨rfl, Below.refl _ _⟩
end Go.Proofs.YtehnkebcbomidaaGreatDoor.Rt
namespace Go.Proofs.YtehnkebcbomidaaGreatDoor.Rt
theorem Step.time {N : Int} {S : St} (hok : S.Ok N) {o : Cl} {r : Rs} (h : Step S o r) (g : Nat) :
  (r.S.get g).time = (if o.kind = 1 ∧ r.e = 0 ∧ o.f = g then 0 else if o.kind = 11 ∧ r.e = 0 ∧ o.f = g then r.g.time else (S.get g).time) ∧
  (r.S.get g).is = (if o.kind = 1 ∧ r.e = 0 ∧ o.f = g then false else if o.kind = 0 ∧ r.e = 0 ∧ o.f = g then true else (S.get g).is) ∧
  (r.S.get g).look = (if (o.kind = 1 ∨ o.kind = 5) ∧ r.e = 0 ∧ o.f = g then 0 else if o.kind = 4 ∧ r.e = 0 ∧ o.f = g then o.a else (S.get g).look) ∧
  (r.S.get g).kind = (if r.e = 0 ∧ o.f = g ∧ (o.kind = 1 ∨ (o.kind = 11 ∧ r.g.granted = true)) then 0 else if r.e = 0 ∧ o.f = g ∧ o.kind = 10 then o.a else (S.get g).kind) ∧
  (r.S.get g).ask = (if r.e = 0 ∧ o.f = g ∧ (o.kind = 1 ∨ (o.kind = 11 ∧ r.g.granted = true)) then 0 else if r.e = 0 ∧ o.f = g ∧ o.kind = 10 then o.t else (S.get g).ask) ∧
  (r.S.get g).con = (if r.e = 0 ∧ o.f = g ∧ (o.kind = 1 ∨ o.kind = 7) then false else if r.e = 0 ∧ o.f = g ∧ o.kind = 6 then true else (S.get g).con) := by
 have hp := fun (f : Nat) (hf : f < 8) (m : Mem) => St.get_put S hok.l8 f g hf m
 have hq : ∀ f : Nat, ((f : Int) = (g : Int)) = (g = f) := fun f => propext (by omega)
 cases h with
 | no o e h1 => simp [h1]
 | none o e h1 h2 h3 h4 => simp [h3, get_filter]
 | other o h1 =>
  have n0 : ¬ o.kind = 0 := by omega
  have n1 : ¬ o.kind = 1 := by omega
  have n4 : ¬ o.kind = 4 := by omega
  have n5 : ¬ o.kind = 5 := by omega
  have n6 : ¬ o.kind = 6 := by omega
  have n7 : ¬ o.kind = 7 := by omega
  have n10 : ¬ o.kind = 10 := by omega
  have n11 : ¬ o.kind = 11 := by omega
  simp [n0, n1, n4, n5, n6, n7, n10, n11]
 | begin o h1 h2 h3 => simp [h1, get_saving]
 | ends o h1 h2 => simp [h1, get_saving]
 | retract f a b t is hf h1 h2 h3 => simp [get_filter]
 | send f a b t is hf h1 h2 h3 =>
  have e := send_get hok f a b t is hf g
  obtain ⟨t1, t2, t3, t4, t5, t6, t7, t8⟩ := take_same (S.get g) (S.reg f is) { S.msg f a b t is with d := (g : Int) }
  simp only [e]
  split
  ·simp [t1, t2, t3, t4, t5, t6]
  ·split
   ·rename_i c; obtain ⟨c1, c2⟩ := c; subst c1; simp
   ·simp
 | publish f a b t is hf h1 h2 h3 => simp [get_pubs]
 | resign f a b t is hf h1 h2 =>
  have e : ({ S.put f { sent := (S.get f).sent } with pubs := S.pubs.set f 0 } : St).get g = if g = f then { sent := (S.get f).sent } else S.get g := hp f hf _
  simp only [e, hq]
  by_cases c : g = f <;> simp [c]
 | waits f a b t is hf h1 h2 h3 =>
  simp only [hp f hf, hq]
  by_cases c : g = f
  ·subst c; simp
  ·simp [c]
 | _ f a b t is hf =>
  simp only [hp f hf, hq]
  by_cases c : g = f
  ·subst c; simp_all
  ·simp [c]
def O (S : St) (j : Nat) : Int := (outs S.members).getD j 0
theorem members_len (S : St) : S.members.length = S.l.length := by simp [St.members]
theorem om_members (S : St) (j : Nat) (hj : j < S.l.length) : om S.members j = (S.get j).lm := by
 unfold om St.members St.get
 exact getD_map' S.l Mem.lm j hj {} default
theorem O_spec (S : St) : IsOut S.members (O S) := (outs_spec S.members).1
theorem lm_reg (m : Mem) : m.lm.reg = true ↔ m.look > 0 := by simp [Mem.lm]
theorem tadd0 {x : Int} (h0 : 0 ≤ x) (h1 : x ≤ 1099511627776) : tadd x 0 = x := by unfold tadd tclamp; repeat' split <;> omega
theorem O_own {S : St} {j : Nat} (hj : j < S.l.length) (hr : (S.get j).look > 0) (hh : (S.get j).lm.hangs = false) : O S j = (S.get j).lm.later (S.get j).lm.base := by
 have := (O_spec S).own j (by rw [members_len]; exact hj) (by rw [om_members S j hj]; exact (lm_reg _).2 hr) (by rw [om_members S j hj]; exact hh)
 rwa [om_members S j hj] at this
theorem O_time {N : Int} {S : St} (hok : S.Ok N) {j : Nat} (hj : j < 8) (hr : (S.get j).look > 0) : (S.get j).lm.later (S.get j).time ≤ O S j := by
 have h8 := hok.l8
 have hm := hok.m j
 have hb : (S.get j).time ≤ (S.get j).lm.base := by
  have ht := tadd0 hm.t0 hm.t1
  have ha := tadd0 hm.a0 hm.a1
  have hk := hm.kask
  show _ ≤ LM.base _
  unfold LM.base Mem.lm
  simp only
  rw [ht, ha]
  split
  ·exact hk (by omega)
  ·split
   ·split
    ·exact Int.le_max_left _ _
    ·exact hk (by omega)
   ·exact Int.le_refl _
 have hh : ∀ i, (S.get j).lm.later (S.get j).time ≤ (S.get j).lm.later (max (tadd (S.get j).time 0) (O S i)) := fun i => later_mono _ (by rw [tadd0 hm.t0 hm.t1]; exact Int.le_max_left _ _)
 have hs := (O_spec S).at_ j (by rw [members_len]; omega)
 rw [om_members S j (by omega)] at hs
 cases hg : (S.get j).lm.hangs with
 | false => rw [O_own (by omega) hr hg]; exact later_mono _ hb
 | true =>
  rcases hs ((lm_reg _).2 hr) hg with e | ⟨i, _, _, _, e⟩
  ·rw [e]; exact later_mono _ hb
  ·rw [e]; exact hh i
end Go.Proofs.YtehnkebcbomidaaGreatDoor.Rt
section
namespace Go.Proofs.YtehnkebcbomidaaGreatDoor.Rt
open Go Go.RowKit Go.Proofs Go.Proofs.YtehnkebcbomidaaGreatDoorW.PrintWords Go.Proofs.YtehnkebcbomidaaGreatDoorW.PrintLast
section
variable {K : Nat → Prop} {r : Nat} {w : World} {S : St} {N : Int} (h : Rti K r w S) (ok : S.Ok N)
include h ok
omit ok in
theorem Rti.time (f : Int) : Calls Tryz.prog 39 #[.pointer (some ⟨r, 0, none⟩), .int .i64 f] w fun e w' => e = .returned (.int .i64 (S.timeOf f)) ∧ Below w.heap.size w w' := by
 obtain ⟨H, hR, rfl, _⟩ := h
 by_cases hf : f < 0 ∨ 8 ≤ f
 ·have e : S.timeOf f = -1 := by
   unfold St.timeOf
   rw [if_pos (by omega)]
  rw [e]
  exact time_out w H.r f hf
 ·obtain ⟨n, rfl⟩ : ∃ n : Nat, f = n := ⟨f.toNat, by omega⟩
  have hn : n < 8 := by omega
  have e : S.timeOf n = if (S.get n).is then (S.get n).time else -1 := by
   unfold St.timeOf
   rw [Int.toNat_natCast]
   cases (S.get n).is <;> simp <;> omega
  rw [e]
  exact time_call w H.r n _ _ hn (hR.c_is hn) (hR.c_time hn)
end
end Go.Proofs.YtehnkebcbomidaaGreatDoor.Rt
end
namespace Go.Proofs.YtehnkebcbomidaaGreatDoor.Rt
theorem timeOf_eq (S : St) (f : Int) : S.timeOf f = if 0 ≤ f ∧ f < 8 ∧ (S.get f.toNat).is = true then (S.get f.toNat).time else -1 := by
  unfold St.timeOf
  by_cases h : f < 0 ∨ 8 ≤ f ∨ (S.get f.toNat).is = false
  · rw [if_pos h, if_neg]
    rintro ⟨a, b, c⟩
    rcases h with h | h | h
    · omega
    · omega
    · rw [h] at c; cases c
  · rw [if_neg h, if_pos]
    refine ⟨by omega, by omega, ?_⟩
    cases e : (S.get f.toNat).is
    · exact absurd (.inr (.inr e)) h
    · rfl
def asksOf (S : St) (f : Nat) : Int := if (S.get f).kind > 0 then (S.get f).ask else -1
theorem asks_step {N : Int} {S : St} (ok : S.Ok N) {o : Cl} {r : Rs} (h : Step S o r) (g : Nat) (hg : g < 8) :
    asksOf r.S g = if r.e = 0 ∧ o.f = g ∧ (o.kind = 0 ∨ o.kind = 1 ∨ (o.kind = 11 ∧ r.g.granted = true)) then -1 else if r.e = 0 ∧ o.f = g ∧ o.kind = 10 then o.t else asksOf S g := by
  obtain ⟨z1, z2, z3, hk, ha, z4⟩ := h.time ok g
  clear z1 z2 z3 z4
  have L1 : ∀ {S : St}, (S.get g).kind = 0 → asksOf S g = -1 := fun {S} e => by unfold asksOf; rw [e]; rfl
  have L2 : ∀ {S : St}, (S.get g).kind > 0 → asksOf S g = (S.get g).ask := fun {S} e => by unfold asksOf; rw [if_pos e]
  have L3 : ∀ {S S' : St}, (S'.get g).kind = (S.get g).kind → (S'.get g).ask = (S.get g).ask → asksOf S' g = asksOf S g := fun {S S'} a b => by unfold asksOf; rw [a, b]
  by_cases e : r.e = 0 ∧ o.f = g
  · obtain ⟨e1, e2⟩ := e
    by_cases k1 : o.kind = 1 ∨ (o.kind = 11 ∧ r.g.granted = true)
    · rw [if_pos ⟨e1, e2, k1⟩] at hk
      rw [L1 hk, if_pos ⟨e1, e2, .inr k1⟩]
    · rw [if_neg (fun z => k1 z.2.2)] at hk ha
      by_cases k2 : o.kind = 10
      · rw [if_pos ⟨e1, e2, k2⟩] at hk ha
        have hpos : (r.S.get g).kind > 0 := by
          rw [hk]
          clear hk ha L1 L2 L3
          cases h <;> simp only at * <;> omega
        rw [L2 hpos, ha, if_neg (by omega), if_pos ⟨e1, e2, k2⟩]
      · rw [if_neg (fun z => k2 z.2.2)] at hk ha
        by_cases k0 : o.kind = 0
        · rw [if_pos ⟨e1, e2, .inl k0⟩]
          refine L1 ?_
          rw [hk]
          clear hk ha L1 L2 L3
          cases h <;> simp only at * <;> try omega
          rename_i f a b t is h1 h2 h3
          have hf : f = g := by omega
          subst hf
          have := (ok.m f).out h3
          rw [this]
        · rw [if_neg (by rintro ⟨_, _, z⟩; rcases z with z | z
                         · exact k0 z
                         · exact k1 z), if_neg (fun z => k2 z.2.2)]
          exact L3 hk ha
  · rw [if_neg (fun z => e ⟨z.1, z.2.1⟩), if_neg (fun z => e ⟨z.1, z.2.1⟩)] at hk ha
    rw [if_neg (fun z => e ⟨z.1, z.2.1⟩), if_neg (fun z => e ⟨z.1, z.2.1⟩)]
    exact L3 hk ha
theorem looks_step {N : Int} {S : St} (ok : S.Ok N) {o : Cl} {r : Rs} (h : Step S o r) (g : Nat) (hg : g < 8) :
    (r.S.get g).look = if r.e = 0 ∧ o.f = g ∧ (o.kind = 0 ∨ o.kind = 1 ∨ o.kind = 5) then 0 else if r.e = 0 ∧ o.f = g ∧ o.kind = 4 then o.a else (S.get g).look := by
  obtain ⟨z1, z2, hl, z3⟩ := h.time ok g
  clear z1 z2 z3
  rw [hl]
  clear hl
  by_cases e : r.e = 0 ∧ o.f = g
  · obtain ⟨e1, e2⟩ := e
    by_cases k1 : o.kind = 1 ∨ o.kind = 5
    · rw [if_pos ⟨k1, e1, e2⟩, if_pos ⟨e1, e2, .inr k1⟩]
    · rw [if_neg (fun z => k1 z.1)]
      by_cases k4 : o.kind = 4
      · rw [if_pos ⟨k4, e1, e2⟩, if_neg (by omega), if_pos ⟨e1, e2, k4⟩]
      · rw [if_neg (fun z => k4 z.1)]
        by_cases k0 : o.kind = 0
        · rw [if_pos ⟨e1, e2, .inl k0⟩]
          cases h <;> simp only at * <;> try omega
          rename_i f a b t is h1 h2 h3
          have hf : f = g := by omega
          subst hf
          have := (ok.m f).out h3
          rw [this]
        · rw [if_neg (by omega), if_neg (by omega)]
  · rw [if_neg (fun z => e ⟨z.2.1, z.2.2⟩), if_neg (fun z => e ⟨z.2.1, z.2.2⟩), if_neg (fun z => e ⟨z.1, z.2.1⟩), if_neg (fun z => e ⟨z.1, z.2.1⟩)]
theorem early_step {N : Int} {S : St} (ok : S.Ok N) {o : Cl} {r : Rs} (h : Step S o r) (he : r.e = 0) (hk : o.kind = 8) (his : o.is = true) (hl : (S.get o.f.toNat).look > 0) : 0 ≤ o.f ∧ o.f < 8 ∧ S.timeOf o.f = (S.get o.f.toNat).time ∧ tadd (S.timeOf o.f) (S.get o.f.toNat).look ≤ o.t := by
  cases h <;> simp only at * <;> first | omega | skip
  rename_i f a b t is g1 g2 g3 g4
  simp only [Int.toNat_natCast] at *
  have hT : S.timeOf f = (S.get f).time := by rw [timeOf_eq, Int.toNat_natCast, if_pos ⟨by omega, by omega, g3⟩]
  refine ⟨by omega, by omega, hT, ?_⟩
  obtain ⟨_, _, _, _, _, h6, _⟩ := sendE_zero g4
  have h6 := h6 (by unfold St.reg; rw [his, Int.toNat_natCast]; simp; omega)
  rw [Int.toNat_natCast] at h6
  have h7 := O_time ok g1 hl
  have hm := ok.m f
  have h8 : (S.get f).lm.later (S.get f).time = tadd (S.get f).time (S.get f).look := by
    unfold LM.later
    have : max 1 (min (S.get f).lm.look 1048576) = (S.get f).look := by
      show max 1 (min (S.get f).look 1048576) = (S.get f).look
      have := hm.l1
      omega
    rw [this]
  rw [h8] at h7
  rw [hT]
  have h6 : O S f ≤ t := h6
  omega
end Go.Proofs.YtehnkebcbomidaaGreatDoor.Rt
namespace Go.Proofs.YtehnkebcbomidaaGreatDoor.Rt
open Go Go.RowKit Go.Proofs Go.Proofs.YtehnkebcbomidaaGreatDoorW.PrintWords Go.Proofs.YtehnkebcbomidaaGreatDoorW.PrintLast
theorem rtime_in (x : Int) (w : World) (h0 : 0 ≤ x) (h1 : x ≤ 1099511627776) : Calls Tryz.prog 108 #[.int .i64 x] w fun e w' => e = .returned (.int .i64 x) ∧ w' = w := by
 have h2 : ¬ x < 0 := by omega
 have h3 : ¬ 1099511627776 < x := by omega
 go_enter Tryz.func108, Tryz.ntmps108
 go_wp2
 go_ret
 exact ⟨rfl, rfl⟩
theorem rtime_out (x : Int) (w : World) (h1 : 1099511627776 < x) : Calls Tryz.prog 108 #[.int .i64 x] w fun e w' => e = .returned (.int .i64 1125899906842624) ∧ w' = w := by
 have h2 : ¬ x < 0 := by omega
 go_enter Tryz.func108, Tryz.ntmps108
 go_wp2
 go_ret
 exact ⟨rfl, rfl⟩
theorem radd (a d : Int) (w : World) (a0 : 0 ≤ a) (a1 : a ≤ 1099511627776) (d0 : 0 ≤ d) (d1 : d ≤ 1048576) : Calls Tryz.prog 49 #[.int .i64 a, .int .i64 d] w fun e w' => e = .returned (.int .i64 (tadd a d)) ∧ w' = w := by
 have ha : (a == 1125899906842624) = false := by simp; omega
 have hd : (d == 1125899906842624) = false := by simp; omega
 have hw : IntKind.i64.wrap (a + d) = a + d := by rw [IntKind.wrap_i64]; omega
 have HA := Lib.hid (rtime_in a w a0 a1)
 have HD := Lib.hid (rtime_in d w d0 (by omega))
 by_cases h : a + d ≤ 1099511627776
 ·have e : tadd a d = a + d := by unfold tadd tclamp; repeat' split <;> omega
  rw [e]
  have HS := Lib.hid (rtime_in (a + d) w (by omega) h)
  go_enter Tryz.func49, Tryz.ntmps49
  go_wp2_with (first | (go_at_call 108; (with_reducible refine HA.out.mono ?_); rintro x w1 ⟨rfl, rfl⟩) | (go_at_call 108; (with_reducible refine HD.out.mono ?_); rintro x w1 ⟨rfl, rfl⟩) | (go_at_call 108; (with_reducible refine HS.out.mono ?_); rintro x w1 ⟨rfl, rfl⟩))
  go_ret
  exact ⟨rfl, rfl⟩
 ·have e : tadd a d = 1125899906842624 := by unfold tadd tclamp; repeat' split <;> omega
  rw [e]
  have HS := Lib.hid (rtime_out (a + d) w (by omega))
  go_enter Tryz.func49, Tryz.ntmps49
  go_wp2_with (first | (go_at_call 108; (with_reducible refine HA.out.mono ?_); rintro x w1 ⟨rfl, rfl⟩) | (go_at_call 108; (with_reducible refine HD.out.mono ?_); rintro x w1 ⟨rfl, rfl⟩) | (go_at_call 108; (with_reducible refine HS.out.mono ?_); rintro x w1 ⟨rfl, rfl⟩))
  go_ret
  exact ⟨rfl, rfl⟩
def lkS (S : St) (g : Nat) : Int := (S.get g).look
theorem eight_eq {f f' : Nat → Int} (h : ∀ g, g < 8 → f' g = f g) : eight f' = eight f := by
 unfold eight
 exact List.map_congr_left fun g hg => by rw [h g (by simpa using hg)]
theorem odd_any (w : World) (kd f a b t : Int) (is : Bool) (h : 0 ≤ kd → kd ≤ 11 → 0 ≤ f ∧ f < 8) : Calls Tryz.prog 46 #[.agg #[.int .i64 kd, .int .i64 f, .int .i64 a, .int .i64 b, .int .i64 t, .bool is]] w fun e w' => e = .returned (.bool false) ∧ Below w.heap.size w w' :=
 Go.Proofs.YtehnkebcbomidaaGreatDoor.Xodd.pacelinelaw20_odd.calls kd f a b t is false w (by
  unfold Go.Proofs.YtehnkebcbomidaaGreatDoor.Xodd.pacelinelaw20_odd.f
  split
  ·split
   ·obtain ⟨h1, h2⟩ := h (by omega) (by omega)
    rw [if_neg (by omega)]
    simp; omega
   ·rfl
  ·rfl)
set_option maxHeartbeats 16000000 in
set_option maxRecDepth 100000 in
theorem early_walk (W : World) (A : Option Addr) (len cap : Nat) (cs : Nat → Cl) (hc : CRow W A len cs) (hl : len ≤ 250) (hE : Env W) (hT : TabZ W) :
  Calls Tryz.prog 13 #[.slice A len cap] W fun e w' => e = .returned (.bool true) ∧ Below W.heap.size W w' := by
 have hlen : ¬ (250 : Int) < (len : Int) := by omega
 have m52 := m8
 have HC := Lib.hid hc
 have HT := Lib.hid hT
 have HNW := Lib.hid (new3_call W hE)
 have hu52 := Tryz.underlying52
 have hu66 := Tryz.underlying66
 have hu69 := Tryz.underlying69
 have hu71 := Tryz.underlying71
 have hu31 := Tryz.underlying31
 clear hc hT hE
 go_enter Tryz.func13, Tryz.ntmps13
 have hmix : Tryz.prog.follows .mixedOrders = true := by kernel_rfl
 go_wp2_with (first | (go_at_call 33; (with_reducible refine (classes_call W).mono ?_); rintro e w1 ⟨rfl, rfl⟩) | (go_at_call 32; (with_reducible refine HNW.out.mono ?_); rintro e w2 ⟨r, rfl, hr2, hb2⟩; have HR2 := Lib.hid hr2; have HB2 := Lib.hid hb2; clear hr2 hb2))
 have hr3 := HR2.out.keep (.cells #[.int .i64 0, .int .i64 0, .int .i64 0, .int .i64 0, .int .i64 0, .int .i64 0, .int .i64 0, .int .i64 0] 3)
 have hblk := heap_alloc_new w2 (.cells #[.int .i64 0, .int .i64 0, .int .i64 0, .int .i64 0, .int .i64 0, .int .i64 0, .int .i64 0, .int .i64 0] 3)
 have hb3 : Below W.heap.size W (w2.alloc (.cells #[.int .i64 0, .int .i64 0, .int .i64 0, .int .i64 0, .int .i64 0, .int .i64 0, .int .i64 0, .int .i64 0] 3)) := HB2.out.alloc HB2.out.size _
 obtain ⟨w3, hw3⟩ : ∃ w3, w3 = w2.alloc (.cells #[.int .i64 0, .int .i64 0, .int .i64 0, .int .i64 0, .int .i64 0, .int .i64 0, .int .i64 0, .int .i64 0] 3) := ⟨_, rfl⟩
 rw [← hw3] at hr3 hblk hb3 ⊢
 obtain ⟨nb, hnb⟩ : ∃ nb, nb = w2.heap.size := ⟨_, rfl⟩
 have hnl : W.heap.size ≤ nb := by rw [hnb]; exact HB2.out.size
 rw [← hnb] at hr3 hblk ⊢
 have HR3 := Lib.hid (show Rti (K3 W nb) r w3 nw3 from hr3)
 have HBLK := Lib.hid (show w3.heap[nb]? = some (.cells (eight (lkS (stN cs 0))).toArray 3 (0, 0)) from hblk)
 have HB3 := Lib.hid hb3
 have HNL := Lib.hid hnl
 clear hw3 hnb hr3 hblk hb3 hnl HR2 HB2 HNW m52
 go_loopw [6] (fun iv wr => ∃ i : Nat, i ≤ len ∧ iv = .int .i64 i ∧ Rti (K3 W nb) r wr (stN cs i) ∧ wr.heap[nb]? = some (.cells (eight (lkS (stN cs i))).toArray 3 (0, 0)) ∧ Below W.heap.size W wr) (fun iv _ => len - (RowKit.intOf iv).toNat)
 case atStart => exact ⟨0, Nat.zero_le _, rfl, HR3.out, HBLK.out, HB3.out⟩
 case round =>
  obtain ⟨i, hi, rfl, hr, hnx, hbw⟩ := hrel
  by_cases hil : i < len
  ·have hii : (i : Int) < (len : Int) := by omega
   have hi0 : (0 : Int) ≤ (i : Int) := by omega
   obtain ⟨x, rfl, l0, l1, l2, l3, l4, l5⟩ := HC.out.cells hil (w' := wr) (fun k hk => hbw.block k hk) rfl
   have hok := stN_ok cs i (by omega)
   have hst := does_step hok (cs i)
   have hpar : ∀ n ∈ (stN cs i).par, I63 n := by rw [stN_par cs i (by omega)]; intro n hn; simp at hn; rcases hn with rfl | rfl <;> exact ⟨by omega, by omega⟩
   have hT1 := HT.out.below hbw
   have hr1 := hr.keep (.cells (cs i).cells 69)
   have hT2 := hT1.below ((Below.refl _ wr).alloc (Nat.le_refl _) (.cells (cs i).cells 69))
   have hdc := fun w4 (hb : Below (wr.alloc (.cells (cs i).cells 69)).heap.size (wr.alloc (.cells (cs i).cells 69)) w4) => does_call (hr1.below hb) hok (by omega) hpar (hT2.below hb) (.inl (.inl HT.out.lt)) (cs i)
   have htm := hr1.time (cs i).f
   have hs := fun g hg => looks_step hok hst g hg
   have h8 := Step.in8 hst
   have hea : ((stN cs i).does (cs i)).e = 0 → (cs i).kind = 8 → (cs i).is = true → 0 < lkS (stN cs i) (cs i).f.toNat → 0 ≤ (stN cs i).timeOf (cs i).f ∧ (stN cs i).timeOf (cs i).f ≤ 1099511627776 ∧ tadd ((stN cs i).timeOf (cs i).f) (lkS (stN cs i) (cs i).f.toNat) ≤ (cs i).t := fun h1 h2 h3 h4 => by
    obtain ⟨_, _, g3, g4⟩ := early_step hok hst h1 h2 h3 h4
    have g5 := hok.m (cs i).f.toNat
    exact ⟨by rw [g3]; exact g5.t0, by rw [g3]; exact g5.t1, g4⟩
   have hsucc : stN cs (i + 1) = ((stN cs i).does (cs i)).S := rfl
   have hbl := heap_alloc_new wr (.cells (cs i).cells 69)
   generalize (stN cs i).does (cs i) = R at hdc hs hea h8 hsucc
   obtain ⟨e, n, G, S'⟩ := R
   have HSUC := Lib.hid (show stN cs (i + 1) = S' from hsucc)
   clear hsucc
   simp only at hs hea h8
   have hle : ∀ g, lkS (stN cs i) g ≤ 1048576 ∧ 0 ≤ lkS (stN cs i) g := fun g => ⟨(hok.m g).l1, (hok.m g).l0⟩
   have hsz : ∀ g, g < 8 → lkS S' g = if e = 0 ∧ (cs i).f = g ∧ ((cs i).kind = 0 ∨ (cs i).kind = 1 ∨ (cs i).kind = 5) then 0 else if e = 0 ∧ (cs i).f = g ∧ (cs i).kind = 4 then (cs i).a else lkS (stN cs i) g := hs
   obtain ⟨sn, hsn⟩ : ∃ sn, sn = lkS (stN cs i) := ⟨_, rfl⟩
   rw [← hsn] at hnx hsz hle hea
   clear hsn
   obtain ⟨tm, htm0⟩ : ∃ tm, tm = (stN cs i).timeOf (cs i).f := ⟨_, rfl⟩
   rw [← htm0] at htm hea
   clear htm0
   generalize hcs : cs i = o at l0 l1 l2 l3 l4 l5 hr1 hdc hbl hea h8 hsz htm
   obtain ⟨kd, f, a, b, t, is⟩ := o
   unfold Cl.cells at hr1 hdc hbl htm
   simp only at l0 l1 l2 l3 l4 l5 hr1 hdc hbl hea h8 hsz htm
   clear hs hst hok hpar hT1 hT2 hr
   have hx : ∀ w4 w', Below (wr.alloc (.cells #[.int .i64 kd, .int .i64 f, .int .i64 a, .int .i64 b, .int .i64 t, .bool is] 69)).heap.size (wr.alloc (.cells #[.int .i64 kd, .int .i64 f, .int .i64 a, .int .i64 b, .int .i64 t, .bool is] 69)) w4 → Tch (fun k => ¬ (K3 W nb k ∨ k = wr.heap.size)) w4 w' → w'.heap[nb]? = some (.cells (eight sn).toArray 3 (0, 0)) ∧ w'.heap[wr.heap.size]? = some (.cells #[.int .i64 kd, .int .i64 f, .int .i64 a, .int .i64 b, .int .i64 t, .bool is] 69 (0, 0)) ∧ Below W.heap.size W w' := fun w4 w' hb h => by
    have hnl : nb < wr.heap.size := (Array.getElem?_eq_some_iff.1 hnx).1
    have hba : Below wr.heap.size wr (wr.alloc (.cells #[.int .i64 kd, .int .i64 f, .int .i64 a, .int .i64 b, .int .i64 t, .bool is] 69)) := (Below.refl _ wr).alloc (Nat.le_refl _) _
    have hs4 := hb.size
    simp at hs4
    have hb4 : Below W.heap.size W w4 := (hbw.trans (hba.mono hbw.size)).trans (hb.mono (by have := hbw.size; simp; omega))
    refine ⟨(((h.block nb (by omega) (fun z => z (.inl (.inr rfl)))).trans (hb.block nb (by simp; omega))).trans (hba.block nb hnl)).trans hnx, ((h.block _ (by omega) (fun z => z (.inr rfl))).trans (hb.block _ (by simp))).trans hbl, hb4.trans (h.below hb4.size (fun k hk e => e (.inl (.inl hk))))⟩
   have HX := Lib.hid hx
   have HDC := Lib.hid hdc
   have HEA := Lib.hid hea
   have H8 := Lib.hid h8
   have HSZ := Lib.hid hsz
   have HLE := Lib.hid hle
   have HTM := Lib.hid htm
   have HBL := Lib.hid hbl
   clear hx hdc hea h8 hsz hle hnx hbl hbw hr1 hcs htm
   by_cases he : e = 0
   ·subst he
    have HODD := Lib.hid (fun w' => odd_any w' kd f a b t is (fun h0 h1 => H8.out rfl h0 h1))
    by_cases hk8 : kd = 8
    ·subst hk8
     obtain ⟨h0, h1⟩ := H8.out rfl (by omega) (by omega)
     obtain ⟨fn, rfl⟩ : ∃ fn : Nat, f = fn := ⟨f.toNat, by omega⟩
     have hfn : fn < 8 := by omega
     have hz8 : (fn : Int) < 8 := h1
     have hz0 : (0 : Int) ≤ (fn : Int) := h0
     have HSNE := Lib.hid (show eight (lkS S') = eight sn from eight_eq (fun g hg => by rw [HSZ.out g hg, if_neg (by omega), if_neg (by omega)]))
     have hea := HEA.out rfl rfl
     rw [Int.toNat_natCast] at hea
     have hlf := HLE.out fn
     have HEA2 := Lib.hid hea
     have HFN := Lib.hid hfn
     clear hea hfn h0 h1 HEA
     go_wp2_with (first | (go_at_call 39; (with_reducible refine HTM.out.mono ?_); rintro e0 w4 ⟨rfl, hb4⟩; obtain ⟨y0, y1, y2, y3, y4, y5⟩ := o_cells ((hb4.block wr.heap.size (by simp)).trans HBL.out); have HB4 := Lib.hid hb4; clear hb4) | (go_at_call 45; (with_reducible refine (HDC.out w4 HB4.out).mono ?_); rintro e1 w5 ⟨vp, vt, vr, ⟨VA, vn, vc, rfl⟩, rfl, hd⟩; clear y0 y1 y2 y3 y4 y5; have hgp := hd.p; have hgt := hd.t; obtain ⟨PA, pc, rfl⟩ := own_slice hgp; obtain ⟨TA, tc, rfl⟩ := own_slice hgt; obtain ⟨x1, x2, x3⟩ := HX.out w4 w5 HB4.out hd.tch; have HD := Lib.hid hd; have HX1 := Lib.hid x1; have HX3 := Lib.hid x3; have hbo := (((Below.refl _ w5).alloc (Nat.le_refl _) (.cells #[.int .i64 0, .int .i64 n, .slice PA G.plain.length pc, .slice TA G.timed.length tc, .bool G.granted, .int .i64 G.time, .slice VA vn vc] 71)).block wr.heap.size (Array.getElem?_eq_some_iff.1 x2).1).trans x2; obtain ⟨y0, y1, y2, y3, y4, y5⟩ := o_cells hbo; have HBO := Lib.hid hbo; clear hd hgp hgt x1 x2 x3 hbo) | (go_at_call 46; (with_reducible refine (HODD.out _).mono ?_); rintro e2 w6 ⟨rfl, hb6⟩; clear y0 y1 y2 y3 y4 y5; have ho6 := (hb6.block wr.heap.size (Array.getElem?_eq_some_iff.1 HBO.out).1).trans HBO.out; obtain ⟨y0, y1, y2, y3, y4, y5⟩ := o_cells ho6; have HB6 := Lib.hid hb6; have hf6 : Below w5.heap.size w5 w6 := ((Below.refl _ w5).alloc (Nat.le_refl _) (.cells #[.int .i64 0, .int .i64 n, .slice PA G.plain.length pc, .slice TA G.timed.length tc, .bool G.granted, .int .i64 G.time, .slice VA vn vc] 71)).trans (hb6.mono (by simp)); have hnx6 := (hf6.block nb (Array.getElem?_eq_some_iff.1 HX1.out).1).trans HX1.out; have HF := Lib.hid hf6; have HNX6 := Lib.hid hnx6;  clear hb6 ho6 hf6 hnx6))
     obtain ⟨q3, q4⟩ := eight_cell HNX6.out fn HFN.out
     cases is with
     | false =>
      refine st_ (n := 22) (S := fun w' => w'.cell? ⟨wr.heap.size, 5, none⟩ = some (.bool false)) (ds := []) hmix rfl y5 (fun hHeld => ?_)
      refine pv_ 0 (some 67) rfl rfl (.inl ⟨by rfl, by intro w'; go_simp; try with_reducible rfl⟩) ?_
      refine tv_ 1 (some 68) rfl rfl (.inl ⟨by rfl, by intro w' hS_; have zz0 := hS_; go_simp; try with_reducible rfl⟩) hHeld ?_
      refine pv_ 2 (some 69) rfl rfl (.inl ⟨by rfl, by intro w'; go_simp; try with_reducible rfl⟩) ?_
      refine pn_ 3 (some 70) rfl rfl (.inr ⟨by rfl, rfl⟩) ?_
      refine pn_ 4 (some 71) rfl rfl (.inr ⟨by rfl, rfl⟩) ?_
      refine pn_ 5 (some 72) rfl rfl (.inr ⟨by rfl, rfl⟩) ?_
      refine pn_ 6 (some 73) rfl rfl (.inr ⟨by rfl, rfl⟩) ?_
      refine pn_ 7 (some 74) rfl rfl (.inr ⟨by rfl, rfl⟩) ?_
      refine pn_ 8 (some 75) rfl rfl (.inr ⟨by rfl, rfl⟩) ?_
      refine pv_ 9 (some 76) rfl rfl (.inl ⟨by rfl, by intro w'; go_simp; try with_reducible rfl⟩) ?_
      refine pv_ 10 (some 77) rfl rfl (.inl ⟨by rfl, by intro w'; go_simp; try with_reducible rfl⟩) ?_
      refine pn_ 11 (some 78) rfl rfl (.inr ⟨by rfl, rfl⟩) ?_
      refine pn_ 12 (some 79) rfl rfl (.inr ⟨by rfl, rfl⟩) ?_
      refine pn_ 13 (some 80) rfl rfl (.inr ⟨by rfl, rfl⟩) ?_
      refine pn_ 14 (some 81) rfl rfl (.inr ⟨by rfl, rfl⟩) ?_
      refine pn_ 15 (some 82) rfl rfl (.inr ⟨by rfl, rfl⟩) ?_
      refine pn_ 16 (some 83) rfl rfl (.inr ⟨by rfl, rfl⟩) ?_
      refine pn_ 17 (some 84) rfl rfl (.inr ⟨by rfl, rfl⟩) ?_
      refine pn_ 18 (some 85) rfl rfl (.inr ⟨by rfl, rfl⟩) ?_
      refine pn_ 19 (some 86) rfl rfl (.inr ⟨by rfl, rfl⟩) ?_
      refine pn_ 20 (some 87) rfl rfl (.inr ⟨by rfl, rfl⟩) ?_
      refine pv_ 21 (some 88) rfl rfl (.inl ⟨by rfl, by intro w'; go_simp; try with_reducible rfl⟩) ?_
      refine done_ (by kernel_rfl) ?_
      go_wp2
      have hbz : ∀ w', Below w6.heap.size w6 w' → Below w5.heap.size w5 w' := fun w' h => HF.out.trans (h.mono HF.out.size)
      exact ⟨⟨i + 1, by omega, by go_num, by rw [HSUC.out]; exact (HD.out.at_.fewer (fun k hk => .inl hk)).below (hbz _ ((Below.refl _ w6).drew)), by rw [HSUC.out, HSNE.out]; exact ((hbz _ ((Below.refl _ w6).drew)).block nb (Array.getElem?_eq_some_iff.1 HX1.out).1).trans HX1.out, HX3.out.trans ((hbz _ ((Below.refl _ w6).drew)).mono HX3.out.size)⟩, by simp [RowKit.intOf]; omega⟩
     | true =>
      by_cases hlk : 0 < sn fn
      ·obtain ⟨g1, g2, g3⟩ := HEA2.out rfl hlk
       have HADD := Lib.hid (fun w' => radd tm (sn fn) w' g1 g2 (by omega) hlf.1)
       have hlt : ¬ t < tadd tm (sn fn) := by omega
       clear g1 g2 g3
       refine st_ (n := 22) (S := fun w' => w'.cell? ⟨wr.heap.size, 5, none⟩ = some (.bool true) ∧ w'.cell? ⟨wr.heap.size, 1, none⟩ = some (.int .i64 fn) ∧ w'.cell? ⟨wr.heap.size, 4, none⟩ = some (.int .i64 t) ∧ w'.cell? ⟨nb, fn, none⟩ = some (.int .i64 (sn fn))) (ds := []) hmix rfl ⟨y5, y1, y4, q3⟩ (fun hHeld => ?_)
       refine pv_ 0 (some 67) rfl rfl (.inl ⟨by rfl, by intro w'; go_simp; try with_reducible rfl⟩) ?_
       refine tv_ 1 (some 68) rfl rfl (.inl ⟨by rfl, by intro w' hS_; obtain ⟨zz0, zz1, zz2, zz3⟩ := hS_; go_simp; try with_reducible rfl⟩) hHeld ?_
       refine pv_ 2 (some 69) rfl rfl (.inl ⟨by rfl, by intro w'; go_simp; try with_reducible rfl⟩) ?_
       refine pv_ 3 (some 70) rfl rfl (.inl ⟨by rfl, by intro w'; go_simp; try with_reducible rfl⟩) ?_
       refine pv_ 4 (some 71) rfl rfl (.inl ⟨by rfl, by intro w'; go_simp; try with_reducible rfl⟩) ?_
       refine tv_ 5 (some 72) rfl rfl (.inl ⟨by rfl, by intro w' hS_; obtain ⟨zz0, zz1, zz2, zz3⟩ := hS_; go_simp; try with_reducible rfl⟩) hHeld ?_
       refine pv_ 6 (some 73) rfl rfl (.inl ⟨by rfl, by intro w'; go_simp; try with_reducible rfl⟩) ?_
       refine tv_ 7 (some 74) rfl rfl (.inl ⟨by rfl, by intro w' hS_; obtain ⟨zz0, zz1, zz2, zz3⟩ := hS_; go_simp; try with_reducible rfl⟩) hHeld ?_
       refine pu_ (i := 8) (N := (some 75)) (v := (.bool true)) (a' := ?_) rfl rfl (by kernel_rfl) (fun _ _ _ h => h) (Or.inl ⟨by rfl, ?_⟩) ?_ ?_
       ·intro w'
        go_simp
        try with_reducible rfl
       rotate_left
       ·simp only [Act.put, qa, qb, qc]
        rfl
       refine pv_ 9 (some 76) rfl rfl (.inl ⟨by rfl, by intro w'; go_simp; try with_reducible rfl⟩) ?_
       refine pv_ 10 (some 77) rfl rfl (.inl ⟨by rfl, by intro w'; go_simp; try with_reducible rfl⟩) ?_
       refine pv_ 11 (some 78) rfl rfl (.inl ⟨by rfl, by intro w'; go_simp; try with_reducible rfl⟩) ?_
       refine tv_ 12 (some 79) rfl rfl (.inl ⟨by rfl, by intro w' hS_; obtain ⟨zz0, zz1, zz2, zz3⟩ := hS_; go_simp; try with_reducible rfl⟩) hHeld ?_
       refine pv_ 13 (some 80) rfl rfl (.inl ⟨by rfl, by intro w'; go_simp; try with_reducible rfl⟩) ?_
       refine pv_ 14 (some 81) rfl rfl (.inl ⟨by rfl, by intro w'; go_simp; try with_reducible rfl⟩) ?_
       refine pv_ 15 (some 82) rfl rfl (.inl ⟨by rfl, by intro w'; go_simp; try with_reducible rfl⟩) ?_
       refine tv_ 16 (some 83) rfl rfl (.inl ⟨by rfl, by intro w' hS_; obtain ⟨zz0, zz1, zz2, zz3⟩ := hS_; go_simp; try with_reducible rfl⟩) hHeld ?_
       refine pv_ 17 (some 84) rfl rfl (.inl ⟨by rfl, by intro w'; go_simp; try with_reducible rfl⟩) ?_
       refine tv_ 18 (some 85) rfl rfl (.inl ⟨by rfl, by intro w' hS_; obtain ⟨zz0, zz1, zz2, zz3⟩ := hS_; go_simp; try with_reducible rfl⟩) hHeld ?_
       refine on_ (i := 19) (N := (some 86)) rfl rfl (by kernel_rfl) (by decide) (fun K hK => ?_)
       refine goes_ Tryz.func49 (by kernel_rfl) rfl #[.int .i64 tm, .int .i64 (sn fn)] (by rfl) rfl rfl (by simp only [List.map_toArray, List.map_cons, List.map_nil]; rfl) ?_
       refine (HADD.out _).mono ?_
       rintro x7 w7 ⟨rfl, rfl⟩
       refine ⟨_, rfl, hK.out _ _ ⟨y5, y1, y4, q3⟩ (fun hHeld => ?_)⟩
       clear hK K
       refine norm_ (a' := ?_) ?_ ?_
       rotate_left
       ·show Act.put _ (some 86) _ = _
        simp only [Act.put, qa, qb, qc]
        rfl
       refine pu_ (i := 20) (N := (some 87)) (v := (.bool false)) (a' := ?_) rfl rfl (by kernel_rfl) (fun _ _ _ h => h) (Or.inl ⟨by rfl, ?_⟩) ?_ ?_
       ·intro w'
        go_simp
        try with_reducible rfl
       rotate_left
       ·simp only [Act.put, qa, qb, qc]
        rfl
       refine pv_ 21 (some 88) rfl rfl (.inl ⟨by rfl, by intro w'; go_simp; try with_reducible rfl⟩) ?_
       refine done_ (by kernel_rfl) ?_
       go_wp2
       have hbz : ∀ w', Below w6.heap.size w6 w' → Below w5.heap.size w5 w' := fun w' h => HF.out.trans (h.mono HF.out.size)
       exact ⟨⟨i + 1, by omega, by go_num, by rw [HSUC.out]; exact (HD.out.at_.fewer (fun k hk => .inl hk)).below (hbz _ ((Below.refl _ w6).drew)), by rw [HSUC.out, HSNE.out]; exact ((hbz _ ((Below.refl _ w6).drew)).block nb (Array.getElem?_eq_some_iff.1 HX1.out).1).trans HX1.out, HX3.out.trans ((hbz _ ((Below.refl _ w6).drew)).mono HX3.out.size)⟩, by simp [RowKit.intOf]; omega⟩
      ·have hlk' : ¬ sn fn > 0 := hlk
       refine st_ (n := 22) (S := fun w' => w'.cell? ⟨wr.heap.size, 5, none⟩ = some (.bool true) ∧ w'.cell? ⟨wr.heap.size, 1, none⟩ = some (.int .i64 fn) ∧ w'.cell? ⟨nb, fn, none⟩ = some (.int .i64 (sn fn))) (ds := []) hmix rfl ⟨y5, y1, q3⟩ (fun hHeld => ?_)
       refine pv_ 0 (some 67) rfl rfl (.inl ⟨by rfl, by intro w'; go_simp; try with_reducible rfl⟩) ?_
       refine tv_ 1 (some 68) rfl rfl (.inl ⟨by rfl, by intro w' hS_; obtain ⟨zz0, zz1, zz2⟩ := hS_; go_simp; try with_reducible rfl⟩) hHeld ?_
       refine pv_ 2 (some 69) rfl rfl (.inl ⟨by rfl, by intro w'; go_simp; try with_reducible rfl⟩) ?_
       refine pv_ 3 (some 70) rfl rfl (.inl ⟨by rfl, by intro w'; go_simp; try with_reducible rfl⟩) ?_
       refine pv_ 4 (some 71) rfl rfl (.inl ⟨by rfl, by intro w'; go_simp; try with_reducible rfl⟩) ?_
       refine tv_ 5 (some 72) rfl rfl (.inl ⟨by rfl, by intro w' hS_; obtain ⟨zz0, zz1, zz2⟩ := hS_; go_simp; try with_reducible rfl⟩) hHeld ?_
       refine pv_ 6 (some 73) rfl rfl (.inl ⟨by rfl, by intro w'; go_simp; try with_reducible rfl⟩) ?_
       refine tv_ 7 (some 74) rfl rfl (.inl ⟨by rfl, by intro w' hS_; obtain ⟨zz0, zz1, zz2⟩ := hS_; go_simp; try with_reducible rfl⟩) hHeld ?_
       refine pu_ (i := 8) (N := (some 75)) (v := (.bool false)) (a' := ?_) rfl rfl (by kernel_rfl) (fun _ _ _ h => h) (Or.inl ⟨by rfl, ?_⟩) ?_ ?_
       ·intro w'
        go_simp
        try with_reducible rfl
       rotate_left
       ·simp only [Act.put, qa, qb, qc]
        rfl
       refine pv_ 9 (some 76) rfl rfl (.inl ⟨by rfl, by intro w'; go_simp; try with_reducible rfl⟩) ?_
       refine pv_ 10 (some 77) rfl rfl (.inl ⟨by rfl, by intro w'; go_simp; try with_reducible rfl⟩) ?_
       refine pn_ 11 (some 78) rfl rfl (.inr ⟨by rfl, rfl⟩) ?_
       refine pn_ 12 (some 79) rfl rfl (.inr ⟨by rfl, rfl⟩) ?_
       refine pn_ 13 (some 80) rfl rfl (.inr ⟨by rfl, rfl⟩) ?_
       refine pn_ 14 (some 81) rfl rfl (.inr ⟨by rfl, rfl⟩) ?_
       refine pn_ 15 (some 82) rfl rfl (.inr ⟨by rfl, rfl⟩) ?_
       refine pn_ 16 (some 83) rfl rfl (.inr ⟨by rfl, rfl⟩) ?_
       refine pn_ 17 (some 84) rfl rfl (.inr ⟨by rfl, rfl⟩) ?_
       refine pn_ 18 (some 85) rfl rfl (.inr ⟨by rfl, rfl⟩) ?_
       refine pn_ 19 (some 86) rfl rfl (.inr ⟨by rfl, rfl⟩) ?_
       refine pn_ 20 (some 87) rfl rfl (.inr ⟨by rfl, rfl⟩) ?_
       refine pv_ 21 (some 88) rfl rfl (.inl ⟨by rfl, by intro w'; go_simp; try with_reducible rfl⟩) ?_
       refine done_ (by kernel_rfl) ?_
       go_wp2
       have hbz : ∀ w', Below w6.heap.size w6 w' → Below w5.heap.size w5 w' := fun w' h => HF.out.trans (h.mono HF.out.size)
       exact ⟨⟨i + 1, by omega, by go_num, by rw [HSUC.out]; exact (HD.out.at_.fewer (fun k hk => .inl hk)).below (hbz _ ((Below.refl _ w6).drew)), by rw [HSUC.out, HSNE.out]; exact ((hbz _ ((Below.refl _ w6).drew)).block nb (Array.getElem?_eq_some_iff.1 HX1.out).1).trans HX1.out, HX3.out.trans ((hbz _ ((Below.refl _ w6).drew)).mono HX3.out.size)⟩, by simp [RowKit.intOf]; omega⟩
    ·by_cases hk0 : kd = 0 ∨ kd = 1 ∨ kd = 5
     ·rcases hk0 with rfl | rfl | rfl
      all_goals
       obtain ⟨h0, h1⟩ := H8.out rfl (by omega) (by omega)
       obtain ⟨fn, rfl⟩ : ∃ fn : Nat, f = fn := ⟨f.toNat, by omega⟩
       have hfn : fn < 8 := by omega
       have hz8 : (fn : Int) < 8 := h1
       have hz0 : (0 : Int) ≤ (fn : Int) := h0
       have HFN := Lib.hid hfn
       have HSNE := Lib.hid (show ∀ g, g < 8 → lkS S' g = if g = fn then (0 : Int) else sn g from fun g hg => by
        rw [HSZ.out g hg]
        by_cases e : g = fn
        ·subst e; simp
        ·rw [if_neg e, if_neg (by omega), if_neg (by omega)])
       clear h0 h1 hfn HEA
       go_wp2_with (first | (go_at_call 39; (with_reducible refine HTM.out.mono ?_); rintro e0 w4 ⟨rfl, hb4⟩; obtain ⟨y0, y1, y2, y3, y4, y5⟩ := o_cells ((hb4.block wr.heap.size (by simp)).trans HBL.out); have HB4 := Lib.hid hb4; clear hb4) | (go_at_call 45; (with_reducible refine (HDC.out w4 HB4.out).mono ?_); rintro e1 w5 ⟨vp, vt, vr, ⟨VA, vn, vc, rfl⟩, rfl, hd⟩; clear y0 y1 y2 y3 y4 y5; have hgp := hd.p; have hgt := hd.t; obtain ⟨PA, pc, rfl⟩ := own_slice hgp; obtain ⟨TA, tc, rfl⟩ := own_slice hgt; obtain ⟨x1, x2, x3⟩ := HX.out w4 w5 HB4.out hd.tch; have HD := Lib.hid hd; have HX1 := Lib.hid x1; have HX3 := Lib.hid x3; have hbo := (((Below.refl _ w5).alloc (Nat.le_refl _) (.cells #[.int .i64 0, .int .i64 n, .slice PA G.plain.length pc, .slice TA G.timed.length tc, .bool G.granted, .int .i64 G.time, .slice VA vn vc] 71)).block wr.heap.size (Array.getElem?_eq_some_iff.1 x2).1).trans x2; obtain ⟨y0, y1, y2, y3, y4, y5⟩ := o_cells hbo; have HBO := Lib.hid hbo; clear hd hgp hgt x1 x2 x3 hbo) | (go_at_call 46; (with_reducible refine (HODD.out _).mono ?_); rintro e2 w6 ⟨rfl, hb6⟩; clear y0 y1 y2 y3 y4 y5; have ho6 := (hb6.block wr.heap.size (Array.getElem?_eq_some_iff.1 HBO.out).1).trans HBO.out; obtain ⟨y0, y1, y2, y3, y4, y5⟩ := o_cells ho6; have HB6 := Lib.hid hb6; have hf6 : Below w5.heap.size w5 w6 := ((Below.refl _ w5).alloc (Nat.le_refl _) (.cells #[.int .i64 0, .int .i64 n, .slice PA G.plain.length pc, .slice TA G.timed.length tc, .bool G.granted, .int .i64 G.time, .slice VA vn vc] 71)).trans (hb6.mono (by simp)); have hnx6 := (hf6.block nb (Array.getElem?_eq_some_iff.1 HX1.out).1).trans HX1.out; have HF := Lib.hid hf6; have HNX6 := Lib.hid hnx6; obtain ⟨q3, q4⟩ := eight_cell hnx6 fn HFN.out; clear hb6 ho6 hf6 hnx6))
       obtain ⟨w8, hw8⟩ : ∃ w8, w8 = World.setCell w6 ⟨nb, fn, none⟩ (.int .i64 (0 : Int)) := ⟨_, rfl⟩
       rw [← hw8]
       have hcell : w8.heap[nb]? = some (.cells (eight (lkS S')).toArray 3 (0, 0)) := by
        rw [hw8, ← eight_set sn (lkS S') fn HFN.out (0 : Int) HSNE.out]
        exact heap_setCell_same w6 nb fn _ 3 _ HNX6.out
       have ht8 : Tch (fun k => k = nb) w6 w8 := by rw [hw8]; exact Tch.setCell (P := fun k => k = nb) (Tch.refl _ w6) (p := ⟨nb, fn, none⟩) (.inl rfl) (.int .i64 (0 : Int))
       have hpos := HNL.out
       have hlt2 := HT.out.lt
       have hb56 : Below W.heap.size W w6 := HX3.out.trans (HF.out.mono HX3.out.size)
       exact ⟨⟨i + 1, by omega, by go_num, by rw [HSUC.out]; exact ((HD.out.at_.below HF.out).side_ ht8 (fun k e => .inl (.inr e)) (by omega)).fewer (fun k hk => .inl hk), by rw [HSUC.out]; exact hcell, hb56.trans (ht8.below hb56.size (fun k hk e => by omega))⟩, by simp [RowKit.intOf]; omega⟩
     ·by_cases hk4 : kd = 4
      ·subst hk4
       obtain ⟨h0, h1⟩ := H8.out rfl (by omega) (by omega)
       obtain ⟨fn, rfl⟩ : ∃ fn : Nat, f = fn := ⟨f.toNat, by omega⟩
       have hfn : fn < 8 := by omega
       have hz8 : (fn : Int) < 8 := h1
       have hz0 : (0 : Int) ≤ (fn : Int) := h0
       have HFN := Lib.hid hfn
       have HSNE := Lib.hid (show ∀ g, g < 8 → lkS S' g = if g = fn then a else sn g from fun g hg => by
        rw [HSZ.out g hg]
        by_cases e : g = fn
        ·subst e; simp
        ·rw [if_neg e, if_neg (by omega), if_neg (by omega)])
       clear h0 h1 hfn HEA
       go_wp2_with (first | (go_at_call 39; (with_reducible refine HTM.out.mono ?_); rintro e0 w4 ⟨rfl, hb4⟩; obtain ⟨y0, y1, y2, y3, y4, y5⟩ := o_cells ((hb4.block wr.heap.size (by simp)).trans HBL.out); have HB4 := Lib.hid hb4; clear hb4) | (go_at_call 45; (with_reducible refine (HDC.out w4 HB4.out).mono ?_); rintro e1 w5 ⟨vp, vt, vr, ⟨VA, vn, vc, rfl⟩, rfl, hd⟩; clear y0 y1 y2 y3 y4 y5; have hgp := hd.p; have hgt := hd.t; obtain ⟨PA, pc, rfl⟩ := own_slice hgp; obtain ⟨TA, tc, rfl⟩ := own_slice hgt; obtain ⟨x1, x2, x3⟩ := HX.out w4 w5 HB4.out hd.tch; have HD := Lib.hid hd; have HX1 := Lib.hid x1; have HX3 := Lib.hid x3; have hbo := (((Below.refl _ w5).alloc (Nat.le_refl _) (.cells #[.int .i64 0, .int .i64 n, .slice PA G.plain.length pc, .slice TA G.timed.length tc, .bool G.granted, .int .i64 G.time, .slice VA vn vc] 71)).block wr.heap.size (Array.getElem?_eq_some_iff.1 x2).1).trans x2; obtain ⟨y0, y1, y2, y3, y4, y5⟩ := o_cells hbo; have HBO := Lib.hid hbo; clear hd hgp hgt x1 x2 x3 hbo) | (go_at_call 46; (with_reducible refine (HODD.out _).mono ?_); rintro e2 w6 ⟨rfl, hb6⟩; clear y0 y1 y2 y3 y4 y5; have ho6 := (hb6.block wr.heap.size (Array.getElem?_eq_some_iff.1 HBO.out).1).trans HBO.out; obtain ⟨y0, y1, y2, y3, y4, y5⟩ := o_cells ho6; have HB6 := Lib.hid hb6; have hf6 : Below w5.heap.size w5 w6 := ((Below.refl _ w5).alloc (Nat.le_refl _) (.cells #[.int .i64 0, .int .i64 n, .slice PA G.plain.length pc, .slice TA G.timed.length tc, .bool G.granted, .int .i64 G.time, .slice VA vn vc] 71)).trans (hb6.mono (by simp)); have hnx6 := (hf6.block nb (Array.getElem?_eq_some_iff.1 HX1.out).1).trans HX1.out; have HF := Lib.hid hf6; have HNX6 := Lib.hid hnx6; obtain ⟨q3, q4⟩ := eight_cell hnx6 fn HFN.out; clear hb6 ho6 hf6 hnx6))
       obtain ⟨w8, hw8⟩ : ∃ w8, w8 = World.setCell w6 ⟨nb, fn, none⟩ (.int .i64 a) := ⟨_, rfl⟩
       rw [← hw8]
       have hcell : w8.heap[nb]? = some (.cells (eight (lkS S')).toArray 3 (0, 0)) := by
        rw [hw8, ← eight_set sn (lkS S') fn HFN.out a HSNE.out]
        exact heap_setCell_same w6 nb fn _ 3 _ HNX6.out
       have ht8 : Tch (fun k => k = nb) w6 w8 := by rw [hw8]; exact Tch.setCell (P := fun k => k = nb) (Tch.refl _ w6) (p := ⟨nb, fn, none⟩) (.inl rfl) (.int .i64 a)
       have hpos := HNL.out
       have hlt2 := HT.out.lt
       have hb56 : Below W.heap.size W w6 := HX3.out.trans (HF.out.mono HX3.out.size)
       exact ⟨⟨i + 1, by omega, by go_num, by rw [HSUC.out]; exact ((HD.out.at_.below HF.out).side_ ht8 (fun k e => .inl (.inr e)) (by omega)).fewer (fun k hk => .inl hk), by rw [HSUC.out]; exact hcell, hb56.trans (ht8.below hb56.size (fun k hk e => by omega))⟩, by simp [RowKit.intOf]; omega⟩
      ·have z0 : ¬ kd = 0 := fun z => hk0 (.inl z)
       have z1 : ¬ kd = 1 := fun z => hk0 (.inr (.inl z))
       have z5 : ¬ kd = 5 := fun z => hk0 (.inr (.inr z))
       have HSNE := Lib.hid (show eight (lkS S') = eight sn from eight_eq (fun g hg => by rw [HSZ.out g hg, if_neg (by omega), if_neg (by omega)]))
       clear hk0
       go_wp2_with (first | (go_at_call 39; (with_reducible refine HTM.out.mono ?_); rintro e0 w4 ⟨rfl, hb4⟩; obtain ⟨y0, y1, y2, y3, y4, y5⟩ := o_cells ((hb4.block wr.heap.size (by simp)).trans HBL.out); have HB4 := Lib.hid hb4; clear hb4) | (go_at_call 45; (with_reducible refine (HDC.out w4 HB4.out).mono ?_); rintro e1 w5 ⟨vp, vt, vr, ⟨VA, vn, vc, rfl⟩, rfl, hd⟩; clear y0 y1 y2 y3 y4 y5; have hgp := hd.p; have hgt := hd.t; obtain ⟨PA, pc, rfl⟩ := own_slice hgp; obtain ⟨TA, tc, rfl⟩ := own_slice hgt; obtain ⟨x1, x2, x3⟩ := HX.out w4 w5 HB4.out hd.tch; have HD := Lib.hid hd; have HX1 := Lib.hid x1; have HX3 := Lib.hid x3; have hbo := (((Below.refl _ w5).alloc (Nat.le_refl _) (.cells #[.int .i64 0, .int .i64 n, .slice PA G.plain.length pc, .slice TA G.timed.length tc, .bool G.granted, .int .i64 G.time, .slice VA vn vc] 71)).block wr.heap.size (Array.getElem?_eq_some_iff.1 x2).1).trans x2; obtain ⟨y0, y1, y2, y3, y4, y5⟩ := o_cells hbo; have HBO := Lib.hid hbo; clear hd hgp hgt x1 x2 x3 hbo) | (go_at_call 46; (with_reducible refine (HODD.out _).mono ?_); rintro e2 w6 ⟨rfl, hb6⟩; clear y0 y1 y2 y3 y4 y5; have ho6 := (hb6.block wr.heap.size (Array.getElem?_eq_some_iff.1 HBO.out).1).trans HBO.out; obtain ⟨y0, y1, y2, y3, y4, y5⟩ := o_cells ho6; have HB6 := Lib.hid hb6; have hf6 : Below w5.heap.size w5 w6 := ((Below.refl _ w5).alloc (Nat.le_refl _) (.cells #[.int .i64 0, .int .i64 n, .slice PA G.plain.length pc, .slice TA G.timed.length tc, .bool G.granted, .int .i64 G.time, .slice VA vn vc] 71)).trans (hb6.mono (by simp)); have hnx6 := (hf6.block nb (Array.getElem?_eq_some_iff.1 HX1.out).1).trans HX1.out; have HF := Lib.hid hf6; have HNX6 := Lib.hid hnx6;  clear hb6 ho6 hf6 hnx6))
       exact ⟨⟨i + 1, by omega, by go_num, by rw [HSUC.out]; exact (HD.out.at_.fewer (fun k hk => .inl hk)).below HF.out, by rw [HSUC.out, HSNE.out]; exact HNX6.out, HX3.out.trans (HF.out.mono HX3.out.size)⟩, by simp [RowKit.intOf]; omega⟩
   ·have he' : (e == 0) = false := by simpa using he
    have HSNE := Lib.hid (show eight (lkS S') = eight sn from eight_eq (fun g hg => by rw [HSZ.out g hg, if_neg (fun z => he z.1), if_neg (fun z => he z.1)]))
    go_wp2_with (first | (go_at_call 39; (with_reducible refine HTM.out.mono ?_); rintro e0 w4 ⟨rfl, hb4⟩; obtain ⟨y0, y1, y2, y3, y4, y5⟩ := o_cells ((hb4.block wr.heap.size (by simp)).trans HBL.out); have HB4 := Lib.hid hb4; clear hb4) | (go_at_call 45; (with_reducible refine (HDC.out w4 HB4.out).mono ?_); rintro e1 w5 ⟨vp, vt, vr, ⟨VA, vn, vc, rfl⟩, rfl, hd⟩; clear y0 y1 y2 y3 y4 y5; have hgp := hd.p; have hgt := hd.t; obtain ⟨PA, pc, rfl⟩ := own_slice hgp; obtain ⟨TA, tc, rfl⟩ := own_slice hgt; obtain ⟨x1, x2, x3⟩ := HX.out w4 w5 HB4.out hd.tch; have HD := Lib.hid hd; have HX1 := Lib.hid x1; have HX3 := Lib.hid x3; have hbo := (((Below.refl _ w5).alloc (Nat.le_refl _) (.cells #[.int .i64 e, .int .i64 n, .slice PA G.plain.length pc, .slice TA G.timed.length tc, .bool G.granted, .int .i64 G.time, .slice VA vn vc] 71)).block wr.heap.size (Array.getElem?_eq_some_iff.1 x2).1).trans x2; obtain ⟨y0, y1, y2, y3, y4, y5⟩ := o_cells hbo; have HBO := Lib.hid hbo; clear hd hgp hgt x1 x2 x3 hbo))
    have hf : ∀ o, Below w5.heap.size w5 (w5.alloc o) := fun o => (Below.refl _ w5).alloc (Nat.le_refl _) o
    exact ⟨⟨i + 1, by omega, by go_num, by rw [HSUC.out]; exact (HD.out.at_.fewer (fun k hk => .inl hk)).below (hf _), by rw [HSUC.out, HSNE.out]; exact ((hf _).block nb (Array.getElem?_eq_some_iff.1 HX1.out).1).trans HX1.out, HX3.out.trans ((hf _).mono HX3.out.size)⟩, by simp [RowKit.intOf]; omega⟩
  ·obtain rfl : i = len := by omega
   have hii : ¬ (i : Int) < (i : Int) := by omega
   have hok := stN_ok cs i (by omega)
   have hj := hr.join hok (-1)
   have HJ := Lib.hid hj
   have HBW := Lib.hid hbw
   clear hr hnx hbw hj hok
   go_wp2_with (go_at_call 34; (with_reducible refine HJ.out.mono ?_); rintro e w8 ⟨rfl, hr8, ht8⟩; have HT8 := Lib.hid ht8; clear hr8 ht8)
   go_ret
   exact ⟨by first | rfl | simp, HBW.out.trans (HT8.out.below HBW.out.size (fun k hk e => e (.inl hk)))⟩
set_option maxHeartbeats 4000000 in
set_option maxRecDepth 100000 in
theorem early_row {H : Type} {enc : TypeId × Value → H} {base : Nat} {spare : Nat → Bool} {held : Bool} {xd : DataW H} {p : List MemPlace} (A : Option Addr) (len cap : Nat) (W : World)
  (k0 : DataW.Trod enc Tryz.prog W base spare held 66 (.slice A len cap) xd p) (hE : Env W ∧ TabZ W) :
  Calls Tryz.prog 13 #[.slice A len cap] W fun e w' => e = .returned (.bool true) ∧ Below W.heap.size W w' := by
 obtain ⟨cs, hc⟩ := calls_in k0
 clear k0
 by_cases hl : len ≤ 250
 ·exact early_walk W A len cap cs hc hl hE.1 hE.2
 ·have hl2 : (250 : Int) < (len : Int) := by omega
  have hu66 := Tryz.underlying66
  go_enter Tryz.func13, Tryz.ntmps13
  go_wp2
  go_ret
  exact ⟨rfl, Below.refl _ _⟩
end Go.Proofs.YtehnkebcbomidaaGreatDoor.Rt
