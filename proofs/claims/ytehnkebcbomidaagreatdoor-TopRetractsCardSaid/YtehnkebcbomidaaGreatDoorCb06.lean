/- Part of a proof over the given program: Pb, Hp, Hq, Qk. -/
import Derived.Test.YtehnkebcbomidaaGreatDoorCb05
import Derived.Test.YtehnkebcbomidaaGreatDoorCb01
import Derived.Test.YtehnkebcbomidaaGreatDoorCb02
import Derived.Maps.Own
import Derived.Maps.OwnOps
import Derived.Maps.OwnSet
import Derived.Maps.Views
import Derived.DeepKeys4
set_option linter.unusedVariables false
set_option linter.unusedSimpArgs false
section
namespace Go.Proofs.YtehnkebcbomidaaGreatDoor.Rt
theorem St.get_put (S : St) (h8 : S.l.length = 8) (f g : Nat) (hf : f < 8) (m : Mem) : (S.put f m).get g = if g = f then m else S.get g := by
  unfold St.get St.put
  simp only [List.getD_eq_getElem?_getD, List.getElem?_set]
  split
  · rename_i h; subst h; simp [h8, hf]
  · rename_i h; rw [if_neg (fun e => h e.symm)]
theorem St.put_l (S : St) (f : Nat) (m : Mem) : (S.put f m).l.length = S.l.length := by simp [St.put]
theorem Ok.put {N : Int} {S : St} (h : S.Ok N) {f : Nat} (hf : f < 8) {N' : Int} (hN : N ≤ N') (hN' : N' < 9223372036854775808) (m : Mem) (hm : MemOk S.par.length N' f m) (hs : (S.get f).sent ≤ m.sent)
    (hq : ∀ x ∈ m.Q, x.k.s < if x.k.f.toNat = f then m.sent else (S.get x.k.f.toNat).sent) (hp : ∀ x ∈ m.P, x.k.s ≤ if x.k.f.toNat = f then m.sent else (S.get x.k.f.toNat).sent) (his : m.is = false → S.pubs.getD f 0 = 0) : (S.put f m).Ok N' := by
  have hle : ∀ k, (S.get k).sent ≤ if k = f then m.sent else (S.get k).sent := fun k => by
    split
    · rename_i e; subst e; exact hs
    · exact Int.le_refl _
  refine ⟨hN', by rw [St.put_l]; exact h.l8, h.p8, h.al, h.a0, h.a1, h.ab, h.pb, fun g => ?_, fun g x => ?_, fun g x => ?_, fun g => ?_⟩
  · rw [St.get_put S h.l8 _ _ hf]
    split
    · rename_i e; subst e; exact hm
    · have := h.m g
      exact ⟨this.t0, this.t1, this.l0, this.l1, this.k0, this.k1, this.a0, this.a1, this.s0, Int.le_trans this.s1 hN, this.srt, this.q, this.p, this.ql, this.pl, this.su, this.kask, this.kno, this.qno, this.out⟩
  · rw [St.get_put S h.l8 _ _ hf, St.get_put S h.l8 _ _ hf]
    intro hx
    by_cases e : g = f
    · rw [if_pos e] at hx
      have := hq x hx
      split <;> rename_i c
      · rw [if_pos c] at this; exact this
      · rw [if_neg c] at this; exact this
    · rw [if_neg e] at hx
      have h1 := h.q1 g x hx
      have h2 := hle x.k.f.toNat
      split <;> rename_i c
      · rw [if_pos c] at h2; omega
      · exact h1
  · rw [St.get_put S h.l8 _ _ hf, St.get_put S h.l8 _ _ hf]
    intro hx
    by_cases e : g = f
    · rw [if_pos e] at hx
      have := hp x hx
      split <;> rename_i c
      · rw [if_pos c] at this; exact this
      · rw [if_neg c] at this; exact this
    · rw [if_neg e] at hx
      have h1 := h.p1 g x hx
      have h2 := hle x.k.f.toNat
      split <;> rename_i c
      · rw [if_pos c] at h2; omega
      · exact h1
  · rw [St.get_put S h.l8 _ _ hf]
    split
    · rename_i e; subst e; exact his
    · exact h.pno g
theorem Ok.put' {N : Int} {S : St} (h : S.Ok N) {f : Nat} (hf : f < 8) (m : Mem) (hm : MemOk S.par.length N f m) (hs : (S.get f).sent = m.sent) (hq : ∀ x ∈ m.Q, x ∈ (S.get f).Q) (hp : ∀ x ∈ m.P, x ∈ (S.get f).P ∨ x ∈ (S.get f).Q) (his : m.is = false → S.pubs.getD f 0 = 0) : (S.put f m).Ok N := by
  refine Ok.put h hf (Int.le_refl _) h.n1 m hm (by omega) (fun x hx => ?_) (fun x hx => ?_) his
  · have := h.q1 f x (hq x hx)
    split
    · rename_i e; rw [e, hs] at this; exact this
    · exact this
  · have : x.k.s ≤ (S.get x.k.f.toNat).sent := by
      rcases hp x hx with g | g
      · exact h.p1 f x g
      · exact Int.le_of_lt (h.q1 f x g)
    split
    · rename_i e; rw [e, hs] at this; exact this
    · exact this
theorem byE_zero {S : St} {f : Int} (h : S.byE f = 0) : 0 ≤ f ∧ f < 8 ∧ f.toNat < 8 ∧ (S.get f.toNat).is = true ∧ S.saving = false := by
  unfold St.byE at h
  split at h
  · omega
  · rename_i h1
    split at h
    · omega
    · rename_i h2
      split at h
      · omega
      · rename_i h3
        exact ⟨by omega, by omega, by omega, by simpa using h2, by simpa using h3⟩
theorem Ok.join {N : Int} {S : St} (h : S.Ok N) (f : Int) : (S.join f).2.Ok N := by
  unfold St.join
  split
  · exact h
  · rename_i h1
    split
    · exact h
    · split
      · exact h
      · rename_i h3
        have hf : f.toNat < 8 := by omega
        have hm := h.m f.toNat
        refine Ok.put' h hf _ ⟨hm.t0, hm.t1, hm.l0, hm.l1, hm.k0, hm.k1, hm.a0, hm.a1, hm.s0, hm.s1, hm.srt, hm.q, hm.p, hm.ql, hm.pl, hm.su, hm.kask, hm.kno, hm.qno, fun e => by cases e⟩ rfl (fun x hx => hx) (fun x hx => .inl hx) (fun e => by cases e)
theorem memOk_blank (n : Nat) (N : Int) (g : Nat) (s : Int) (h0 : 0 ≤ s) (h1 : s ≤ N) : MemOk n N g { sent := s } :=
  ⟨by simp, by simp, by simp, by simp, by simp, by simp, by simp, by simp, h0, h1, List.Pairwise.nil, (fun x hx => by cases hx), (fun x hx => by cases hx), by simp, by simp, by simp, by simp, by simp, by simp, by simp⟩
theorem Ok.pubs {N : Int} {S : St} (h : S.Ok N) {f : Nat} (hf : f < 8) (x : Nat) (hx : x < 4294967296) (his : (S.get f).is = false → x = 0) : St.Ok N { S with pubs := S.pubs.set f x } := by
  refine ⟨h.n1, h.l8, by simp [h.p8], h.al, h.a0, h.a1, h.ab, fun y hy => ?_, h.m, h.q1, h.p1, fun g hg => ?_⟩
  · rcases List.mem_or_eq_of_mem_set hy with e | e
    · exact h.pb y e
    · rw [e]; exact hx
  · simp only [List.getD_eq_getElem?_getD, List.getElem?_set]
    split
    · rename_i e; subst e
      have := his hg
      simp [h.p8, hf, this]
    · have := h.pno g hg
      rwa [List.getD_eq_getElem?_getD] at this
theorem bitSet_lt (x c : Nat) (is : Bool) (hx : x < 4294967296) (hc : c < 16) : bitSet x c is < 4294967296 := by
  unfold bitSet
  split
  · exact Nat.or_lt_two_pow (n := 32) hx (Nat.lt_of_lt_of_le (Nat.pow_lt_pow_right (by decide) hc) (by decide))
  · exact Nat.lt_of_le_of_lt Nat.and_le_left hx
theorem Ok.publish {N : Int} {S : St} (h : S.Ok N) (f c : Int) (is : Bool) : (S.publish f c is).2.Ok N := by
  unfold St.publish
  split
  · exact h
  · rename_i h1
    obtain ⟨h2, h3, hf, h4, h5⟩ := byE_zero (Classical.not_not.1 h1)
    split
    · exact h
    · rename_i h6
      unfold St.noClass at h6
      have := h.al
      have := h.a1
      refine Ok.pubs h hf _ (bitSet_lt _ _ _ ?_ (by omega)) (fun e => by rw [h4] at e; cases e)
      have hp := h.p8
      rw [List.getD_eq_getElem?_getD, List.getElem?_eq_getElem (by omega)]
      exact h.pb _ (List.getElem_mem _)
theorem Ok.subscribe {N : Int} {S : St} (h : S.Ok N) (f c : Int) (is : Bool) : (S.subscribe f c is).2.Ok N := by
  unfold St.subscribe
  split
  · exact h
  · rename_i h1
    obtain ⟨h2, h3, hf, h4, h5⟩ := byE_zero (Classical.not_not.1 h1)
    split
    · exact h
    · rename_i h6
      unfold St.noClass at h6
      have := h.al
      have := h.a1
      have hm := h.m f.toNat
      exact Ok.put' h hf _ ⟨hm.t0, hm.t1, hm.l0, hm.l1, hm.k0, hm.k1, hm.a0, hm.a1, hm.s0, hm.s1, hm.srt, hm.q, hm.p, hm.ql, hm.pl, bitSet_lt _ _ _ hm.su (by omega), hm.kask, hm.kno, hm.qno, fun e => by rw [h4] at e; cases e⟩ rfl (fun x hx => hx) (fun x hx => .inl hx) (fun e => by rw [h4] at e; cases e)
theorem Ok.regulate {N : Int} {S : St} (h : S.Ok N) (f k : Int) : (S.regulate f k).2.Ok N := by
  unfold St.regulate
  split
  · exact h
  · rename_i h1
    obtain ⟨h2, h3, hf, h4, h5⟩ := byE_zero (Classical.not_not.1 h1)
    split
    · exact h
    · split
      · exact h
      · split
        · exact h
        · split
          · exact h
          · have hm := h.m f.toNat
            exact Ok.put' h hf _ ⟨hm.t0, hm.t1, by show 0 ≤ k; omega, by show k ≤ 1048576; omega, hm.k0, hm.k1, hm.a0, hm.a1, hm.s0, hm.s1, hm.srt, hm.q, hm.p, hm.ql, hm.pl, hm.su, hm.kask, hm.kno, hm.qno, fun e => by rw [h4] at e; cases e⟩ rfl (fun x hx => hx) (fun x hx => .inl hx) (fun e => by rw [h4] at e; cases e)
theorem Ok.constrain {N : Int} {S : St} (h : S.Ok N) (f : Int) : (S.constrain f).2.Ok N := by
  unfold St.constrain
  split
  · exact h
  · rename_i h1
    obtain ⟨h2, h3, hf, h4, h5⟩ := byE_zero (Classical.not_not.1 h1)
    split
    · exact h
    · split
      · exact h
      · split
        · exact h
        · have hm := h.m f.toNat
          exact Ok.put' h hf _ ⟨hm.t0, hm.t1, hm.l0, hm.l1, hm.k0, hm.k1, hm.a0, hm.a1, hm.s0, hm.s1, hm.srt, hm.q, hm.p, hm.ql, hm.pl, hm.su, hm.kask, hm.kno, (fun e => by cases e), fun e => by rw [h4] at e; cases e⟩ rfl (fun x hx => hx) (fun x hx => .inl hx) (fun e => by rw [h4] at e; cases e)
theorem Ok.ask {N : Int} {S : St} (h : S.Ok N) (f kind t : Int) : (S.ask f kind t).2.Ok N := by
  unfold St.ask
  split
  · exact h
  · rename_i h1
    obtain ⟨h2, h3, hf, h4, h5⟩ := byE_zero (Classical.not_not.1 h1)
    split
    · exact h
    · split
      · exact h
      · split
        · exact h
        · split
          · exact h
          · have hm := h.m f.toNat
            exact Ok.put' h hf _ ⟨hm.t0, hm.t1, hm.l0, hm.l1, by show 0 ≤ kind; omega, by show kind ≤ 3; omega, by show 0 ≤ t; omega, by show t ≤ 1099511627776; omega, hm.s0, hm.s1, hm.srt, hm.q, hm.p, hm.ql, hm.pl, hm.su, (fun _ => by show (S.get f.toNat).time ≤ t; omega), (fun e => by have : kind = 0 := e; omega), hm.qno, fun e => by rw [h4] at e; cases e⟩ rfl (fun x hx => hx) (fun x hx => .inl hx) (fun e => by rw [h4] at e; cases e)
theorem mem_ins (m x : Mg) (Q : List Mg) : x ∈ ins m Q ↔ x = m ∨ x ∈ Q := by
  induction Q with
  | nil => simp [ins]
  | cons y l ih =>
    unfold ins
    split
    · simp
    · simp [ih]
      constructor
      · rintro (h | h | h)
        · exact .inr (.inl h)
        · exact .inl h
        · exact .inr (.inr h)
      · rintro (h | h | h)
        · exact .inr (.inl h)
        · exact .inl h
        · exact .inr (.inr h)
theorem ins_length (m : Mg) (Q : List Mg) : (ins m Q).length = Q.length + 1 := by
  induction Q with
  | nil => rfl
  | cons y l ih =>
    unfold ins
    split
    · rfl
    · simp [ih]
theorem ins_srt (m : Mg) (Q : List Mg) (h : Srt Q) (hn : ∀ x ∈ Q, x.k ≠ m.k) : Srt (ins m Q) := by
  induction Q with
  | nil => simp [ins, Srt]
  | cons y l ih =>
    obtain ⟨h1, h2⟩ := List.pairwise_cons.1 h
    unfold ins
    split
    · rename_i c
      refine List.pairwise_cons.2 ⟨fun x hx => ?_, h⟩
      rcases List.mem_cons.1 hx with e | e
      · rw [e]; exact c
      · exact Ky.lt_trans c (h1 x e)
    · rename_i c
      refine List.pairwise_cons.2 ⟨fun x hx => ?_, ih h2 (fun x hx => hn x (List.mem_cons_of_mem _ hx))⟩
      rcases (mem_ins m x l).1 hx with e | e
      · rw [e]; exact Ky.lt_of_not c (fun e => hn y List.mem_cons_self e.symm)
      · exact h1 x e
theorem Ok.give {N : Int} (reg : Bool) (m : Mg) : ∀ (L : List Nat) (S : St), S.Ok N → L.Nodup → (∀ g ∈ L, g < 8 ∧ S.fullAt reg g = false ∧ (S.get g).is = true ∧ ∀ x ∈ (S.get g).Q, x.k ≠ m.k) →
    (∀ g : Nat, g < 8 → MgOk S.par.length { m with d := (g : Int) }) → m.k.s ≤ (S.get m.k.f.toNat).sent → (reg = true → m.k.s < (S.get m.k.f.toNat).sent) → (S.give reg m L).Ok N := by
  intro L
  induction L with
  | nil => intro S h _ _ _ _ _; exact h
  | cons g L ih =>
    intro S h hnd hg hm hs hs2
    obtain ⟨hnd1, hnd2⟩ := List.nodup_cons.1 hnd
    obtain ⟨g1, g2, g3, g4⟩ := hg g List.mem_cons_self
    have hM := h.m g
    have hmg := hm g g1
    have hsent : ((S.get g).take reg { m with d := (g : Int) }).sent = (S.get g).sent := by unfold Mem.take; split <;> rfl
    have hisT : ((S.get g).take reg { m with d := (g : Int) }).is = (S.get g).is := by unfold Mem.take; split <;> rfl
    have hget : ∀ k, ((S.put g ((S.get g).take reg { m with d := (g : Int) })).get k).sent = (S.get k).sent := fun k => by
      rw [St.get_put S h.l8 _ _ g1]
      split
      · rename_i e; subst e; exact hsent
      · rfl
    have hok : (S.put g ((S.get g).take reg { m with d := (g : Int) })).Ok N := by
      refine Ok.put h g1 (Int.le_refl _) h.n1 _ ?_ (by rw [hsent]; exact Int.le_refl _) ?_ ?_ (fun e => by rw [hisT, g3] at e; cases e)
      · unfold St.fullAt at g2
        unfold Mem.take
        split
        · rename_i hr
          rw [if_pos hr] at g2
          simp only [decide_eq_false_iff_not] at g2
          simp only [Bool.and_eq_true] at hr
          refine ⟨hM.t0, hM.t1, hM.l0, hM.l1, hM.k0, hM.k1, hM.a0, hM.a1, hM.s0, hM.s1, ins_srt _ _ hM.srt g4, (fun x hx => ?_), hM.p, by simp only [ins_length]; omega, hM.pl, hM.su, hM.kask, hM.kno, (fun e => by rw [hr.2] at e; cases e), fun e => by rw [g3] at e; cases e⟩
          rcases (mem_ins _ x _).1 hx with e | e
          · rw [e]; exact ⟨hmg, rfl⟩
          · exact hM.q x e
        · rename_i hr
          rw [if_neg hr] at g2
          simp only [decide_eq_false_iff_not] at g2
          refine ⟨hM.t0, hM.t1, hM.l0, hM.l1, hM.k0, hM.k1, hM.a0, hM.a1, hM.s0, hM.s1, hM.srt, hM.q, (fun x hx => ?_), hM.ql, by simp only [List.length_append, List.length_singleton]; omega, hM.su, hM.kask, hM.kno, hM.qno, fun e => by rw [g3] at e; cases e⟩
          rcases List.mem_append.1 hx with e | e
          · exact hM.p x e
          · rw [List.mem_singleton.1 e]; exact ⟨hmg, rfl⟩
      · intro x hx
        rw [hsent]
        have : x.k.s < (S.get x.k.f.toNat).sent := by
          unfold Mem.take at hx
          split at hx
          · rename_i hr
            simp only [Bool.and_eq_true] at hr
            rcases (mem_ins _ x _).1 hx with e | e
            · rw [e]; exact hs2 hr.1
            · exact h.q1 g x e
          · exact h.q1 g x hx
        split
        · rename_i e; rw [e] at this; exact this
        · exact this
      · intro x hx
        rw [hsent]
        have : x.k.s ≤ (S.get x.k.f.toNat).sent := by
          unfold Mem.take at hx
          split at hx
          · exact h.p1 g x hx
          · rcases List.mem_append.1 hx with e | e
            · exact h.p1 g x e
            · rw [List.mem_singleton.1 e]; exact hs
        split
        · rename_i e; rw [e] at this; exact this
        · exact this
    unfold St.give
    refine ih _ hok hnd2 (fun k hk => ?_) hm (by rw [hget]; exact hs) (by rw [hget]; exact hs2)
    obtain ⟨k1, k2, k3, k4⟩ := hg k (List.mem_cons_of_mem _ hk)
    have hne : k ≠ g := fun e => hnd1 (e ▸ hk)
    have hkk : (S.put g ((S.get g).take reg { m with d := (g : Int) })).get k = S.get k := by rw [St.get_put S h.l8 _ _ g1, if_neg hne]
    refine ⟨k1, ?_, ?_, ?_⟩
    · unfold St.fullAt at k2 ⊢; rw [hkk]; exact k2
    · rw [hkk]; exact k3
    · rw [hkk]; exact k4
theorem give_l (reg : Bool) (m : Mg) : ∀ (L : List Nat) (S : St), (S.give reg m L).l.length = S.l.length := by
  intro L
  induction L with
  | nil => intro S; rfl
  | cons g L ih => intro S; unfold St.give; rw [ih, St.put_l]
theorem give_get (reg : Bool) (m : Mg) : ∀ (L : List Nat) (S : St), S.l.length = 8 → L.Nodup → (∀ g ∈ L, g < 8) → ∀ k, (S.give reg m L).get k = if k ∈ L then (S.get k).take reg { m with d := (k : Int) } else S.get k := by
  intro L
  induction L with
  | nil => intro S _ _ _ k; simp [St.give]
  | cons g L ih =>
    intro S h8 hnd hg k
    obtain ⟨hnd1, hnd2⟩ := List.nodup_cons.1 hnd
    unfold St.give
    rw [ih _ (by rw [St.put_l]; exact h8) hnd2 (fun x hx => hg x (List.mem_cons_of_mem _ hx)) k, St.get_put S h8 _ _ (hg g List.mem_cons_self)]
    by_cases e : k = g
    · subst e
      simp [hnd1]
    · simp [e]
theorem put_comm (S : St) (f g : Nat) (a b : Mem) (h : f ≠ g) : (S.put f a).put g b = (S.put g b).put f a := by
  unfold St.put
  simp only [St.mk.injEq, true_and, and_true]
  exact List.set_comm _ _ h
theorem get_put_ne (S : St) (f g : Nat) (m : Mem) (h : g ≠ f) : (S.put f m).get g = S.get g := by
  unfold St.get St.put
  simp only [List.getD_eq_getElem?_getD, List.getElem?_set]
  rw [if_neg (fun e => h e.symm)]
theorem give_put (reg : Bool) (m : Mg) (f : Nat) (a : Mem) : ∀ (L : List Nat) (S : St), f ∉ L → (S.give reg m L).put f a = (S.put f a).give reg m L := by
  intro L
  induction L with
  | nil => intro S _; rfl
  | cons g L ih =>
    intro S hf
    have h1 : f ≠ g := fun e => hf (e ▸ List.mem_cons_self)
    unfold St.give
    rw [ih _ (fun e => hf (List.mem_cons_of_mem _ e)), get_put_ne S f g a h1.symm, put_comm _ _ _ _ _ h1.symm]
theorem route_mem {S : St} {f c : Int} {g : Nat} (h : g ∈ S.route f c) : g < 8 ∧ (g : Int) ≠ f ∧ hears (S.get g).subs (S.above.getD c.toNat 0) = true := by
  unfold St.route at h
  simpa [and_assoc] using h
theorem route_nodup (S : St) (f c : Int) : (S.route f c).Nodup := List.Nodup.sublist List.filter_sublist List.nodup_range
theorem sendE_zero {S : St} {f c b t : Int} {tm : Bool} (h : S.sendE f c b t tm = 0) : S.byE f = 0 ∧ ¬ S.noClass c ∧ 0 ≤ b ∧ b < 1000 ∧ (tm = true → 0 ≤ t ∧ t ≤ 1099511627776) ∧ (S.reg f tm = true → (outs S.members).getD f.toNat 0 ≤ t) ∧ ∀ g ∈ S.route f c, S.fullAt (S.reg f tm) g = false := by
  unfold St.sendE at h
  repeat' (split at h <;> try omega)
  rename_i h1 h2 h3 h4 h5 h6 h7
  refine ⟨Classical.not_not.1 h1, h2, by omega, by omega, fun e => ?_, fun e => ?_, fun g hg => ?_⟩
  · simp only [not_and, e, true_implies] at h5; omega
  · simp only [not_and, e, true_implies] at h6; omega
  · simp only [List.any_eq_true, not_exists, not_and, Bool.not_eq_true] at h7
    exact h7 g hg
theorem Ok.send {N : Int} {S : St} (h : S.Ok N) (hN : N + 1 < 9223372036854775808) (f c b t : Int) (tm : Bool) : (S.send f c b t tm).2.2.Ok (N + 1) := by
  have hup : S.Ok (N + 1) := ⟨hN, h.l8, h.p8, h.al, h.a0, h.a1, h.ab, h.pb, (fun g => by have := h.m g; exact ⟨this.t0, this.t1, this.l0, this.l1, this.k0, this.k1, this.a0, this.a1, this.s0, by have := this.s1; omega, this.srt, this.q, this.p, this.ql, this.pl, this.su, this.kask, this.kno, this.qno, this.out⟩), h.q1, h.p1, h.pno⟩
  unfold St.send
  by_cases he : S.sendE f c b t tm ≠ 0
  · rw [if_pos he]; exact hup
  · rw [if_neg he]
    have he : S.sendE f c b t tm = 0 := Classical.not_not.1 he
    obtain ⟨e1, e2, e3, e4, e5, e6, e7⟩ := sendE_zero he
    obtain ⟨f0, f1, f2, f3, f4⟩ := byE_zero e1
    have hfr : f.toNat ∉ S.route f c := fun k => (route_mem k).2.1 (by omega)
    have hsf := (h.m f.toNat).s0
    have hsf1 := (h.m f.toNat).s1
    have hmsg : ∀ g : Nat, g < 8 → MgOk S.par.length { S.msg f c b t tm with d := (g : Int) } := fun g hg => by
      unfold St.noClass at e2
      have := h.al
      unfold St.msg
      refine ⟨?_, ?_, f0, f1, hsf, by show (S.get f.toNat).sent < _; omega, by show (0 : Int) ≤ g; omega, by show (g : Int) < 8; omega, by show 0 ≤ c; omega, by show c < S.par.length; omega, e3, e4⟩
      · show 0 ≤ (if tm = true then t else 0)
        split
        · exact (e5 (by assumption)).1
        · omega
      · show (if tm = true then t else 0) ≤ 1099511627776
        split
        · exact (e5 (by assumption)).2
        · omega
    have hkey : ∀ g, ∀ x ∈ (S.get g).Q, x.k ≠ (S.msg f c b t tm).k := fun g x hx e => by
      have h1 := h.q1 g x hx
      rw [e] at h1
      exact Int.lt_irrefl _ h1
    have his : ∀ g ∈ S.route f c, (S.get g).is = true := fun g hg => by
      have h1 := (route_mem hg).2.2
      cases e : (S.get g).is with
      | true => rfl
      | false =>
        have := (h.m g).out e
        rw [this] at h1
        simp [hears] at h1
    cases tm with
    | false =>
      simp only [Bool.false_eq_true, if_false]
      exact Ok.give _ _ _ _ hup (route_nodup S f c) (fun g hg => ⟨(route_mem hg).1, e7 g hg, his g hg, hkey g⟩) hmsg (Int.le_refl _) (fun e => by simp [St.reg] at e)
    | true =>
      simp only [if_true]
      have hgf : ((S.give (S.reg f true) (S.msg f c b t true) (S.route f c)).get f.toNat) = S.get f.toNat := by
        rw [give_get _ _ _ _ h.l8 (route_nodup S f c) (fun g hg => (route_mem hg).1), if_neg hfr]
      rw [hgf, give_put _ _ _ _ _ _ hfr]
      have hm := h.m f.toNat
      have hok : (S.put f.toNat { S.get f.toNat with sent := (S.get f.toNat).sent + 1 }).Ok (N + 1) := by
        refine Ok.put h f2 (by omega) hN _ ⟨hm.t0, hm.t1, hm.l0, hm.l1, hm.k0, hm.k1, hm.a0, hm.a1, by show 0 ≤ (S.get f.toNat).sent + 1; omega, by show (S.get f.toNat).sent + 1 ≤ N + 1; omega, hm.srt, hm.q, hm.p, hm.ql, hm.pl, hm.su, hm.kask, hm.kno, hm.qno, fun e => by rw [f3] at e; cases e⟩ (by show (S.get f.toNat).sent ≤ (S.get f.toNat).sent + 1; omega) (fun x hx => ?_) (fun x hx => ?_) (fun e => by rw [f3] at e; cases e)
        · have := h.q1 f.toNat x hx
          split
          · rename_i e; rw [e] at this; show x.k.s < (S.get f.toNat).sent + 1; omega
          · exact this
        · have := h.p1 f.toNat x hx
          split
          · rename_i e; rw [e] at this; show x.k.s ≤ (S.get f.toNat).sent + 1; omega
          · exact this
      have hne : ∀ g ∈ S.route f c, g ≠ f.toNat := fun g hg e => hfr (e ▸ hg)
      have hsn : ((S.put f.toNat { S.get f.toNat with sent := (S.get f.toNat).sent + 1 }).get f.toNat).sent = (S.get f.toNat).sent + 1 := by rw [St.get_put S h.l8 _ _ f2, if_pos rfl]
      refine Ok.give _ _ _ _ hok (route_nodup S f c) (fun g hg => ⟨(route_mem hg).1, ?_, ?_, ?_⟩) hmsg ?_ (fun _ => ?_)
      · have := e7 g hg
        unfold St.fullAt at this ⊢
        rw [get_put_ne S _ _ _ (hne g hg)]
        exact this
      · rw [get_put_ne S _ _ _ (hne g hg)]; exact his g hg
      · rw [get_put_ne S _ _ _ (hne g hg)]; exact hkey g
      · show (S.get f.toNat).sent ≤ ((S.put f.toNat { S.get f.toNat with sent := (S.get f.toNat).sent + 1 }).get f.toNat).sent
        rw [hsn]; omega
      · show (S.get f.toNat).sent < ((S.put f.toNat { S.get f.toNat with sent := (S.get f.toNat).sent + 1 }).get f.toNat).sent
        rw [hsn]; omega
theorem upN_le (l : List Int) (t : Int) : upN l t ≤ l.length := by unfold upN; exact List.countP_le_length
end Go.Proofs.YtehnkebcbomidaaGreatDoor.Rt
end
section
namespace Go.Proofs.YtehnkebcbomidaaGreatDoor.Rt
def mg0 : Mg := ⟨⟨0, 0, 0⟩, 0, 0, 0⟩
def K (L : List Mg) (i : Nat) : Ky := (L.getD i mg0).k
def sw (L : List Mg) (i k : Nat) : List Mg := (L.set i (L.getD k mg0)).set k (L.getD i mg0)
theorem sw_length (L : List Mg) (i k : Nat) : (sw L i k).length = L.length := by simp [sw]
theorem sw_getD (L : List Mg) (i k x : Nat) (hi : i < L.length) (hk : k < L.length) : (sw L i k).getD x mg0 = if x = k then L.getD i mg0 else if x = i then L.getD k mg0 else L.getD x mg0 := by
  unfold sw
  simp only [List.getD_eq_getElem?_getD, List.getElem?_set, List.length_set]
  by_cases c : x = k
  · subst c; simp [hk]
  · have c' : ¬ k = x := fun e => c e.symm
    by_cases d : x = i
    · subst d; simp [c, c', hi]
    · have d' : ¬ i = x := fun e => d e.symm
      simp [c, c', d, d']
theorem sw_K (L : List Mg) (i k x : Nat) (hi : i < L.length) (hk : k < L.length) : K (sw L i k) x = if x = k then K L i else if x = i then K L k else K L x := by
  unfold K
  rw [sw_getD L i k x hi hk]
  split
  · rfl
  · split <;> rfl
theorem sw_perm (L : List Mg) (i k : Nat) (hi : i < L.length) (hk : k < L.length) : (sw L i k).Perm L := by
  have h := Array.swap_perm (xs := L.toArray) (i := i) (j := k) (by simpa using hi) (by simpa using hk)
  have e : (L.toArray.swap i k (by simpa using hi) (by simpa using hk)).toList = sw L i k := by
    unfold sw
    simp [List.getD_eq_getElem?_getD, List.getElem?_eq_getElem hi, List.getElem?_eq_getElem hk]
  have := h.toList
  rw [e] at this
  simpa using this
theorem sw_self (L : List Mg) (i : Nat) (hi : i < L.length) : sw L i i = L := by
  apply List.ext_getElem?
  intro x
  unfold sw
  simp only [List.getElem?_set, List.length_set]
  by_cases c : i = x
  · subst c; simp [hi, List.getD_eq_getElem?_getD, List.getElem?_eq_getElem hi]
  · simp [c]
def HeapOk (L : List Mg) (n : Nat) : Prop := ∀ i, 0 < i → i < n → ¬ (K L i).lt (K L ((i - 1) / 2))
theorem le_trans' {a b c : Ky} (h : ¬ b.lt a) (g : ¬ c.lt b) : ¬ c.lt a := by unfold Ky.lt at *; omega
theorem heap_min {L : List Mg} {n : Nat} (h : HeapOk L n) : ∀ m i, i ≤ m → i < n → ¬ (K L i).lt (K L 0) := by
  intro m
  induction m with
  | zero =>
    intro i hi _
    have : i = 0 := by omega
    subst this
    exact Ky.lt_irrefl _
  | succ m ih =>
    intro i hi hn
    by_cases c : i = 0
    · subst c; exact Ky.lt_irrefl _
    · exact le_trans' (ih ((i - 1) / 2) (by omega) (by omega)) (h i (by omega) hn)
def upF : Nat → List Mg → Nat → List Mg
  | 0, L, _ => L
  | n + 1, L, j => if j = 0 then L else if (K L j).lt (K L ((j - 1) / 2)) then upF n (sw L ((j - 1) / 2) j) ((j - 1) / 2) else L
structure UpInv (L : List Mg) (n j : Nat) : Prop where
  ok : ∀ i, 0 < i → i < n → i ≠ j → ¬ (K L i).lt (K L ((i - 1) / 2))
  gr : ∀ i, 0 < i → i < n → (i - 1) / 2 = j → 0 < j → ¬ (K L i).lt (K L ((j - 1) / 2))
theorem upF_spec (n : Nat) : ∀ (m : Nat) (L : List Mg) (j : Nat), j < m → j < n → n ≤ L.length → UpInv L n j → HeapOk (upF m L j) n ∧ (upF m L j).Perm L := by
  intro m
  induction m with
  | zero => intro L j h; omega
  | succ m ih =>
    intro L j hj hjn hn h
    unfold upF
    by_cases c : j = 0
    · rw [if_pos c]
      exact ⟨fun i h0 hi => h.ok i h0 hi (by omega), List.Perm.refl _⟩
    · rw [if_neg c]
      by_cases d : (K L j).lt (K L ((j - 1) / 2))
      · rw [if_pos d]
        have hK := fun x => sw_K L ((j - 1) / 2) j x (by omega) (by omega)
        have hinv : UpInv (sw L ((j - 1) / 2) j) n ((j - 1) / 2) := by
          refine ⟨fun i h0 hi hij => ?_, fun i h0 hi hij hp => ?_⟩
          · rw [hK, hK]
            by_cases e : i = j
            · subst e
              rw [if_pos rfl, if_neg (by omega), if_pos rfl]
              exact Ky.lt_asymm d
            · rw [if_neg e, if_neg hij]
              by_cases e2 : (i - 1) / 2 = j
              · rw [if_pos e2]
                exact h.gr i h0 hi e2 (by omega)
              · rw [if_neg e2]
                by_cases e3 : (i - 1) / 2 = (j - 1) / 2
                · rw [if_pos e3]
                  have := h.ok i h0 hi e
                  rw [e3] at this
                  exact le_trans' (Ky.lt_asymm d) this
                · rw [if_neg e3]
                  exact h.ok i h0 hi e
          · rw [hK, hK]
            have hpp : ((j - 1) / 2 - 1) / 2 ≠ j := by omega
            have hpq : ((j - 1) / 2 - 1) / 2 ≠ (j - 1) / 2 := by omega
            rw [if_neg hpp, if_neg hpq]
            have h1 := h.ok ((j - 1) / 2) hp (by omega) (by omega)
            by_cases e : i = j
            · rw [if_pos e]; exact h1
            · rw [if_neg e, if_neg (by omega)]
              have h2 := h.ok i h0 hi e
              rw [hij] at h2
              exact le_trans' h1 h2
        obtain ⟨r1, r2⟩ := ih (sw L ((j - 1) / 2) j) ((j - 1) / 2) (by omega) (by omega) (by rw [sw_length]; exact hn) hinv
        exact ⟨r1, r2.trans (sw_perm L _ _ (by omega) (by omega))⟩
      · rw [if_neg d]
        refine ⟨fun i h0 hi => ?_, List.Perm.refl _⟩
        by_cases e : i = j
        · rw [e]; exact d
        · exact h.ok i h0 hi e
theorem upF_length : ∀ (m : Nat) (L : List Mg) (j : Nat), (upF m L j).length = L.length := by
  intro m
  induction m with
  | zero => intro L j; rfl
  | succ m ih =>
    intro L j
    unfold upF
    split
    · rfl
    · split
      · rw [ih, sw_length]
      · rfl
def childF (L : List Mg) (n i : Nat) : Nat := if 2 * i + 2 < n ∧ (K L (2 * i + 2)).lt (K L (2 * i + 1)) then 2 * i + 2 else 2 * i + 1
def downF (n : Nat) : Nat → List Mg → Nat → List Mg × Nat
  | 0, L, i => (L, i)
  | m + 1, L, i => if n ≤ 2 * i + 1 then (L, i) else if (K L (childF L n i)).lt (K L i) then downF n m (sw L i (childF L n i)) (childF L n i) else (L, i)
structure DnInv (L : List Mg) (n i : Nat) : Prop where
  ok : ∀ k, 0 < k → k < n → (k - 1) / 2 ≠ i → ¬ (K L k).lt (K L ((k - 1) / 2))
  gr : ∀ k, 0 < k → k < n → (k - 1) / 2 = i → 0 < i → ¬ (K L k).lt (K L ((i - 1) / 2))
theorem child_spec (L : List Mg) (n i : Nat) (h : 2 * i + 1 < n) : childF L n i < n ∧ (childF L n i = 2 * i + 1 ∨ childF L n i = 2 * i + 2) ∧ ∀ k, 0 < k → k < n → (k - 1) / 2 = i → ¬ (K L k).lt (K L (childF L n i)) := by
  unfold childF
  by_cases c : 2 * i + 2 < n ∧ (K L (2 * i + 2)).lt (K L (2 * i + 1))
  · rw [if_pos c]
    refine ⟨c.1, .inr rfl, fun k h0 hk hp => ?_⟩
    have : k = 2 * i + 1 ∨ k = 2 * i + 2 := by omega
    rcases this with e | e
    · rw [e]; exact Ky.lt_asymm c.2
    · rw [e]; exact Ky.lt_irrefl _
  · rw [if_neg c]
    refine ⟨h, .inl rfl, fun k h0 hk hp => ?_⟩
    have : k = 2 * i + 1 ∨ k = 2 * i + 2 := by omega
    rcases this with e | e
    · rw [e]; exact Ky.lt_irrefl _
    · rw [e] at hk ⊢
      exact fun k => c ⟨hk, k⟩
theorem down_step (L : List Mg) (n i : Nat) (hn : n ≤ L.length) (h : 2 * i + 1 < n) (hc : (K L (childF L n i)).lt (K L i))
    (ok : ∀ k, 0 < k → k < n → k ≠ i → (k - 1) / 2 ≠ i → ¬ (K L k).lt (K L ((k - 1) / 2))) (gr : ∀ k, 0 < k → k < n → (k - 1) / 2 = i → 0 < i → ¬ (K L k).lt (K L ((i - 1) / 2))) : DnInv (sw L i (childF L n i)) n (childF L n i) := by
  obtain ⟨c1, c2, c3⟩ := child_spec L n i h
  generalize childF L n i = c at *
  have hK := fun x => sw_K L i c x (by omega) (by omega)
  refine ⟨fun k h0 hk hp => ?_, fun k h0 hk hp _ => ?_⟩
  · rw [hK, hK]
    by_cases e : k = c
    · rw [if_pos e, if_neg hp, if_pos (by omega)]
      exact Ky.lt_asymm hc
    · rw [if_neg e, if_neg hp]
      by_cases e2 : k = i
      · rw [if_pos e2, if_neg (by omega)]
        have := gr c (by omega) c1 (by omega) (by omega)
        rw [e2]
        exact this
      · rw [if_neg e2]
        by_cases e3 : (k - 1) / 2 = i
        · rw [if_pos e3]; exact c3 k h0 hk e3
        · rw [if_neg e3]; exact ok k h0 hk e2 e3
  · rw [hK, hK]
    rw [if_neg (by omega), if_neg (by omega), if_neg (by omega), if_pos (by omega)]
    have := ok k h0 hk (by omega) (by omega)
    rw [hp] at this
    exact this
theorem downF_spec (n : Nat) : ∀ (m : Nat) (L : List Mg) (i : Nat), n ≤ m + i → n ≤ L.length → DnInv L n i → HeapOk (downF n m L i).1 n ∧ (downF n m L i).1.Perm L := by
  intro m
  induction m with
  | zero =>
    intro L i hm hn h
    refine ⟨fun k h0 hk => h.ok k h0 hk (by omega), List.Perm.refl _⟩
  | succ m ih =>
    intro L i hm hn h
    unfold downF
    by_cases c : n ≤ 2 * i + 1
    · rw [if_pos c]
      exact ⟨fun k h0 hk => h.ok k h0 hk (by omega), List.Perm.refl _⟩
    · rw [if_neg c]
      obtain ⟨c1, c2, c3⟩ := child_spec L n i (by omega)
      by_cases d : (K L (childF L n i)).lt (K L i)
      · rw [if_pos d]
        have hinv := down_step L n i hn (by omega) d (fun k h0 hk _ hp => h.ok k h0 hk hp) h.gr
        obtain ⟨r1, r2⟩ := ih _ _ (by omega) (by rw [sw_length]; exact hn) hinv
        exact ⟨r1, r2.trans (sw_perm L _ _ (by omega) (by omega))⟩
      · rw [if_neg d]
        refine ⟨fun k h0 hk => ?_, List.Perm.refl _⟩
        by_cases e : (k - 1) / 2 = i
        · rw [e]; exact le_trans' d (c3 k h0 hk e)
        · exact h.ok k h0 hk e
theorem downF_length (n : Nat) : ∀ (m : Nat) (L : List Mg) (i : Nat), (downF n m L i).1.length = L.length := by
  intro m
  induction m with
  | zero => intro L i; rfl
  | succ m ih =>
    intro L i
    unfold downF
    split
    · rfl
    · split
      · rw [ih, sw_length]
      · rfl
theorem downF_high (n : Nat) : ∀ (m : Nat) (L : List Mg) (i : Nat), n ≤ L.length → i < n → ∀ x, n ≤ x → (downF n m L i).1.getD x mg0 = L.getD x mg0 := by
  intro m
  induction m with
  | zero => intro L i _ _ x _; rfl
  | succ m ih =>
    intro L i hn hi x hx
    unfold downF
    split
    · rfl
    · rename_i c
      split
      · obtain ⟨c1, c2, c3⟩ := child_spec L n i (by omega)
        rw [ih _ _ (by rw [sw_length]; exact hn) c1 x hx, sw_getD L _ _ x (by omega) (by omega), if_neg (by omega), if_neg (by omega)]
      · rfl
end Go.Proofs.YtehnkebcbomidaaGreatDoor.Rt
end
section
namespace Go.Proofs.YtehnkebcbomidaaGreatDoor.Rt
structure QH (L Q : List Mg) : Prop where
  heap : HeapOk L L.length
  perm : L.Perm Q
  srt : Srt Q
theorem QH.nil : QH [] [] := ⟨fun i _ h => by simp at h, List.Perm.refl _, List.Pairwise.nil⟩
theorem srt_nodup {Q : List Mg} (h : Srt Q) : (Q.map Mg.k).Nodup := by
  unfold List.Nodup
  rw [List.pairwise_map]
  exact h.imp (fun {a b} hab e => by rw [e] at hab; exact Ky.lt_irrefl _ hab)
theorem QH.nodup {L Q : List Mg} (h : QH L Q) : (L.map Mg.k).Nodup := (h.perm.map Mg.k).nodup_iff.2 (srt_nodup h.srt)
theorem QH.len {L Q : List Mg} (h : QH L Q) : L.length = Q.length := h.perm.length_eq
theorem K_take (L : List Mg) (n x : Nat) (h : x < n) : K (L.take n) x = K L x := by
  unfold K
  simp [List.getD_eq_getElem?_getD, List.getElem?_take, h]
theorem heap_take {L : List Mg} {n : Nat} (h : HeapOk L n) (hn : n ≤ L.length) : HeapOk (L.take n) (L.take n).length := by
  intro i h0 hi
  rw [List.length_take, Nat.min_eq_left hn] at hi
  rw [K_take _ _ _ hi, K_take _ _ _ (by omega)]
  exact h i h0 hi
theorem K_append (L : List Mg) (m : Mg) (x : Nat) : K (L ++ [m]) x = if x < L.length then K L x else if x = L.length then m.k else mg0.k := by
  unfold K
  simp only [List.getD_eq_getElem?_getD, List.getElem?_append]
  by_cases c : x < L.length
  · simp [c]
  · by_cases d : x = L.length
    · subst d; simp
    · have : x - L.length ≠ 0 := by omega
      simp [c, d, List.getElem?_eq_none (show [m].length ≤ x - L.length by simp; omega)]
theorem ins_perm (m : Mg) (Q : List Mg) : (ins m Q).Perm (m :: Q) := by
  induction Q with
  | nil => exact List.Perm.refl _
  | cons q Q ih =>
    unfold ins
    split
    · exact List.Perm.refl _
    · exact (List.Perm.cons q ih).trans (List.Perm.swap m q Q)
def pushL (L : List Mg) (m : Mg) : List Mg := upF (L.length + 1) (L ++ [m]) L.length
theorem upF_len (m : Nat) (L : List Mg) (j : Nat) : (upF m L j).length = L.length := upF_length m L j
theorem QH.push {L Q : List Mg} (h : QH L Q) (m : Mg) (hn : ∀ x ∈ Q, x.k ≠ m.k) : QH (pushL L m) (ins m Q) := by
  have hinv : UpInv (L ++ [m]) (L.length + 1) L.length := by
    refine ⟨fun i h0 hi hij => ?_, fun i h0 hi hp => by omega⟩
    rw [K_append, K_append, if_pos (by omega), if_pos (by omega)]
    exact h.heap i h0 (by omega)
  obtain ⟨r1, r2⟩ := upF_spec (L.length + 1) (L.length + 1) (L ++ [m]) L.length (by omega) (by omega) (by simp) hinv
  have hl : (pushL L m).length = L.length + 1 := by unfold pushL; rw [upF_len]; simp
  refine ⟨by rw [hl]; exact r1, ?_, ins_srt m Q h.srt hn⟩
  refine r2.trans ((List.perm_append_comm (l₁ := L) (l₂ := [m])).trans ?_)
  exact (List.Perm.cons m h.perm).trans (ins_perm m Q).symm
theorem QH.head {L Q : List Mg} {q : Mg} (h : QH L (q :: Q)) : 0 < L.length ∧ L.getD 0 mg0 = q := by
  have hl := h.len
  have h0 : 0 < L.length := by simp at hl; omega
  refine ⟨h0, ?_⟩
  have e0 : L.getD 0 mg0 = L[0] := by simp [List.getD_eq_getElem?_getD, List.getElem?_eq_getElem h0]
  have hm : L.getD 0 mg0 ∈ q :: Q := h.perm.mem_iff.1 (by rw [e0]; exact List.getElem_mem _)
  have hq : q ∈ L := h.perm.mem_iff.2 List.mem_cons_self
  obtain ⟨i, hi, rfl⟩ := List.getElem_of_mem hq
  have hmin := heap_min h.heap i i (Nat.le_refl _) hi
  rcases List.mem_cons.1 hm with e | e
  · exact e
  · have h1 := (List.pairwise_cons.1 h.srt).1 _ e
    have e1 : K L i = L[i].k := by unfold K; simp [List.getD_eq_getElem?_getD, List.getElem?_eq_getElem hi]
    rw [e1] at hmin
    exact absurd h1 hmin
theorem take_last (L : List Mg) (n : Nat) (h : L.length = n + 1) : L = L.take n ++ [L.getD n mg0] := by
  conv => lhs; rw [← List.take_append_drop n L]
  rw [List.drop_eq_getElem_cons (by omega), List.drop_of_length_le (by omega)]
  simp [List.getD_eq_getElem?_getD, List.getElem?_eq_getElem (show n < L.length by omega)]
def popT (L : List Mg) : List Mg := (downF (L.length - 1) (L.length - 1) (sw L 0 (L.length - 1)) 0).1
def popL (L : List Mg) : List Mg := (popT L).take (L.length - 1)
theorem popT_length (L : List Mg) : (popT L).length = L.length := by unfold popT; rw [downF_length, sw_length]
theorem QH.pop {L Q : List Mg} {q : Mg} (h : QH L (q :: Q)) : QH (popL L) Q ∧ (popT L).getD (L.length - 1) mg0 = q := by
  obtain ⟨h0, hq⟩ := h.head
  have hK := fun x => sw_K L 0 (L.length - 1) x h0 (by omega)
  have hsl := sw_length L 0 (L.length - 1)
  have hinv : DnInv (sw L 0 (L.length - 1)) (L.length - 1) 0 := by
    refine ⟨fun k k0 hk hp => ?_, fun k _ _ _ z => by omega⟩
    rw [hK, hK, if_neg (by omega), if_neg (by omega), if_neg (by omega), if_neg hp]
    exact h.heap k k0 (by omega)
  obtain ⟨r1, r2⟩ := downF_spec (L.length - 1) (L.length - 1) (sw L 0 (L.length - 1)) 0 (by omega) (by omega) hinv
  have hlast : (popT L).getD (L.length - 1) mg0 = q := by
    by_cases c : L.length - 1 = 0
    · unfold popT
      rw [c]
      show (sw L 0 0).getD 0 mg0 = q
      rw [sw_self L 0 h0]; exact hq
    · unfold popT
      rw [downF_high (L.length - 1) _ _ 0 (by omega) (by omega) _ (Nat.le_refl _), sw_getD L 0 (L.length - 1) _ h0 (by omega), if_pos rfl]
      exact hq
  have hp : ((popT L).take (L.length - 1) ++ [q]).Perm (q :: Q) := by
    have e := take_last (popT L) (L.length - 1) (by rw [popT_length]; omega)
    rw [hlast] at e
    rw [← e]
    exact r2.trans ((sw_perm L 0 (L.length - 1) h0 (by omega)).trans h.perm)
  refine ⟨⟨heap_take r1 (by show L.length - 1 ≤ (popT L).length; have := popT_length L; omega), ?_, (List.pairwise_cons.1 h.srt).2⟩, hlast⟩
  exact ((List.perm_append_comm (l₁ := [q])).trans hp).cons_inv
theorem srt_unique : ∀ {A B : List Mg}, Srt A → Srt B → A.Perm B → A = B := by
  intro A
  induction A with
  | nil => intro B _ _ h; exact (List.nil_perm.1 h).symm ▸ rfl
  | cons a A ih =>
    intro B hA hB h
    cases B with
    | nil => exact absurd h.length_eq (by simp)
    | cons b B =>
      obtain ⟨a1, a2⟩ := List.pairwise_cons.1 hA
      obtain ⟨b1, b2⟩ := List.pairwise_cons.1 hB
      have hab : a = b := by
        rcases List.mem_cons.1 (h.mem_iff.1 List.mem_cons_self) with e | e
        · exact e
        · rcases List.mem_cons.1 (h.mem_iff.2 List.mem_cons_self) with e2 | e2
          · exact e2.symm
          · exact absurd (a1 b e2) (Ky.lt_asymm (b1 a e))
      subst hab
      rw [ih a2 b2 h.cons_inv]
def idx (L : List Mg) (k : Ky) : Option Nat := L.findIdx? (fun m => decide (m.k = k))
theorem idx_iff {L : List Mg} (hn : (L.map Mg.k).Nodup) (k : Ky) (i : Nat) : idx L k = some i ↔ i < L.length ∧ K L i = k := by
  unfold idx
  rw [List.findIdx?_eq_some_iff_getElem]
  constructor
  · rintro ⟨h, h1, h2⟩
    exact ⟨h, by unfold K; simpa [List.getD_eq_getElem?_getD, List.getElem?_eq_getElem h] using h1⟩
  · rintro ⟨h, h1⟩
    have h1' : L[i].k = k := by unfold K at h1; simpa [List.getD_eq_getElem?_getD, List.getElem?_eq_getElem h] using h1
    refine ⟨h, by simpa using h1', fun j hji => ?_⟩
    simp only [decide_eq_true_eq]
    intro e
    exact List.pairwise_iff_getElem.1 hn j i (by simp; omega) (by simpa using h) hji (by simp [e, h1'])
theorem idx_none {L : List Mg} (k : Ky) : idx L k = none ↔ ∀ m ∈ L, m.k ≠ k := by
  unfold idx
  rw [List.findIdx?_eq_none_iff]
  simp
end Go.Proofs.YtehnkebcbomidaaGreatDoor.Rt
end
namespace Go.Proofs.YtehnkebcbomidaaGreatDoor.Rt
open Go Go.RowKit Go.Proofs
def I64 (n : Int) : Prop := (Lit.int .i64 n).wf = true
def Ky.ok (k : Ky) : Prop := I64 k.t ∧ I64 k.f ∧ I64 k.s
def Ky.val (k : Ky) : Value := .agg #[.int .i64 k.t, .int .i64 k.f, .int .i64 k.s]
def Mg.cells (m : Mg) : List Value := [.int .i64 m.k.t, .int .i64 m.k.f, .int .i64 m.k.s, .int .i64 m.d, .int .i64 m.cl, .int .i64 m.bd]
def Mg.val (m : Mg) : Value := .agg #[.int .i64 m.k.t, .int .i64 m.k.f, .int .i64 m.k.s, .int .i64 m.d, .int .i64 m.cl, .int .i64 m.bd]
def flatM (L : List Mg) : List Value := L.flatMap Mg.cells
theorem flatM_length (L : List Mg) : (flatM L).length = L.length * 6 := by
  induction L with
  | nil => rfl
  | cons m L ih => simp only [flatM, List.flatMap_cons, List.length_append, List.length_cons] at ih ⊢; rw [ih]; simp [Mg.cells]; omega
theorem laidOut : laidOutB Tryz.prog = true := by kernel_rfl
theorem law39 : Go.Maps.Keyed Tryz.prog 39 := Go.Maps.Keyed.of_law (deep_law_laid laidOut (m := 8) (by decide) (of_decide_eq_true (by kernel_rfl)) (by kernel_rfl) (by kernel_rfl))
theorem zero3 (w : World) : (zeroValue 3).run Tryz.prog w = .ok (.int .i64 0) w := by kernel_rfl
theorem types_succ : ∃ n, Tryz.prog.types.size + 1 = n + 2 := by
  have : 1 ≤ Tryz.prog.types.size := of_decide_eq_true (by kernel_rfl)
  exact ⟨Tryz.prog.types.size - 1, by omega⟩
def klit (k : Ky) : Lit := .string (keyBytes [.int .i64 k.t, .int .i64 k.f, .int .i64 k.s])
theorem lit3 (n : Nat) (a : Int) (h : I64 a) : Tryz.prog.keyLits (n + 1) 3 [.int .i64 a] = some [.int .i64 a] := by
  unfold Program.keyLits
  rw [Tryz.underlying3]
  simp [show (Lit.int .i64 a).wf = true from h]
theorem kt39 : Tryz.prog.keyType 39 = true := by kernel_rfl
theorem cells39 : Tryz.prog.cellsOf 39 = 3 := by kernel_rfl
theorem cells3 : Tryz.prog.cellsOf 3 = 1 := by kernel_rfl
theorem formed39 (k : Ky) : k.val.formed Tryz.prog 39 = true := by kernel_rfl
theorem key_of (k : Ky) (h : k.ok) : keyOf Tryz.prog 39 k.val = some (klit k) := by
  obtain ⟨n, hn⟩ := types_succ
  unfold keyOf
  rw [Tryz.underlying39]
  simp only [kt39, formed39, Bool.and_self, if_true, hn]
  have e : Tryz.prog.keyLits (n + 2) 39 k.val.cells.toList = some [.int .i64 k.t, .int .i64 k.f, .int .i64 k.s] := by
    unfold Program.keyLits
    rw [Tryz.underlying39]
    simp [cells39, cells3, Ky.val, Value.cells, lit3 n _ h.1, lit3 n _ h.2.1, lit3 n _ h.2.2]
  rw [e]; rfl
theorem klit_inj {a b : Ky} (ha : a.ok) (hb : b.ok) (h : klit a = klit b) : a = b := by
  have h1 := key_of a ha
  have h2 := key_of b hb
  rw [h] at h1
  have h3 := law39.inj h1 h2
  obtain ⟨a1, a2, a3⟩ := a
  obtain ⟨b1, b2, b3⟩ := b
  simp [Ky.val] at h3
  simp [h3]
end Go.Proofs.YtehnkebcbomidaaGreatDoor.Rt
