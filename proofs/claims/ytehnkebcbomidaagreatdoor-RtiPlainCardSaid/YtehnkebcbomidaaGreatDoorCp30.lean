/- Part of a proof over the given program: An, Lu, Rx, Pk, Pl, Lp, Lw. -/
import Derived.Test.YtehnkebcbomidaaGreatDoorCp29
import Derived.Test.YtehnkebcbomidaaGreatDoorCp19
import Derived.Test.YtehnkebcbomidaaGreatDoorCp26
import Derived.Test.YtehnkebcbomidaaGreatDoorCp22
import Derived.Test.YtehnkebcbomidaaGreatDoorCp25
import Derived.Test.YtehnkebcbomidaaGreatDoorCp27
import Derived.Test.YtehnkebcbomidaaGreatDoorCp20
section
set_option linter.unusedVariables false
set_option linter.unusedSimpArgs false
namespace Go.Proofs.YtehnkebcbomidaaGreatDoor.Rt
open Go Go.RowKit Go.Proofs
theorem MPost.no {H : Sh} {w : World} {S S' : St} {f : Int} {r : Int} (hR : RAt H w S) (hs : (S.byE f, S) = (r, S')) {e : Ending} {w' : World} (h : e = .returned (.int .i64 (S.byE f)) ∧ Below w.heap.size w w') : MPost H w (.int .i64 r) S' e w' := by
  cases hs
  obtain ⟨rfl, hb⟩ := h
  exact MPost.same hR hb _
theorem join_call (w : World) (H : Sh) (S : St) {N : Int} (hR : RAt H w S) (ok : S.Ok N) (f : Int) :
    Calls Tryz.prog 34 #[.pointer (some ⟨H.r, 0, none⟩), .int .i64 f] w (MPost H w (.int .i64 (S.join f).1) (S.join f).2) := by
  by_cases h : f < 0 ∨ 8 ≤ f
  · have e : S.join f = (1, S) := by unfold St.join; rw [if_pos h]
    rw [e]
    refine (join_out w H.r f h).mono ?_
    rintro e w' ⟨rfl, rfl⟩
    exact MPost.same hR (Below.refl _ _) _
  · obtain ⟨n, rfl⟩ : ∃ n : Nat, f = n := ⟨f.toNat, by omega⟩
    exact join_in w H S hR ok.l8 n (by omega)
theorem publish_call (w : World) (H : Sh) (S : St) {N : Int} (hR : RAt H w S) (ok : S.Ok N) (f : Int) (c : Int) (is : Bool) :
    Calls Tryz.prog 35 #[.pointer (some ⟨H.r, 0, none⟩), .int .i64 f, .int .i64 c, .bool is] w (MPost H w (.int .i64 (S.publish f c is).1) (S.publish f c is).2) := by
  by_cases he : S.byE f = 0
  · obtain ⟨n, rfl, hn⟩ := yes_in he
    exact publish_yes w H S hR ok n hn he c is
  · refine (publish_no w H S hR f c is he).mono (fun e w' h => MPost.no hR ?_ h)
    unfold St.publish
    rw [if_pos he]
theorem subscribe_call (w : World) (H : Sh) (S : St) {N : Int} (hR : RAt H w S) (ok : S.Ok N) (f : Int) (c : Int) (is : Bool) :
    Calls Tryz.prog 36 #[.pointer (some ⟨H.r, 0, none⟩), .int .i64 f, .int .i64 c, .bool is] w (MPost H w (.int .i64 (S.subscribe f c is).1) (S.subscribe f c is).2) := by
  by_cases he : S.byE f = 0
  · obtain ⟨n, rfl, hn⟩ := yes_in he
    exact subscribe_yes w H S hR ok n hn he c is
  · refine (subscribe_no w H S hR f c is he).mono (fun e w' h => MPost.no hR ?_ h)
    unfold St.subscribe
    rw [if_pos he]
theorem regulate_call (w : World) (H : Sh) (S : St) {N : Int} (hR : RAt H w S) (ok : S.Ok N) (f : Int) (lk : Int) :
    Calls Tryz.prog 37 #[.pointer (some ⟨H.r, 0, none⟩), .int .i64 f, .int .i64 lk] w (MPost H w (.int .i64 (S.regulate f lk).1) (S.regulate f lk).2) := by
  by_cases he : S.byE f = 0
  · obtain ⟨n, rfl, hn⟩ := yes_in he
    by_cases hk : 1 ≤ lk
    · exact regulate_y w H S hR ok.l8 n hn he lk hk
    · exact regulate_n w H S hR ok.l8 n hn he lk hk
  · refine (regulate_no w H S hR f lk he).mono (fun e w' h => MPost.no hR ?_ h)
    unfold St.regulate
    rw [if_pos he]
theorem constrain_call (w : World) (H : Sh) (S : St) {N : Int} (hR : RAt H w S) (ok : S.Ok N) (f : Int) :
    Calls Tryz.prog 38 #[.pointer (some ⟨H.r, 0, none⟩), .int .i64 f] w (MPost H w (.int .i64 (S.constrain f).1) (S.constrain f).2) := by
  by_cases he : S.byE f = 0
  · obtain ⟨n, rfl, hn⟩ := yes_in he
    exact constrain_yes w H S hR ok.l8 n hn he
  · refine (constrain_no w H S hR f he).mono (fun e w' h => MPost.no hR ?_ h)
    unfold St.constrain
    rw [if_pos he]
theorem ask_call (w : World) (H : Sh) (S : St) {N : Int} (hR : RAt H w S) (ok : S.Ok N) (f : Int) (k t : Int) :
    Calls Tryz.prog 25 #[.pointer (some ⟨H.r, 0, none⟩), .int .i64 f, .int .i64 k, .int .i64 t] w (MPost H w (.int .i64 (S.ask f k t).1) (S.ask f k t).2) := by
  by_cases he : S.byE f = 0
  · obtain ⟨n, rfl, hn⟩ := yes_in he
    by_cases hk : 1 ≤ k <;> by_cases ht : 0 ≤ t
    · exact ask_yy w H S hR ok.l8 n hn he k t hk ht
    · exact ask_yn w H S hR ok.l8 n hn he k t hk ht
    · exact ask_ny w H S hR ok.l8 n hn he k t hk ht
    · exact ask_nn w H S hR ok.l8 n hn he k t hk ht
  · refine (ask_no w H S hR f k t he).mono (fun e w' h => MPost.no hR ?_ h)
    unfold St.ask
    rw [if_pos he]
end Go.Proofs.YtehnkebcbomidaaGreatDoor.Rt
end
section
set_option linter.unusedVariables false
set_option linter.unusedSimpArgs false
namespace Go.Proofs.YtehnkebcbomidaaGreatDoor.Rt
open Go Go.RowKit Go.Proofs Go.Proofs.YtehnkebcbomidaaGreatDoorW.PrintWords Go.Proofs.YtehnkebcbomidaaGreatDoorW.PrintLast
structure LookAt (H : Sh) (w : World) (G : Gv) (S' : St) (H' : Sh) (vp vt : Value) (w' : World) : Prop where
  turn : Turn H w S' H' w'
  p : w'.ownsRow 0 41 6 vp G.plain.length (flatM G.plain)
  t : w'.ownsRow 0 41 6 vt G.timed.length (flatM G.timed)
  pow : ∀ k, vp.ownBlock = some k → H'.own k = 0
  tow : ∀ k, vt.ownBlock = some k → H'.own k = 0
def LPost (H : Sh) (w : World) (G : Gv) (E : Int) (S' : St) (e : Ending) (w' : World) : Prop :=
  ∃ H' vp vt, e = .returned (.tuple #[.agg #[vp, vt, .bool G.granted, .int .i64 G.time], .int .i64 E]) ∧ LookAt H w G S' H' vp vt w'
def Sh.release (H : Sh) (n : Nat) : Sh := { H with own := fun k => if H.own k = 16 + n then 0 else H.own k }
theorem RAt.release {H : Sh} {W : World} {S : St} (h : RAt H W S) {n : Nat} (hn : n < 8) (hp : H.pl n = .slice none 0 0) : RAt (H.release n) W S := by
  have hne : ∀ k j, H.own k = j → j ≠ 16 + n → (H.release n).own k = j := fun k j e hj => by
    show (if H.own k = 16 + n then 0 else H.own k) = j
    rw [if_neg (by omega)]
    exact e
  refine ⟨h.env, hne 0 0 h.o0 (by omega), h.blk, h.tab, h.par, h.que, h.pla, hne _ 1 h.o1 (by omega), hne _ 2 h.o2 (by omega), fun k hk => hne k 3 (h.o3 k hk) (by omega), fun k hk => hne k 4 (h.o4 k hk) (by omega), fun m hm k hk => hne k _ (h.oq m hm k hk) (by omega), fun m hm k hk => ?_, fun k hk => h.lt k (fun e => hk ?_)⟩
  · by_cases e : m = n
    · subst e
      have hk : (H.pl m).ownBlock = some k := hk
      rw [hp] at hk
      cases hk
    · exact hne k _ (h.op m hm k hk) (by omega)
  · show (if H.own k = 16 + n then 0 else H.own k) = 0
    split
    · rfl
    · exact e
theorem Turn.release {H H1 : Sh} {w w1 : World} {S1 : St} (h : Turn H w S1 H1 w1) {n : Nat} (hn : n < 8) (hp : H1.pl n = .slice none 0 0) : Turn H w S1 (H1.release n) w1 :=
  ⟨h.at_.release hn hp, h.r, fun k hk h0 => by
    show (if H1.own k = 16 + n then 0 else H1.own k) = 0
    split
    · rfl
    · exact h.own k hk h0, h.tch⟩
theorem Sh.release_own (H : Sh) (n k : Nat) (h : H.own k = 0 ∨ H.own k = 16 + n) : (H.release n).own k = 0 := by
  show (if H.own k = 16 + n then 0 else H.own k) = 0
  split
  · rfl
  · rcases h with h | h
    · exact h
    · rename_i c; exact absurd h c
def put4 (W : World) (b : Nat) (v0 v1 v2 v3 : Value) : World := (((W.setCell ⟨b, 0, none⟩ v0).setCell ⟨b, 1, none⟩ v1).setCell ⟨b, 2, none⟩ v2).setCell ⟨b, 3, none⟩ v3
theorem put4_blk {W : World} {b : Nat} {a0 a1 a2 a3 : Value} (h : W.heap[b]? = some (.cells #[a0, a1, a2, a3] 31 (0, 0))) (v0 v1 v2 v3 : Value) : (put4 W b v0 v1 v2 v3).heap[b]? = some (.cells #[v0, v1, v2, v3] 31 (0, 0)) := by
  have h0 := heap_setCell_same W b 0 _ 31 v0 h
  have h1 := heap_setCell_same _ b 1 _ 31 v1 h0
  have h2 := heap_setCell_same _ b 2 _ 31 v2 h1
  exact heap_setCell_same _ b 3 _ 31 v3 h2
theorem put4_tch (W : World) (b : Nat) (v0 v1 v2 v3 : Value) : Tch (fun k => k = b) W (put4 W b v0 v1 v2 v3) :=
  (((Tch.setCell (P := fun k => k = b) (Tch.refl _ W) (p := ⟨b, 0, none⟩) (.inl rfl) _).setCell (p := ⟨b, 1, none⟩) (.inl rfl) _).setCell (p := ⟨b, 2, none⟩) (.inl rfl) _).setCell (p := ⟨b, 3, none⟩) (.inl rfl) _
theorem g_cells {W : World} {b : Nat} {a0 a1 a2 a3 : Value} (h : W.heap[b]? = some (.cells #[a0, a1, a2, a3] 31 (0, 0))) :
    W.cell? ⟨b, 0, none⟩ = some a0 ∧ W.cell? ⟨b, 1, none⟩ = some a1 ∧ W.cell? ⟨b, 2, none⟩ = some a2 ∧ W.cell? ⟨b, 3, none⟩ = some a3 ∧ W.frozen? ⟨b, 0, none⟩ = false ∧ W.frozen? ⟨b, 1, none⟩ = false ∧ W.frozen? ⟨b, 2, none⟩ = false ∧ W.frozen? ⟨b, 3, none⟩ = false := by
  refine ⟨?_, ?_, ?_, ?_, ?_, ?_, ?_, ?_⟩ <;> simp [World.cell?, World.frozen?, h]
theorem ret26 {R : Ending → World → Prop} {a : Act} {W : World} {b4 : Nat} {v0 v1 v2 v3 u : Value} (h4 : a.tmps.getD 4 undef = .pointer (some ⟨b4, 0, none⟩)) (h5 : a.tmps.getD 5 undef = u) (hd : a.defers = []) (hblk : W.heap[b4]? = some (.cells #[v0, v1, v2, v3] 31 (0, 0))) (h : R (.returned (.tuple #[.agg #[v0, v1, v2, v3], u])) W) : bodyPost Tryz.prog Tryz.f26 R .ret a W := by
  obtain ⟨k0, k1, k2, k3, f0, f1, f2, f3⟩ := g_cells hblk
  have hu31 := Tryz.underlying31
  refine ⟨hd, _, ?_, h⟩
  have e4 : a.tmps[4]?.getD undef = .pointer (some ⟨b4, 0, none⟩) := by simpa using h4
  have e5 : a.tmps[5]?.getD undef = u := by simpa using h5
  simp [results, Tryz.results26, e4, e5]
  go_simp
set_option maxHeartbeats 8000000 in
set_option maxRecDepth 100000 in
theorem look_no (w : World) (H : Sh) (S : St) (hR : RAt H w S) (f : Int) (he : S.byE f ≠ 0) :
    Calls Tryz.prog 26 #[.pointer (some ⟨H.r, 0, none⟩), .int .i64 f] w (LPost H w ⟨[], [], false, 0⟩ (S.byE f) S) := by
  have hba : Below w.heap.size w (w.alloc (.cells #[.slice none 0 0, .slice none 0 0, .bool false, .int .i64 0] 31)) := (Below.refl _ w).alloc (Nat.le_refl _) _
  have hb := by_no (w.alloc (.cells #[.slice none 0 0, .slice none 0 0, .bool false, .int .i64 0] 31)) H S (hR.below hba) f he
  have HB := Lib.hid hb
  have HR := Lib.hid hR
  have HBA := Lib.hid hba
  have hu31 := Tryz.underlying31
  clear hb hR he hba
  go_enter Tryz.func26, Tryz.ntmps26
  go_wp2_with (go_at_call 63; (with_reducible refine HB.out.mono ?_); rintro e w1 ⟨g, rfl, hb1, hc1⟩)
  have HB1 := Lib.hid hb1
  have HC1 := Lib.hid hc1
  clear hb1 hc1
  have hblk0 := heap_alloc_new w (.cells #[.slice none 0 0, .slice none 0 0, .bool false, .int .i64 0] 31)
  have hblk1 := (HB1.out.block w.heap.size (by simp)).trans hblk0
  have HBLK1 := Lib.hid hblk1
  clear hblk0 hblk1
  go_wp2_with (go_at_call 64; (with_reducible refine HC1.out.mono ?_); rintro e w2 ⟨rfl, hb2⟩; have hblk2 := (hb2.block w.heap.size (by have := HB1.out.size; simp at this; omega)).trans HBLK1.out; obtain ⟨k0, k1, k2, k3, f0, f1, f2, f3⟩ := g_cells hblk2; have HBLK2 := Lib.hid hblk2; have HB2 := Lib.hid hb2; clear hblk2 hb2)
  have hb4 := put4_blk HBLK2.out (.slice none 0 0) (.slice none 0 0) (.bool false) (.int .i64 0)
  have ht4 := put4_tch w2 w.heap.size (.slice none 0 0) (.slice none 0 0) (.bool false) (.int .i64 0)
  unfold put4 at hb4 ht4
  try simp only [Exit.inBlock, Exit.then]
  refine ret26 rfl rfl rfl hb4 ?_
  have hba := HBA.out
  have hb1 := hba.trans (HB1.out.mono hba.size)
  have hb2 := hb1.trans (HB2.out.mono hb1.size)
  have hb5 : Below w.heap.size w _ := hb2.trans (ht4.below hb2.size (fun k hk e => by omega))
  exact ⟨H, _, _, rfl, ⟨(Turn.refl HR.out).below hb5, World.ownsRow_nil _ _ _ _, World.ownsRow_nil _ _ _ _, fun k hk => (by cases hk), fun k hk => (by cases hk)⟩⟩
end Go.Proofs.YtehnkebcbomidaaGreatDoor.Rt
end
section
set_option linter.unusedVariables false
set_option linter.unusedSimpArgs false
namespace Go.Proofs.YtehnkebcbomidaaGreatDoor.Rt
open Go Go.RowKit Go.Proofs Go.Proofs.YtehnkebcbomidaaGreatDoorW.PrintWords Go.Proofs.YtehnkebcbomidaaGreatDoorW.PrintLast
def Rti (K : Nat → Prop) (r : Nat) (w : World) (S : St) : Prop := ∃ H : Sh, RAt H w S ∧ H.r = r ∧ ∀ k, K k → k < w.heap.size ∧ H.own k = 0
structure RPost (K : Nat → Prop) (r : Nat) (w : World) (v : Value) (S' : St) (e : Ending) (w' : World) : Prop where
  e : e = .returned v
  at_ : Rti K r w' S'
  tch : Tch (fun k => ¬ K k) w w'
theorem Rti.turn {K : Nat → Prop} {r : Nat} {w w' : World} {S' : St} {H H' : Sh} (hr : H.r = r) (hK : ∀ k, K k → k < w.heap.size ∧ H.own k = 0) (h : Turn H w S' H' w') : Rti K r w' S' ∧ Tch (fun k => ¬ K k) w w' :=
  ⟨⟨H', h.at_, h.r.trans hr, fun k hk => ⟨Nat.lt_of_lt_of_le (hK k hk).1 h.tch.size, h.own k (hK k hk).1 (hK k hk).2⟩⟩, h.tch.mono (fun k hk e hkk => e (hK k hkk).2)⟩
theorem Rti.of {K : Nat → Prop} {r : Nat} {w : World} {S S' : St} {v : Value} {fn : Nat} {args : Array Value} (h : Rti K r w S) (hc : ∀ H : Sh, RAt H w S → H.r = r → Calls Tryz.prog fn args w (MPost H w v S')) : Calls Tryz.prog fn args w (RPost K r w v S') := by
  obtain ⟨H, hR, hr, hK⟩ := h
  refine (hc H hR hr).mono (fun e w' hp => ?_)
  obtain ⟨h1, H', hT⟩ := hp.turn_
  obtain ⟨a, b⟩ := Rti.turn hr hK hT
  exact ⟨h1, a, b⟩
theorem Rti.below {K : Nat → Prop} {r : Nat} {w w' : World} {S : St} (h : Rti K r w S) (hb : Below w.heap.size w w') : Rti K r w' S := by
  obtain ⟨H, hR, hr, hK⟩ := h
  exact ⟨H, hR.below hb, hr, fun k hk => ⟨Nat.lt_of_lt_of_le (hK k hk).1 hb.size, (hK k hk).2⟩⟩
theorem Rti.fewer {K K' : Nat → Prop} {r : Nat} {w : World} {S : St} (h : Rti K r w S) (hk : ∀ k, K' k → K k) : Rti K' r w S := by
  obtain ⟨H, hR, hr, hK⟩ := h
  exact ⟨H, hR, hr, fun k hkk => hK k (hk k hkk)⟩
section
variable {K : Nat → Prop} {r : Nat} {w : World} {S : St} {N : Int} (h : Rti K r w S) (ok : S.Ok N)
include h ok
theorem Rti.join (f : Int) : Calls Tryz.prog 34 #[.pointer (some ⟨r, 0, none⟩), .int .i64 f] w (RPost K r w (.int .i64 (S.join f).1) (S.join f).2) := h.of (fun H hR hr => by subst hr; exact join_call w H S hR ok f)
theorem Rti.publish (f c : Int) (is : Bool) : Calls Tryz.prog 35 #[.pointer (some ⟨r, 0, none⟩), .int .i64 f, .int .i64 c, .bool is] w (RPost K r w (.int .i64 (S.publish f c is).1) (S.publish f c is).2) := h.of (fun H hR hr => by subst hr; exact publish_call w H S hR ok f c is)
theorem Rti.subscribe (f c : Int) (is : Bool) : Calls Tryz.prog 36 #[.pointer (some ⟨r, 0, none⟩), .int .i64 f, .int .i64 c, .bool is] w (RPost K r w (.int .i64 (S.subscribe f c is).1) (S.subscribe f c is).2) := h.of (fun H hR hr => by subst hr; exact subscribe_call w H S hR ok f c is)
theorem Rti.regulate (f k : Int) : Calls Tryz.prog 37 #[.pointer (some ⟨r, 0, none⟩), .int .i64 f, .int .i64 k] w (RPost K r w (.int .i64 (S.regulate f k).1) (S.regulate f k).2) := h.of (fun H hR hr => by subst hr; exact regulate_call w H S hR ok f k)
theorem Rti.constrain (f : Int) : Calls Tryz.prog 38 #[.pointer (some ⟨r, 0, none⟩), .int .i64 f] w (RPost K r w (.int .i64 (S.constrain f).1) (S.constrain f).2) := h.of (fun H hR hr => by subst hr; exact constrain_call w H S hR ok f)
theorem Rti.ask (f k t : Int) : Calls Tryz.prog 25 #[.pointer (some ⟨r, 0, none⟩), .int .i64 f, .int .i64 k, .int .i64 t] w (RPost K r w (.int .i64 (S.ask f k t).1) (S.ask f k t).2) := h.of (fun H hR hr => by subst hr; exact ask_call w H S hR ok f k t)
theorem Rti.send (hN : N + 1 < 9223372036854775808) (f c body t : Int) (timed : Bool) : Calls Tryz.prog 24 #[.pointer (some ⟨r, 0, none⟩), .int .i64 f, .int .i64 c, .int .i64 body, .int .i64 t, .bool timed] w (RPost K r w (.tuple #[.int .i64 (S.send f c body t timed).1, .int .i64 (S.send f c body t timed).2.1]) (S.send f c body t timed).2.2) := h.of (fun H hR hr => by subst hr; exact send_call w H S hR ok hN f c body t timed)
omit ok in
theorem Rti.time (f : Int) : Calls Tryz.prog 39 #[.pointer (some ⟨r, 0, none⟩), .int .i64 f] w fun e w' => e = .returned (.int .i64 (S.timeOf f)) ∧ Below w.heap.size w w' := by
  obtain ⟨H, hR, rfl, _⟩ := h
  by_cases hf : f < 0 ∨ 8 ≤ f
  · have e : S.timeOf f = -1 := by
      unfold St.timeOf
      rw [if_pos (by omega)]
    rw [e]
    exact time_out w H.r f hf
  · obtain ⟨n, rfl⟩ : ∃ n : Nat, f = n := ⟨f.toNat, by omega⟩
    have hn : n < 8 := by omega
    have e : S.timeOf n = if (S.get n).is then (S.get n).time else -1 := by
      unfold St.timeOf
      rw [Int.toNat_natCast]
      cases (S.get n).is <;> simp <;> omega
    rw [e]
    exact time_call w H.r n _ _ hn (hR.c_is hn) (hR.c_time hn)
end
structure GPost (K : Nat → Prop) (r : Nat) (w : World) (G : Gv) (S' : St) (vp vt : Value) (w' : World) : Prop where
  at_ : Rti (fun k => K k ∨ vp.ownBlock = some k ∨ vt.ownBlock = some k) r w' S'
  tch : Tch (fun k => ¬ K k) w w'
  p : w'.ownsRow 0 41 6 vp G.plain.length (flatM G.plain)
  t : w'.ownsRow 0 41 6 vt G.timed.length (flatM G.timed)
def GEnd (K : Nat → Prop) (r : Nat) (w : World) (G : Gv) (E : Int) (S' : St) (e : Ending) (w' : World) : Prop :=
  ∃ vp vt, e = .returned (.tuple #[.agg #[vp, vt, .bool G.granted, .int .i64 G.time], .int .i64 E]) ∧ GPost K r w G S' vp vt w'
theorem Rti.look_of {K : Nat → Prop} {r : Nat} {w : World} {S S' : St} {G : Gv} {E : Int} {args : Array Value} (h : Rti K r w S) (hc : ∀ H : Sh, RAt H w S → H.r = r → Calls Tryz.prog 26 args w (LPost H w G E S')) : Calls Tryz.prog 26 args w (GEnd K r w G E S') := by
  obtain ⟨H, hR, hr, hK⟩ := h
  refine (hc H hR hr).mono (fun e w' hp => ?_)
  obtain ⟨H', vp, vt, he, hL⟩ := hp
  obtain ⟨a, b⟩ := Rti.turn hr hK hL.turn
  refine ⟨vp, vt, he, ⟨H', hL.turn.at_, hL.turn.r.trans hr, fun k hk => ?_⟩, b, hL.p, hL.t⟩
  rcases hk with hk | hk | hk
  · exact ⟨Nat.lt_of_lt_of_le (hK k hk).1 hL.turn.tch.size, hL.turn.own k (hK k hk).1 (hK k hk).2⟩
  · exact ⟨own_lt hL.p k hk, hL.pow k hk⟩
  · exact ⟨own_lt hL.t k hk, hL.tow k hk⟩
theorem rti_new {w w' : World} {P : List Int} {e : Ending} (h : NewPost w P e w') : ∃ r, e = .returned (.tuple #[.pointer (some ⟨r, 0, none⟩), .int .i64 0]) ∧ Rti (fun k => k < w.heap.size) r w' (St.new P) ∧ Below w.heap.size w w' := by
  obtain ⟨H, h1, h2, h3, h4⟩ := h
  exact ⟨H.r, h1, ⟨H, h2, rfl, fun k hk => ⟨Nat.lt_of_lt_of_le hk h4.size, h3 k hk⟩⟩, h4⟩
end Go.Proofs.YtehnkebcbomidaaGreatDoor.Rt
end
section
set_option linter.unusedVariables false
set_option linter.unusedSimpArgs false
namespace Go.Proofs.YtehnkebcbomidaaGreatDoor.Rt
theorem regulate_ok {S : St} {f look : Int} (hb : S.byE f = 0) (h1 : (S.get f.toNat).look = 0) (h2 : (S.get f.toNat).kind = 0) (h3 : 1 ≤ look) (h4 : look ≤ 1048576) (h5 : S.late f look = false) : S.regulate f look = (0, S.put f.toNat { S.get f.toNat with look := look }) := by
  unfold St.regulate
  rw [if_neg (fun z => z hb), if_neg (fun z => z h1), if_neg (fun z => z h2), if_neg (by omega), if_neg (by simp [h5])]
theorem constrain_ok {S : St} {f : Int} (hb : S.byE f = 0) (h1 : (S.get f.toNat).con = false) (h2 : (S.get f.toNat).kind = 0) (h3 : S.bound f > (S.get f.toNat).time) : S.constrain f = (0, S.put f.toNat { S.get f.toNat with con := true }) := by
  unfold St.constrain
  rw [if_neg (fun z => z hb), if_neg (by simp [h1]), if_neg (fun z => z h2), if_neg (fun z => z h3)]
end Go.Proofs.YtehnkebcbomidaaGreatDoor.Rt
end
section
set_option linter.unusedVariables false
set_option linter.unusedSimpArgs false
namespace Go.Proofs.YtehnkebcbomidaaGreatDoor.Rt
def nw3 : St := ⟨[-1, 0, 0], [1, 3, 5], [0, 0, 0, 0, 0, 0, 0, 0], [{}, {}, {}, {}, {}, {}, {}, {}], false⟩
theorem getN8 (m0 m1 : Mem) (g : Nat) (h : 2 ≤ g) : ([m0, m1, {}, {}, {}, {}, {}, {}] : List Mem).getD g {} = {} := by
  match g, h with
  | g + 2, _ =>
    show ([{}, {}, {}, {}, {}, {}] : List Mem).getD g {} = {}
    rw [List.getD_eq_getElem?_getD]
    rcases g with _ | _ | _ | _ | _ | _ | g <;> rfl
theorem blank_memOk (n : Nat) (N : Int) (g : Nat) (hN : 0 ≤ N) : MemOk n N g {} := memOk_blank n N g 0 (Int.le_refl _) hN
theorem get_blank (g : Nat) : ([{}, {}, {}, {}, {}, {}, {}, {}] : List Mem).getD g {} = {} := by
  rcases g with _ | _ | g
  · rfl
  · rfl
  · exact getN8 {} {} (g + 2) (by omega)
theorem getD_zeros (g : Nat) : ([0, 0, 0, 0, 0, 0, 0, 0] : List Nat).getD g 0 = 0 := by
  rw [List.getD_eq_getElem?_getD]
  rcases g with _ | _ | _ | _ | _ | _ | _ | _ | g <;> rfl
theorem ok_new {S : St} (hl : S.l = [{}, {}, {}, {}, {}, {}, {}, {}]) (hp : S.pubs = [0, 0, 0, 0, 0, 0, 0, 0]) (ha : S.above.length = S.par.length) (h0 : 0 < S.par.length) (h1 : S.par.length ≤ 16) (hab : ∀ x ∈ S.above, x < 4294967296) : S.Ok 0 := by
  have hg : ∀ g, S.get g = {} := fun g => by unfold St.get; rw [hl]; exact get_blank g
  refine ⟨by decide, by rw [hl]; rfl, by rw [hp]; rfl, ha, h0, h1, hab, fun x hx => ?_, fun g => by rw [hg]; exact blank_memOk _ _ _ (Int.le_refl _), fun g x hx => ?_, fun g x hx => ?_, fun g _ => by rw [hp]; exact getD_zeros g⟩
  · rw [hp] at hx
    simp at hx
    omega
  · rw [hg] at hx; cases hx
  · rw [hg] at hx; cases hx
theorem nw3_ok : nw3.Ok 0 := ok_new rfl rfl rfl (by decide) (by decide) (by decide)
def tri (pubs : List Nat) (m0 m1 : Mem) : St := ⟨[-1, 0, 0], [1, 3, 5], pubs, [m0, m1, {}, {}, {}, {}, {}, {}], false⟩
theorem triN (pubs : List Nat) (m0 m1 : Mem) (g : Nat) (h : 2 ≤ g) : (tri pubs m0 m1).get g = {} := getN8 m0 m1 g h
def p2 : List Nat := [2, 0, 0, 0, 0, 0, 0, 0]
def ma : Mem := { is := true, look := 5 }
def mb (ask : Int) (P : List Mg) : Mem := { is := true, con := true, kind := 1, ask := ask, subs := 1, P := P }
theorem tri_bound1 (pubs : List Nat) (m1 : Mem) : (tri pubs ma m1).bound 1 = 5 := by
  have a := bound_le (S := tri pubs ma m1) rfl 1 0 (by decide) (by decide) (by show (5 : Int) > 0; decide)
  have b := bound_att (S := tri pubs ma m1) rfl 1
  have ho : O (tri pubs ma m1) 0 = 5 := by
    rw [O_own (S := tri pubs ma m1) (j := 0) (by show 0 < 8; decide) (by show (5 : Int) > 0; decide) rfl]
    rfl
  rw [ho] at a
  rcases b with b | ⟨g, g1, g2, g3, g4⟩
  · have b : (tri pubs ma m1).bound 1 = 1125899906842624 := b
    have a : (tri pubs ma m1).bound 1 ≤ 5 := a
    omega
  · have : g = 0 := by
      by_cases e : g = 0
      · exact e
      · rw [triN pubs ma m1 g (by omega)] at g3
        exact absurd g3 (by decide)
    subst this
    rw [ho] at g4
    exact g4
structure PlainOk (ask : Int) : Prop where
  j0 : nw3.join 0 = (0, tri [0, 0, 0, 0, 0, 0, 0, 0] { is := true } {})
  j1 : (tri [0, 0, 0, 0, 0, 0, 0, 0] { is := true } {}).join 1 = (0, tri [0, 0, 0, 0, 0, 0, 0, 0] { is := true } { is := true })
  pu : (tri [0, 0, 0, 0, 0, 0, 0, 0] { is := true } { is := true }).publish 0 1 true = (0, tri p2 { is := true } { is := true })
  su : (tri p2 { is := true } { is := true }).subscribe 1 0 true = (0, tri p2 { is := true } { is := true, subs := 1 })
  re : (tri p2 { is := true } { is := true, subs := 1 }).regulate 0 5 = (0, tri p2 ma { is := true, subs := 1 })
  co : (tri p2 ma { is := true, subs := 1 }).constrain 1 = (0, tri p2 ma { is := true, con := true, subs := 1 })
  ak : (tri p2 ma { is := true, con := true, subs := 1 }).ask 1 1 ask = (0, tri p2 ma (mb ask []))
theorem plain_ok {ask : Int} (h0 : 0 ≤ ask) (h1 : ask ≤ 1099511627776) : PlainOk ask := by
  refine ⟨rfl, rfl, rfl, rfl, ?_, ?_, ?_⟩
  · exact regulate_ok (S := tri p2 { is := true } { is := true, subs := 1 }) (f := 0) rfl rfl rfl (by decide) (by decide) rfl
  · refine constrain_ok (S := tri p2 ma { is := true, subs := 1 }) (f := 1) rfl rfl rfl ?_
    rw [tri_bound1]
    decide
  · unfold St.ask
    rw [if_neg (fun z => z rfl), if_neg (by decide), if_neg (fun z => z rfl), if_neg (by omega), if_neg (by show ¬ ask < 0; omega)]
    rfl
theorem tri_route (m1 : Mem) (h : m1.subs = 1) : (tri p2 ma m1).route 0 1 = [1] := by
  unfold St.route
  show ((List.range 8).filter fun g : Nat => decide ((g : Int) ≠ 0) && hears ((tri p2 ma m1).get g).subs 3) = [1]
  have e : ((List.range 8).filter fun g : Nat => decide ((g : Int) ≠ 0) && hears ((tri p2 ma m1).get g).subs 3) = (List.range 8).filter fun g : Nat => decide (g = 1) := by
    refine List.filter_congr fun g hg => ?_
    by_cases e0 : g = 0
    · subst e0; rfl
    · by_cases e1 : g = 1
      · subst e1
        show (decide ((1 : Int) ≠ 0) && hears m1.subs 3) = _
        rw [h]
        rfl
      · rw [triN _ ma m1 g (by omega)]
        simp [hears, e1]
  rw [e]
  rfl
theorem tri_send (ask : Int) (P : List Mg) (hP : P.length < 64) (b : Int) (b0 : 0 ≤ b) (b1 : b < 1000) :
    (tri p2 ma (mb ask P)).send 0 1 b 0 false = (0, 0, tri p2 ma (mb ask (P ++ [⟨⟨0, 0, 0⟩, 1, 1, b⟩]))) := by
  have hE : (tri p2 ma (mb ask P)).sendE 0 1 b 0 false = 0 := by
    unfold St.sendE
    rw [if_neg (fun z => z rfl), if_neg (by unfold St.noClass tri; simp), if_neg (by show ¬ Nat.testBit 2 1 = false; decide), if_neg (by omega), if_neg (by simp), if_neg (by rintro ⟨z, _⟩; cases z), tri_route _ rfl]
    rw [if_neg]
    show ¬ (([1] : List Nat).any ((tri p2 ma (mb ask P)).fullAt false)) = true
    have : (tri p2 ma (mb ask P)).fullAt false 1 = false := by
      show decide (64 ≤ P.length) = false
      simp; omega
    simp [this]
  unfold St.send
  rw [if_neg (by rw [hE]; decide), tri_route _ rfl]
  rfl
theorem tri_look (ask : Int) (P : List Mg) (h : 5 ≤ ask) : (tri p2 ma (mb ask P)).look 1 = (⟨P, [], false, 0⟩, 0, tri p2 ma (mb ask [])) := by
  have hg : (tri p2 ma (mb ask P)).grant 1 = (false, 0, 0) := by
    unfold St.grant
    show dec 1 ask 0 ((tri p2 ma (mb ask P)).bound 1) [] = _
    rw [tri_bound1]
    unfold dec
    rw [if_pos rfl, if_neg (by omega)]
  unfold St.look
  rw [if_neg (fun z => z rfl)]
  show (if ((tri p2 ma (mb ask P)).grant 1).1 = false then _ else _) = _
  rw [hg, if_pos rfl]
  rfl
end Go.Proofs.YtehnkebcbomidaaGreatDoor.Rt
end
section
set_option linter.unusedVariables false
set_option linter.unusedSimpArgs false
namespace Go.Proofs.YtehnkebcbomidaaGreatDoor.Rt
open Go Go.RowKit Go.Proofs Go.Proofs.YtehnkebcbomidaaGreatDoorW.PrintWords Go.Proofs.YtehnkebcbomidaaGreatDoorW.PrintLast
theorem classes_call (w : World) : Calls Tryz.prog 33 #[] w fun e w' => e = .returned (.slice (some ⟨w.heap.size, 0, none⟩) 3 3) ∧ w' = w.alloc (.cells #[.int .i64 (-1), .int .i64 0, .int .i64 0] 3) := by
  have hu52 := Tryz.underlying52
  go_enter Tryz.func33, Tryz.ntmps33
  go_wp2
  go_ret
  exact ⟨rfl, rfl⟩
def P3 : List Int := [-1, 0, 0]
theorem par3 : Par P3 := ⟨by decide, by decide, fun c hc => by
  have : c = 0 ∨ c = 1 ∨ c = 2 := by simp [P3] at hc; omega
  rcases this with rfl | rfl | rfl <;> decide⟩
theorem new3 : St.new P3 = nw3 := by decide
theorem chk3 : XCheck.tree_Check.f 10 P3 = some 0 := by kernel_rfl
theorem new3_call (w : World) (henv : Env w) : Calls Tryz.prog 32 #[.slice (some ⟨w.heap.size, 0, none⟩) 3 3] (w.alloc (.cells #[.int .i64 (-1), .int .i64 0, .int .i64 0] 3)) fun e w' => ∃ r, e = .returned (.tuple #[.pointer (some ⟨r, 0, none⟩), .int .i64 0]) ∧ Rti (fun k => k < w.heap.size) r w' nw3 ∧ Below w.heap.size w w' := by
  have hb := (Below.refl w.heap.size w).alloc (Nat.le_refl _) (.cells #[.int .i64 (-1), .int .i64 0, .int .i64 0] 3)
  have hrow := World.ownsRow_lit (base := 0) (e := 3) (size := 1) w #[.int .i64 (-1), .int .i64 0, .int .i64 0] 3 (Nat.zero_le _) (by unfold maxLen; omega) rfl
  refine (new_rti _ (Env.below_ henv hb) 0 (some ⟨w.heap.size, 0, none⟩) 3 P3 par3 hrow chk3).mono (fun e w' h => ?_)
  obtain ⟨r, h1, h2, h3⟩ := rti_new h
  rw [new3] at h2
  exact ⟨r, h1, h2.fewer (fun k hk => by simp; omega), hb.trans (h3.mono (by simp))⟩
def z0 : List Nat := [0, 0, 0, 0, 0, 0, 0, 0]
def pm (b : Int) : Mg := ⟨⟨0, 0, 0⟩, 1, 1, b⟩
def pms (z : List Int) (i : Nat) : List Mg := (List.range i).map fun j => pm (z.getD j 0 % 1000)
theorem pms_succ (z : List Int) (i : Nat) : pms z (i + 1) = pms z i ++ [pm (z.getD i 0 % 1000)] := by unfold pms; rw [List.range_succ, List.map_append]; rfl
theorem pms_length (z : List Int) (i : Nat) : (pms z i).length = i := by simp [pms]
theorem pms_get (z : List Int) (n i : Nat) (h : i < n) : (pms z n)[i]'(by rw [pms_length]; exact h) = pm (z.getD i 0 % 1000) := by simp [pms]
structure PlainOks (ask : Int) : Prop extends PlainOk ask where
  o1 : (tri z0 { is := true } {}).Ok 0
  o2 : (tri z0 { is := true } { is := true }).Ok 0
  o3 : (tri p2 { is := true } { is := true }).Ok 0
  o4 : (tri p2 { is := true } { is := true, subs := 1 }).Ok 0
  o5 : (tri p2 ma { is := true, subs := 1 }).Ok 0
  o6 : (tri p2 ma { is := true, con := true, subs := 1 }).Ok 0
  o7 : (tri p2 ma (mb ask [])).Ok 0
theorem plain_oks {ask : Int} (h0 : 0 ≤ ask) (h1 : ask ≤ 1099511627776) : PlainOks ask := by
  have p := plain_ok h0 h1
  have o1 := Ok.join nw3_ok 0
  rw [p.j0] at o1
  have o2 := Ok.join o1 1
  have e2 := p.j1
  rw [show (tri [0, 0, 0, 0, 0, 0, 0, 0] { is := true } {}).join 1 = _ from e2] at o2
  have o3 := Ok.publish o2 0 1 true
  rw [show (tri [0, 0, 0, 0, 0, 0, 0, 0] { is := true } { is := true }).publish 0 1 true = _ from p.pu] at o3
  have o4 := Ok.subscribe o3 1 0 true
  rw [show (tri p2 { is := true } { is := true }).subscribe 1 0 true = _ from p.su] at o4
  have o5 := Ok.regulate o4 0 5
  rw [show (tri p2 { is := true } { is := true, subs := 1 }).regulate 0 5 = _ from p.re] at o5
  have o6 := Ok.constrain o5 1
  rw [show (tri p2 ma { is := true, subs := 1 }).constrain 1 = _ from p.co] at o6
  have o7 := Ok.ask o6 1 1 ask
  rw [show (tri p2 ma { is := true, con := true, subs := 1 }).ask 1 1 ask = _ from p.ak] at o7
  exact ⟨p, o1, o2, o3, o4, o5, o6, o7⟩
theorem plain_oki {ask : Int} (p : PlainOks ask) (z : List Int) (i : Nat) (hi : i ≤ 64) : (tri p2 ma (mb ask (pms z i))).Ok i := by
  induction i with
  | zero => exact p.o7
  | succ i ih =>
    have h := ih (by omega)
    have hs := tri_send ask (pms z i) (by rw [pms_length]; omega) (z.getD i 0 % 1000) (by omega) (by omega)
    have := Ok.send h (by omega) 0 1 (z.getD i 0 % 1000) 0 false
    rw [hs, ← show pm (z.getD i 0 % 1000) = ⟨⟨0, 0, 0⟩, 1, 1, z.getD i 0 % 1000⟩ from rfl, ← pms_succ] at this
    exact this
structure PlainCalls (K : Nat → Prop) (r : Nat) (ask : Int) (z : List Int) : Prop where
  j0 : ∀ w, Rti K r w nw3 → Calls Tryz.prog 34 #[.pointer (some ⟨r, 0, none⟩), .int .i64 0] w (RPost K r w (.int .i64 0) (tri z0 { is := true } {}))
  j1 : ∀ w, Rti K r w (tri z0 { is := true } {}) → Calls Tryz.prog 34 #[.pointer (some ⟨r, 0, none⟩), .int .i64 1] w (RPost K r w (.int .i64 0) (tri z0 { is := true } { is := true }))
  pu : ∀ w, Rti K r w (tri z0 { is := true } { is := true }) → Calls Tryz.prog 35 #[.pointer (some ⟨r, 0, none⟩), .int .i64 0, .int .i64 1, .bool true] w (RPost K r w (.int .i64 0) (tri p2 { is := true } { is := true }))
  su : ∀ w, Rti K r w (tri p2 { is := true } { is := true }) → Calls Tryz.prog 36 #[.pointer (some ⟨r, 0, none⟩), .int .i64 1, .int .i64 0, .bool true] w (RPost K r w (.int .i64 0) (tri p2 { is := true } { is := true, subs := 1 }))
  re : ∀ w, Rti K r w (tri p2 { is := true } { is := true, subs := 1 }) → Calls Tryz.prog 37 #[.pointer (some ⟨r, 0, none⟩), .int .i64 0, .int .i64 5] w (RPost K r w (.int .i64 0) (tri p2 ma { is := true, subs := 1 }))
  co : ∀ w, Rti K r w (tri p2 ma { is := true, subs := 1 }) → Calls Tryz.prog 38 #[.pointer (some ⟨r, 0, none⟩), .int .i64 1] w (RPost K r w (.int .i64 0) (tri p2 ma { is := true, con := true, subs := 1 }))
  ak : ∀ w, Rti K r w (tri p2 ma { is := true, con := true, subs := 1 }) → Calls Tryz.prog 25 #[.pointer (some ⟨r, 0, none⟩), .int .i64 1, .int .i64 1, .int .i64 ask] w (RPost K r w (.int .i64 0) (tri p2 ma (mb ask [])))
  se : ∀ i, i < 64 → ∀ w, Rti K r w (tri p2 ma (mb ask (pms z i))) → Calls Tryz.prog 24 #[.pointer (some ⟨r, 0, none⟩), .int .i64 0, .int .i64 1, .int .i64 (z.getD i 0 % 1000), .int .i64 0, .bool false] w (RPost K r w (.tuple #[.int .i64 0, .int .i64 0]) (tri p2 ma (mb ask (pms z (i + 1)))))
theorem plain_calls (K : Nat → Prop) (r : Nat) {ask : Int} (p : PlainOks ask) (z : List Int) : PlainCalls K r ask z := by
  refine ⟨fun w h => ?_, fun w h => ?_, fun w h => ?_, fun w h => ?_, fun w h => ?_, fun w h => ?_, fun w h => ?_, fun i hi w h => ?_⟩
  · have := h.join nw3_ok 0
    rw [p.j0] at this
    exact this
  · have := h.join p.o1 1
    rw [show (tri z0 { is := true } {}).join 1 = _ from p.j1] at this
    exact this
  · have := h.publish p.o2 0 1 true
    rw [show (tri z0 { is := true } { is := true }).publish 0 1 true = _ from p.pu] at this
    exact this
  · have := h.subscribe p.o3 1 0 true
    rw [p.su] at this
    exact this
  · have := h.regulate p.o4 0 5
    rw [p.re] at this
    exact this
  · have := h.constrain p.o5 1
    rw [p.co] at this
    exact this
  · have := h.ask p.o6 1 1 ask
    rw [p.ak] at this
    exact this
  · have := h.send (plain_oki p z i (by omega)) (by omega) 0 1 (z.getD i 0 % 1000) 0 false
    rw [tri_send ask (pms z i) (by rw [pms_length]; omega) (z.getD i 0 % 1000) (by omega) (by omega), ← show pm (z.getD i 0 % 1000) = ⟨⟨0, 0, 0⟩, 1, 1, z.getD i 0 % 1000⟩ from rfl, ← pms_succ] at this
    exact this
def U16Row (W : World) (A : Option Addr) (len : Nat) (z : List Int) : Prop := ∀ i, i < len → ∃ x, A = some x ∧ W.cell? (x.add i) = some (.int .u16 (z.getD i 0)) ∧ 0 ≤ z.getD i 0 ∧ z.getD i 0 < 65536
end Go.Proofs.YtehnkebcbomidaaGreatDoor.Rt
end
section
set_option linter.unusedVariables false
set_option linter.unusedSimpArgs false
namespace Go.Proofs.YtehnkebcbomidaaGreatDoor.Rt
open Go Go.RowKit Go.Proofs Go.Proofs.YtehnkebcbomidaaGreatDoorW.PrintWords Go.Proofs.YtehnkebcbomidaaGreatDoorW.PrintLast
theorem Turn.put4 {H H1 : Sh} {w w1 : World} {S1 : St} (h : Turn H w S1 H1 w1) (h00 : 0 < w.heap.size) {b : Nat} (hb : w.heap.size ≤ b) (h0 : H1.own b = 0) (v0 v1 v2 v3 : Value) : Turn H w S1 H1 (put4 w1 b v0 v1 v2 v3) :=
  (((h.side h00 hb h0 0 v0).side h00 hb h0 1 v1).side h00 hb h0 2 v2).side h00 hb h0 3 v3
theorem Turn.grown {H H1 : Sh} {w w1 w2 : World} {S1 : St} (h : Turn H w S1 H1 w1) (h00 : 0 < w.heap.size) {v : Value} (hg : w1.grownBy w2 v.ownBlock) (hv : ∀ k, v.ownBlock = some k → H1.own k = 0 ∧ w.heap.size ≤ k) : Turn H w S1 H1 w2 := by
  have ht : Tch (fun k => v.ownBlock = some k) w1 w2 := (Tch.refl _ w1).grown hg (fun k hk => .inl hk)
  exact ⟨h.at_.frame ht (fun k hk e => (hv k e).1) (fun e => by have := (hv 0 e).2; omega), h.r, h.own, h.tch.trans ht (fun k hk e => by have := (hv k e).2; omega)⟩
theorem bound_P (S : St) (h8 : S.l.length = 8) (n : Nat) (hn : n < 8) (P : List Mg) (f : Int) : (S.put n { S.get n with P := P }).bound f = S.bound f := by
  have e : (S.put n { S.get n with P := P }).members = S.members := by
    unfold St.members St.put
    rw [List.map_set]
    have hl : n < S.l.length := by omega
    have hg : S.get n = S.l[n] := get_el S n hl ▸ rfl
    have : ({ S.get n with P := P } : Mem).lm = (S.l.map Mem.lm)[n]'(by simpa using hl) := by rw [List.getElem_map, ← hg]; rfl
    rw [this]
    exact List.set_getElem_self _
  unfold St.bound
  rw [e]
def kts (Q : List Mg) : List Int := Q.map fun m => m.k.t
theorem row_m {W : World} {base c : Nat} {A : Option Addr} {Q : List Mg} (h : W.ownsRow base 41 6 (.slice A Q.length c) Q.length (flatM Q)) (j : Nat) (hj : j < Q.length) :
    ∃ g, A = some ⟨g, 0, none⟩ ∧ W.cell? ⟨g, j * 6, none⟩ = some (.int .i64 Q[j].k.t) ∧ W.cell? ⟨g, j * 6 + 1, none⟩ = some (.int .i64 Q[j].k.f) ∧ W.cell? ⟨g, j * 6 + 2, none⟩ = some (.int .i64 Q[j].k.s) ∧ W.cell? ⟨g, j * 6 + 3, none⟩ = some (.int .i64 Q[j].d) ∧ W.cell? ⟨g, j * 6 + 4, none⟩ = some (.int .i64 Q[j].cl) ∧ W.cell? ⟨g, j * 6 + 5, none⟩ = some (.int .i64 Q[j].bd) := by
  rcases h.2 with ⟨e, h1⟩ | ⟨g, cap, cur, e, _⟩
  · omega
  · simp only [Value.slice.injEq] at e
    obtain ⟨e1, e2, e3⟩ := e
    have hc : ∀ i v, i < 6 → Q[j].cells[i]? = some v → W.cell? ⟨g, j * 6 + i, none⟩ = some v := fun i v hi hv => by
      have := h.cells (g := g) (by rw [e1]; rfl) (j * 6 + i) v (by
        rw [show flatM Q = Q.flatMap Mg.cells from rfl, flat_get Mg.cells 6 (fun _ => rfl) Q j i hj hi]
        exact hv)
      rwa [add_plain] at this
    exact ⟨g, e1, hc 0 _ (by decide) rfl, hc 1 _ (by decide) rfl, hc 2 _ (by decide) rfl, hc 3 _ (by decide) rfl, hc 4 _ (by decide) rfl, hc 5 _ (by decide) rfl⟩
theorem dec_n_le (k a t b : Int) (q : List Int) : (dec k a t b q).2.2 ≤ q.length := by
  have h := fun t => upN_le q t
  unfold dec
  repeat' split
  all_goals first | exact h _ | exact Nat.zero_le _ | exact Nat.le_refl _
theorem kts_snoc (Q : List Mg) (j : Nat) (hj : j < Q.length) : kts (Q.take (j + 1)) = kts (Q.take j) ++ [Q[j].k.t] := by
  unfold kts
  rw [List.take_succ_eq_append_getElem hj, List.map_append]
  rfl
structure PopInv (H : Sh) (w : World) (S1 : St) (n b4 b8 B : Nat) (P Q : List Mg) (vp : Value) (tm : Int) (j : Nat) (H' : Sh) (vt : Value) (wr : World) : Prop where
  turn : Turn H w (S1.put n { S1.get n with Q := Q.drop j }) H' wr
  o4 : H'.own b4 = 0
  o8 : H'.own b8 = 0
  blk4 : wr.heap[b4]? = some (.cells #[.slice none 0 0, .slice none 0 0, .bool false, .int .i64 0] 31 (0, 0))
  blk8 : wr.heap[b8]? = some (.cells #[vp, vt, .bool false, .int .i64 tm] 31 (0, 0))
  p : wr.ownsRow 0 41 6 vp P.length (flatM P)
  pow : ∀ k, vp.ownBlock = some k → H'.own k = 0
  pB : ∀ k, vp.ownBlock = some k → k < w.heap.size
  t : wr.ownsRow B 41 6 vt j (flatM (Q.take j))
  tow : ∀ k, vt.ownBlock = some k → H'.own k = 0
  sz : B ≤ wr.heap.size
theorem PopInv.step {H : Sh} {w : World} {S1 : St} {n b4 b8 B : Nat} {P Q : List Mg} {vp : Value} {tm : Int} {j : Nat} {H' H2 : Sh} {vt v11 : Value} {wr w9 w10 w11 : World} (h : PopInv H w S1 n b4 b8 B P Q vp tm j H' vt wr)
    (hT9 : Turn H' wr (S1.put n { S1.get n with Q := Q.drop (j + 1) }) H2 w9) (hw : Below w9.heap.size w9 w10) (hg : w10.grownBy w11 vt.ownBlock) (hl : ∀ k, v11.ownBlock = some k → vt.ownBlock = some k ∨ w10.heap.size ≤ k)
    (hown : w11.ownsRow B 41 6 v11 (j + 1) (flatM (Q.take (j + 1)))) (h4B : b4 < B) (h8B : b8 < B) (h4w : w.heap.size ≤ b4) (h8w : w.heap.size ≤ b8) (h48 : b4 ≠ b8) (hBw : w.heap.size ≤ B) (h00 : 0 < w.heap.size) :
    PopInv H w S1 n b4 b8 B P Q vp tm (j + 1) H2 v11 (w11.setCell ⟨b8, 1, none⟩ v11) := by
  have l4 : b4 < wr.heap.size := (Array.getElem?_eq_some_iff.1 h.blk4).1
  have l8 : b8 < wr.heap.size := (Array.getElem?_eq_some_iff.1 h.blk8).1
  have s9 := hT9.tch.size
  have s10 := hw.size
  have hvt : ∀ k, vt.ownBlock = some k → H2.own k = 0 ∧ B ≤ k ∧ k < wr.heap.size := fun k hk => ⟨hT9.own k (own_lt h.t k hk) (h.tow k hk), own_base h.t k hk, own_lt h.t k hk⟩
  have o4 := hT9.own b4 l4 h.o4
  have o8 := hT9.own b8 l8 h.o8
  have ht : Tch (fun k => vt.ownBlock = some k) w10 w11 := (Tch.refl _ w10).grown hg (fun k hk => .inl hk)
  have hkeep : ∀ k, k < wr.heap.size → H'.own k = 0 → ¬ vt.ownBlock = some k → k ≠ b8 → (w11.setCell ⟨b8, 1, none⟩ v11).heap[k]? = wr.heap[k]? := fun k hk h0 hv hb => by
    rw [heap_setCell_other w11 ⟨b8, 1, none⟩ k v11 hb, ht.block k (by omega) hv, hw.block k (by omega), hT9.keeps hk h0]
  have hn4 : ¬ vt.ownBlock = some b4 := fun e => by have := (hvt b4 e).2.1; omega
  have hn8 : ¬ vt.ownBlock = some b8 := fun e => by have := (hvt b8 e).2.1; omega
  refine ⟨(((h.turn.trans hT9).below hw).grown h00 hg (fun k hk => ⟨(hvt k hk).1, by have := (hvt k hk).2.1; omega⟩)).side h00 h8w o8 1 v11, o4, o8, ?_, ?_, ?_, fun k hk => ?_, h.pB, ?_, fun k hk => ?_, ?_⟩
  · rw [hkeep b4 l4 h.o4 hn4 h48]
    exact h.blk4
  · have hb : w11.heap[b8]? = some (.cells #[vp, vt, .bool false, .int .i64 tm] 31 (0, 0)) := by
      rw [ht.block b8 (by omega) hn8, hw.block b8 (by omega), hT9.keeps l8 h.o8]
      exact h.blk8
    rw [heap_setCell_same w11 b8 1 _ 31 v11 hb]
    rfl
  · exact own_move h.p (fun k hk => hkeep k (own_lt h.p k hk) (h.pow k hk) (fun e => by have h1 := (hvt k e).2.1; have h2 := h.pB k hk; omega) (fun e => by have h2 := h.pB k hk; omega))
  · exact hT9.own k (own_lt h.p k hk) (h.pow k hk)
  · refine own_move hown (fun k hk => heap_setCell_other w11 ⟨b8, 1, none⟩ k v11 (fun e => ?_))
    have e : k = b8 := e
    rcases hl k hk with z | z
    · have := (hvt k z).2.1; omega
    · omega
  · rcases hl k hk with z | z
    · exact (hvt k z).1
    · exact hT9.at_.fresh (by omega)
  · have h1 := h.sz
    have h2 := hg.size
    show B ≤ (w11.setCell _ _).heap.size
    simp [World.setCell]
    omega
theorem Turn.ask3 {H H1 : Sh} {w wr : World} {S1 : St} (h : Turn H w S1 H1 wr) (h8 : S1.l.length = 8) {n : Nat} (hn : n < 8) (t : Int) :
    Turn H w (S1.put n { S1.get n with time := t, kind := 0, ask := 0 }) H1 (((wr.setCell ⟨H.r, 2 + n * 10 + 2, none⟩ (.int .i64 t)).setCell ⟨H.r, 2 + n * 10 + 4, none⟩ (.int .i64 0)).setCell ⟨H.r, 2 + n * 10 + 5, none⟩ (.int .i64 0)) := by
  have hr := h.r
  have hb1 := blk_put h.at_.blk h8 n 2 hn (by decide) (.int .i64 t) { S1.get n with time := t } rfl
  have g1 := gput_eq S1 h8 hn { S1.get n with time := t }
  have l1 : (S1.put n { S1.get n with time := t }).l.length = 8 := by rw [St.put_l]; exact h8
  have hb2 := blk_put hb1 l1 n 4 hn (by decide) (.int .i64 0) { S1.get n with time := t, kind := 0 } (by rw [g1]; rfl)
  rw [put_put] at hb2
  have g2 := gput_eq S1 h8 hn { S1.get n with time := t, kind := 0 }
  have l2 : (S1.put n { S1.get n with time := t, kind := 0 }).l.length = 8 := by rw [St.put_l]; exact h8
  have hb3 := blk_put hb2 l2 n 5 hn (by decide) (.int .i64 0) { S1.get n with time := t, kind := 0, ask := 0 } (by rw [g2]; rfl)
  rw [put_put] at hb3
  have ht : Tch (fun k => k = H1.r) wr (((wr.setCell ⟨H1.r, 2 + n * 10 + 2, none⟩ (.int .i64 t)).setCell ⟨H1.r, 2 + n * 10 + 4, none⟩ (.int .i64 0)).setCell ⟨H1.r, 2 + n * 10 + 5, none⟩ (.int .i64 0)) :=
    ((Tch.setCell (P := fun k => k = H1.r) (Tch.refl _ wr) (p := ⟨H1.r, 2 + n * 10 + 2, none⟩) (.inl rfl) _).setCell (p := ⟨H1.r, 2 + n * 10 + 4, none⟩) (.inl rfl) _).setCell (p := ⟨H1.r, 2 + n * 10 + 5, none⟩) (.inl rfl) _
  rw [← hr]
  refine h.trans ⟨h.at_.turn ht hb3 rfl rfl rfl (put_keeps S1 h8 hn _ ⟨rfl, rfl, rfl⟩), rfl, fun _ _ e => e, ht.mono (fun k _ e => by rw [e, h.at_.o1]; decide)⟩
end Go.Proofs.YtehnkebcbomidaaGreatDoor.Rt
end
