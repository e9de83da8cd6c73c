/- Part of a proof over the given program: An, Lu, Rx, Pk. -/
import Derived.Test.YtehnkebcbomidaaGreatDoorCb33
import Derived.Test.YtehnkebcbomidaaGreatDoorCb29
import Derived.Test.YtehnkebcbomidaaGreatDoorCb31
set_option linter.unusedVariables false
set_option linter.unusedSimpArgs false
namespace Go.Proofs.YtehnkebcbomidaaGreatDoor.Rt
open Go Go.RowKit Go.Proofs
theorem MPost.no {H : Sh} {w : World} {S S' : St} {f : Int} {r : Int} (hR : RAt H w S) (hs : (S.byE f, S) = (r, S')) {e : Ending} {w' : World} (h : e = .returned (.int .i64 (S.byE f)) ∧ Below w.heap.size w w') : MPost H w (.int .i64 r) S' e w' := by
  cases hs
  obtain ⟨rfl, hb⟩ := h
  exact MPost.same hR hb _
theorem join_call (w : World) (H : Sh) (S : St) {N : Int} (hR : RAt H w S) (ok : S.Ok N) (f : Int) :
    Calls Tryz.prog 34 #[.pointer (some ⟨H.r, 0, none⟩), .int .i64 f] w (MPost H w (.int .i64 (S.join f).1) (S.join f).2) := by
  by_cases h : f < 0 ∨ 8 ≤ f
  · have e : S.join f = (1, S) := by unfold St.join; rw [if_pos h]
    rw [e]
    refine (join_out w H.r f h).mono ?_
    rintro e w' ⟨rfl, rfl⟩
    exact MPost.same hR (Below.refl _ _) _
  · obtain ⟨n, rfl⟩ : ∃ n : Nat, f = n := ⟨f.toNat, by omega⟩
    exact join_in w H S hR ok.l8 n (by omega)
theorem publish_call (w : World) (H : Sh) (S : St) {N : Int} (hR : RAt H w S) (ok : S.Ok N) (f : Int) (c : Int) (is : Bool) :
    Calls Tryz.prog 35 #[.pointer (some ⟨H.r, 0, none⟩), .int .i64 f, .int .i64 c, .bool is] w (MPost H w (.int .i64 (S.publish f c is).1) (S.publish f c is).2) := by
  by_cases he : S.byE f = 0
  · obtain ⟨n, rfl, hn⟩ := yes_in he
    exact publish_yes w H S hR ok n hn he c is
  · refine (publish_no w H S hR f c is he).mono (fun e w' h => MPost.no hR ?_ h)
    unfold St.publish
    rw [if_pos he]
theorem subscribe_call (w : World) (H : Sh) (S : St) {N : Int} (hR : RAt H w S) (ok : S.Ok N) (f : Int) (c : Int) (is : Bool) :
    Calls Tryz.prog 36 #[.pointer (some ⟨H.r, 0, none⟩), .int .i64 f, .int .i64 c, .bool is] w (MPost H w (.int .i64 (S.subscribe f c is).1) (S.subscribe f c is).2) := by
  by_cases he : S.byE f = 0
  · obtain ⟨n, rfl, hn⟩ := yes_in he
    exact subscribe_yes w H S hR ok n hn he c is
  · refine (subscribe_no w H S hR f c is he).mono (fun e w' h => MPost.no hR ?_ h)
    unfold St.subscribe
    rw [if_pos he]
theorem regulate_call (w : World) (H : Sh) (S : St) {N : Int} (hR : RAt H w S) (ok : S.Ok N) (f : Int) (lk : Int) :
    Calls Tryz.prog 37 #[.pointer (some ⟨H.r, 0, none⟩), .int .i64 f, .int .i64 lk] w (MPost H w (.int .i64 (S.regulate f lk).1) (S.regulate f lk).2) := by
  by_cases he : S.byE f = 0
  · obtain ⟨n, rfl, hn⟩ := yes_in he
    by_cases hk : 1 ≤ lk
    · exact regulate_y w H S hR ok.l8 n hn he lk hk
    · exact regulate_n w H S hR ok.l8 n hn he lk hk
  · refine (regulate_no w H S hR f lk he).mono (fun e w' h => MPost.no hR ?_ h)
    unfold St.regulate
    rw [if_pos he]
theorem constrain_call (w : World) (H : Sh) (S : St) {N : Int} (hR : RAt H w S) (ok : S.Ok N) (f : Int) :
    Calls Tryz.prog 38 #[.pointer (some ⟨H.r, 0, none⟩), .int .i64 f] w (MPost H w (.int .i64 (S.constrain f).1) (S.constrain f).2) := by
  by_cases he : S.byE f = 0
  · obtain ⟨n, rfl, hn⟩ := yes_in he
    exact constrain_yes w H S hR ok.l8 n hn he
  · refine (constrain_no w H S hR f he).mono (fun e w' h => MPost.no hR ?_ h)
    unfold St.constrain
    rw [if_pos he]
theorem ask_call (w : World) (H : Sh) (S : St) {N : Int} (hR : RAt H w S) (ok : S.Ok N) (f : Int) (k t : Int) :
    Calls Tryz.prog 25 #[.pointer (some ⟨H.r, 0, none⟩), .int .i64 f, .int .i64 k, .int .i64 t] w (MPost H w (.int .i64 (S.ask f k t).1) (S.ask f k t).2) := by
  by_cases he : S.byE f = 0
  · obtain ⟨n, rfl, hn⟩ := yes_in he
    by_cases hk : 1 ≤ k <;> by_cases ht : 0 ≤ t
    · exact ask_yy w H S hR ok.l8 n hn he k t hk ht
    · exact ask_yn w H S hR ok.l8 n hn he k t hk ht
    · exact ask_ny w H S hR ok.l8 n hn he k t hk ht
    · exact ask_nn w H S hR ok.l8 n hn he k t hk ht
  · refine (ask_no w H S hR f k t he).mono (fun e w' h => MPost.no hR ?_ h)
    unfold St.ask
    rw [if_pos he]
end Go.Proofs.YtehnkebcbomidaaGreatDoor.Rt
namespace Go.Proofs.YtehnkebcbomidaaGreatDoor.Rt
open Go Go.RowKit Go.Proofs Go.Proofs.YtehnkebcbomidaaGreatDoorW.PrintWords Go.Proofs.YtehnkebcbomidaaGreatDoorW.PrintLast
structure LookAt (H : Sh) (w : World) (G : Gv) (S' : St) (H' : Sh) (vp vt : Value) (w' : World) : Prop where
  turn : Turn H w S' H' w'
  p : w'.ownsRow 0 41 6 vp G.plain.length (flatM G.plain)
  t : w'.ownsRow 0 41 6 vt G.timed.length (flatM G.timed)
  pow : ∀ k, vp.ownBlock = some k → H'.own k = 0
  tow : ∀ k, vt.ownBlock = some k → H'.own k = 0
def LPost (H : Sh) (w : World) (G : Gv) (E : Int) (S' : St) (e : Ending) (w' : World) : Prop :=
  ∃ H' vp vt, e = .returned (.tuple #[.agg #[vp, vt, .bool G.granted, .int .i64 G.time], .int .i64 E]) ∧ LookAt H w G S' H' vp vt w'
def Sh.release (H : Sh) (n : Nat) : Sh := { H with own := fun k => if H.own k = 16 + n then 0 else H.own k }
theorem RAt.release {H : Sh} {W : World} {S : St} (h : RAt H W S) {n : Nat} (hn : n < 8) (hp : H.pl n = .slice none 0 0) : RAt (H.release n) W S := by
  have hne : ∀ k j, H.own k = j → j ≠ 16 + n → (H.release n).own k = j := fun k j e hj => by
    show (if H.own k = 16 + n then 0 else H.own k) = j
    rw [if_neg (by omega)]
    exact e
  refine ⟨h.env, hne 0 0 h.o0 (by omega), h.blk, h.tab, h.par, h.que, h.pla, hne _ 1 h.o1 (by omega), hne _ 2 h.o2 (by omega), fun k hk => hne k 3 (h.o3 k hk) (by omega), fun k hk => hne k 4 (h.o4 k hk) (by omega), fun m hm k hk => hne k _ (h.oq m hm k hk) (by omega), fun m hm k hk => ?_, fun k hk => h.lt k (fun e => hk ?_)⟩
  · by_cases e : m = n
    · subst e
      have hk : (H.pl m).ownBlock = some k := hk
      rw [hp] at hk
      cases hk
    · exact hne k _ (h.op m hm k hk) (by omega)
  · show (if H.own k = 16 + n then 0 else H.own k) = 0
    split
    · rfl
    · exact e
theorem Turn.release {H H1 : Sh} {w w1 : World} {S1 : St} (h : Turn H w S1 H1 w1) {n : Nat} (hn : n < 8) (hp : H1.pl n = .slice none 0 0) : Turn H w S1 (H1.release n) w1 :=
  ⟨h.at_.release hn hp, h.r, fun k hk h0 => by
    show (if H1.own k = 16 + n then 0 else H1.own k) = 0
    split
    · rfl
    · exact h.own k hk h0, h.tch⟩
theorem Sh.release_own (H : Sh) (n k : Nat) (h : H.own k = 0 ∨ H.own k = 16 + n) : (H.release n).own k = 0 := by
  show (if H.own k = 16 + n then 0 else H.own k) = 0
  split
  · rfl
  · rcases h with h | h
    · exact h
    · rename_i c; exact absurd h c
def put4 (W : World) (b : Nat) (v0 v1 v2 v3 : Value) : World := (((W.setCell ⟨b, 0, none⟩ v0).setCell ⟨b, 1, none⟩ v1).setCell ⟨b, 2, none⟩ v2).setCell ⟨b, 3, none⟩ v3
theorem put4_blk {W : World} {b : Nat} {a0 a1 a2 a3 : Value} (h : W.heap[b]? = some (.cells #[a0, a1, a2, a3] 31 (0, 0))) (v0 v1 v2 v3 : Value) : (put4 W b v0 v1 v2 v3).heap[b]? = some (.cells #[v0, v1, v2, v3] 31 (0, 0)) := by
  have h0 := heap_setCell_same W b 0 _ 31 v0 h
  have h1 := heap_setCell_same _ b 1 _ 31 v1 h0
  have h2 := heap_setCell_same _ b 2 _ 31 v2 h1
  exact heap_setCell_same _ b 3 _ 31 v3 h2
theorem put4_tch (W : World) (b : Nat) (v0 v1 v2 v3 : Value) : Tch (fun k => k = b) W (put4 W b v0 v1 v2 v3) :=
  (((Tch.setCell (P := fun k => k = b) (Tch.refl _ W) (p := ⟨b, 0, none⟩) (.inl rfl) _).setCell (p := ⟨b, 1, none⟩) (.inl rfl) _).setCell (p := ⟨b, 2, none⟩) (.inl rfl) _).setCell (p := ⟨b, 3, none⟩) (.inl rfl) _
theorem g_cells {W : World} {b : Nat} {a0 a1 a2 a3 : Value} (h : W.heap[b]? = some (.cells #[a0, a1, a2, a3] 31 (0, 0))) :
    W.cell? ⟨b, 0, none⟩ = some a0 ∧ W.cell? ⟨b, 1, none⟩ = some a1 ∧ W.cell? ⟨b, 2, none⟩ = some a2 ∧ W.cell? ⟨b, 3, none⟩ = some a3 ∧ W.frozen? ⟨b, 0, none⟩ = false ∧ W.frozen? ⟨b, 1, none⟩ = false ∧ W.frozen? ⟨b, 2, none⟩ = false ∧ W.frozen? ⟨b, 3, none⟩ = false := by
  refine ⟨?_, ?_, ?_, ?_, ?_, ?_, ?_, ?_⟩ <;> simp [World.cell?, World.frozen?, h]
theorem ret26 {R : Ending → World → Prop} {a : Act} {W : World} {b4 : Nat} {v0 v1 v2 v3 u : Value} (h4 : a.tmps.getD 4 undef = .pointer (some ⟨b4, 0, none⟩)) (h5 : a.tmps.getD 5 undef = u) (hd : a.defers = []) (hblk : W.heap[b4]? = some (.cells #[v0, v1, v2, v3] 31 (0, 0))) (h : R (.returned (.tuple #[.agg #[v0, v1, v2, v3], u])) W) : bodyPost Tryz.prog Tryz.f26 R .ret a W := by
  obtain ⟨k0, k1, k2, k3, f0, f1, f2, f3⟩ := g_cells hblk
  have hu31 := Tryz.underlying31
  refine ⟨hd, _, ?_, h⟩
  have e4 : a.tmps[4]?.getD undef = .pointer (some ⟨b4, 0, none⟩) := by simpa using h4
  have e5 : a.tmps[5]?.getD undef = u := by simpa using h5
  simp [results, Tryz.results26, e4, e5]
  go_simp
set_option maxHeartbeats 8000000 in
set_option maxRecDepth 100000 in
theorem look_no (w : World) (H : Sh) (S : St) (hR : RAt H w S) (f : Int) (he : S.byE f ≠ 0) :
    Calls Tryz.prog 26 #[.pointer (some ⟨H.r, 0, none⟩), .int .i64 f] w (LPost H w ⟨[], [], false, 0⟩ (S.byE f) S) := by
  have hba : Below w.heap.size w (w.alloc (.cells #[.slice none 0 0, .slice none 0 0, .bool false, .int .i64 0] 31)) := (Below.refl _ w).alloc (Nat.le_refl _) _
  have hb := by_no (w.alloc (.cells #[.slice none 0 0, .slice none 0 0, .bool false, .int .i64 0] 31)) H S (hR.below hba) f he
  have HB := Lib.hid hb
  have HR := Lib.hid hR
  have HBA := Lib.hid hba
  have hu31 := Tryz.underlying31
  clear hb hR he hba
  go_enter Tryz.func26, Tryz.ntmps26
  go_wp2_with (go_at_call 63; (with_reducible refine HB.out.mono ?_); rintro e w1 ⟨g, rfl, hb1, hc1⟩)
  have HB1 := Lib.hid hb1
  have HC1 := Lib.hid hc1
  clear hb1 hc1
  have hblk0 := heap_alloc_new w (.cells #[.slice none 0 0, .slice none 0 0, .bool false, .int .i64 0] 31)
  have hblk1 := (HB1.out.block w.heap.size (by simp)).trans hblk0
  have HBLK1 := Lib.hid hblk1
  clear hblk0 hblk1
  go_wp2_with (go_at_call 64; (with_reducible refine HC1.out.mono ?_); rintro e w2 ⟨rfl, hb2⟩; have hblk2 := (hb2.block w.heap.size (by have := HB1.out.size; simp at this; omega)).trans HBLK1.out; obtain ⟨k0, k1, k2, k3, f0, f1, f2, f3⟩ := g_cells hblk2; have HBLK2 := Lib.hid hblk2; have HB2 := Lib.hid hb2; clear hblk2 hb2)
  have hb4 := put4_blk HBLK2.out (.slice none 0 0) (.slice none 0 0) (.bool false) (.int .i64 0)
  have ht4 := put4_tch w2 w.heap.size (.slice none 0 0) (.slice none 0 0) (.bool false) (.int .i64 0)
  unfold put4 at hb4 ht4
  try simp only [Exit.inBlock, Exit.then]
  refine ret26 rfl rfl rfl hb4 ?_
  have hba := HBA.out
  have hb1 := hba.trans (HB1.out.mono hba.size)
  have hb2 := hb1.trans (HB2.out.mono hb1.size)
  have hb5 : Below w.heap.size w _ := hb2.trans (ht4.below hb2.size (fun k hk e => by omega))
  exact ⟨H, _, _, rfl, ⟨(Turn.refl HR.out).below hb5, World.ownsRow_nil _ _ _ _, World.ownsRow_nil _ _ _ _, fun k hk => (by cases hk), fun k hk => (by cases hk)⟩⟩
end Go.Proofs.YtehnkebcbomidaaGreatDoor.Rt
section
namespace Go.Proofs.YtehnkebcbomidaaGreatDoor.Rt
open Go Go.RowKit Go.Proofs Go.Proofs.YtehnkebcbomidaaGreatDoorW.PrintWords Go.Proofs.YtehnkebcbomidaaGreatDoorW.PrintLast
def Rti (K : Nat → Prop) (r : Nat) (w : World) (S : St) : Prop := ∃ H : Sh, RAt H w S ∧ H.r = r ∧ ∀ k, K k → k < w.heap.size ∧ H.own k = 0
structure RPost (K : Nat → Prop) (r : Nat) (w : World) (v : Value) (S' : St) (e : Ending) (w' : World) : Prop where
  e : e = .returned v
  at_ : Rti K r w' S'
  tch : Tch (fun k => ¬ K k) w w'
theorem Rti.turn {K : Nat → Prop} {r : Nat} {w w' : World} {S' : St} {H H' : Sh} (hr : H.r = r) (hK : ∀ k, K k → k < w.heap.size ∧ H.own k = 0) (h : Turn H w S' H' w') : Rti K r w' S' ∧ Tch (fun k => ¬ K k) w w' :=
  ⟨⟨H', h.at_, h.r.trans hr, fun k hk => ⟨Nat.lt_of_lt_of_le (hK k hk).1 h.tch.size, h.own k (hK k hk).1 (hK k hk).2⟩⟩, h.tch.mono (fun k hk e hkk => e (hK k hkk).2)⟩
theorem Rti.of {K : Nat → Prop} {r : Nat} {w : World} {S S' : St} {v : Value} {fn : Nat} {args : Array Value} (h : Rti K r w S) (hc : ∀ H : Sh, RAt H w S → H.r = r → Calls Tryz.prog fn args w (MPost H w v S')) : Calls Tryz.prog fn args w (RPost K r w v S') := by
  obtain ⟨H, hR, hr, hK⟩ := h
  refine (hc H hR hr).mono (fun e w' hp => ?_)
  obtain ⟨h1, H', hT⟩ := hp.turn_
  obtain ⟨a, b⟩ := Rti.turn hr hK hT
  exact ⟨h1, a, b⟩
theorem Rti.keep {K : Nat → Prop} {r : Nat} {w : World} {S : St} (h : Rti K r w S) (o : Obj) : Rti (fun k => K k ∨ k = w.heap.size) r (w.alloc o) S := by
  obtain ⟨H, hR, hr, hK⟩ := h
  refine ⟨H, hR.below ((Below.refl _ w).alloc (Nat.le_refl _) _), hr, fun k hk => ?_⟩
  rcases hk with hk | hk
  · exact ⟨by have := (hK k hk).1; simp; omega, (hK k hk).2⟩
  · exact ⟨by simp; omega, hR.fresh (by omega)⟩
theorem Rti.fewer {K K' : Nat → Prop} {r : Nat} {w : World} {S : St} (h : Rti K r w S) (hk : ∀ k, K' k → K k) : Rti K' r w S := by
  obtain ⟨H, hR, hr, hK⟩ := h
  exact ⟨H, hR, hr, fun k hkk => hK k (hk k hkk)⟩
section
variable {K : Nat → Prop} {r : Nat} {w : World} {S : St} {N : Int} (h : Rti K r w S) (ok : S.Ok N)
include h ok
theorem Rti.join (f : Int) : Calls Tryz.prog 34 #[.pointer (some ⟨r, 0, none⟩), .int .i64 f] w (RPost K r w (.int .i64 (S.join f).1) (S.join f).2) := h.of (fun H hR hr => by subst hr; exact join_call w H S hR ok f)
theorem Rti.publish (f c : Int) (is : Bool) : Calls Tryz.prog 35 #[.pointer (some ⟨r, 0, none⟩), .int .i64 f, .int .i64 c, .bool is] w (RPost K r w (.int .i64 (S.publish f c is).1) (S.publish f c is).2) := h.of (fun H hR hr => by subst hr; exact publish_call w H S hR ok f c is)
theorem Rti.subscribe (f c : Int) (is : Bool) : Calls Tryz.prog 36 #[.pointer (some ⟨r, 0, none⟩), .int .i64 f, .int .i64 c, .bool is] w (RPost K r w (.int .i64 (S.subscribe f c is).1) (S.subscribe f c is).2) := h.of (fun H hR hr => by subst hr; exact subscribe_call w H S hR ok f c is)
theorem Rti.regulate (f k : Int) : Calls Tryz.prog 37 #[.pointer (some ⟨r, 0, none⟩), .int .i64 f, .int .i64 k] w (RPost K r w (.int .i64 (S.regulate f k).1) (S.regulate f k).2) := h.of (fun H hR hr => by subst hr; exact regulate_call w H S hR ok f k)
theorem Rti.constrain (f : Int) : Calls Tryz.prog 38 #[.pointer (some ⟨r, 0, none⟩), .int .i64 f] w (RPost K r w (.int .i64 (S.constrain f).1) (S.constrain f).2) := h.of (fun H hR hr => by subst hr; exact constrain_call w H S hR ok f)
theorem Rti.ask (f k t : Int) : Calls Tryz.prog 25 #[.pointer (some ⟨r, 0, none⟩), .int .i64 f, .int .i64 k, .int .i64 t] w (RPost K r w (.int .i64 (S.ask f k t).1) (S.ask f k t).2) := h.of (fun H hR hr => by subst hr; exact ask_call w H S hR ok f k t)
theorem Rti.send (hN : N + 1 < 9223372036854775808) (f c body t : Int) (timed : Bool) : Calls Tryz.prog 24 #[.pointer (some ⟨r, 0, none⟩), .int .i64 f, .int .i64 c, .int .i64 body, .int .i64 t, .bool timed] w (RPost K r w (.tuple #[.int .i64 (S.send f c body t timed).1, .int .i64 (S.send f c body t timed).2.1]) (S.send f c body t timed).2.2) := h.of (fun H hR hr => by subst hr; exact send_call w H S hR ok hN f c body t timed)
end
structure GPost (K : Nat → Prop) (r : Nat) (w : World) (G : Gv) (S' : St) (vp vt : Value) (w' : World) : Prop where
  at_ : Rti (fun k => K k ∨ vp.ownBlock = some k ∨ vt.ownBlock = some k) r w' S'
  tch : Tch (fun k => ¬ K k) w w'
  p : w'.ownsRow 0 41 6 vp G.plain.length (flatM G.plain)
  t : w'.ownsRow 0 41 6 vt G.timed.length (flatM G.timed)
def GEnd (K : Nat → Prop) (r : Nat) (w : World) (G : Gv) (E : Int) (S' : St) (e : Ending) (w' : World) : Prop :=
  ∃ vp vt, e = .returned (.tuple #[.agg #[vp, vt, .bool G.granted, .int .i64 G.time], .int .i64 E]) ∧ GPost K r w G S' vp vt w'
theorem Rti.look_of {K : Nat → Prop} {r : Nat} {w : World} {S S' : St} {G : Gv} {E : Int} {args : Array Value} (h : Rti K r w S) (hc : ∀ H : Sh, RAt H w S → H.r = r → Calls Tryz.prog 26 args w (LPost H w G E S')) : Calls Tryz.prog 26 args w (GEnd K r w G E S') := by
  obtain ⟨H, hR, hr, hK⟩ := h
  refine (hc H hR hr).mono (fun e w' hp => ?_)
  obtain ⟨H', vp, vt, he, hL⟩ := hp
  obtain ⟨a, b⟩ := Rti.turn hr hK hL.turn
  refine ⟨vp, vt, he, ⟨H', hL.turn.at_, hL.turn.r.trans hr, fun k hk => ?_⟩, b, hL.p, hL.t⟩
  rcases hk with hk | hk | hk
  · exact ⟨Nat.lt_of_lt_of_le (hK k hk).1 hL.turn.tch.size, hL.turn.own k (hK k hk).1 (hK k hk).2⟩
  · exact ⟨own_lt hL.p k hk, hL.pow k hk⟩
  · exact ⟨own_lt hL.t k hk, hL.tow k hk⟩
theorem rti_new {w w' : World} {P : List Int} {e : Ending} (h : NewPost w P e w') : ∃ r, e = .returned (.tuple #[.pointer (some ⟨r, 0, none⟩), .int .i64 0]) ∧ Rti (fun k => k < w.heap.size) r w' (St.new P) ∧ Below w.heap.size w w' := by
  obtain ⟨H, h1, h2, h3, h4⟩ := h
  exact ⟨H.r, h1, ⟨H, h2, rfl, fun k hk => ⟨Nat.lt_of_lt_of_le hk h4.size, h3 k hk⟩⟩, h4⟩
end Go.Proofs.YtehnkebcbomidaaGreatDoor.Rt
end
section
namespace Go.Proofs.YtehnkebcbomidaaGreatDoor.Rt
def duo (m0 m1 : Mem) : St := ⟨[-1], [1], [1, 1, 0, 0, 0, 0, 0, 0], [m0, m1, {}, {}, {}, {}, {}, {}], false⟩
theorem duo1 (m0 m1 : Mem) : (duo m0 m1).get 1 = m1 := rfl
theorem duoN (m0 m1 : Mem) (g : Nat) (h : 2 ≤ g) : (duo m0 m1).get g = {} := by
  unfold St.get duo
  match g, h with
  | g + 2, _ =>
    show ([{}, {}, {}, {}, {}, {}] : List Mem).getD g {} = {}
    rw [List.getD_eq_getElem?_getD]
    rcases g with _ | _ | _ | _ | _ | _ | g <;> rfl
theorem duo_put0 (m0 m1 m : Mem) : (duo m0 m1).put 0 m = duo m m1 := rfl
theorem duo_put1 (m0 m1 m : Mem) : (duo m0 m1).put 1 m = duo m0 m := rfl
theorem duo_l8 (m0 m1 : Mem) : (duo m0 m1).l.length = 8 := rfl
theorem duo_by0 {m0 : Mem} (m1 : Mem) (h : m0.is = true) : (duo m0 m1).byE 0 = 0 := by
  unfold St.byE
  rw [if_neg (by omega), if_neg (by show ¬ m0.is = false; simp [h]), if_neg (by show ¬ false = true; decide)]
theorem duo_by1 (m0 : Mem) {m1 : Mem} (h : m1.is = true) : (duo m0 m1).byE 1 = 0 := by
  unfold St.byE
  rw [if_neg (by omega), if_neg (by show ¬ m1.is = false; simp [h]), if_neg (by show ¬ false = true; decide)]
theorem later_le {m : Mem} (h1 : 1 ≤ m.look) (h2 : m.look ≤ 1048576) {t : Int} (ht : 0 ≤ t) (ht2 : t + m.look ≤ 1099511627776) : m.lm.later t = t + m.look := by
  unfold LM.later
  have : max 1 (min m.lm.look 1048576) = m.look := by
    show max 1 (min m.look 1048576) = m.look
    omega
  rw [this]
  unfold tadd tclamp
  repeat' split
  all_goals omega
theorem duo_out0 {m0 : Mem} (m1 : Mem) (h1 : 1 ≤ m0.look) (h2 : m0.look ≤ 1048576) (hk : m0.kind = 0 ∨ m0.kind = 1) {t : Int} (hb : m0.lm.base = t) (ht : 0 ≤ t) (ht2 : t + m0.look ≤ 1099511627776) : O (duo m0 m1) 0 = t + m0.look := by
  rw [O_own (S := duo m0 m1) (j := 0) (by rw [duo_l8]; decide) (by show m0.look > 0; omega) (by show m0.lm.hangs = false; rw [hangs_eq]; rcases hk with e | e <;> simp [e])]
  show m0.lm.later m0.lm.base = _
  rw [hb, later_le h1 h2 ht ht2]
theorem duo_bound1 {m0 : Mem} (m1 : Mem) (h1 : 1 ≤ m0.look) : (duo m0 m1).bound 1 = O (duo m0 m1) 0 := by
  have a := bound_le (S := duo m0 m1) rfl 1 0 (by decide) (by decide) (by show m0.look > 0; omega)
  have b := bound_att (S := duo m0 m1) rfl 1
  have c := O_le (duo m0 m1) 0 (by rw [duo_l8]; decide)
  rcases b with b | ⟨g, g1, g2, g3, g4⟩
  · have b : (duo m0 m1).bound 1 = 1125899906842624 := b
    have a : (duo m0 m1).bound 1 ≤ O (duo m0 m1) 0 := a
    omega
  · have : g = 0 := by
      by_cases e : g = 0
      · exact e
      · rw [duoN m0 m1 g (by omega)] at g3
        exact absurd g3 (by decide)
    subst this
    exact g4
theorem duo_route0 {m0 m1 : Mem} (h : m1.subs = 1) : (duo m0 m1).route 0 0 = [1] := by
  unfold St.route
  show ((List.range 8).filter fun g : Nat => decide ((g : Int) ≠ 0) && hears ((duo m0 m1).get g).subs 1) = [1]
  have e : ((List.range 8).filter fun g : Nat => decide ((g : Int) ≠ 0) && hears ((duo m0 m1).get g).subs 1) = (List.range 8).filter fun g : Nat => decide (g = 1) := by
    refine List.filter_congr fun g hg => ?_
    have hg : g < 8 := by simpa using hg
    by_cases e0 : g = 0
    · subst e0; rfl
    · by_cases e1 : g = 1
      · subst e1
        rw [duo1, h]
        rfl
      · rw [duoN m0 m1 g (by omega)]
        simp [hears, e1]
  rw [e]
  rfl
theorem duo_send {m0 m1 : Mem} (i0 : m0.is = true) (l1 : 1 ≤ m0.look) (l2 : m0.look ≤ 1048576) (hk : m0.kind = 0) (ht0 : m0.time = 0) (hs : m1.subs = 1) (hc : m1.con = true) (hq : m1.Q.length < 64) {i t : Int} (b0 : 0 ≤ i) (b1 : i < 1000) (t0 : m0.look ≤ t) (t1 : t ≤ 1099511627776) :
    (duo m0 m1).send 0 0 i t true = (m0.sent, 0, duo { m0 with sent := m0.sent + 1 } { m1 with Q := ins ⟨⟨t, 0, m0.sent⟩, 1, 0, i⟩ m1.Q }) := by
  have hreg : (duo m0 m1).reg 0 true = true := by
    unfold St.reg
    show (true && decide (m0.look > 0)) = true
    simp; omega
  have hbase : m0.lm.base = 0 := by rw [base_kind0 m0 hk, ht0]; rfl
  have hout := duo_out0 m1 l1 l2 (.inl hk) hbase (Int.le_refl _) (by omega)
  have hE : (duo m0 m1).sendE 0 0 i t true = 0 := by
    unfold St.sendE
    rw [if_neg (by rw [duo_by0 m1 i0]; decide), if_neg (by unfold St.noClass duo; simp), if_neg (by show ¬ Nat.testBit 1 0 = false; decide), if_neg (by omega), if_neg (by omega), hreg, duo_route0 hs]
    rw [if_neg, if_neg]
    · show ¬ (([1] : List Nat).any ((duo m0 m1).fullAt true)) = true
      have : (duo m0 m1).fullAt true 1 = false := by
        unfold St.fullAt
        rw [duo1, hc]
        simp; omega
      simp [this]
    · rintro ⟨_, z⟩
      have z : t < O (duo m0 m1) 0 := z
      omega
  unfold St.send
  rw [if_neg (by rw [hE]; decide), hreg, duo_route0 hs]
  show (m0.sent, (0 : Int), ((duo m0 m1).put 1 (m1.take true { (duo m0 m1).msg 0 0 i t true with d := ((1 : Nat) : Int) })).put 0 { m0 with sent := m0.sent + 1 }) = _
  have : m1.take true { (duo m0 m1).msg 0 0 i t true with d := ((1 : Nat) : Int) } = { m1 with Q := ins ⟨⟨t, 0, m0.sent⟩, 1, 0, i⟩ m1.Q } := by
    unfold Mem.take
    rw [hc]
    rfl
  rw [this, duo_put1, duo_put0]
theorem duo_flush {m0 m1 : Mem} (i1 : m1.is = true) (hc : m1.con = true) (hk : m1.kind = 3) (ht : m1.time = 0) (ha : 0 ≤ m1.ask) {B : Int} (hB : (duo m0 m1).bound 1 = B) (hB0 : 0 ≤ B) (hq : ∀ x ∈ m1.Q, 0 ≤ x.k.t) :
    ∃ t, (duo m0 m1).look 1 = (⟨m1.P, m1.Q, true, t⟩, 0, duo m0 { m1 with P := [], Q := [], time := t, kind := 0, ask := 0 }) ∧ t = (match m1.Q with | [] => min m1.ask B | q :: _ => min (min m1.ask B) q.k.t) := by
  have hg : (duo m0 m1).grant 1 = (true, (match m1.Q with | [] => min m1.ask B | q :: _ => min (min m1.ask B) q.k.t), m1.Q.length) := by
    unfold St.grant
    rw [duo1, hc, if_pos rfl]
    show dec m1.kind m1.ask m1.time ((duo m0 m1).bound 1) (m1.Q.map fun m => m.k.t) = _
    rw [hB]
    unfold dec
    rw [hk, if_neg (by decide), if_neg (by decide), if_pos rfl, ht, List.length_map]
    refine Prod.ext rfl (Prod.ext ?_ rfl)
    show max 0 (if m1.Q.map (fun m => m.k.t) = [] then min m1.ask B else min (min m1.ask B) ((m1.Q.map fun m => m.k.t).getD 0 0)) = _
    cases hQ : m1.Q with
    | nil => simp; omega
    | cons q Q =>
      have := hq q (by rw [hQ]; exact List.mem_cons_self)
      simp
      omega
  refine ⟨_, ?_, rfl⟩
  unfold St.look
  rw [if_neg (by rw [duo_by1 m0 i1]; decide)]
  simp only [show (1 : Int).toNat = 1 from rfl, duo1]
  rw [hg]
  simp only [Bool.true_eq_false, if_false, List.take_length, List.drop_length, duo_put1]
def nw1 : St := ⟨[-1], [1], [0, 0, 0, 0, 0, 0, 0, 0], [{}, {}, {}, {}, {}, {}, {}, {}], false⟩
theorem regulate_ok {S : St} {f look : Int} (hb : S.byE f = 0) (h1 : (S.get f.toNat).look = 0) (h2 : (S.get f.toNat).kind = 0) (h3 : 1 ≤ look) (h4 : look ≤ 1048576) (h5 : S.late f look = false) : S.regulate f look = (0, S.put f.toNat { S.get f.toNat with look := look }) := by
  unfold St.regulate
  rw [if_neg (fun z => z hb), if_neg (fun z => z h1), if_neg (fun z => z h2), if_neg (by omega), if_neg (by simp [h5])]
theorem constrain_ok {S : St} {f : Int} (hb : S.byE f = 0) (h1 : (S.get f.toNat).con = false) (h2 : (S.get f.toNat).kind = 0) (h3 : S.bound f > (S.get f.toNat).time) : S.constrain f = (0, S.put f.toNat { S.get f.toNat with con := true }) := by
  unfold St.constrain
  rw [if_neg (fun z => z hb), if_neg (by simp [h1]), if_neg (fun z => z h2), if_neg (fun z => z h3)]
def md (look : Int) (con : Bool) : Mem := { is := true, con := con, look := look, subs := 1 }
def du (pubs : List Nat) (m0 m1 : Mem) : St := ⟨[-1], [1], pubs, [m0, m1, {}, {}, {}, {}, {}, {}], false⟩
theorem du_bound0 (pubs : List Nat) {m0 m1 : Mem} (h : m1.look = 0) : (du pubs m0 m1).bound 0 = 1125899906842624 := by
  rcases bound_att (S := du pubs m0 m1) rfl 0 with b | ⟨g, g1, g2, g3, g4⟩
  · exact b
  · exfalso
    have e : ∀ g, g < 8 → g ≠ 0 → ((du pubs m0 m1).get g).look = 0 := by
      intro g hg h0
      have : g = 1 ∨ g = 2 ∨ g = 3 ∨ g = 4 ∨ g = 5 ∨ g = 6 ∨ g = 7 := by omega
      rcases this with rfl | rfl | rfl | rfl | rfl | rfl | rfl
      · exact h
      all_goals rfl
    have := e g g1 g2
    omega
structure PairOk (a b : Int) : Prop where
  j0 : nw1.join 0 = (0, du [0, 0, 0, 0, 0, 0, 0, 0] { is := true } {})
  p0 : (du [0, 0, 0, 0, 0, 0, 0, 0] { is := true } {}).publish 0 0 true = (0, du [1, 0, 0, 0, 0, 0, 0, 0] { is := true } {})
  s0 : (du [1, 0, 0, 0, 0, 0, 0, 0] { is := true } {}).subscribe 0 0 true = (0, du [1, 0, 0, 0, 0, 0, 0, 0] (md 0 false) {})
  r0 : (du [1, 0, 0, 0, 0, 0, 0, 0] (md 0 false) {}).regulate 0 a = (0, du [1, 0, 0, 0, 0, 0, 0, 0] (md a false) {})
  c0 : (du [1, 0, 0, 0, 0, 0, 0, 0] (md a false) {}).constrain 0 = (0, du [1, 0, 0, 0, 0, 0, 0, 0] (md a true) {})
  j1 : (du [1, 0, 0, 0, 0, 0, 0, 0] (md a true) {}).join 1 = (0, du [1, 0, 0, 0, 0, 0, 0, 0] (md a true) { is := true })
  p1 : (du [1, 0, 0, 0, 0, 0, 0, 0] (md a true) { is := true }).publish 1 0 true = (0, duo (md a true) { is := true })
  s1 : (duo (md a true) { is := true }).subscribe 1 0 true = (0, duo (md a true) (md 0 false))
  r1 : (duo (md a true) (md 0 false)).regulate 1 b = (0, duo (md a true) (md b false))
  c1 : (duo (md a true) (md b false)).constrain 1 = (0, duo (md a true) (md b true))
theorem pair_ok {a b : Int} (a1 : 1 ≤ a) (a2 : a ≤ 1048576) (b1 : 1 ≤ b) (b2 : b ≤ 1048576) : PairOk a b := by
  have hb : (du [1, 0, 0, 0, 0, 0, 0, 0] (md a true) { is := true }).byE 1 = 0 := by
    unfold St.byE
    rw [if_neg (by omega), if_neg (by show ¬ true = false; decide), if_neg (by show ¬ false = true; decide)]
  refine ⟨rfl, rfl, rfl, ?_, ?_, rfl, ?_, ?_, ?_, ?_⟩
  · exact regulate_ok (S := du [1, 0, 0, 0, 0, 0, 0, 0] (md 0 false) {}) rfl rfl rfl a1 a2 rfl
  · refine constrain_ok (S := du [1, 0, 0, 0, 0, 0, 0, 0] (md a false) {}) (f := 0) rfl rfl rfl ?_
    rw [du_bound0 _ rfl]
    show (1125899906842624 : Int) > 0
    decide
  · unfold St.publish
    rw [if_neg (fun z => z hb), if_neg (by unfold St.noClass du; simp)]
    show (0, (⟨[-1], [1], [1, bitSet 0 0 true, 0, 0, 0, 0, 0, 0], [md a true, { is := true }, {}, {}, {}, {}, {}, {}], false⟩ : St)) = _
    rw [show bitSet 0 0 true = 1 by decide]
    rfl
  · unfold St.subscribe
    rw [if_neg (fun z => z (duo_by1 _ rfl)), if_neg (by unfold St.noClass duo; simp)]
    show (0, duo (md a true) { is := true, subs := bitSet 0 0 true }) = _
    rw [show bitSet 0 0 true = 1 by decide]
    rfl
  · refine regulate_ok (S := duo (md a true) (md 0 false)) (f := 1) rfl rfl rfl b1 b2 ?_
    unfold St.late
    show ((List.range 8).any fun g : Nat => decide ((g : Int) ≠ 1) && ((duo (md a true) (md 0 false)).get g).con && decide (tadd 0 b ≤ ((duo (md a true) (md 0 false)).get g).time)) = false
    rw [List.any_eq_false]
    intro g hg
    have hg : g < 8 := by simpa using hg
    have ht : ((duo (md a true) (md 0 false)).get g).time = 0 := by
      by_cases e0 : g = 0
      · subst e0; rfl
      · by_cases e1 : g = 1
        · subst e1; rfl
        · rw [duoN _ _ g (by omega)]
    have : ¬ tadd 0 b ≤ 0 := by unfold tadd tclamp; repeat' split <;> omega
    rw [ht, decide_eq_false this]
    simp
  · refine constrain_ok (S := duo (md a true) (md b false)) (f := 1) rfl rfl rfl ?_
    rw [duo_bound1 (m0 := md a true) _ a1, duo_out0 (m0 := md a true) _ a1 a2 (.inl rfl) (t := 0) rfl (Int.le_refl _) (by show 0 + a ≤ 1099511627776; omega)]
    show 0 + a > 0
    omega
end Go.Proofs.YtehnkebcbomidaaGreatDoor.Rt
end
