/- Part of a proof over the given program: Be, An, Rx. -/
import Derived.Test.YtehnkebcbomidaaGreatDoorCn39
import Derived.Test.YtehnkebcbomidaaGreatDoorCn35
import Derived.Test.YtehnkebcbomidaaGreatDoorCn37
set_option linter.unusedVariables false
set_option linter.unusedSimpArgs false
namespace Go.Proofs.YtehnkebcbomidaaGreatDoor.Rt
open Go Go.RowKit Go.Proofs Go.Proofs.YtehnkebcbomidaaGreatDoorW.PrintWords Go.Proofs.YtehnkebcbomidaaGreatDoorW.PrintLast
theorem asks_call (w : World) (k0 k1 : Bool) (k2 k3 k4 k5 k6 : Int) (k7 : Option Addr) (A : Option Addr) (n c : Nat) (k9 : Int) :
  Calls Tryz.prog 107 #[.agg #[.bool k0, .bool k1, .int .i64 k2, .int .i64 k3, .int .i64 k4, .int .i64 k5, .int .i64 k6, .pointer k7, .slice A n c, .int .u32 k9]] w fun e w' => e = .returned (.bool (decide (0 < k4))) ∧ Below w.heap.size w w' := by
 have hu112 := Tryz.underlying112
 go_enter Tryz.func107, Tryz.ntmps107
 go_wp2
 go_ret
 exact ⟨rfl, (Below.refl _ _).alloc (Nat.le_refl _) _⟩
theorem any_ask (S : St) (h8 : S.l.length = 8) : S.l.any (fun m => decide (m.kind > 0)) = true ↔ ∃ j, j < 8 ∧ 0 < (S.get j).kind := by
 rw [List.any_eq_true]
 constructor
 ·rintro ⟨m, hm, h⟩
  obtain ⟨j, hj, e⟩ := List.getElem_of_mem hm
  refine ⟨j, by omega, ?_⟩
  unfold St.get
  rw [List.getD_eq_getElem?_getD, List.getElem?_eq_getElem hj, e]
  simpa using h
 ·rintro ⟨j, hj, h⟩
  have hj2 : j < S.l.length := by omega
  refine ⟨S.l[j], List.getElem_mem hj2, ?_⟩
  have e : S.get j = S.l[j] := by
   unfold St.get
   rw [List.getD_eq_getElem?_getD, List.getElem?_eq_getElem hj2]
   rfl
  rw [← e]
  simpa using h
set_option maxHeartbeats 4000000 in
set_option maxRecDepth 100000 in
theorem index_ask (w : World) (H : Sh) (S : St) (hR : RAt H w S) (h8 : S.l.length = 8) :
  Calls Tryz.prog 172 #[.slice (some ⟨H.r, 2, none⟩) 8 8, .func (.func 107) #[] #[]] w fun e w' => ∃ r : Int, e = .returned (.int .i64 r) ∧ decide (0 ≤ r) = S.l.any (fun m => decide (m.kind > 0)) ∧ Below w.heap.size w w' := by
 have hu164 := Tryz.underlying164
 have hu112 := Tryz.underlying112
 have HR := Lib.hid hR
 have H8 := Lib.hid h8
 clear hR h8
 go_enter Tryz.func172, Tryz.ntmps172
 go_wp2
 go_loopw [8] (fun jv wr => ∃ j : Nat, j ≤ 8 ∧ jv = .int .i64 j ∧ (∀ k, k < j → (S.get k).kind ≤ 0) ∧ Below w.heap.size w wr) (fun jv _ => 8 - (RowKit.intOf jv).toNat)
 case atStart => exact ⟨0, Nat.zero_le _, rfl, fun k hk => by omega, Below.refl _ _⟩
 case round =>
  obtain ⟨j, hj, rfl, hno, hb⟩ := hrel
  by_cases hjn : j < 8
  ·have hjl : (j : Int) < 8 := by omega
   have hj0 : (0 : Int) ≤ (j : Int) := by omega
   have hRr := HR.out.below hb
   obtain ⟨PA, pc, hpl⟩ := own_slice (hRr.pla j hjn)
   have k0 := hRr.c_is hjn
   have k1 := hRr.c_con hjn
   have k2 := hRr.c_time hjn
   have k3 := hRr.c_look hjn
   have k4 := hRr.c_kind hjn
   have k5 := hRr.c_ask hjn
   have k6 := hRr.c_sent hjn
   have k7 := hRr.c_q hjn
   have k8 := hRr.c_pl hjn
   have k9 := hRr.c_subs hjn
   rw [hpl] at k8
   have HNO := Lib.hid hno
   have HB := Lib.hid hb
   clear hRr hpl hno hb
   go_wp2_with fail
   refine (asks_call _ _ _ _ _ _ _ _ _ _ _ _ _).mono ?_
   rintro e w5 ⟨rfl, hb5⟩
   have HB5 := Lib.hid hb5
   clear hb5
   by_cases hk : 0 < (S.get j).kind
   ·clear k0 k1 k2 k3 k4 k5 k6 k7 k8 k9
    go_wp2
    go_ret
    refine ⟨j, rfl, ?_, HB.out.trans (HB5.out.mono HB.out.size)⟩
    rw [(any_ask S H8.out).2 ⟨j, hjn, hk⟩]
    simp
   ·clear k0 k1 k2 k3 k4 k5 k6 k7 k8 k9
    go_wp2
    refine ⟨⟨j + 1, hjn, by simp, fun k hkk => ?_, HB.out.trans (HB5.out.mono HB.out.size)⟩, by simp [RowKit.intOf]; omega⟩
    by_cases e : k = j
    ·rw [e]; omega
    ·exact HNO.out k (by omega)
  ·obtain rfl : j = 8 := by omega
   have hji : ¬ (8 : Int) < 8 := by omega
   have HNO := Lib.hid hno
   have HB := Lib.hid hb
   clear hno hb
   go_wp2
   go_ret
   refine ⟨-1, rfl, ?_, HB.out⟩
   have hf : S.l.any (fun m => decide (m.kind > 0)) = false := by
    cases ha : S.l.any (fun m => decide (m.kind > 0)) with
    | false => rfl
    | true =>
     obtain ⟨j, hj, h⟩ := (any_ask S H8.out).1 ha
     have := HNO.out j hj
     omega
   rw [hf]
   rfl
theorem contains_ask (w : World) (H : Sh) (S : St) (hR : RAt H w S) (h8 : S.l.length = 8) :
  Calls Tryz.prog 106 #[.slice (some ⟨H.r, 2, none⟩) 8 8, .func (.func 107) #[] #[]] w fun e w' => e = .returned (.bool (S.l.any (fun m => decide (m.kind > 0)))) ∧ Below w.heap.size w w' := by
 have hc := index_ask w H S hR h8
 generalize S.l.any (fun m => decide (m.kind > 0)) = bb at hc ⊢
 have HC := Lib.hid hc
 clear hc hR h8
 go_enter Tryz.func106, Tryz.ntmps106
 go_wp2_with (go_at_call 172; (with_reducible refine HC.out.mono ?_); rintro e w1 ⟨r, rfl, hr, hb1⟩)
 go_ret
 exact ⟨rfl, hb1⟩
set_option maxHeartbeats 8000000 in
set_option maxRecDepth 100000 in
theorem begin_call (w : World) (H : Sh) (S : St) (hR : RAt H w S) (h8 : S.l.length = 8) :
  Calls Tryz.prog 47 #[.pointer (some ⟨H.r, 0, none⟩)] w (MPost H w (.int .i64 (S.begin).1) (S.begin).2) := by
 have hj : S.begin = match firstNo [(!S.saving, 212), (!S.l.any (fun m => decide (m.kind > 0)), 206)] with | some c => (c, S) | none => (0, { S with saving := true }) := by
  unfold St.begin
  cases S.saving <;> cases S.l.any (fun m => decide (m.kind > 0)) <;> rfl
 have ho : ∀ c, firstNo [(!S.saving, 212), (!S.l.any (fun m => decide (m.kind > 0)), 206)] = some c → 0 ≤ c ∧ c < 220 := by
  intro c
  cases S.saving <;> cases S.l.any (fun m => decide (m.kind > 0)) <;> simp [firstNo] <;> intro e <;> omega
 have hc := contains_ask w H S hR h8
 have hR1 := fun w1 hb1 => hR.below (W' := w1) hb1
 generalize S.l.any (fun m => decide (m.kind > 0)) = ba at hc hj ho
 have HC := Lib.hid hc
 have HR := Lib.hid hR
 have HR1 := Lib.hid hR1
 have HJ := Lib.hid hj
 have HO := Lib.hid ho
 clear hc hR hR1 hj ho h8
 have hu115 := Tryz.underlying115
 have hu113 := Tryz.underlying113
 have hu121 := Tryz.underlying121
 have hu193 := Tryz.underlying193
 have hal := fun (W : World) (b1 b2 : Bool) => all2 (W.alloc (.cells #[.bool b1, .int .i64 212, .bool b2, .int .i64 206] 121)) (-1) W.heap.size b1 b2 212 206 (heap_alloc_new W _)
 have HAL := Lib.hid hal
 clear hal
 go_enter Tryz.func47, Tryz.ntmps47
 go_wp2_with (go_at_call 106; (with_reducible refine HC.out.mono ?_); rintro e w1 ⟨rfl, hb1⟩; have c1 := (HR1.out w1 hb1).c_sv; have HB1 := Lib.hid hb1; clear hb1)
 refine (HAL.out _ _ _).mono ?_
 rintro e w5 ⟨hr5, hb5⟩
 obtain ⟨v5, rfl, hr5⟩ := hr5.ret
 have hB : Below w.heap.size w w5 := (HB1.out.alloc HB1.out.size _).trans (hb5.mono (by have := HB1.out.size; simp; omega))
 have hr : AllRes w (-1) (firstNo [(!S.saving, 212), (!ba, 206)]) (.returned v5) w5 := AllRes.mono (w := w) hr5 (by have := HB1.out.size; simp; omega)
 have ho := HO.out
 have hj := HJ.out
 have hR5 := HR.out.below hB
 generalize firstNo [(!S.saving, 212), (!ba, 206)] = o at hr ho hj
 clear hr5 hb5 c1
 cases o with
 | none =>
  have hv : v5 = .nilIface := by cases hr; rfl
  subst hv
  have d1 := hR5.c_sv
  have f1 := hR5.free 82
  have HJ2 := Lib.hid hj
  have HR5 := Lib.hid hR5
  have HB := Lib.hid hB
  clear hr ho hj hR5 hB
  go_wp2
  go_ret
  rw [HJ2.out]
  have ht : Tch (fun k => k = H.r) w5 (w5.setCell ⟨H.r, 82, none⟩ (.bool true)) := Tch.setCell (P := fun k => k = H.r) (Tch.refl _ _) (p := ⟨H.r, 82, none⟩) (.inl rfl) _
  exact MPost.turn HR.out HB.out (HR5.out.turn ht (blk_sv HR5.out.blk true) rfl rfl rfl (fun _ _ => ⟨rfl, rfl, rfl⟩)) ht _
 | some c =>
  have hcc := ho c rfl
  have henv := hR5.env
  obtain ⟨gg, hg1, hg2, hg3⟩ := hr
  cases hg2
  have HJ2 := Lib.hid hj
  have HR5 := Lib.hid hR5
  have HB := Lib.hid hB
  have her := errno_ref w5 henv gg (-1) c hcc.1 hcc.2 hg3
  have HER := Lib.hid her
  clear ho hj hR5 hB henv hg3 her
  go_wp2_with (go_at_call 64; (with_reducible refine HER.out.mono ?_); rintro e w6 ⟨rfl, hb6⟩)
  go_ret
  rw [HJ2.out]
  exact MPost.same HR.out (HB.out.trans (hb6.mono HB.out.size)) _
end Go.Proofs.YtehnkebcbomidaaGreatDoor.Rt
namespace Go.Proofs.YtehnkebcbomidaaGreatDoor.Rt
open Go Go.RowKit Go.Proofs
theorem MPost.no {H : Sh} {w : World} {S S' : St} {f : Int} {r : Int} (hR : RAt H w S) (hs : (S.byE f, S) = (r, S')) {e : Ending} {w' : World} (h : e = .returned (.int .i64 (S.byE f)) ∧ Below w.heap.size w w') : MPost H w (.int .i64 r) S' e w' := by
 cases hs
 obtain ⟨rfl, hb⟩ := h
 exact MPost.same hR hb _
theorem join_call (w : World) (H : Sh) (S : St) {N : Int} (hR : RAt H w S) (ok : S.Ok N) (f : Int) :
  Calls Tryz.prog 34 #[.pointer (some ⟨H.r, 0, none⟩), .int .i64 f] w (MPost H w (.int .i64 (S.join f).1) (S.join f).2) := by
 by_cases h : f < 0 ∨ 8 ≤ f
 ·have e : S.join f = (1, S) := by unfold St.join; rw [if_pos h]
  rw [e]
  refine (join_out w H.r f h).mono ?_
  rintro e w' ⟨rfl, rfl⟩
  exact MPost.same hR (Below.refl _ _) _
 ·obtain ⟨n, rfl⟩ : ∃ n : Nat, f = n := ⟨f.toNat, by omega⟩
  exact join_in w H S hR ok.l8 n (by omega)
theorem resign_call (w : World) (H : Sh) (S : St) {N : Int} (hR : RAt H w S) (ok : S.Ok N) (f : Int) :
  Calls Tryz.prog 50 #[.pointer (some ⟨H.r, 0, none⟩), .int .i64 f] w (MPost H w (.int .i64 (S.resign f).1) (S.resign f).2) := by
 by_cases he : S.byE f = 0
 ·obtain ⟨n, rfl, hn⟩ := yes_in he
  exact resign_yes w H S hR ok n hn he
 ·refine (resign_no w H S hR f he).mono (fun e w' h => MPost.no hR ?_ h)
  unfold St.resign
  rw [if_pos he]
theorem publish_call (w : World) (H : Sh) (S : St) {N : Int} (hR : RAt H w S) (ok : S.Ok N) (f : Int) (c : Int) (is : Bool) :
  Calls Tryz.prog 35 #[.pointer (some ⟨H.r, 0, none⟩), .int .i64 f, .int .i64 c, .bool is] w (MPost H w (.int .i64 (S.publish f c is).1) (S.publish f c is).2) := by
 by_cases he : S.byE f = 0
 ·obtain ⟨n, rfl, hn⟩ := yes_in he
  exact publish_yes w H S hR ok n hn he c is
 ·refine (publish_no w H S hR f c is he).mono (fun e w' h => MPost.no hR ?_ h)
  unfold St.publish
  rw [if_pos he]
theorem subscribe_call (w : World) (H : Sh) (S : St) {N : Int} (hR : RAt H w S) (ok : S.Ok N) (f : Int) (c : Int) (is : Bool) :
  Calls Tryz.prog 36 #[.pointer (some ⟨H.r, 0, none⟩), .int .i64 f, .int .i64 c, .bool is] w (MPost H w (.int .i64 (S.subscribe f c is).1) (S.subscribe f c is).2) := by
 by_cases he : S.byE f = 0
 ·obtain ⟨n, rfl, hn⟩ := yes_in he
  exact subscribe_yes w H S hR ok n hn he c is
 ·refine (subscribe_no w H S hR f c is he).mono (fun e w' h => MPost.no hR ?_ h)
  unfold St.subscribe
  rw [if_pos he]
theorem regulate_call (w : World) (H : Sh) (S : St) {N : Int} (hR : RAt H w S) (ok : S.Ok N) (f : Int) (lk : Int) :
  Calls Tryz.prog 37 #[.pointer (some ⟨H.r, 0, none⟩), .int .i64 f, .int .i64 lk] w (MPost H w (.int .i64 (S.regulate f lk).1) (S.regulate f lk).2) := by
 by_cases he : S.byE f = 0
 ·obtain ⟨n, rfl, hn⟩ := yes_in he
  by_cases hk : 1 ≤ lk
  ·exact regulate_y w H S hR ok.l8 n hn he lk hk
  ·exact regulate_n w H S hR ok.l8 n hn he lk hk
 ·refine (regulate_no w H S hR f lk he).mono (fun e w' h => MPost.no hR ?_ h)
  unfold St.regulate
  rw [if_pos he]
theorem unregulate_call (w : World) (H : Sh) (S : St) {N : Int} (hR : RAt H w S) (ok : S.Ok N) (f : Int) :
  Calls Tryz.prog 104 #[.pointer (some ⟨H.r, 0, none⟩), .int .i64 f] w (MPost H w (.int .i64 (S.unregulate f).1) (S.unregulate f).2) := by
 by_cases he : S.byE f = 0
 ·obtain ⟨n, rfl, hn⟩ := yes_in he
  exact unregulate_yes w H S hR ok.l8 n hn he
 ·refine (unregulate_no w H S hR f he).mono (fun e w' h => MPost.no hR ?_ h)
  unfold St.unregulate
  rw [if_pos he]
theorem constrain_call (w : World) (H : Sh) (S : St) {N : Int} (hR : RAt H w S) (ok : S.Ok N) (f : Int) :
  Calls Tryz.prog 38 #[.pointer (some ⟨H.r, 0, none⟩), .int .i64 f] w (MPost H w (.int .i64 (S.constrain f).1) (S.constrain f).2) := by
 by_cases he : S.byE f = 0
 ·obtain ⟨n, rfl, hn⟩ := yes_in he
  exact constrain_yes w H S hR ok.l8 n hn he
 ·refine (constrain_no w H S hR f he).mono (fun e w' h => MPost.no hR ?_ h)
  unfold St.constrain
  rw [if_pos he]
theorem ask_call (w : World) (H : Sh) (S : St) {N : Int} (hR : RAt H w S) (ok : S.Ok N) (f : Int) (k t : Int) :
  Calls Tryz.prog 25 #[.pointer (some ⟨H.r, 0, none⟩), .int .i64 f, .int .i64 k, .int .i64 t] w (MPost H w (.int .i64 (S.ask f k t).1) (S.ask f k t).2) := by
 by_cases he : S.byE f = 0
 ·obtain ⟨n, rfl, hn⟩ := yes_in he
  by_cases hk : 1 ≤ k <;> by_cases ht : 0 ≤ t
  ·exact ask_yy w H S hR ok.l8 n hn he k t hk ht
  ·exact ask_yn w H S hR ok.l8 n hn he k t hk ht
  ·exact ask_ny w H S hR ok.l8 n hn he k t hk ht
  ·exact ask_nn w H S hR ok.l8 n hn he k t hk ht
 ·refine (ask_no w H S hR f k t he).mono (fun e w' h => MPost.no hR ?_ h)
  unfold St.ask
  rw [if_pos he]
end Go.Proofs.YtehnkebcbomidaaGreatDoor.Rt
section
namespace Go.Proofs.YtehnkebcbomidaaGreatDoor.Rt
open Go Go.RowKit Go.Proofs Go.Proofs.YtehnkebcbomidaaGreatDoorW.PrintWords Go.Proofs.YtehnkebcbomidaaGreatDoorW.PrintLast
def Rti (K : Nat → Prop) (r : Nat) (w : World) (S : St) : Prop := ∃ H : Sh, RAt H w S ∧ H.r = r ∧ ∀ k, K k → k < w.heap.size ∧ H.own k = 0
structure RPost (K : Nat → Prop) (r : Nat) (w : World) (v : Value) (S' : St) (e : Ending) (w' : World) : Prop where
 e : e = .returned v
 at_ : Rti K r w' S'
 tch : Tch (fun k => ¬ K k) w w'
theorem Rti.turn {K : Nat → Prop} {r : Nat} {w w' : World} {S' : St} {H H' : Sh} (hr : H.r = r) (hK : ∀ k, K k → k < w.heap.size ∧ H.own k = 0) (h : Turn H w S' H' w') : Rti K r w' S' ∧ Tch (fun k => ¬ K k) w w' :=
 ⟨⟨H', h.at_, h.r.trans hr, fun k hk => ⟨Nat.lt_of_lt_of_le (hK k hk).1 h.tch.size, h.own k (hK k hk).1 (hK k hk).2⟩⟩, h.tch.mono (fun k hk e hkk => e (hK k hkk).2)⟩
theorem Rti.of {K : Nat → Prop} {r : Nat} {w : World} {S S' : St} {v : Value} {fn : Nat} {args : Array Value} (h : Rti K r w S) (hc : ∀ H : Sh, RAt H w S → H.r = r → Calls Tryz.prog fn args w (MPost H w v S')) : Calls Tryz.prog fn args w (RPost K r w v S') := by
 obtain ⟨H, hR, hr, hK⟩ := h
 refine (hc H hR hr).mono (fun e w' hp => ?_)
 obtain ⟨h1, H', hT⟩ := hp.turn_
 obtain ⟨a, b⟩ := Rti.turn hr hK hT
 exact ⟨h1, a, b⟩
theorem Rti.below {K : Nat → Prop} {r : Nat} {w w' : World} {S : St} (h : Rti K r w S) (hb : Below w.heap.size w w') : Rti K r w' S := by
 obtain ⟨H, hR, hr, hK⟩ := h
 exact ⟨H, hR.below hb, hr, fun k hk => ⟨Nat.lt_of_lt_of_le (hK k hk).1 hb.size, (hK k hk).2⟩⟩
theorem Rti.keep {K : Nat → Prop} {r : Nat} {w : World} {S : St} (h : Rti K r w S) (o : Obj) : Rti (fun k => K k ∨ k = w.heap.size) r (w.alloc o) S := by
 obtain ⟨H, hR, hr, hK⟩ := h
 refine ⟨H, hR.below ((Below.refl _ w).alloc (Nat.le_refl _) _), hr, fun k hk => ?_⟩
 rcases hk with hk | hk
 ·exact ⟨by have := (hK k hk).1; simp; omega, (hK k hk).2⟩
 ·exact ⟨by simp; omega, hR.fresh (by omega)⟩
theorem Rti.fewer {K K' : Nat → Prop} {r : Nat} {w : World} {S : St} (h : Rti K r w S) (hk : ∀ k, K' k → K k) : Rti K' r w S := by
 obtain ⟨H, hR, hr, hK⟩ := h
 exact ⟨H, hR, hr, fun k hkk => hK k (hk k hkk)⟩
theorem Rti.env {K : Nat → Prop} {r : Nat} {w : World} {S : St} (h : Rti K r w S) : Env w := by
 obtain ⟨H, hR, _⟩ := h
 exact hR.env
section
variable {K : Nat → Prop} {r : Nat} {w : World} {S : St} {N : Int} (h : Rti K r w S) (ok : S.Ok N)
include h ok
theorem Rti.join (f : Int) : Calls Tryz.prog 34 #[.pointer (some ⟨r, 0, none⟩), .int .i64 f] w (RPost K r w (.int .i64 (S.join f).1) (S.join f).2) := h.of (fun H hR hr => by subst hr; exact join_call w H S hR ok f)
theorem Rti.resign (f : Int) : Calls Tryz.prog 50 #[.pointer (some ⟨r, 0, none⟩), .int .i64 f] w (RPost K r w (.int .i64 (S.resign f).1) (S.resign f).2) := h.of (fun H hR hr => by subst hr; exact resign_call w H S hR ok f)
theorem Rti.publish (f c : Int) (is : Bool) : Calls Tryz.prog 35 #[.pointer (some ⟨r, 0, none⟩), .int .i64 f, .int .i64 c, .bool is] w (RPost K r w (.int .i64 (S.publish f c is).1) (S.publish f c is).2) := h.of (fun H hR hr => by subst hr; exact publish_call w H S hR ok f c is)
theorem Rti.subscribe (f c : Int) (is : Bool) : Calls Tryz.prog 36 #[.pointer (some ⟨r, 0, none⟩), .int .i64 f, .int .i64 c, .bool is] w (RPost K r w (.int .i64 (S.subscribe f c is).1) (S.subscribe f c is).2) := h.of (fun H hR hr => by subst hr; exact subscribe_call w H S hR ok f c is)
theorem Rti.regulate (f k : Int) : Calls Tryz.prog 37 #[.pointer (some ⟨r, 0, none⟩), .int .i64 f, .int .i64 k] w (RPost K r w (.int .i64 (S.regulate f k).1) (S.regulate f k).2) := h.of (fun H hR hr => by subst hr; exact regulate_call w H S hR ok f k)
theorem Rti.unregulate (f : Int) : Calls Tryz.prog 104 #[.pointer (some ⟨r, 0, none⟩), .int .i64 f] w (RPost K r w (.int .i64 (S.unregulate f).1) (S.unregulate f).2) := h.of (fun H hR hr => by subst hr; exact unregulate_call w H S hR ok f)
theorem Rti.constrain (f : Int) : Calls Tryz.prog 38 #[.pointer (some ⟨r, 0, none⟩), .int .i64 f] w (RPost K r w (.int .i64 (S.constrain f).1) (S.constrain f).2) := h.of (fun H hR hr => by subst hr; exact constrain_call w H S hR ok f)
theorem Rti.unconstrain (f : Int) : Calls Tryz.prog 105 #[.pointer (some ⟨r, 0, none⟩), .int .i64 f] w (RPost K r w (.int .i64 (S.unconstrain f).1) (S.unconstrain f).2) := h.of (fun H hR hr => by
 subst hr
 by_cases he : S.byE f = 0
 ·obtain ⟨n, rfl, hn⟩ := yes_in he
  exact unconstrain_yes w H S hR ok n hn he
 ·refine (unconstrain_no w H S hR f he).mono (fun e w' h => MPost.no hR ?_ h)
  unfold St.unconstrain
  rw [if_pos he])
theorem Rti.ask (f k t : Int) : Calls Tryz.prog 25 #[.pointer (some ⟨r, 0, none⟩), .int .i64 f, .int .i64 k, .int .i64 t] w (RPost K r w (.int .i64 (S.ask f k t).1) (S.ask f k t).2) := h.of (fun H hR hr => by subst hr; exact ask_call w H S hR ok f k t)
theorem Rti.send (hN : N + 1 < 9223372036854775808) (f c body t : Int) (timed : Bool) : Calls Tryz.prog 24 #[.pointer (some ⟨r, 0, none⟩), .int .i64 f, .int .i64 c, .int .i64 body, .int .i64 t, .bool timed] w (RPost K r w (.tuple #[.int .i64 (S.send f c body t timed).1, .int .i64 (S.send f c body t timed).2.1]) (S.send f c body t timed).2.2) := h.of (fun H hR hr => by subst hr; exact send_call w H S hR ok hN f c body t timed)
theorem Rti.begin : Calls Tryz.prog 47 #[.pointer (some ⟨r, 0, none⟩)] w (RPost K r w (.int .i64 S.begin.1) S.begin.2) := h.of (fun H hR hr => by subst hr; exact begin_call w H S hR ok.l8)
end
structure GPost (K : Nat → Prop) (r : Nat) (w : World) (G : Gv) (S' : St) (vp vt : Value) (w' : World) : Prop where
 at_ : Rti (fun k => K k ∨ vp.ownBlock = some k ∨ vt.ownBlock = some k) r w' S'
 tch : Tch (fun k => ¬ K k) w w'
 p : w'.ownsRow 0 41 6 vp G.plain.length (flatM G.plain)
 t : w'.ownsRow 0 41 6 vt G.timed.length (flatM G.timed)
def GEnd (K : Nat → Prop) (r : Nat) (w : World) (G : Gv) (E : Int) (S' : St) (e : Ending) (w' : World) : Prop :=
 ∃ vp vt, e = .returned (.tuple #[.agg #[vp, vt, .bool G.granted, .int .i64 G.time], .int .i64 E]) ∧ GPost K r w G S' vp vt w'
theorem Rti.look_of {K : Nat → Prop} {r : Nat} {w : World} {S S' : St} {G : Gv} {E : Int} {args : Array Value} (h : Rti K r w S) (hc : ∀ H : Sh, RAt H w S → H.r = r → Calls Tryz.prog 26 args w (LPost H w G E S')) : Calls Tryz.prog 26 args w (GEnd K r w G E S') := by
 obtain ⟨H, hR, hr, hK⟩ := h
 refine (hc H hR hr).mono (fun e w' hp => ?_)
 obtain ⟨H', vp, vt, he, hL⟩ := hp
 obtain ⟨a, b⟩ := Rti.turn hr hK hL.turn
 refine ⟨vp, vt, he, ⟨H', hL.turn.at_, hL.turn.r.trans hr, fun k hk => ?_⟩, b, hL.p, hL.t⟩
 rcases hk with hk | hk | hk
 ·exact ⟨Nat.lt_of_lt_of_le (hK k hk).1 hL.turn.tch.size, hL.turn.own k (hK k hk).1 (hK k hk).2⟩
 ·exact ⟨own_lt hL.p k hk, hL.pow k hk⟩
 ·exact ⟨own_lt hL.t k hk, hL.tow k hk⟩
theorem rti_new {w w' : World} {P : List Int} {e : Ending} (h : NewPost w P e w') : ∃ r, e = .returned (.tuple #[.pointer (some ⟨r, 0, none⟩), .int .i64 0]) ∧ Rti (fun k => k < w.heap.size) r w' (St.new P) ∧ Below w.heap.size w w' := by
 obtain ⟨H, h1, h2, h3, h4⟩ := h
 exact ⟨H.r, h1, ⟨H, h2, rfl, fun k hk => ⟨Nat.lt_of_lt_of_le hk h4.size, h3 k hk⟩⟩, h4⟩
end Go.Proofs.YtehnkebcbomidaaGreatDoor.Rt
end
