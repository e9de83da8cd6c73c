/- Part of a proof over the given program: Dy, Dx, Pk, Pl, Lp, Pt, Xoddx0. -/
import Derived.Test.YtehnkebcbomidaaGreatDoorCn45
set_option linter.unusedVariables false
set_option linter.unusedSimpArgs false
namespace Go.Proofs.YtehnkebcbomidaaGreatDoor.Rt
open Go Go.RowKit Go.Proofs Go.Proofs.YtehnkebcbomidaaGreatDoorW.PrintWords Go.Proofs.YtehnkebcbomidaaGreatDoorW.PrintLast
theorem own_ne {W : World} {B n g : Nat} {v : Value} {xs : List Value} {c : Array Value} (h : W.ownsRow B 41 6 v n xs) (hb : W.heap[g]? = some (.cells c 71 (0, 0))) : v.ownBlock ≠ some g := by
 intro e
 rcases h.2 with ⟨rfl, _⟩ | ⟨g', cap, cur, rfl, _, hg, _⟩
 ·cases e
 ·simp only [Value.ownBlock, Option.some.injEq] at e
  subst e
  rw [hg] at hb
  simp only [Option.some.injEq, Obj.cells.injEq] at hb
  exact absurd hb.2.1 (by decide)
set_option maxHeartbeats 800000 in
set_option maxRecDepth 100000 in
theorem does_11 {K : Nat → Prop} {r : Nat} {w : World} {S : St} {N : Int} (h : Rti K r w S) (ok : S.Ok N) (f a b t : Int) (is : Bool) : Calls Tryz.prog 45 #[.pointer (some ⟨r, 0, none⟩), .agg #[.int .i64 11, .int .i64 f, .int .i64 a, .int .i64 b, .int .i64 t, .bool is]] w (DEnd K r w (S.does ⟨11, f, a, b, t, is⟩)) := by
 have hr2 := w2_rti h ⟨11, f, a, b, t, is⟩
 have hlt := h.lt
 have hpos := h.pos
 have hblk := w2_blk w ⟨11, f, a, b, t, is⟩
 have hw2 : w2D w ⟨11, f, a, b, t, is⟩ = (w.alloc (.cells #[.int .i64 11, .int .i64 f, .int .i64 a, .int .i64 b, .int .i64 t, .bool is] 69)).alloc (.cells #[.int .i64 0, .int .i64 0, .slice none 0 0, .slice none 0 0, .bool false, .int .i64 0, .slice none 0 0] 71) := rfl
 have hc := hr2.look ok f
 have HC := Lib.hid hc
 have HW2 := Lib.hid hw2
 have HLT := Lib.hid hlt
 have HPOS := Lib.hid hpos
 have HBLK := Lib.hid hblk
 have hu69 := Tryz.underlying69
 have hu71 := Tryz.underlying71
 have hu31 := Tryz.underlying31
 have hdo : S.does ⟨11, f, a, b, t, is⟩ = ⟨(S.look f).2.1, 0, (S.look f).1, (S.look f).2.2⟩ := rfl
 rw [hdo]
 clear hr2 hc h ok hw2 hlt hpos hblk hdo
 generalize S.look f = q at HC ⊢
 obtain ⟨G, e, S'⟩ := q
 go_enter Tryz.func45, Tryz.ntmps45
 go_wp2_with (go_at_call 26; rw [← HW2.out]; (with_reducible refine HC.out.mono ?_); rintro e1 w1 ⟨vp, vt, rfl, hg⟩; have hgp := hg.p; have hgt := hg.t; obtain ⟨PA, pc, rfl⟩ := own_slice hgp; obtain ⟨TA, tc, rfl⟩ := own_slice hgt; have ht1 := hg.tch; have hb1 := (ht1.block (w.heap.size + 1) (Array.getElem?_eq_some_iff.1 HBLK.out).1 (fun z => z (.inr rfl))).trans HBLK.out; have hb2 := (((Below.refl _ w1).alloc (Nat.le_refl _) (.cells #[.slice PA G.plain.length pc, .slice TA G.timed.length tc, .bool G.granted, .int .i64 G.time] 31)).block (w.heap.size + 1) (Array.getElem?_eq_some_iff.1 hb1).1).trans hb1; obtain ⟨⟨k0, k1, k2, k3, k4, k5, k6⟩, f0, f1, f2, f3, f4, f5, f6⟩ := t_cells hb2; have HG := Lib.hid hg; have HHB := Lib.hid hb1; clear hg hgp hgt ht1 hb1 hb2)
 try simp only [Exit.inBlock, Exit.then]
 have hba : Below w1.heap.size w1 (w1.alloc (.cells #[.slice PA G.plain.length pc, .slice TA G.timed.length tc, .bool G.granted, .int .i64 G.time] 31)) := (Below.refl _ w1).alloc (Nat.le_refl _) _
 obtain ⟨hb, hd⟩ := put_end (K := K) (r := r) (w := w) (o := ⟨11, f, a, b, t, is⟩) (R := ⟨e, 0, G, S'⟩) (vp := .slice PA G.plain.length pc) (vt := .slice TA G.timed.length tc) (vr := .slice none 0 0) HPOS.out HLT.out ((HG.out.at_.fewer (fun k hk => .inl hk)).below hba) (HG.out.tch.trans (Q := fun _ => False) (Tch.of_below hba) (fun _ _ e => e.elim)) (HG.out.p.alloc _) (HG.out.t.alloc _) (own_ne HG.out.p HHB.out) (own_ne HG.out.t HHB.out)
 unfold put7 at hb hd
 exact ret45 rfl rfl hb ⟨_, _, _, ⟨_, _, _, rfl⟩, rfl, hd⟩
set_option maxHeartbeats 800000 in
set_option maxRecDepth 100000 in
theorem does_13 {K : Nat → Prop} {r : Nat} {w : World} {S : St} {N : Int} (h : Rti K r w S) (ok : S.Ok N) (hp : ∀ n ∈ S.par, I63 n) (hT : TabZ w) (hK2 : K 2) (f a b t : Int) (is : Bool) : Calls Tryz.prog 45 #[.pointer (some ⟨r, 0, none⟩), .agg #[.int .i64 13, .int .i64 f, .int .i64 a, .int .i64 b, .int .i64 t, .bool is]] w (DEnd K r w (S.does ⟨13, f, a, b, t, is⟩)) := by
 have hr2 := w2_rti h ⟨13, f, a, b, t, is⟩
 have hlt := h.lt
 have hpos := h.pos
 have hblk := w2_blk w ⟨13, f, a, b, t, is⟩
 have hw2 : w2D w ⟨13, f, a, b, t, is⟩ = (w.alloc (.cells #[.int .i64 13, .int .i64 f, .int .i64 a, .int .i64 b, .int .i64 t, .bool is] 69)).alloc (.cells #[.int .i64 0, .int .i64 0, .slice none 0 0, .slice none 0 0, .bool false, .int .i64 0, .slice none 0 0] 71) := rfl
 have hT2 := hT.below (w2_below w ⟨13, f, a, b, t, is⟩)
 obtain ⟨E, hE⟩ : ∃ E : Int, E = if S.saving = true then 0 else 213 := ⟨_, rfl⟩
 have hc : Calls Tryz.prog 48 #[.pointer (some ⟨r, 0, none⟩)] (w2D w ⟨13, f, a, b, t, is⟩) fun e1 w1 => ∃ v, e1 = .returned (.tuple #[v, .int .i64 E]) ∧ EPost (KD K w) r (w2D w ⟨13, f, a, b, t, is⟩) S v w1 := (hr2.end_ ok hp hT2 (.inl (.inl hK2))).mono (fun e1 w1 h => by rw [hE]; exact h)
 have HC := Lib.hid hc
 have HW2 := Lib.hid hw2
 have HLT := Lib.hid hlt
 have HPOS := Lib.hid hpos
 have HBLK := Lib.hid hblk
 have hu69 := Tryz.underlying69
 have hu71 := Tryz.underlying71
 have hu31 := Tryz.underlying31
 have hdo : S.does ⟨13, f, a, b, t, is⟩ = ⟨E, 0, gv0, { S with saving := false }⟩ := by rw [hE]; rfl
 rw [hdo]
 clear hr2 hc h ok hw2 hlt hpos hblk hdo hp hT hT2 hK2 hE
 go_enter Tryz.func45, Tryz.ntmps45
 go_wp2_with (go_at_call 48; rw [← HW2.out]; (with_reducible refine HC.out.mono ?_); rintro e1 w1 ⟨v, rfl, hg⟩; obtain ⟨VA, vn, vc, rfl⟩ := hg.form; have ht1 := hg.tch; have hb1 := (ht1.block (w.heap.size + 1) (Array.getElem?_eq_some_iff.1 HBLK.out).1 (fun z => z (.inr rfl))).trans HBLK.out; obtain ⟨⟨k0, k1, k2, k3, k4, k5, k6⟩, f0, f1, f2, f3, f4, f5, f6⟩ := t_cells hb1; have HG := Lib.hid hg; clear hg ht1 hb1)
 try simp only [Exit.inBlock, Exit.then]
 obtain ⟨hb, hd⟩ := put_err (K := K) (r := r) (w := w) (o := ⟨13, f, a, b, t, is⟩) (e := E) (n := 0) (.slice VA vn vc) HPOS.out HLT.out (HG.out.at_.fewer (fun k hk => .inl hk)) HG.out.tch
 unfold put7 at hb hd
 exact ret45 rfl rfl hb ⟨_, _, _, ⟨_, _, _, rfl⟩, rfl, hd⟩
set_option maxHeartbeats 400000 in
set_option maxRecDepth 100000 in
theorem does_o {K : Nat → Prop} {r : Nat} {w : World} {S : St} {N : Int} (h : Rti K r w S) (ok : S.Ok N) (kd f a b t : Int) (is : Bool) (hk : kd < 0 ∨ 13 < kd) : Calls Tryz.prog 45 #[.pointer (some ⟨r, 0, none⟩), .agg #[.int .i64 kd, .int .i64 f, .int .i64 a, .int .i64 b, .int .i64 t, .bool is]] w (DEnd K r w (S.does ⟨kd, f, a, b, t, is⟩)) := by
 have hr2 := w2_rti h ⟨kd, f, a, b, t, is⟩
 have hlt := h.lt
 have hpos := h.pos
 have hblk := w2_blk w ⟨kd, f, a, b, t, is⟩
 have hw2 : w2D w ⟨kd, f, a, b, t, is⟩ = (w.alloc (.cells #[.int .i64 kd, .int .i64 f, .int .i64 a, .int .i64 b, .int .i64 t, .bool is] 69)).alloc (.cells #[.int .i64 0, .int .i64 0, .slice none 0 0, .slice none 0 0, .bool false, .int .i64 0, .slice none 0 0] 71) := rfl
 have HW2 := Lib.hid hw2
 have HLT := Lib.hid hlt
 have HPOS := Lib.hid hpos
 have HBLK := Lib.hid hblk
 have hu69 := Tryz.underlying69
 have hu71 := Tryz.underlying71
 have hu31 := Tryz.underlying31
 have h0_ : ¬ kd = 0 := by omega
 have h1_ : ¬ kd = 1 := by omega
 have h2_ : ¬ kd = 2 := by omega
 have h3_ : ¬ kd = 3 := by omega
 have h4_ : ¬ kd = 4 := by omega
 have h5_ : ¬ kd = 5 := by omega
 have h6_ : ¬ kd = 6 := by omega
 have h7_ : ¬ kd = 7 := by omega
 have h8_ : ¬ kd = 8 := by omega
 have h9_ : ¬ kd = 9 := by omega
 have h10_ : ¬ kd = 10 := by omega
 have h11_ : ¬ kd = 11 := by omega
 have h12_ : ¬ kd = 12 := by omega
 have h13_ : ¬ kd = 13 := by omega
 have hdo : S.does ⟨kd, f, a, b, t, is⟩ = ⟨0, 0, gv0, S⟩ := by
  unfold St.does
  simp only [h0_, h1_, h2_, h3_, h4_, h5_, h6_, h7_, h8_, h9_, h10_, h11_, h12_, h13_, if_false]
 rw [hdo]
 have HR2 := Lib.hid hr2
 clear h ok hw2 hlt hpos hdo hr2
 clear hblk hk
 go_enter Tryz.func45, Tryz.ntmps45
 go_wp2
 rw [← HW2.out]
 exact ret45 rfl rfl HBLK.out ⟨_, _, _, ⟨_, _, _, rfl⟩, rfl, ⟨HR2.out.fewer (fun k hk => .inl (.inl hk)), Tch.of_below (w2_below w _), World.ownsRow_nil _ _ _ _, World.ownsRow_nil _ _ _ _⟩⟩
theorem does_call {K : Nat → Prop} {r : Nat} {w : World} {S : St} {N : Int} (h : Rti K r w S) (ok : S.Ok N) (hN : N + 1 < 9223372036854775808) (hp : ∀ n ∈ S.par, I63 n) (hT : TabZ w) (hK2 : K 2) (o : Cl) : Calls Tryz.prog 45 #[.pointer (some ⟨r, 0, none⟩), .agg o.cells] w (DEnd K r w (S.does o)) := by
 obtain ⟨kd, f, a, b, t, is⟩ := o
 by_cases hk : kd < 0 ∨ 13 < kd
 ·exact does_o h ok kd f a b t is hk
 ·have : kd = 0 ∨ kd = 1 ∨ kd = 2 ∨ kd = 3 ∨ kd = 4 ∨ kd = 5 ∨ kd = 6 ∨ kd = 7 ∨ kd = 8 ∨ kd = 9 ∨ kd = 10 ∨ kd = 11 ∨ kd = 12 ∨ kd = 13 := by omega
  rcases this with rfl | rfl | rfl | rfl | rfl | rfl | rfl | rfl | rfl | rfl | rfl | rfl | rfl | rfl
  ·exact does_0 h ok f a b t is
  ·exact does_1 h ok f a b t is
  ·exact does_2 h ok f a b t is
  ·exact does_3 h ok f a b t is
  ·exact does_4 h ok f a b t is
  ·exact does_5 h ok f a b t is
  ·exact does_6 h ok f a b t is
  ·exact does_7 h ok f a b t is
  ·exact does_8 h ok hN f a b t is
  ·exact does_9 h ok f a b t is
  ·exact does_10 h ok f a b t is
  ·exact does_11 h ok f a b t is
  ·exact does_12 h ok f a b t is
  ·exact does_13 h ok hp hT hK2 f a b t is
end Go.Proofs.YtehnkebcbomidaaGreatDoor.Rt
section
namespace Go.Proofs.YtehnkebcbomidaaGreatDoor.Rt
def md (look : Int) (con : Bool) : Mem := { is := true, con := con, look := look, subs := 1 }
end Go.Proofs.YtehnkebcbomidaaGreatDoor.Rt
end
section
namespace Go.Proofs.YtehnkebcbomidaaGreatDoor.Rt
def nw3 : St := ⟨[-1, 0, 0], [1, 3, 5], [0, 0, 0, 0, 0, 0, 0, 0], [{}, {}, {}, {}, {}, {}, {}, {}], false⟩
theorem getN8 (m0 m1 : Mem) (g : Nat) (h : 2 ≤ g) : ([m0, m1, {}, {}, {}, {}, {}, {}] : List Mem).getD g {} = {} := by
 match g, h with
 | g + 2, _ =>
  show ([{}, {}, {}, {}, {}, {}] : List Mem).getD g {} = {}
  rw [List.getD_eq_getElem?_getD]
  rcases g with _ | _ | _ | _ | _ | _ | g <;> rfl
theorem blank_memOk (n : Nat) (N : Int) (g : Nat) (hN : 0 ≤ N) : MemOk n N g {} := memOk_blank n N g 0 (Int.le_refl _) hN
theorem get_blank (g : Nat) : ([{}, {}, {}, {}, {}, {}, {}, {}] : List Mem).getD g {} = {} := by
 rcases g with _ | _ | g
 ·rfl
 ·rfl
 ·exact getN8 {} {} (g + 2) (by omega)
theorem getD_zeros (g : Nat) : ([0, 0, 0, 0, 0, 0, 0, 0] : List Nat).getD g 0 = 0 := by
 rw [List.getD_eq_getElem?_getD]
 rcases g with _ | _ | _ | _ | _ | _ | _ | _ | g <;> rfl
theorem ok_new {S : St} (hl : S.l = [{}, {}, {}, {}, {}, {}, {}, {}]) (hp : S.pubs = [0, 0, 0, 0, 0, 0, 0, 0]) (ha : S.above.length = S.par.length) (h0 : 0 < S.par.length) (h1 : S.par.length ≤ 16) (hab : ∀ x ∈ S.above, x < 4294967296) : S.Ok 0 := by
 have hg : ∀ g, S.get g = {} := fun g => by unfold St.get; rw [hl]; exact get_blank g
 refine ⟨by decide, by rw [hl]; rfl, by rw [hp]; rfl, ha, h0, h1, hab, fun x hx => ?_, fun g => by rw [hg]; exact blank_memOk _ _ _ (Int.le_refl _), fun g x hx => ?_, fun g x hx => ?_, fun g _ => by rw [hp]; exact getD_zeros g⟩
 ·rw [hp] at hx
  simp at hx
  omega
 ·rw [hg] at hx; cases hx
 ·rw [hg] at hx; cases hx
theorem nw3_ok : nw3.Ok 0 := ok_new rfl rfl rfl (by decide) (by decide) (by decide)
def p2 : List Nat := [2, 0, 0, 0, 0, 0, 0, 0]
def mb (ask : Int) (P : List Mg) : Mem := { is := true, con := true, kind := 1, ask := ask, subs := 1, P := P }
end Go.Proofs.YtehnkebcbomidaaGreatDoor.Rt
end
namespace Go.Proofs.YtehnkebcbomidaaGreatDoor.Rt
open Go Go.RowKit Go.Proofs Go.Proofs.YtehnkebcbomidaaGreatDoorW.PrintWords Go.Proofs.YtehnkebcbomidaaGreatDoorW.PrintLast
theorem classes_call (w : World) : Calls Tryz.prog 33 #[] w fun e w' => e = .returned (.slice (some ⟨w.heap.size, 0, none⟩) 3 3) ∧ w' = w.alloc (.cells #[.int .i64 (-1), .int .i64 0, .int .i64 0] 3) := by
 have hu52 := Tryz.underlying52
 go_enter Tryz.func33, Tryz.ntmps33
 go_wp2
 go_ret
 exact ⟨rfl, rfl⟩
def P3 : List Int := [-1, 0, 0]
theorem par3 : Par P3 := ⟨by decide, by decide, fun c hc => by
 have : c = 0 ∨ c = 1 ∨ c = 2 := by simp [P3] at hc; omega
 rcases this with rfl | rfl | rfl <;> decide⟩
theorem new3 : St.new P3 = nw3 := by decide
theorem chk3 : XCheck.tree_Check.f 10 P3 = some 0 := by kernel_rfl
theorem new3_call (w : World) (henv : Env w) : Calls Tryz.prog 32 #[.slice (some ⟨w.heap.size, 0, none⟩) 3 3] (w.alloc (.cells #[.int .i64 (-1), .int .i64 0, .int .i64 0] 3)) fun e w' => ∃ r, e = .returned (.tuple #[.pointer (some ⟨r, 0, none⟩), .int .i64 0]) ∧ Rti (fun k => k < w.heap.size) r w' nw3 ∧ Below w.heap.size w w' := by
 have hb := (Below.refl w.heap.size w).alloc (Nat.le_refl _) (.cells #[.int .i64 (-1), .int .i64 0, .int .i64 0] 3)
 have hrow := World.ownsRow_lit (base := 0) (e := 3) (size := 1) w #[.int .i64 (-1), .int .i64 0, .int .i64 0] 3 (Nat.zero_le _) (by unfold maxLen; omega) rfl
 refine (new_rti _ (Env.below_ henv hb) 0 (some ⟨w.heap.size, 0, none⟩) 3 P3 par3 hrow chk3).mono (fun e w' h => ?_)
 obtain ⟨r, h1, h2, h3⟩ := rti_new h
 rw [new3] at h2
 exact ⟨r, h1, h2.fewer (fun k hk => by simp; omega), hb.trans (h3.mono (by simp))⟩
def z0 : List Nat := [0, 0, 0, 0, 0, 0, 0, 0]
end Go.Proofs.YtehnkebcbomidaaGreatDoor.Rt
section
namespace Go.Proofs.YtehnkebcbomidaaGreatDoor.Rt
def stN (cs : Nat → Cl) : Nat → St
 | 0 => nw3
 | i + 1 => ((stN cs i).does (cs i)).S
theorem stN_ok (cs : Nat → Cl) (i : Nat) (hi : i ≤ 1000) : (stN cs i).Ok i := by
 induction i with
 | zero => exact nw3_ok
 | succ i ih => exact Ok.does (ih (by omega)) (by omega) (cs i)
theorem Step.par {S : St} {o : Cl} {r : Rs} (h : Step S o r) : r.S.par = S.par := by
 cases h <;> first | rfl | skip
 rename_i f a b t is h1 h2 h3 h4
 cases is
 ·exact (give_pubs _ _ _ _).2.2.1
 ·exact (give_pubs _ _ _ _).2.2.1
theorem stN_par (cs : Nat → Cl) (i : Nat) (hi : i ≤ 1000) : (stN cs i).par = [-1, 0, 0] := by
 induction i with
 | zero => rfl
 | succ i ih => exact (does_step (stN_ok cs i (by omega)) (cs i)).par.trans (ih (by omega))
end Go.Proofs.YtehnkebcbomidaaGreatDoor.Rt
end
section
namespace Go.Proofs.YtehnkebcbomidaaGreatDoor.Xodd
open Go.RowKit Go.Proofs.YtehnkebcbomidaaGreatDoorW.PrintWords Go.Proofs.YtehnkebcbomidaaGreatDoorW.PrintLast Go.Proofs.YtehnkebcbomidaaGreatDoorW.PrintMore
attribute [local go_sem] max2_int min2_int max_two min_two max_three min_three max_four min_four   -- for this text's walks alone
def errW : Option Int → Value
 | none => .nilIface
 | some c => .iface 0 (.int .i64 c)
theorem errW_none : errW none = .nilIface := rfl
theorem errW_some (c : Int) : errW (some c) = .iface 0 (.int .i64 c) := rfl
end Go.Proofs.YtehnkebcbomidaaGreatDoor.Xodd
end
