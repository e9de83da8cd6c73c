/- Part of a proof over the given program: Nw. -/
import Derived.Test.YtehnkebcbomidaaGreatDoorCn29
import Derived.Test.YtehnkebcbomidaaGreatDoorCn36
set_option linter.unusedVariables false
set_option linter.unusedSimpArgs false
namespace Go.Proofs.YtehnkebcbomidaaGreatDoor.Rt
open Go Go.RowKit Go.Proofs Go.Proofs.YtehnkebcbomidaaGreatDoorW.PrintWords Go.Proofs.YtehnkebcbomidaaGreatDoorW.PrintLast
theorem intC_one (l : List Int) : ∀ u ∈ l.map (Value.int .i64), u.oneCell' = true := by
 intro u hu
 obtain ⟨x, _, rfl⟩ := List.mem_map.1 hu
 rfl
set_option maxHeartbeats 2000000 in
set_option maxRecDepth 100000 in
theorem clone_int (w : World) (base : Nat) (v : Value) (l : List Int) (hl : l.length ≤ 100000) (hv : w.ownsRow base 3 1 v l.length (l.map (Value.int .i64))) :
  Calls Tryz.prog 82 #[v] w fun e w' => ∃ A c, e = .returned (.slice A l.length c) ∧ w'.ownsRow w.heap.size 3 1 (.slice A l.length c) l.length (l.map (Value.int .i64)) ∧ Below w.heap.size w w' := by
 have hu52 := Tryz.underlying52
 have q52 : ∀ (W : World) (a : Option Addr) (n c : Nat), (binOp .eql 52 (.slice a n c) (.slice none 0 0)).run Tryz.prog W = .ok (.bool a.isNone) W := fun W a n c => Go.run_eql_slice_nil W _ _ a n c Tryz.underlying52
 obtain ⟨i0, hi, hz0, hz1, hz2⟩ := info_parts infI
 rcases hv.2 with ⟨e, h0⟩ | ⟨g, cap, cur, e, _⟩
 ·subst e
  obtain rfl : l = [] := List.eq_nil_of_length_eq_zero h0
  clear hv
  go_enter Tryz.func82, Tryz.ntmps82
  go_wp2
  go_ret
  exact ⟨none, 0, rfl, World.ownsRow_nil _ _ _ _, Below.refl _ _⟩
 ·subst e
  have hb := (Below.refl w.heap.size w).alloc (Nat.le_refl _) (.cells #[] 3)
  have ho := World.ownsRow_lit (base := w.heap.size) (e := 3) (size := 1) w #[] 0 (Nat.le_refl _) (by unfold maxLen; omega) rfl
  have hnw := hv.alloc (.cells #[] 3)
  have HB := Lib.hid hb
  have HO := Lib.hid ho
  have HN := Lib.hid hnw
  have HI := Lib.hid hi
  have HZ0 := Lib.hid hz0
  have HZ1 := Lib.hid hz1
  have HZ2 := Lib.hid hz2
  clear hb ho hnw hv hi hz0 hz1 hz2
  go_enter Tryz.func82, Tryz.ntmps82
  go_wp2_with (at_builtin; go_loud (refine wpList_app rfl (.tmp 5) (.tmp 6) 52 rfl w.heap.size base 3 i0 _ 1 8 hu52 HI.out HZ0.out HZ1.out HZ2.out rfl (by decide) (.slice (some ⟨w.heap.size, 0, none⟩) 0 0) 0 [] rfl HO.out (.slice (some ⟨g, 0, none⟩) l.length cap) l.length (l.map (Value.int .i64)) (by rfl) HN.out (intC_one l) (by unfold maxLen; omega) (by omega) HB.out.size ?_); go_loud (intro v1 w1 hown hg hnn))
  go_ret
  have hown2 : w1.ownsRow w.heap.size 3 1 v1 l.length (l.map (Value.int .i64)) := by simpa using hown
  obtain ⟨A', c', rfl⟩ := own_slice hown2
  exact ⟨A', c', rfl, hown2, HB.out.grown hg HB.out.size (fun q hq => own_base HO.out q hq)⟩
def abv (P : List Int) : Nat → List Nat
 | 0 => []
 | c + 1 => abv P c ++ [2 ^ c ||| (if 0 ≤ P.getD c 0 then (abv P c).getD (P.getD c 0).toNat 0 else 0)]
structure Par (P : List Int) : Prop where
 n0 : 0 < P.length
 n16 : P.length ≤ 16
 up : ∀ c, c < P.length → -1 ≤ P.getD c 0 ∧ P.getD c 0 < c
theorem abv_length (P : List Int) : ∀ c, (abv P c).length = c := by
 intro c
 induction c with
 | zero => rfl
 | succ c ih => simp [abv, ih]
theorem abv_lt (P : List Int) : ∀ c, c ≤ 16 → ∀ x ∈ abv P c, x < 4294967296 := by
 intro c
 induction c with
 | zero => intro _ x hx; cases hx
 | succ c ih =>
  intro hc x hx
  unfold abv at hx
  rcases List.mem_append.1 hx with hx | hx
  ·exact ih (by omega) x hx
  ·rw [List.mem_singleton.1 hx]
   have h1 := pow_lt c (by omega)
   have h2 : (if 0 ≤ P.getD c 0 then (abv P c).getD (P.getD c 0).toNat 0 else 0) < 4294967296 := by
    split
    ·by_cases hj : (P.getD c 0).toNat < (abv P c).length
     ·rw [List.getD_eq_getElem?_getD, List.getElem?_eq_getElem hj]
      exact ih (by omega) _ (List.getElem_mem hj)
     ·rw [List.getD_eq_getElem?_getD, List.getElem?_eq_none (by omega)]
      decide
    ·decide
   exact Nat.or_lt_two_pow (n := 32) h1 h2
def uC (l : List Nat) : List Value := l.map fun g => Value.int .u32 (g : Nat)
def PauseN (p : Prop) : Prop := p
theorem PauseN.go {p : Prop} (h : PauseN p) : p := h
theorem PauseN.mk {p : Prop} (h : p) : PauseN p := h
def z8 : List Nat := [0, 0, 0, 0, 0, 0, 0, 0]
theorem inf110 : (Tryz.prog.info? 110).map (fun i => (i.zero, i.size, i.bytes)) = some (some (.int .u32 0), 1, 4) := by kernel_rfl
theorem or_n (x y : Nat) (hx : x < 4294967296) (hy : y < 4294967296) : bits .or .u32 (x : Int) (y : Int) = ((x ||| y : Nat) : Int) := (bits_nat .u32 32 (by decide) wraps_u32 x y hx hy).2
structure NewTab (w : World) (P : List Int) (tb : Nat) (av : Value) (w' : World) : Prop where
 tbl : w.heap.size ≤ tb
 at_ : TabAt w' tb av (abv P P.length) z8 z8
 avl : ∀ k, av.ownBlock = some k → w.heap.size ≤ k ∧ k ≠ tb
 below : Below w.heap.size w w'
theorem pnew_round {P : List Int} {w W1 wr w1 : World} {tb c z : Nat} {v : Value} {A1 : Option Addr} {c1 : Nat} (hab : abv P (c + 1) = abv P c ++ [z]) (hb : Below w.heap.size w wr) (hT : Tch (fun k => v.ownBlock = some k) wr w1) (hvb : ∀ k, v.ownBlock = some k → W1.heap.size ≤ k)
  (hnb : ∀ k, (Value.slice A1 (c + 1) c1).ownBlock = some k → W1.heap.size ≤ k) (hblk : w1.heap[tb]? = some (.cells (tcells v z8 z8).toArray 189 (0, 0))) (hown : w1.ownsRow W1.heap.size 110 1 (.slice A1 (c + 1) c1) (c + 1) (uC (abv P c) ++ [.int .u32 (z : Nat)])) (htb : tb = w.heap.size) (hw1 : W1.heap.size = w.heap.size + 1) (hsz : W1.heap.size ≤ wr.heap.size) (hcl : c < P.length) :
  (∃ (c' : Nat) (av : Value), c' ≤ P.length ∧ Value.int .i64 ((c : Int) + 1) = .int .i64 c' ∧ (w1.setCell ⟨tb, 0, none⟩ (.slice A1 (c + 1) c1)).heap[tb]? = some (.cells (tcells av z8 z8).toArray 189 (0, 0)) ∧ (w1.setCell ⟨tb, 0, none⟩ (.slice A1 (c + 1) c1)).ownsRow W1.heap.size 110 1 av c' (uC (abv P c')) ∧ Below w.heap.size w (w1.setCell ⟨tb, 0, none⟩ (.slice A1 (c + 1) c1)) ∧ W1.heap.size ≤ (w1.setCell ⟨tb, 0, none⟩ (.slice A1 (c + 1) c1)).heap.size) ∧
   P.length - (RowKit.intOf (Value.int .i64 ((c : Int) + 1))).toNat < P.length - (RowKit.intOf (Value.int .i64 (c : Int))).toNat := by
 have hs2 := hT.size
 refine ⟨⟨c + 1, .slice A1 (c + 1) c1, hcl, by simp, ?_, ?_, ?_, ?_⟩, by simp [RowKit.intOf]; omega⟩
 ·rw [heap_setCell_same w1 tb 0 _ 189 _ hblk]
  rfl
 ·rw [hab]
  have e : uC (abv P c ++ [z]) = uC (abv P c) ++ [.int .u32 (z : Nat)] := by simp [uC]
  rw [e]
  exact own_move hown (fun k hk => heap_setCell_other w1 ⟨tb, 0, none⟩ k _ (fun e => by have := hnb k hk; simp only at e; omega))
 ·refine (hb.trans (hT.below hb.size (fun k hk z => by have := hvb k z; omega))).trans ?_
  exact Tch.below (P := fun k => k = tb) (Tch.setCell (P := fun k => k = tb) (Tch.refl _ _) (p := ⟨tb, 0, none⟩) (.inl rfl) _) (Nat.le_trans hb.size hs2) (fun k hk e => by omega)
 ·show W1.heap.size ≤ (w1.setCell ⟨tb, 0, none⟩ _).heap.size
  simp [World.setCell]
  omega
set_option maxHeartbeats 8000000 in
set_option maxRecDepth 100000 in
theorem pnew_call (w : World) (base : Nat) (A : Option Addr) (cc : Nat) (P : List Int) (hP : Par P) (hrow : w.ownsRow base 3 1 (.slice A P.length cc) P.length (P.map (Value.int .i64))) {k : Nat} (hck : XCheck.tree_Check.f k P = some 0) :
  Calls Tryz.prog 81 #[.slice A P.length cc] w fun e w' => ∃ tb av, e = .returned (.tuple #[.pointer (some ⟨tb, 0, none⟩), .int .i64 0]) ∧ NewTab w P tb av w' := by
 have hcc := own_le hrow
 have hIA := ints_own hrow
 have hkd : Kd.C (Kd.int .i64) w A P.length P := Kd.C_of_reads (enc := Value.int .i64) (d := (0 : Int)) (h1 := fun _ => rfl) ⟨rfl, by have := hP.n16; omega, fun h => by
  obtain ⟨g, e, hc⟩ := hIA (by omega)
  exact ⟨⟨g, 0, none⟩, e, fun j hj => by rw [add_plain]; exact hc j hj⟩⟩
 have hc := XCheck.tree_Check.calls k A cc P 0 w hkd hcc hck
 have hz : (Value.agg (tcells (.slice none 0 0) z8 z8).toArray).cells = (tcells (.slice none 0 0) z8 z8).toArray := rfl
 obtain ⟨i0, hi, hz0, hz1, hz2⟩ := info_parts inf110
 have hn16 := hP.n16
 have HC := Lib.hid hc
 have HP := Lib.hid hP
 have HROW := Lib.hid hrow
 have HIA := Lib.hid hIA
 have HI := Lib.hid hi
 have HZ0 := Lib.hid hz0
 have HZ1 := Lib.hid hz1
 have HZ2 := Lib.hid hz2
 have hu189 := Tryz.underlying189
 have hu186 := Tryz.underlying186
 have hu110 := Tryz.underlying110
 have hu157 := Tryz.underlying157
 have hu52 := Tryz.underlying52
 clear hc hkd hrow hck hP hi hz0 hz1 hz2 hIA
 go_enter Tryz.func81, Tryz.ntmps81
 go_wp2_with (go_at_call 88; (with_reducible refine HC.out.mono ?_); rintro e w1 ⟨rfl, hd1⟩)
 obtain ⟨m1, rfl⟩ := hd1
 have hb0 : Below w.heap.size w (w.drewN m1) := (Drawn0.mk ⟨m1, rfl⟩ : Drawn0 w (w.drewN m1)).below
 have hsz : (w.drewN m1).heap.size = w.heap.size := by simp
 obtain ⟨W1, hW1⟩ : ∃ W1, W1 = (w.drewN m1).alloc (.cells #[.slice none 0 0, .int .u32 0, .int .u32 0, .int .u32 0, .int .u32 0, .int .u32 0, .int .u32 0, .int .u32 0, .int .u32 0, .int .u32 0, .int .u32 0, .int .u32 0, .int .u32 0, .int .u32 0, .int .u32 0, .int .u32 0, .int .u32 0] 189) := ⟨_, rfl⟩
 have hb1 : Below w.heap.size w W1 := by rw [hW1]; exact hb0.alloc (by rw [hsz]; exact Nat.le_refl _) _
 have htb := heap_alloc_new (w.drewN m1) (.cells #[.slice none 0 0, .int .u32 0, .int .u32 0, .int .u32 0, .int .u32 0, .int .u32 0, .int .u32 0, .int .u32 0, .int .u32 0, .int .u32 0, .int .u32 0, .int .u32 0, .int .u32 0, .int .u32 0, .int .u32 0, .int .u32 0, .int .u32 0] 189)
 rw [← hW1, hsz] at htb
 rw [← hW1, hsz]
 have hW1s : W1.heap.size = w.heap.size + 1 := by rw [hW1]; simp
 obtain ⟨tb, htb0⟩ : ∃ tb, tb = w.heap.size := ⟨_, rfl⟩
 rw [← htb0] at htb ⊢
 have HTB0 := Lib.hid htb0
 have HTB := Lib.hid htb
 have HB1 := Lib.hid hb1
 have HW1S := Lib.hid hW1s
 clear htb0 htb hb1 hW1 hb0 hsz hW1s
 go_loopw [18] (fun iv wr => ∃ (c : Nat) (av : Value), c ≤ P.length ∧ iv = .int .i64 c ∧ wr.heap[tb]? = some (.cells (tcells av z8 z8).toArray 189 (0, 0)) ∧ wr.ownsRow W1.heap.size 110 1 av c (uC (abv P c)) ∧ Below w.heap.size w wr ∧ W1.heap.size ≤ wr.heap.size) (fun iv _ => P.length - (RowKit.intOf iv).toNat)
 case atStart => exact ⟨0, _, Nat.zero_le _, rfl, HTB.out, World.ownsRow_nil _ _ _ _, HB1.out, Nat.le_refl _⟩
 case round =>
  obtain ⟨c, av, hc, rfl, hblk, hown, hb, hsz⟩ := hrel
  by_cases hcl : c < P.length
  ·have hci : (c : Int) < (P.length : Int) := by omega
   have hc0 : (0 : Int) ≤ (c : Int) := by omega
   have hc16 : (c : Int) < 16 := by omega
   obtain ⟨ga, hA, hcell⟩ := HIA.out (by omega)
   have hpc := pw_cell_below hb (hcell c hcl)
   obtain ⟨hup1, hup2⟩ := HP.out.up c hcl
   obtain ⟨AV, ac, rfl⟩ := own_slice hown
   have hav0 : wr.cell? ⟨tb, 0, none⟩ = some (.slice AV c ac) := by simp [World.cell?, hblk, tcells]
   have hfz : wr.frozen? ⟨tb, 0, none⟩ = false := by simp [World.frozen?, hblk]
   have hpw := pow_lt c (by omega)
   have hpwc := pow_cast c (by omega)
   have hacl := own_le hown
   have hlenc := abv_length P c
   have hab : abv P (c + 1) = abv P c ++ [2 ^ c ||| (if 0 ≤ P.getD c 0 then (abv P c).getD (P.getD c 0).toNat 0 else 0)] := rfl
   have hltt := abv_lt P c (by omega)
   have hcells : ∀ j, j < c → ∃ g, AV = some ⟨g, 0, none⟩ ∧ wr.cell? ⟨g, j, none⟩ = some (.int .u32 ((abv P c).getD j 0 : Nat)) := fun j hj => by
    rcases hown.2 with ⟨e, h0⟩ | ⟨g, cap, cur, e, _⟩
    ·omega
    ·simp only [Value.slice.injEq] at e
     refine ⟨g, e.1, ?_⟩
     have hl : j < (abv P c).length := by omega
     have := hown.cells (g := g) (by rw [e.1]; rfl) j (.int .u32 ((abv P c).getD j 0 : Nat)) (by
      unfold uC
      rw [List.getElem?_map, List.getElem?_eq_getElem hl, List.getD_eq_getElem?_getD, List.getElem?_eq_getElem hl]
      rfl)
     rwa [add_plain] at this
   subst hA
   generalize P.getD c 0 = p at hpc hup1 hup2 hab
   have HB := Lib.hid hb
   have HBLK := Lib.hid hblk
   have HOWN := Lib.hid hown
   have HAB := Lib.hid hab
   have HSZ := Lib.hid hsz
   have hne : ¬ tb = wr.heap.size := fun e => by have h1 := HTB0.out; have h2 := HW1S.out; omega
   clear hb hblk hown hab hsz hcell
   by_cases hp : 0 ≤ p
   ·obtain ⟨k, rfl⟩ : ∃ k : Nat, p = k := ⟨p.toNat, by omega⟩
    have hk : k < c := by omega
    have hki : (k : Int) < (c : Int) := by omega
    obtain ⟨g, rfl, hgc⟩ := hcells k hk
    have hyl : (abv P c).getD k 0 < 4294967296 := by
     have hl : k < (abv P c).length := by omega
     rw [List.getD_eq_getElem?_getD, List.getElem?_eq_getElem hl]
     exact hltt _ (List.getElem_mem hl)
    have hab2 := HAB.out
    rw [if_pos hp, Int.toNat_natCast] at hab2
    generalize (abv P c).getD k 0 = y at hgc hyl hab2
    have hor : bits .or .u32 (2 ^ c) (y : Int) = ((2 ^ c ||| y : Nat) : Int) := by rw [show ((2 : Int) ^ c) = ((2 ^ c : Nat) : Int) by norm_cast]; exact or_n _ _ hpw hyl
    generalize 2 ^ c ||| y = z at hor hab2
    have HAB2 := Lib.hid hab2
    clear hcells hltt hab2 HAB
    go_wp2_with (at_builtin; go_loud (refine wpList_app rfl (.tmp 41) (.tmp 43) 186 rfl W1.heap.size 0 110 i0 _ 1 4 hu186 HI.out HZ0.out HZ1.out HZ2.out rfl (by decide) (.slice (some ⟨g, 0, none⟩) c ac) c (uC (abv P c)) rfl (HOWN.out.alloc _) (.slice (some ⟨wr.heap.size, 0, none⟩) 1 1) 1 [.int .u32 (z : Nat)] (by rfl) (World.ownsRow_lit (base := 0) wr #[.int .u32 (z : Nat)] 1 (Nat.zero_le _) (by unfold maxLen; omega) rfl) (by simp [Value.oneCell']) (by unfold maxLen; omega) (by omega) (by have := HSZ.out; simp; omega) ?_); go_loud (intro v1 w1 hown1 hg1 hl1; refine PauseN.go ?_))
    obtain ⟨A1, c1, rfl⟩ := own_slice hown1
    have hT1 : Tch (fun k => (Value.slice (some ⟨g, 0, none⟩) c ac).ownBlock = some k) wr w1 := ((Tch.refl _ wr).alloc _).grown hg1 (fun k hk => .inl hk)
    have hnb : ∀ k, (Value.slice A1 (c + 1) c1).ownBlock = some k → W1.heap.size ≤ k := fun k hk => (hl1 k hk).elim (fun z => own_base HOWN.out k z) (fun z => by have := HSZ.out; simp at z; omega)
    have htbn : ¬ (Value.slice (some ⟨g, 0, none⟩) c ac).ownBlock = some tb := fun z => by have h1 := own_base HOWN.out tb z; have h2 := HTB0.out; have h3 := HW1S.out; omega
    have hblk1 := (hT1.block tb (Array.getElem?_eq_some_iff.1 HBLK.out).1 htbn).trans HBLK.out
    have hav1 : w1.cell? ⟨tb, 0, none⟩ = some (.slice (some ⟨g, 0, none⟩) c ac) := by simp [World.cell?, hblk1, tcells]
    have hfz1 : w1.frozen? ⟨tb, 0, none⟩ = false := by simp [World.frozen?, hblk1]
    have HT1 := Lib.hid hT1
    have HNB := Lib.hid hnb
    have HBLK1 := Lib.hid hblk1
    have HOWN1 := Lib.hid hown1
    clear hT1 hnb htbn hblk1 hown1 hg1 hl1 hgc hav0 hfz hpc
    refine PauseN.mk ?_
    go_wp2
    exact pnew_round HAB2.out HB.out HT1.out (fun k hk => own_base HOWN.out k hk) HNB.out HBLK1.out HOWN1.out HTB0.out HW1S.out HSZ.out hcl
   ·have hab2 := HAB.out
    rw [if_neg hp, Nat.or_zero] at hab2
    obtain ⟨z, hz, hzz⟩ : ∃ z : Nat, (2 : Int) ^ c % 4294967296 = z ∧ z = 2 ^ c := ⟨2 ^ c, hpwc, rfl⟩
    rw [← hzz] at hab2
    have HAB2 := Lib.hid hab2
    clear hcells hltt hab2 HAB hpwc hzz hpw
    go_wp2_with (at_builtin; go_loud (refine wpList_app rfl (.tmp 41) (.tmp 43) 186 rfl W1.heap.size 0 110 i0 _ 1 4 hu186 HI.out HZ0.out HZ1.out HZ2.out rfl (by decide) (.slice AV c ac) c (uC (abv P c)) rfl (HOWN.out.alloc _) (.slice (some ⟨wr.heap.size, 0, none⟩) 1 1) 1 [.int .u32 (z : Nat)] (by rfl) (World.ownsRow_lit (base := 0) wr #[.int .u32 (z : Nat)] 1 (Nat.zero_le _) (by unfold maxLen; omega) rfl) (by simp [Value.oneCell']) (by unfold maxLen; omega) (by omega) (by have := HSZ.out; simp; omega) ?_); go_loud (intro v1 w1 hown1 hg1 hl1; refine PauseN.go ?_))
    obtain ⟨A1, c1, rfl⟩ := own_slice hown1
    have hT1 : Tch (fun k => (Value.slice AV c ac).ownBlock = some k) wr w1 := ((Tch.refl _ wr).alloc _).grown hg1 (fun k hk => .inl hk)
    have hnb : ∀ k, (Value.slice A1 (c + 1) c1).ownBlock = some k → W1.heap.size ≤ k := fun k hk => (hl1 k hk).elim (fun z => own_base HOWN.out k z) (fun z => by have := HSZ.out; simp at z; omega)
    have htbn : ¬ (Value.slice AV c ac).ownBlock = some tb := fun z => by have h1 := own_base HOWN.out tb z; have h2 := HTB0.out; have h3 := HW1S.out; omega
    have hblk1 := (hT1.block tb (Array.getElem?_eq_some_iff.1 HBLK.out).1 htbn).trans HBLK.out
    have hav1 : w1.cell? ⟨tb, 0, none⟩ = some (.slice AV c ac) := by simp [World.cell?, hblk1, tcells]
    have hfz1 : w1.frozen? ⟨tb, 0, none⟩ = false := by simp [World.frozen?, hblk1]
    have HT1 := Lib.hid hT1
    have HNB := Lib.hid hnb
    have HBLK1 := Lib.hid hblk1
    have HOWN1 := Lib.hid hown1
    clear hT1 hnb htbn hblk1 hown1 hg1 hl1 hav0 hfz hpc
    refine PauseN.mk ?_
    go_wp2
    exact pnew_round HAB2.out HB.out HT1.out (fun k hk => own_base HOWN.out k hk) HNB.out HBLK1.out HOWN1.out HTB0.out HW1S.out HSZ.out hcl
  ·obtain rfl : c = P.length := by omega
   have hci : ¬ (P.length : Int) < (P.length : Int) := by omega
   have HB := Lib.hid hb
   have HBLK := Lib.hid hblk
   have HOWN := Lib.hid hown
   clear hb hblk hown
   go_wp2
   go_ret2
   refine ⟨tb, rfl, av, ⟨by have := HTB0.out; omega, ⟨HBLK.out, ⟨110, ?_⟩, rfl, rfl⟩, fun k hk => ?_, HB.out⟩⟩
   ·have h1 := own_zero HOWN.out
    rw [abv_length]
    exact h1
   ·have h1 := own_base HOWN.out k hk
    have h2 := HTB0.out
    have h3 := HW1S.out
    omega
def St.new (P : List Int) : St := ⟨P, abv P P.length, z8, [{}, {}, {}, {}, {}, {}, {}, {}], false⟩
def nmem (q : Option Addr) : List Value := [.bool false, .bool false, .int .i64 0, .int .i64 0, .int .i64 0, .int .i64 0, .int .i64 0, .pointer q, .slice none 0 0, .int .u32 0]
def nq (qs : Nat → Nat) (f m : Nat) : Option Addr := if m < f then some ⟨qs m, 0, none⟩ else none
def ncells (pv : Value) (tb : Nat) (qs : Nat → Nat) (f : Nat) : List Value := pv :: .pointer (some ⟨tb, 0, none⟩) :: ((List.range 8).flatMap (fun m => nmem (nq qs f m)) ++ [.bool false])
theorem ncells_set (pv : Value) (tb : Nat) (qs : Nat → Nat) (f : Nat) (hf : f < 8) : (ncells pv tb qs f).set (2 + f * 10 + 7) (.pointer (some ⟨qs f, 0, none⟩)) = ncells pv tb qs (f + 1) := by
 unfold ncells
 rw [show 2 + f * 10 + 7 = (f * 10 + 7) + 1 + 1 by omega, List.set_cons_succ, List.set_cons_succ, List.set_append_left _ _ (by rw [flat8_length _ (fun _ => rfl)]; omega)]
 rw [flatR_set (fun m => nmem (nq qs f m)) (fun m => nmem (nq qs (f + 1) m)) 8 10 (fun _ => rfl) (fun _ => rfl) f 7 hf (by decide) _ (by
  unfold nq
  rw [if_pos (by omega), if_neg (by omega)]
  rfl) (fun k hk hkf => by
  unfold nq
  by_cases c : k < f
  ·rw [if_pos c, if_pos (by omega)]
  ·rw [if_neg c, if_neg (by omega)])]
theorem ncells_congr (pv : Value) (tb : Nat) (qs qs' : Nat → Nat) (f : Nat) (h : ∀ m, m < f → qs m = qs' m) : ncells pv tb qs f = ncells pv tb qs' f := by
 unfold ncells
 rw [flatR_congr (f := fun m => nmem (nq qs f m)) (g := fun m => nmem (nq qs' f m)) (fun m _ => by
  show nmem (nq qs f m) = nmem (nq qs' f m)
  unfold nq
  split
  ·rename_i c; rw [h m c]
  ·rfl)]
theorem ncells_at (pv : Value) (tb : Nat) (qs : Nat → Nat) (f m : Nat) (hm : m < 8) : (ncells pv tb qs f)[2 + m * 10 + 7]? = some (.pointer (nq qs f m)) := by
 unfold ncells
 rw [show 2 + m * 10 + 7 = (m * 10 + 7) + 1 + 1 by omega, List.getElem?_cons_succ, List.getElem?_cons_succ, List.getElem?_append_left (by rw [flat8_length _ (fun _ => rfl)]; omega), flatR_get _ 8 10 (fun _ => rfl) m 7 hm (by decide)]
 rfl
structure NewInv (r tb : Nat) (pv : Value) (B f : Nat) (qs bs lo : Nat → Nat) (wr : World) : Prop where
 blk : wr.heap[r]? = some (.cells (ncells pv tb qs f).toArray 115 (0, 0))
 q : ∀ m, m < f → QAt wr (qs m) (bs m) (.slice none 0 0) []
 l0 : lo 0 = B
 l1 : ∀ m, m < f → lo m ≤ qs m ∧ lo m ≤ bs m ∧ qs m < lo (m + 1) ∧ bs m < lo (m + 1)
 l2 : lo f ≤ wr.heap.size
theorem NewInv.mono {r tb B f : Nat} {pv : Value} {qs bs lo : Nat → Nat} {wr : World} (h : NewInv r tb pv B f qs bs lo wr) : ∀ m k, m ≤ k → k ≤ f → lo m ≤ lo k := by
 intro m k hmk
 induction hmk with
 | refl => intro _; exact Nat.le_refl _
 | @step k hk ih =>
  intro hf
  have hk2 : k < f := by omega
  have h1 := ih (by omega)
  have h2 := h.l1 k hk2
  show lo m ≤ lo (k + 1)
  omega
theorem NewInv.range {r tb B f : Nat} {pv : Value} {qs bs lo : Nat → Nat} {wr : World} (h : NewInv r tb pv B f qs bs lo wr) (m : Nat) (hm : m < f) : B ≤ qs m ∧ B ≤ bs m ∧ qs m < wr.heap.size ∧ bs m < wr.heap.size := by
 obtain ⟨a, b, c, d⟩ := h.l1 m hm
 have h1 := h.mono 0 m (by omega) (by omega)
 have h2 := h.mono (m + 1) f (by omega) (by omega)
 have h3 := h.l2
 have h4 := h.l0
 omega
theorem NewInv.apart {r tb B f : Nat} {pv : Value} {qs bs lo : Nat → Nat} {wr : World} (h : NewInv r tb pv B f qs bs lo wr) {m k x : Nat} (hm : m < f) (hk : k < f) (h1 : x = qs m ∨ x = bs m) (h2 : x = qs k ∨ x = bs k) : m = k := by
 obtain ⟨a, b, c, d⟩ := h.l1 m hm
 obtain ⟨a', b', c', d'⟩ := h.l1 k hk
 rcases Nat.lt_trichotomy m k with e | e | e
 ·have := h.mono (m + 1) k (by omega) (by omega); omega
 ·exact e
 ·have := h.mono (k + 1) m (by omega) (by omega); omega
theorem NewInv.step {r tb B f : Nat} {pv : Value} {qs bs lo : Nat → Nat} {wr w1 : World} (h : NewInv r tb pv B f qs bs lo wr) (hf : f < 8) (hr : r < B) {q b : Nat} (hq1 : wr.heap.size ≤ q) (hq2 : wr.heap.size ≤ b) (hq : QAt w1 q b (.slice none 0 0) []) (hb : Below wr.heap.size wr w1) :
  NewInv r tb pv B (f + 1) (fun m => if m = f then q else qs m) (fun m => if m = f then b else bs m) (fun m => if m = f + 1 then w1.heap.size else lo m) (w1.setCell ⟨r, 2 + f * 10 + 7, none⟩ (.pointer (some ⟨q, 0, none⟩))) := by
 have hrl : r < wr.heap.size := (Array.getElem?_eq_some_iff.1 h.blk).1
 have hb1 := (hb.block r hrl).trans h.blk
 have hqlt : q < w1.heap.size := (Array.getElem?_eq_some_iff.1 hq.blk).1
 have hblt : b < w1.heap.size := by
  obtain ⟨D, ⟨es, clock, hm1, hm2⟩, hm3⟩ := hq.map
  exact (Array.getElem?_eq_some_iff.1 hm1).1
 have hsz : (w1.setCell ⟨r, 2 + f * 10 + 7, none⟩ (.pointer (some ⟨q, 0, none⟩))).heap.size = w1.heap.size := by simp [World.setCell]
 have hother : ∀ k, k ≠ r → (w1.setCell ⟨r, 2 + f * 10 + 7, none⟩ (.pointer (some ⟨q, 0, none⟩))).heap[k]? = w1.heap[k]? := fun k hk => heap_setCell_other w1 ⟨r, 2 + f * 10 + 7, none⟩ k _ hk
 have hfp : ∀ (x y : Nat) (k : Nat), QFp x y (.slice none 0 0) k → k = x ∨ k = y := fun x y k e => by
  rcases e with e | e | e
  ·exact .inl e
  ·exact .inr e
  ·cases e
 refine ⟨?_, fun m hm => ?_, ?_, fun m hm => ?_, ?_⟩
 ·rw [heap_setCell_same w1 r _ _ 115 _ hb1]
  have e1 := ncells_set pv tb (fun m => if m = f then q else qs m) f hf
  rw [← ncells_congr pv tb qs (fun m => if m = f then q else qs m) f (fun m hm => by rw [if_neg (by omega)])] at e1
  simp only [if_true] at e1
  rw [← e1]
  simp
 ·by_cases e : m = f
  ·subst e
   rw [if_pos rfl, if_pos rfl]
   exact hq.frame (fun k hk z => hother k (by rcases hfp q b k z with z | z <;> omega))
  ·rw [if_neg e, if_neg e]
   have hr2 := h.range m (by omega)
   exact (h.q m (by omega)).frame (fun k hk z => by
    have hk2 : k = qs m ∨ k = bs m := hfp _ _ k z
    rw [hother k (by omega)]
    exact hb.block k hk)
 ·rw [if_neg (by omega)]
  exact h.l0
 ·have hl2 := h.l2
  by_cases e : m = f
  ·subst e
   rw [if_pos rfl, if_pos rfl, if_neg (by omega), if_pos rfl]
   omega
  ·have := h.l1 m (by omega)
   rw [if_neg e, if_neg e, if_neg (by omega), if_neg (by omega)]
   exact this
 ·rw [if_pos rfl, hsz]
  exact Nat.le_refl _
open Classical in
noncomputable def newSh (r tb : Nat) (pv av : Value) (qs bs : Nat → Nat) : Sh :=
 ⟨r, tb, pv, av, qs, bs, fun _ => .slice none 0 0, fun _ => .slice none 0 0, fun k => if k = r then 1 else if k = tb then 2 else if av.ownBlock = some k then 3 else if pv.ownBlock = some k then 4 else if h : ∃ m, m < 8 ∧ (k = qs m ∨ k = bs m) then 8 + h.choose else 0⟩
theorem flat8_congr {f g : Nat → List Value} (h : ∀ m, m < 8 → f m = g m) : (List.range 8).flatMap f = (List.range 8).flatMap g := flatR_congr h
theorem new_get (P : List Int) (m : Nat) (hm : m < 8) : (St.new P).get m = {} := by
 show ([{}, {}, {}, {}, {}, {}, {}, {}] : List Mem).getD m {} = {}
 have : m = 0 ∨ m = 1 ∨ m = 2 ∨ m = 3 ∨ m = 4 ∨ m = 5 ∨ m = 6 ∨ m = 7 := by omega
 rcases this with rfl | rfl | rfl | rfl | rfl | rfl | rfl | rfl <;> rfl
theorem new_at {w w1 : World} {P : List Int} {r tb B : Nat} {pv av : Value} {qs bs lo : Nat → Nat} (henv : Env w1) (h0 : 0 < w.heap.size) (hI : NewInv r tb pv B 8 qs bs lo w1) (hB : w.heap.size ≤ r) (hrB : r < B) (htb : w.heap.size ≤ tb) (htr : tb < r) (hT : TabAt w1 tb av (abv P P.length) z8 z8)
  (hav : ∀ k, av.ownBlock = some k → w.heap.size ≤ k ∧ k ≠ tb ∧ k < r) (hpv : ∀ k, pv.ownBlock = some k → w.heap.size ≤ k ∧ k ≠ tb ∧ k < r ∧ av.ownBlock ≠ some k) (hp : w1.ownsRow 0 3 1 pv P.length (P.map (Value.int .i64))) :
  RAt (newSh r tb pv av qs bs) w1 (St.new P) ∧ ∀ k, k < w.heap.size → (newSh r tb pv av qs bs).own k = 0 := by
 have hno : ∀ k, k < r → ¬ ∃ m, m < 8 ∧ (k = qs m ∨ k = bs m) := by
  rintro k hk ⟨m, hm, e⟩
  have := hI.range m hm
  omega
 have hlow : ∀ k, k < w.heap.size → (newSh r tb pv av qs bs).own k = 0 := by
  intro k hk
  unfold newSh
  simp only
  rw [if_neg (by omega), if_neg (by omega), if_neg (fun e => by have := (hav k e).1; omega), if_neg (fun e => by have := (hpv k e).1; omega), dif_neg (hno k (by omega))]
 have hoq : ∀ m, m < 8 → ∀ k, k = qs m ∨ k = bs m → (newSh r tb pv av qs bs).own k = 8 + m := by
  intro m hm k e
  have hr := hI.range m hm
  have hex : ∃ m, m < 8 ∧ (k = qs m ∨ k = bs m) := ⟨m, hm, e⟩
  unfold newSh
  simp only
  rw [if_neg (by omega), if_neg (by omega), if_neg (fun e => by have := (hav k e).2.2; omega), if_neg (fun e => by have := (hpv k e).2.2.1; omega), dif_pos hex]
  have hc := hex.choose_spec
  rw [hI.apart hc.1 hm hc.2 e]
 have hfp : ∀ (x y : Nat) (k : Nat), QFp x y (.slice none 0 0) k → k = x ∨ k = y := fun x y k e => by
  rcases e with e | e | e
  ·exact .inl e
  ·exact .inr e
  ·cases e
 have hgetQ : ∀ m, m < 8 → ((St.new P).get m).Q = [] := fun m hm => by rw [new_get P m hm]
 have hgetP : ∀ m, m < 8 → ((St.new P).get m).P = [] := fun m hm => by rw [new_get P m hm]
 have hrl : r < w1.heap.size := (Array.getElem?_eq_some_iff.1 hI.blk).1
 refine ⟨⟨henv, hlow 0 h0, ?_, ?_, hp, fun m hm => ?_, fun m hm => ?_, ?_, ?_, ?_, ?_, fun m hm k hk => hoq m hm k (hfp _ _ k hk), fun m hm k hk => (by cases hk), fun k hk => ?_⟩, hlow⟩
 ·show w1.heap[r]? = _
  rw [hI.blk]
  refine congrArg (fun L : List Value => some (Obj.cells L.toArray 115 (0, 0))) ?_
  unfold ncells rcells
  rw [flat8_congr (f := fun m => nmem (nq qs 8 m)) (g := fun m => mcells (newSh r tb pv av qs bs) m ((St.new P).get m)) (fun m hm => by
   rw [new_get P m hm]
   unfold nq
   rw [if_pos hm]
   rfl)]
  rfl
 ·have e : ((List.range 8).map fun n => ((St.new P).get n).subs) = z8 := rfl
  rw [e]
  exact hT
 ·rw [hgetQ m hm]
  exact ⟨[], hI.q m hm, QH.nil⟩
 ·rw [hgetP m hm]
  exact World.ownsRow_nil _ _ _ _
 ·show (newSh r tb pv av qs bs).own r = 1
  unfold newSh
  simp
 ·show (newSh r tb pv av qs bs).own tb = 2
  unfold newSh
  simp only
  rw [if_neg (by omega), if_pos trivial]
 ·intro k hk
  have hk : av.ownBlock = some k := hk
  obtain ⟨a, b, c⟩ := hav k hk
  unfold newSh
  simp only
  rw [if_neg (by omega), if_neg b, if_pos hk]
 ·intro k hk
  have hk : pv.ownBlock = some k := hk
  obtain ⟨a, b, c, d⟩ := hpv k hk
  unfold newSh
  simp only
  rw [if_neg (by omega), if_neg b, if_neg d, if_pos hk]
 ·by_cases e1 : k = r
  ·omega
  ·by_cases e2 : k = tb
   ·omega
   ·by_cases e3 : av.ownBlock = some k
    ·have := (hav k e3).2.2; omega
    ·by_cases e4 : pv.ownBlock = some k
     ·have := (hpv k e4).2.2.1; omega
     ·by_cases e5 : ∃ m, m < 8 ∧ (k = qs m ∨ k = bs m)
      ·obtain ⟨m, hm, e⟩ := e5
       have := hI.range m hm
       omega
      ·exact absurd (by unfold newSh; simp only; rw [if_neg e1, if_neg e2, if_neg e3, if_neg e4, dif_neg e5]) hk
theorem Env.below_ {w w' : World} (h : Env w) (hb : Below w.heap.size w w') : Env w' := pw_cell_below hb h
def NewPost (w : World) (P : List Int) (e : Ending) (w' : World) : Prop := ∃ H : Sh, e = .returned (.tuple #[.pointer (some ⟨H.r, 0, none⟩), .int .i64 0]) ∧ RAt H w' (St.new P) ∧ (∀ k, k < w.heap.size → H.own k = 0) ∧ Below w.heap.size w w'
set_option maxHeartbeats 8000000 in
set_option maxRecDepth 100000 in
theorem new_rti (w : World) (henv : Env w) (base : Nat) (A : Option Addr) (cc : Nat) (P : List Int) (hP : Par P) (hrow : w.ownsRow base 3 1 (.slice A P.length cc) P.length (P.map (Value.int .i64))) {k : Nat} (hck : XCheck.tree_Check.f k P = some 0) :
  Calls Tryz.prog 32 #[.slice A P.length cc] w (NewPost w P) := by
 have hpn := pnew_call w base A cc P hP hrow hck
 have hcl : ∀ w1, Below w.heap.size w w1 → _ := fun w1 hb => clone_int w1 base (.slice A P.length cc) P (by have := hP.n16; omega) (own_move hrow (fun k hk => hb.block k (own_lt hrow k hk)))
 have HPN := Lib.hid hpn
 have HCL := Lib.hid hcl
 have HENV := Lib.hid henv
 have hu115 := Tryz.underlying115
 have hu113 := Tryz.underlying113
 have hu112 := Tryz.underlying112
 clear hpn hcl hrow hck hP henv
 go_enter Tryz.func32, Tryz.ntmps32
 have hmix : Tryz.prog.follows .mixedOrders = true := by kernel_rfl
 go_wp2_with (first | (go_at_call 81; (with_reducible refine HPN.out.mono ?_); rintro e w1 ⟨tb, av, rfl, hnt⟩; have HNT := Lib.hid hnt; clear hnt) | (go_at_call 82; (with_reducible refine (HCL.out w1 HNT.out.below).mono ?_); rintro e w2 ⟨PA, pc, rfl, hprow, hb2⟩; have HPROW := Lib.hid hprow; have HB2 := Lib.hid hb2; clear hprow hb2))
 have hnt := HNT.out
 have hpr := HPROW.out
 have hzc : (Tryz.zeroCells115.setIfInBounds 0 (Value.slice PA P.length pc)).setIfInBounds 1 (Value.pointer (some ⟨tb, 0, none⟩)) = (ncells (.slice PA P.length pc) tb (fun _ => 0) 0).toArray := by kernel_rfl
 rw [hzc]
 obtain ⟨W3, hW3⟩ : ∃ W3, W3 = w2.alloc (.cells (ncells (.slice PA P.length pc) tb (fun _ => 0) 0).toArray 115) := ⟨_, rfl⟩
 have hblk := heap_alloc_new w2 (.cells (ncells (.slice PA P.length pc) tb (fun _ => 0) 0).toArray 115)
 have hb3 : Below w2.heap.size w2 W3 := by rw [hW3]; exact (Below.refl _ w2).alloc (Nat.le_refl _) _
 have hs3 : W3.heap.size = w2.heap.size + 1 := by rw [hW3]; simp
 rw [← hW3] at hblk ⊢
 obtain ⟨r, hr⟩ : ∃ r, r = w2.heap.size := ⟨_, rfl⟩
 rw [← hr] at hblk ⊢
 have hs12 := HB2.out.size
 have hs01 := hnt.below.size
 have hsz0 : w.heap.size ≤ w2.heap.size := Nat.le_trans hs01 hs12
 have htl := (Array.getElem?_eq_some_iff.1 hnt.at_.blk).1
 have hI0 : NewInv r tb (.slice PA P.length pc) W3.heap.size 0 (fun _ => 0) (fun _ => 0) (fun _ => W3.heap.size) W3 := ⟨hblk, fun m hm => by omega, rfl, fun m hm => by omega, Nat.le_refl _⟩
 have HI0 := Lib.hid hI0
 have HR := Lib.hid (show r = w2.heap.size from hr)
 have HS3 := Lib.hid hs3
 have HB3 := Lib.hid hb3
 clear hnt hpr hzc hW3 hblk hb3 hs3 hr hs12 hs01 hsz0 htl hI0
 go_loopw [21] (fun iv wr => ∃ (f : Nat) (qs bs lo : Nat → Nat), f ≤ 8 ∧ iv = .int .i64 f ∧ NewInv r tb (.slice PA P.length pc) W3.heap.size f qs bs lo wr ∧ Below r w2 wr) (fun iv _ => 8 - (RowKit.intOf iv).toNat)
 case atStart => exact ⟨0, _, _, _, Nat.zero_le _, rfl, HI0.out, by have := HB3.out; have h2 := HR.out; rw [h2]; exact this⟩
 case round =>
  obtain ⟨f, qs, bs, lo, hf, rfl, hI, hb⟩ := hrel
  by_cases hfl : f < 8
  ·have hfi : (f : Int) < 8 := by omega
   have hf0 : (0 : Int) ≤ (f : Int) := by omega
   have HI := Lib.hid hI
   have HB := Lib.hid hb
   clear hI hb
   go_wp2_with fail
   refine st_ (n := 8) (S := fun w' => True) (ds := [2, 7]) hmix rfl trivial (fun hHeld => ?_)
   refine pu_ (i := 0) (N := (some 24)) (v := ?_) (a' := ?_) rfl rfl (by kernel_rfl) (fun _ _ _ h => h) (Or.inl ⟨by rfl, ?_⟩) ?_ ?_
   rotate_left
   ·intro w'
    go_simp
    try with_reducible rfl
   rotate_left
   ·simp only [Act.put, qa, qb, qc]
    rfl
   refine pu_ (i := 1) (N := (some 25)) (v := ?_) (a' := ?_) rfl rfl (by kernel_rfl) (fun _ _ _ h => h) (Or.inl ⟨by rfl, ?_⟩) ?_ ?_
   rotate_left
   ·intro w'
    go_simp
    try with_reducible rfl
   rotate_left
   ·simp only [Act.put, qa, qb, qc]
    rfl
   refine pu_ (i := 3) (N := (some 27)) (v := ?_) (a' := ?_) rfl rfl (by kernel_rfl) (fun _ _ _ h => h) (Or.inl ⟨by rfl, ?_⟩) ?_ ?_
   rotate_left
   ·intro w'
    go_simp
    try with_reducible rfl
   rotate_left
   ·simp only [Act.put, qa, qb, qc]
    rfl
   refine pu_ (i := 4) (N := (some 28)) (v := ?_) (a' := ?_) rfl rfl (by kernel_rfl) (fun _ _ _ h => h) (Or.inl ⟨by rfl, ?_⟩) ?_ ?_
   rotate_left
   ·intro w'
    go_simp
    try with_reducible rfl
   rotate_left
   ·simp only [Act.put, qa, qb, qc]
    rfl
   refine la_ (i := 2) (N := (some 26)) rfl rfl (by kernel_rfl) (by decide) (fun K hK => ?_)
   refine goes_ Tryz.func83 (by kernel_rfl) rfl #[.int .i64 64] (by rfl) rfl rfl (by simp only [List.map_toArray, List.map_cons, List.map_nil]; rfl) ?_
   refine (new_call _).mono ?_
   rintro x w5 ⟨q, b, rfl, hq1, hq2, hq3, hq4⟩
   refine ⟨_, rfl, hK.out _ _ ?_⟩
   clear hK K
   refine norm_ (a' := ?_) ?_ ?_
   rotate_left
   ·show Act.put _ (some 26) _ = _
    simp only [Act.put, qa, qb, qc]
    rfl
   refine pu_ (i := 5) (N := (some 29)) (v := ?_) (a' := ?_) rfl rfl (by kernel_rfl) (fun _ _ _ h => h) (Or.inl ⟨by rfl, ?_⟩) ?_ ?_
   rotate_left
   ·intro w'
    go_simp
    try with_reducible rfl
   rotate_left
   ·simp only [Act.put, qa, qb, qc]
    rfl
   refine pu_ (i := 6) (N := (some 30)) (v := ?_) (a' := ?_) rfl rfl (by kernel_rfl) (fun _ _ _ h => h) (Or.inl ⟨by rfl, ?_⟩) ?_ ?_
   rotate_left
   ·intro w'
    go_simp
    try with_reducible rfl
   rotate_left
   ·simp only [Act.put, qa, qb, qc]
    rfl
   refine la_ (i := 7) (N := none) rfl rfl (by kernel_rfl) (by decide) (fun K hK => ?_)
   have hrl := (Array.getElem?_eq_some_iff.1 HI.out.blk).1
   have hb5 := (hq4.block r hrl).trans HI.out.blk
   have f5 : w5.frozen? ⟨r, 2 + f * 10 + 7, none⟩ = false := by simp [World.frozen?, hb5]
   have d5 : w5.cell? ⟨r, 2 + f * 10 + 7, none⟩ = some (.pointer (nq qs f f)) := by rw [cell_of_row w5 r (2 + f * 10 + 7) _ 115 (0, 0) hb5, List.getElem?_toArray]; exact ncells_at _ tb qs f f hfl
   have hq4 : Below wr.heap.size wr w5 := (Below.refl _ wr).drew.trans hq4
   have hst := HI.out.step hfl (by have := HR.out; have := HS3.out; omega) hq1 hq2 hq3 hq4
   have HST := Lib.hid hst
   have HQ4 := Lib.hid hq4
   clear hst hb5 hq1 hq2 hq3 hq4
   refine skip_ (w1 := (w5.setCell ⟨r, 2 + f * 10 + 7, none⟩ (.pointer (some ⟨q, 0, none⟩)))) (by rfl) rfl (by go_simp) ?_
   refine hK.out _ _ ?_
   clear hK K
   refine done_ (by kernel_rfl) ?_
   go_wp2
   refine ⟨⟨f + 1, _, _, _, hfl, by go_num, HST.out, ?_⟩, by simp [RowKit.intOf]; omega⟩
   have hrl := (Array.getElem?_eq_some_iff.1 HI.out.blk).1
   refine (HB.out.trans (HQ4.out.mono (Nat.le_of_lt hrl))).trans ?_
   exact Tch.below (P := fun k => k = r) (Tch.setCell (P := fun k => k = r) (Tch.refl _ _) (p := ⟨r, 2 + f * 10 + 7, none⟩) (.inl rfl) _) (Nat.le_trans (Nat.le_of_lt hrl) HQ4.out.size) (fun k hk e => by omega)
  ·obtain rfl : f = 8 := by omega
   have hfi : ¬ (8 : Int) < 8 := by omega
   have HI := Lib.hid hI
   have HB := Lib.hid hb
   clear hI hb
   go_wp2
   go_ret2
   have hr := HR.out
   have hnt := HNT.out
   have hb2 := HB2.out
   have hb := HB.out
   rw [hr] at hb
   have hs12 := hb2.size
   have hs01 := hnt.below.size
   have hbb : Below w.heap.size w wr := (hnt.below.trans (hb2.mono hs01)).trans (hb.mono (Nat.le_trans hs01 hs12))
   have htl := (Array.getElem?_eq_some_iff.1 hnt.at_.blk).1
   have hTa : TabAt w2 tb av (abv P P.length) z8 z8 := hnt.at_.below hb2
   have hT : TabAt wr tb av (abv P P.length) z8 z8 := hTa.below hb
   have hprow : wr.ownsRow 0 3 1 (.slice PA P.length pc) P.length (P.map (Value.int .i64)) := own_zero (own_move HPROW.out (fun k hk => hb.block k (own_lt HPROW.out k hk)))
   have h0 : 0 < w.heap.size := World.block_lt_of_cell? w _ HENV.out
   have hval : ∀ k, av.ownBlock = some k → k < tb + (w2.heap.size - tb) := fun k hk => by
    obtain ⟨e, hr⟩ := hTa.row
    have := own_lt hr k hk
    omega
   have hpvl := fun k hk => own_lt HPROW.out k hk
   have hpvb := fun k hk => own_base HPROW.out k hk
   obtain ⟨hAt, hOw⟩ := new_at (w := w) (w1 := wr) (P := P) (HENV.out.below_ hbb) h0 HI.out (by omega) (by have := HS3.out; omega) hnt.tbl (by omega) hT (fun k hk => ⟨(hnt.avl k hk).1, (hnt.avl k hk).2, by have := hval k hk; omega⟩) (fun k hk => ⟨by have := hpvb k hk; omega, by have := hpvb k hk; omega, by have := hpvl k hk; omega, fun e => by
    obtain ⟨e2, hr2⟩ := hnt.at_.row
    have h1 := own_lt hr2 k e
    have h2 := hpvb k hk
    omega⟩) hprow
   exact ⟨_, rfl, hAt, hOw, hbb⟩
end Go.Proofs.YtehnkebcbomidaaGreatDoor.Rt
