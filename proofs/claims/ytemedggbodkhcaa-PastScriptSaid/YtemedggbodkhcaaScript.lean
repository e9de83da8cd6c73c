/- past: the walk of PastScript. -/
import Derived.Test.YtemedggbodkhcaaScr
set_option linter.unusedVariables false
set_option linter.unusedSimpArgs false
namespace Go.Proofs.Ytemedggbodkhcaa.Past
open Go.RowKit Go.Proofs.YtemedggbodkhcaaW.PrintWords Go.Proofs.YtemedggbodkhcaaW.PrintLast Go.Proofs.Ytemedggbodkhcaa.XPastScript
attribute [local go_sem high] eqA27
theorem add_split' (x : Addr) (n j : Nat) (hj : 0 < j) : x.add (n + j) = ⟨(x.add n).block, (x.add n).off + j, none⟩ := by
  unfold Addr.add
  rw [if_neg (by omega)]
  split
  · rename_i h; subst h; simp
  · simp [Nat.add_assoc]
theorem bool_two' (b : Bool) : b = true ∨ b = false := by cases b <;> simp
section
variable {W : World} {gp gr : Nat} {A : Option Addr} {c : Nat} {Ar : Option Addr} {cr : Nat} {fl : Int} {P Q : List EM} {wr w' : World}
theorem keyCells_twin {P Q : List EM} (h : P.map kk = Q.map kk) : keyCells (fs P) = keyCells (fs Q) := by
  have : ∀ P : List EM, keyCells (fs P) = (P.map kk).flatMap (fun q => [.int .i64 q.1.1, .int .i64 q.1.2.1, .int .i64 q.1.2.2.1]) := fun P => by
    induction P with
    | nil => rfl
    | cons p P ih => simp only [keyCells, fs, List.map_cons, List.flatMap_cons] at ih ⊢; rw [ih]; rfl
  rw [this, this, h]
theorem SS.keys (h : SS W gp gr A c Ar cr fl P Q wr) : Calls Try.prog 16 #[.pointer (some ⟨gp, 0, none⟩)] wr fun x w' => ∃ A1 c1, x = .returned (.slice A1 P.length c1) ∧ w'.ownsRow wr.heap.size 27 3 (.slice A1 P.length c1) P.length (keyCells (fs P)) ∧ Below wr.heap.size wr w' := by
  have := keys_at wr W.heap.size gp A c fl (fs P) h.po.past
  simpa [fs] using this
theorem SS.rkeys (h : SS W gp gr A c Ar cr fl P Q wr) : Calls Try.prog 24 #[.pointer (some ⟨gr, 0, none⟩)] wr fun x w' => ∃ A1 c1, x = .returned (.slice A1 P.length c1) ∧ w'.ownsRow wr.heap.size 27 3 (.slice A1 P.length c1) P.length (keyCells (fs P)) ∧ Below wr.heap.size wr w' := by
  have := rkeys_at wr W.heap.size gr Ar cr fl (fs Q) h.ref
  rw [keyCells_twin h.twin, h.len]
  simpa [fs] using this
theorem SS.rblk (h : SS W gp gr A c Ar cr fl P Q wr) : wr.heap[gr]? = some (.cells #[.int .i64 fl, .slice Ar P.length cr] 63 (0, 0)) := by
  have := h.ref.1
  rw [h.len]
  simpa [fs] using this
end
/-- the steps that came in: each one's kind, its entry, the entry's messages -/
def Steps2 (W : World) (a : Option Addr) (n : Nat) : Prop :=
  ∀ i, i < n → ∃ (x : Addr) (kd : Int) (e : Ent) (y : List S29), a = some x ∧ (∀ j u, (.int .i64 kd :: e.cells)[j]? = some u → W.cell? (x.add (i * 11 + j)) = some u) ∧ Rd W e.o (msv y)
theorem PushQ.cell {w w' : World} {B g : Nat} {A : Option Addr} {c : Nat} {fl : Int} {L : List Ent} {M : List (List Value)} {Y : Nat → Prop} {e : Ent} {ms : List Value} {x : Ending} (h : PushQ w B g A c fl L M Y e ms x w') {b j : Nat} {v : Value} (hc : w.cell? ⟨b, j, none⟩ = some v) (hb : b < w.heap.size) (hn : ¬ FP g A b) : w'.cell? ⟨b, j, none⟩ = some v :=
  cell_kept hc h.2.2.1 (fun e => by rcases e with e | e; exact hn e; exact absurd hb (Nat.not_lt.2 e))
set_option maxHeartbeats 12000000 in
set_option maxRecDepth 100000 in
theorem script_walk (W : World) (a : Option Addr) (cap : Nat) (len : Nat) (hb : Bool) (hcap : len ≤ cap)
    (hv : Calls Try.prog 15 #[.slice a len cap] W fun e w' => e = .returned (.bool hb) ∧ Below W.heap.size W w') (hs : hb = false → len ≤ 200 ∧ Steps2 W a len) :
    Calls Try.prog 7 #[.slice a len cap] W fun e W' => e = .returned (.bool true) ∧ Below W.heap.size W W' := by
  have hu32 := Try.underlying32
  have hu65 := Try.underlying65
  have hu35 := Try.underlying35
  have hu27 := Try.underlying27
  have hu29 := Try.underlying29
  have hu45 := Try.underlying45
  have hu43 := Try.underlying43
  have hu47 := Try.underlying47
  have hu52 := Try.underlying52
  have hu54 := Try.underlying54
  have hu63 := Try.underlying63
  have HV := Lib.hid hv
  have HS := Lib.hid hs
  clear hv hs
  go_enter Try.func7, Try.ntmps7
  go_wp2_with fail
  refine HV.out.mono ?_
  rintro e w1 ⟨rfl, hb1⟩
  rcases bool_two' hb with rfl | rfl
  · go_wp2_with fail
    go_ret
    exact ⟨rfl, hb1⟩
  · obtain ⟨hl200, hst⟩ := HS.out rfl
    have HST := Lib.hid hst
    have hz1 := hb1.size
    clear hst
    go_wp2_with fail
    refine (new_n w1 W.heap.size hz1).mono ?_
    rintro e w2 ⟨gp, rfl, hP2, hb2, hg2⟩
    have hz2 := hb2.size
    go_wp2_with fail
    refine (rnew_at w2 W.heap.size (by omega)).mono ?_
    rintro e w3 ⟨gr, rfl, hR3, hb3, hg3⟩
    have HS3 : Hid (SS W gp gr none 0 none 0 0 [] [] w3) := Lib.hid ⟨⟨hP2.below hb3, .nil⟩, hR3, rfl, (fun p hp => by cases hp), ⟨List.Pairwise.nil, (fun e he => by cases he), by omega⟩, (hb1.trans (hb2.mono hz1)).trans (hb3.mono (by omega))⟩
    clear hP2 hR3 hb1 hb2 hb3
    go_wp2_with fail
    go_loopw [5] (fun i wr => ∃ (A : Option Addr) (c : Nat) (Ar : Option Addr) (cr : Nat) (fl : Int) (P Q : List EM) (k : Nat), k ≤ len ∧ i = .int .i64 k ∧ SS W gp gr A c Ar cr fl P Q wr) (fun i _ => len - (intOf i).toNat)
    case atStart => exact ⟨none, 0, none, 0, 0, [], [], 0, Nat.zero_le _, rfl, HS3.out⟩
    case round =>
      obtain ⟨A, c, Ar, cr, fl, P, Q, k, hk, rfl, hss⟩ := hrel
      have HSS := Lib.hid hss
      clear hss
      by_cases hlt : k < len
      · have hki : (k : Int) < (len : Int) := by omega
        obtain ⟨x, kd, e, y, rfl, hcs', hrd⟩ := HST.out k hlt
        obtain ⟨t, f, s, d, cl, bd, ah, se, st, oa, on_, oc⟩ := e
        simp only [Ent.cells, Ent.o] at hcs' hrd
        have hcs : ∀ j u, ([.int .i64 kd, .int .i64 t, .int .i64 f, .int .i64 s, .int .i64 d, .int .i64 cl, .int .i64 bd, .int .i64 ah, .int .i64 se, .int .i64 st, .slice oa on_ oc] : List Value)[j]? = some u → wr.cell? (x.add (k * 11 + j)) = some u := fun j u hu => pw_cell_below HSS.out.below (hcs' j u hu)
        have d0 := hcs 0 _ rfl
        rw [Nat.add_zero] at d0
        have d1 := hcs 1 _ rfl
        rw [add_split' x (k * 11) 1 (by decide)] at d1
        have d2 := hcs 2 _ rfl
        rw [add_split' x (k * 11) 2 (by decide)] at d2
        have d3 := hcs 3 _ rfl
        rw [add_split' x (k * 11) 3 (by decide)] at d3
        have d4 := hcs 4 _ rfl
        rw [add_split' x (k * 11) 4 (by decide)] at d4
        have d5 := hcs 5 _ rfl
        rw [add_split' x (k * 11) 5 (by decide)] at d5
        have d6 := hcs 6 _ rfl
        rw [add_split' x (k * 11) 6 (by decide)] at d6
        have d7 := hcs 7 _ rfl
        rw [add_split' x (k * 11) 7 (by decide)] at d7
        have d8 := hcs 8 _ rfl
        rw [add_split' x (k * 11) 8 (by decide)] at d8
        have d9 := hcs 9 _ rfl
        rw [add_split' x (k * 11) 9 (by decide)] at d9
        have d10 := hcs 10 _ rfl
        rw [add_split' x (k * 11) 10 (by decide)] at d10
        have d0a := cell_al d0 (.cells #[.int .i64 t, .int .i64 f, .int .i64 s, .int .i64 d, .int .i64 cl, .int .i64 bd, .int .i64 ah, .int .i64 se, .int .i64 st, .slice oa on_ oc] 32)
        have HRD := Lib.hid hrd
        obtain ⟨W1, hW1⟩ : ∃ W1, W1 = wr.alloc (.cells #[.int .i64 t, .int .i64 f, .int .i64 s, .int .i64 d, .int .i64 cl, .int .i64 bd, .int .i64 ah, .int .i64 se, .int .i64 st, .slice oa on_ oc] 32) := ⟨_, rfl⟩
        have hbW1 : Below wr.heap.size wr W1 := by rw [hW1]; exact (Below.refl _ wr).alloc (Nat.le_refl _) _
        have hmW1 : W1.heap[wr.heap.size]? = some (.cells #[.int .i64 t, .int .i64 f, .int .i64 s, .int .i64 d, .int .i64 cl, .int .i64 bd, .int .i64 ah, .int .i64 se, .int .i64 st, .slice oa on_ oc] 32 (0, 0)) := by rw [hW1]; exact blk_new' _ _
        have hbe : wr.heap.size < W1.heap.size := by rw [hW1]; simp
        have HSW := Lib.hid ((HSS.out.belows hbW1).belows (below_drew1 (Below.refl _ _)))
        have hnf : ¬ FP gp A wr.heap.size := fun e => by
          have h9 := HSS.out.po.past.lt
          rcases e with e | e
          · omega
          · have := (h9.2.1 _ e).2; omega
        have hngp : wr.heap.size ≠ gp := fun e => hnf (.inl e)
        have hngr : wr.heap.size ≠ gr := by have := blk_lt HSS.out.ref.1; omega
        have a0 := mcell hmW1 0
        have a1 := mcell hmW1 1
        have a2 := mcell hmW1 2
        have a3 := mcell hmW1 3
        have a4 := mcell hmW1 4
        have a5 := mcell hmW1 5
        have a6 := mcell hmW1 6
        have a7 := mcell hmW1 7
        have a8 := mcell hmW1 8
        have a9 := mcell hmW1 9
        simp at a0 a1 a2 a3 a4 a5 a6 a7 a8 a9
        have HW1 := Lib.hid hW1
        have HBW1 := Lib.hid hbW1
        have HMW1 := Lib.hid hmW1
        have HNF := Lib.hid hnf
        clear hW1 hbW1 hmW1 hnf
        clear hcs hcs' hrd
        by_cases hk0 : kd = 0
        · subst hk0
          obtain ⟨r, hr⟩ : ∃ r, r = pushR fl (fs P) t f s := ⟨_, rfl⟩
          have HPU : Hid (Calls Try.prog 9 #[.pointer (some ⟨gp, 0, none⟩), .agg #[.int .i64 t, .int .i64 f, .int .i64 s, .int .i64 d, .int .i64 cl, .int .i64 bd, .int .i64 ah, .int .i64 se, .int .i64 st, .slice oa on_ oc]] W1.drew (fun x w' => x = .returned (.int .i64 r) ∧ PushQ W1.drew W.heap.size gp A c fl (fs P) (sn P) (fun q => q = gr) ⟨t, f, s, d, cl, bd, ah, se, st, oa, on_, oc⟩ (msv y) x w')) := Lib.hid ((push_q W1.drew W.heap.size gp A c fl (fs P) (sn P) _ HSW.out.po (fun q hq => by have hq : q = gr := hq; subst hq; exact blk_lt HSW.out.ref.1) ⟨t, f, s, d, cl, bd, ah, se, st, oa, on_, oc⟩ (msv y) (HRD.out.below HSW.out.below)).mono fun x w' h => ⟨by rw [hr]; exact h.1, h⟩)
          have HRP : Hid (∀ w4 x, PushQ W1.drew W.heap.size gp A c fl (fs P) (sn P) (fun q => q = gr) ⟨t, f, s, d, cl, bd, ah, se, st, oa, on_, oc⟩ (msv y) x w4 → Calls Try.prog 18 #[.pointer (some ⟨gr, 0, none⟩), .agg #[.int .i64 t, .int .i64 f, .int .i64 s, .int .i64 d, .int .i64 cl, .int .i64 bd, .int .i64 ah, .int .i64 se, .int .i64 st, .slice oa on_ oc]] w4 (fun x w' => x = .returned (.int .i64 r) ∧ RPushP w4 W.heap.size gr fl (fs Q) ⟨t, f, s, d, cl, bd, ah, se, st, oa, on_, oc⟩ Ar cr x w')) := Lib.hid (fun w4 x hq => (rpush_at w4 W.heap.size gr Ar cr fl (fs Q) (HSW.out.ref_mid hq.2.2.1 (fun q hq => hq)) ⟨t, f, s, d, cl, bd, ah, se, st, oa, on_, oc⟩).mono fun x w' h => ⟨by rw [hr, pushR_twin HSW.out.twin]; exact h.1, h⟩)
          clear hr
          have hrr : (r != r) = false := by simp
          have hbe' : wr.heap.size < W1.drew.heap.size := hbe
          go_wp2_with fail
          rw [← HW1.out]
          go_region_held3 (fun w' => w'.cell? ⟨wr.heap.size, 0, none⟩ = some (.int .i64 t) ∧ w'.cell? ⟨wr.heap.size, 1, none⟩ = some (.int .i64 f) ∧ w'.cell? ⟨wr.heap.size, 2, none⟩ = some (.int .i64 s) ∧ w'.cell? ⟨wr.heap.size, 3, none⟩ = some (.int .i64 d) ∧ w'.cell? ⟨wr.heap.size, 4, none⟩ = some (.int .i64 cl) ∧ w'.cell? ⟨wr.heap.size, 5, none⟩ = some (.int .i64 bd) ∧ w'.cell? ⟨wr.heap.size, 6, none⟩ = some (.int .i64 ah) ∧ w'.cell? ⟨wr.heap.size, 7, none⟩ = some (.int .i64 se) ∧ w'.cell? ⟨wr.heap.size, 8, none⟩ = some (.int .i64 st) ∧ w'.cell? ⟨wr.heap.size, 9, none⟩ = some (.slice oa on_ oc))
            ((go_split_ands; refine ⟨?_, ?_, ?_, ?_, ?_, ?_, ?_, ?_, ?_, ?_⟩ <;> first | assumption | exact PushQ.cell hq4 (by assumption) hbe' HNF.out | exact cell_kept (by assumption) hq5.2.1 hngr))
            (first | (go_at_call 9; refine HPU.out.mono ?_; rintro x4 w4 ⟨rfl, hq4⟩) | (go_at_call 18; refine (HRP.out _ _ hq4).mono ?_; rintro x5 w5 ⟨rfl, hq5⟩))
          obtain ⟨A1, c1, Ar1, cr1, P1, Q1, hs1⟩ := HSW.out.push (e := ⟨t, f, s, d, cl, bd, ah, se, st, oa, on_, oc⟩) (x := y) HRD.out hq4 hq5
          have HS1 := Lib.hid hs1
          obtain ⟨fl1, hfl1⟩ : ∃ fl1, fl1 = fl := ⟨_, rfl⟩
          subst hfl1
          clear hq4 hq5 hs1
          have hz5 := HS1.out.below.size
          have hgp5 := HS1.out.po.past.lt.1
          have hgr5 := blk_lt HS1.out.ref.1
          have h64 : P1.length ≤ 64 := by have := HS1.out.po.past.2.2.2; simpa [fs] using this
          have HL1 := Lib.hid HS1.out.last
          go_wp2_with fail
          refine HL1.out.mono ?_
          rintro e w6 ⟨⟨lt, lf, ls, ld, lcl, lbd, lah, lse, lst, loa, lon_, loc⟩, yl, rfl, hb6, hrd6, hkk6⟩
          simp only [Ent.val, Ent.o] at *
          obtain ⟨W6, hW6⟩ : ∃ W6, W6 = w6.alloc (.cells #[.int .i64 lt, .int .i64 lf, .int .i64 ls, .int .i64 ld, .int .i64 lcl, .int .i64 lbd, .int .i64 lah, .int .i64 lse, .int .i64 lst, .slice loa lon_ loc] 32) := ⟨_, rfl⟩
          have hbb6 : Below w6.heap.size w6 W6 := by rw [hW6]; exact (Below.refl _ w6).alloc (Nat.le_refl _) _
          have hm6 : W6.heap[w6.heap.size]? = some (.cells #[.int .i64 lt, .int .i64 lf, .int .i64 ls, .int .i64 ld, .int .i64 lcl, .int .i64 lbd, .int .i64 lah, .int .i64 lse, .int .i64 lst, .slice loa lon_ loc] 32 (0, 0)) := by rw [hW6]; exact blk_new' _ _
          have hs6 : w6.heap.size + 1 = W6.heap.size := by rw [hW6]; simp
          have HS6 := Lib.hid ((HS1.out.belows hb6).belows hbb6)
          have HRD6 := Lib.hid (hrd6.below hbb6)
          have HRL := Lib.hid HS6.out.rlast
          have HRZ := Lib.hid HS6.out.zlast
          obtain ⟨zl, hzl⟩ : ∃ zl : EM, zl = Q1.getLast?.getD (⟨0, 0, 0, 0, 0, 0, 0, 0, 0, none, 0, 0⟩, []) := ⟨_, rfl⟩
          rw [← hzl] at HRL HRZ hkk6
          have HB6 := Lib.hid hb6
          have HBB6 := Lib.hid hbb6
          have HRD6' := Lib.hid hrd6
          have HKK := Lib.hid hkk6
          have HW6 := Lib.hid hW6
          have HM6 := Lib.hid hm6
          have HSZ6 := Lib.hid hs6
          clear hb6 hbb6 hrd6 hkk6 hW6 hm6 hs6
          clear hzl
          obtain ⟨⟨mt, mf, ms, md, mcl, mbd, mah, mse, mst, moa, mon_, moc⟩, yr⟩ := zl
          simp only [Ent.val, Ent.o] at HRL HRZ
          obtain ⟨bq, hbq⟩ : ∃ bq, bq = !Q1.isEmpty := ⟨_, rfl⟩
          rw [← hbq] at HRL ⊢
          clear hbq
          go_wp2_with fail
          rw [← HW6.out]
          refine HRL.out.mono ?_
          rintro e w8 ⟨rfl, hb8⟩
          obtain ⟨W8, hW8⟩ : ∃ W8, W8 = w8.alloc (.cells #[.int .i64 mt, .int .i64 mf, .int .i64 ms, .int .i64 md, .int .i64 mcl, .int .i64 mbd, .int .i64 mah, .int .i64 mse, .int .i64 mst, .slice moa mon_ moc] 52) := ⟨_, rfl⟩
          have hbb8 : Below w8.heap.size w8 W8 := by rw [hW8]; exact (Below.refl _ w8).alloc (Nat.le_refl _) _
          have hm8 : W8.heap[w8.heap.size]? = some (.cells #[.int .i64 mt, .int .i64 mf, .int .i64 ms, .int .i64 md, .int .i64 mcl, .int .i64 mbd, .int .i64 mah, .int .i64 mse, .int .i64 mst, .slice moa mon_ moc] 52 (0, 0)) := by rw [hW8]; exact blk_new' _ _
          have hs8 : w8.heap.size + 1 = W8.heap.size := by rw [hW8]; simp
          have hb68 : Below W6.heap.size W6 W8 := hb8.trans (hbb8.mono hb8.size)
          have HS8 := Lib.hid (HS6.out.belows hb68)
          have HRD8 := Lib.hid (HRD6.out.below hb68)
          have HRZ8 := Lib.hid (HRZ.out.below hb68)
          have hm68 := (hb68.block _ (by have := HSZ6.out; omega)).trans HM6.out
          have HK8 := Lib.hid HS8.out.keys
          have HB8 := Lib.hid hb8
          have HBB8 := Lib.hid hbb8
          have HW8 := Lib.hid hW8
          have HM8 := Lib.hid hm8
          have HSZ8 := Lib.hid hs8
          have HB68 := Lib.hid hb68
          have HM68 := Lib.hid hm68
          clear hb8 hbb8 hW8 hm8 hs8 hb68 hm68
          go_wp2_with fail
          rw [← HW8.out]
          refine HK8.out.mono ?_
          rintro e w10 ⟨A10, c10, rfl, ho10, hb10⟩
          have HS10 := Lib.hid (HS8.out.belows hb10)
          have HRD10 := Lib.hid (HRD8.out.below hb10)
          have HRZ10 := Lib.hid (HRZ8.out.below hb10)
          have hm610 := (hb10.block _ (by have := HSZ8.out; have := HB68.out.size; have := HSZ6.out; omega)).trans HM68.out
          have hm810 := (hb10.block _ (by have := HSZ8.out; omega)).trans HM8.out
          have HRK := Lib.hid HS10.out.rkeys
          have HO10 := Lib.hid ho10
          have HB10 := Lib.hid hb10
          have HM610 := Lib.hid hm610
          have HM810 := Lib.hid hm810
          clear ho10 hb10 hm610 hm810
          go_wp2_with fail
          refine HRK.out.mono ?_
          rintro e w11 ⟨A11, c11, rfl, ho11, hb11⟩
          have HS11 := Lib.hid (HS10.out.belows hb11)
          have HRD11 := Lib.hid (HRD10.out.below hb11)
          have HRZ11 := Lib.hid (HRZ10.out.below hb11)
          have HO10' := Lib.hid (own_below HO10.out hb11)
          have hm611 := (hb11.block _ (by have := HSZ8.out; have := HB68.out.size; have := HSZ6.out; have := HB10.out.size; omega)).trans HM610.out
          have hm811 := (hb11.block _ (by have := HSZ8.out; have := HB10.out.size; omega)).trans HM810.out
          have u0 := mcell hm611 0
          have u1 := mcell hm611 1
          have u2 := mcell hm611 2
          have u3 := mcell hm611 3
          have u4 := mcell hm611 4
          have u5 := mcell hm611 5
          have u6 := mcell hm611 6
          have u7 := mcell hm611 7
          have u8 := mcell hm611 8
          have u9 := mcell hm611 9
          simp at u0 u1 u2 u3 u4 u5 u6 u7 u8 u9
          have v0 := mcell hm811 0
          have v1 := mcell hm811 1
          have v2 := mcell hm811 2
          have v3 := mcell hm811 3
          have v4 := mcell hm811 4
          have v5 := mcell hm811 5
          have v6 := mcell hm811 6
          have v7 := mcell hm811 7
          have v8 := mcell hm811 8
          have v9 := mcell hm811 9
          simp at v0 v1 v2 v3 v4 v5 v6 v7 v8 v9
          have hgq := HS11.out.rblk
          have g0 := mcell hgq 0
          have g1 := mcell hgq 1
          simp at g0 g1
          have HEC := Lib.hid (entry_calls (w := w11.drew) (e := ⟨lt, lf, ls, ld, lcl, lbd, lah, lse, lst, loa, lon_, loc⟩) (e' := ⟨mt, mf, ms, md, mcl, mbd, mah, mse, mst, moa, mon_, moc⟩) (HRD11.out.below (below_drew1 (Below.refl _ _))) (HRZ11.out.below (below_drew1 (Below.refl _ _))) HKK.out)
          simp only [Ent.val] at HEC
          have HO11 := Lib.hid ho11
          have HB11 := Lib.hid hb11
          have HM611 := Lib.hid hm611
          have HM811 := Lib.hid hm811
          have HGQ := Lib.hid hgq
          clear ho11 hb11 hm611 hm811 hgq
          have hbqq : (bq != bq) = false := by simp
          go_wp2_with fail
          go_region_held3 (fun w' => w'.cell? ⟨w6.heap.size, 0, none⟩ = some (.int .i64 lt) ∧ w'.cell? ⟨w6.heap.size, 1, none⟩ = some (.int .i64 lf) ∧ w'.cell? ⟨w6.heap.size, 2, none⟩ = some (.int .i64 ls) ∧ w'.cell? ⟨w6.heap.size, 3, none⟩ = some (.int .i64 ld) ∧ w'.cell? ⟨w6.heap.size, 4, none⟩ = some (.int .i64 lcl) ∧ w'.cell? ⟨w6.heap.size, 5, none⟩ = some (.int .i64 lbd) ∧ w'.cell? ⟨w6.heap.size, 6, none⟩ = some (.int .i64 lah) ∧ w'.cell? ⟨w6.heap.size, 7, none⟩ = some (.int .i64 lse) ∧ w'.cell? ⟨w6.heap.size, 8, none⟩ = some (.int .i64 lst) ∧ w'.cell? ⟨w6.heap.size, 9, none⟩ = some (.slice loa lon_ loc) ∧ w'.cell? ⟨w8.heap.size, 0, none⟩ = some (.int .i64 mt) ∧ w'.cell? ⟨w8.heap.size, 1, none⟩ = some (.int .i64 mf) ∧ w'.cell? ⟨w8.heap.size, 2, none⟩ = some (.int .i64 ms) ∧ w'.cell? ⟨w8.heap.size, 3, none⟩ = some (.int .i64 md) ∧ w'.cell? ⟨w8.heap.size, 4, none⟩ = some (.int .i64 mcl) ∧ w'.cell? ⟨w8.heap.size, 5, none⟩ = some (.int .i64 mbd) ∧ w'.cell? ⟨w8.heap.size, 6, none⟩ = some (.int .i64 mah) ∧ w'.cell? ⟨w8.heap.size, 7, none⟩ = some (.int .i64 mse) ∧ w'.cell? ⟨w8.heap.size, 8, none⟩ = some (.int .i64 mst) ∧ w'.cell? ⟨w8.heap.size, 9, none⟩ = some (.slice moa mon_ moc) ∧ w'.cell? ⟨gr, 0, none⟩ = some (.int .i64 fl1) ∧ w'.cell? ⟨gr, 1, none⟩ = some (.slice Ar1 P1.length cr1))
            ((go_split_ands; refine ⟨?_, ?_, ?_, ?_, ?_, ?_, ?_, ?_, ?_, ?_, ?_, ?_, ?_, ?_, ?_, ?_, ?_, ?_, ?_, ?_, ?_, ?_⟩ <;> first | assumption | exact pw_cell_below hb25 (by assumption)))
            (first | (go_at_call 25; refine HEC.out.mono ?_; rintro e w25 ⟨rfl, hb25⟩) | (go_at_call 11; refine (len_at _ _ _ _ _ _ _ ((HS11.out.belows (below_drew1 (Below.refl _ _))).belows hb25).po.past).mono ?_; rintro e w26 ⟨rfl, hw26⟩; have hw26 := hw26.symm; subst hw26) | (go_at_call 12; refine (floor_at _ _ _ _ _ _ _ ((HS11.out.belows (below_drew1 (Below.refl _ _))).belows hb25).po.past).mono ?_; rintro e w27 ⟨rfl, hw27⟩; have hw27 := hw27.symm; subst hw27))
          have hb25' : Below w11.heap.size w11 w25 := ⟨hb25.os, hb25.tape, hb25.output, hb25.size, hb25.block⟩
          have HS25 := Lib.hid (HS11.out.belows hb25')
          have HO10f := Lib.hid (own_below HO10'.out hb25')
          have HO11f := Lib.hid (own_below HO11.out hb25')
          clear hb25 hb25' u0 u1 u2 u3 u4 u5 u6 u7 u8 u9 v0 v1 v2 v3 v4 v5 v6 v7 v8 v9 g0 g1 hgp5 hgr5 hz5 hbqq
          obtain ⟨wo, hwo⟩ : ∃ wo, wo = wr := ⟨_, rfl⟩
          subst hwo
          go_wp2_with fail
          go_loopw [13] (fun i wr => ∃ m : Nat, m ≤ P1.length ∧ i = .int .i64 m ∧ Below w25.heap.size w25 wr) (fun i _ => P1.length - (intOf i).toNat)
          case atStart => exact ⟨0, Nat.zero_le _, rfl, Below.refl _ _⟩
          case round =>
            obtain ⟨m, hm, rfl, hbm⟩ := hrel
            by_cases hml : m < P1.length
            · have hml' : m < (fs P1).length := by simpa [fs] using hml
              obtain ⟨b7, rfl, hc7, e0', e1', e2'⟩ := key_cells HO10f.out (by simp [fs]) m hml'
              obtain ⟨b8, rfl, hc8, q0', q1', q2'⟩ := key_cells HO11f.out (by simp [fs]) m hml'
              have e0 := pw_cell_below hbm e0'
              have e1 := pw_cell_below hbm e1'
              have e2 := pw_cell_below hbm e2'
              have q0 := pw_cell_below hbm q0'
              have q1 := pw_cell_below hbm q1'
              have q2 := pw_cell_below hbm q2'
              have hmi : (m : Int) < (P1.length : Int) := by omega
              have HBM := Lib.hid hbm
              clear e0' e1' e2' q0' q1' q2' hbm
              generalize (fs P1)[m] = em at *
              go_wp2_with fail
              go_quiet (fail)
              go_wp2_with fail
              exact ⟨⟨m + 1, hml, by go_num, pw_below_drewN HBM.out nq⟩, by simp [intOf]; omega⟩
            · have HBM := Lib.hid hbm
              clear hbm
              go_wp2_with fail
              exact ⟨⟨A1, c1, Ar1, cr1, fl1, P1, Q1, k + 1, hlt, by go_num, HS25.out.belows HBM.out⟩, by simp [intOf]; omega⟩
        · have hb0 : (kd == 0) = false := by rw [beq_eq_false_iff_ne]; exact hk0
          by_cases hk1 : kd = 1
          · subst hk1
            have HBA := Lib.hid (back_q W1.drew W.heap.size gp c A fl (fs P) (sn P) _ HSW.out.po t f s (HSW.out.inv.monoK t f s))
            clear hk0
            have hbe' : wr.heap.size < W1.drew.heap.size := hbe
            go_wp2_with fail
            rw [← HW1.out]
            go_region_held3 (fun w' => w'.cell? ⟨wr.heap.size, 0, none⟩ = some (.int .i64 t) ∧ w'.cell? ⟨wr.heap.size, 1, none⟩ = some (.int .i64 f) ∧ w'.cell? ⟨wr.heap.size, 2, none⟩ = some (.int .i64 s))
              ((go_split_ands; refine ⟨?_, ?_, ?_⟩ <;> first | assumption | exact pw_cell_below hb6 (by assumption) | exact cell_kept (by assumption) h1 hngr | exact cell_kept (by assumption) g5 hngp))
              (first | (go_at_call 13; refine HBA.out.mono ?_; rintro x4 w4 hq4; obtain ⟨k', A4, c4, rfl, g1, g2, g3, g4, g5, g6, g7⟩ := HSW.out.back hq4) | (go_at_call 20; refine (rback_at w4 W.heap.size gr Ar cr fl (fs Q) g4 t f s k' g1 g2 g3).mono ?_; rintro x5 w5 hq5; obtain ⟨h1, A5, c5, rfl, ⟨Ar5, cr5, hs5⟩, hc5⟩ := g7 _ _ hq5) | (go_at_call 19; refine hc5.mono ?_; rintro x6 w6 ⟨rfl, hb6⟩))
            obtain ⟨A1, c1, Ar1, cr1, fl1, P1, Q1, hs1⟩ : ∃ A1 c1 Ar1 cr1 fl1 P1 Q1, SS W gp gr A1 c1 Ar1 cr1 fl1 P1 Q1 w6 := ⟨_, _, _, _, _, _, _, hs5.belows hb6⟩
            have HS1 := Lib.hid hs1
            clear hq4 hq5 hs1 g1 g2 g3 g4 g5 g6 g7 h1 hs5 hc5 hb6
            have hz5 := HS1.out.below.size
            have hgp5 := HS1.out.po.past.lt.1
            have hgr5 := blk_lt HS1.out.ref.1
            have h64 : P1.length ≤ 64 := by have := HS1.out.po.past.2.2.2; simpa [fs] using this
            have HL1 := Lib.hid HS1.out.last
            go_wp2_with fail
            refine HL1.out.mono ?_
            rintro e w6 ⟨⟨lt, lf, ls, ld, lcl, lbd, lah, lse, lst, loa, lon_, loc⟩, yl, rfl, hb6, hrd6, hkk6⟩
            simp only [Ent.val, Ent.o] at *
            obtain ⟨W6, hW6⟩ : ∃ W6, W6 = w6.alloc (.cells #[.int .i64 lt, .int .i64 lf, .int .i64 ls, .int .i64 ld, .int .i64 lcl, .int .i64 lbd, .int .i64 lah, .int .i64 lse, .int .i64 lst, .slice loa lon_ loc] 32) := ⟨_, rfl⟩
            have hbb6 : Below w6.heap.size w6 W6 := by rw [hW6]; exact (Below.refl _ w6).alloc (Nat.le_refl _) _
            have hm6 : W6.heap[w6.heap.size]? = some (.cells #[.int .i64 lt, .int .i64 lf, .int .i64 ls, .int .i64 ld, .int .i64 lcl, .int .i64 lbd, .int .i64 lah, .int .i64 lse, .int .i64 lst, .slice loa lon_ loc] 32 (0, 0)) := by rw [hW6]; exact blk_new' _ _
            have hs6 : w6.heap.size + 1 = W6.heap.size := by rw [hW6]; simp
            have HS6 := Lib.hid ((HS1.out.belows hb6).belows hbb6)
            have HRD6 := Lib.hid (hrd6.below hbb6)
            have HRL := Lib.hid HS6.out.rlast
            have HRZ := Lib.hid HS6.out.zlast
            obtain ⟨zl, hzl⟩ : ∃ zl : EM, zl = Q1.getLast?.getD (⟨0, 0, 0, 0, 0, 0, 0, 0, 0, none, 0, 0⟩, []) := ⟨_, rfl⟩
            rw [← hzl] at HRL HRZ hkk6
            have HB6 := Lib.hid hb6
            have HBB6 := Lib.hid hbb6
            have HRD6' := Lib.hid hrd6
            have HKK := Lib.hid hkk6
            have HW6 := Lib.hid hW6
            have HM6 := Lib.hid hm6
            have HSZ6 := Lib.hid hs6
            clear hb6 hbb6 hrd6 hkk6 hW6 hm6 hs6
            clear hzl
            obtain ⟨⟨mt, mf, ms, md, mcl, mbd, mah, mse, mst, moa, mon_, moc⟩, yr⟩ := zl
            simp only [Ent.val, Ent.o] at HRL HRZ
            obtain ⟨bq, hbq⟩ : ∃ bq, bq = !Q1.isEmpty := ⟨_, rfl⟩
            rw [← hbq] at HRL ⊢
            clear hbq
            go_wp2_with fail
            rw [← HW6.out]
            refine HRL.out.mono ?_
            rintro e w8 ⟨rfl, hb8⟩
            obtain ⟨W8, hW8⟩ : ∃ W8, W8 = w8.alloc (.cells #[.int .i64 mt, .int .i64 mf, .int .i64 ms, .int .i64 md, .int .i64 mcl, .int .i64 mbd, .int .i64 mah, .int .i64 mse, .int .i64 mst, .slice moa mon_ moc] 52) := ⟨_, rfl⟩
            have hbb8 : Below w8.heap.size w8 W8 := by rw [hW8]; exact (Below.refl _ w8).alloc (Nat.le_refl _) _
            have hm8 : W8.heap[w8.heap.size]? = some (.cells #[.int .i64 mt, .int .i64 mf, .int .i64 ms, .int .i64 md, .int .i64 mcl, .int .i64 mbd, .int .i64 mah, .int .i64 mse, .int .i64 mst, .slice moa mon_ moc] 52 (0, 0)) := by rw [hW8]; exact blk_new' _ _
            have hs8 : w8.heap.size + 1 = W8.heap.size := by rw [hW8]; simp
            have hb68 : Below W6.heap.size W6 W8 := hb8.trans (hbb8.mono hb8.size)
            have HS8 := Lib.hid (HS6.out.belows hb68)
            have HRD8 := Lib.hid (HRD6.out.below hb68)
            have HRZ8 := Lib.hid (HRZ.out.below hb68)
            have hm68 := (hb68.block _ (by have := HSZ6.out; omega)).trans HM6.out
            have HK8 := Lib.hid HS8.out.keys
            have HB8 := Lib.hid hb8
            have HBB8 := Lib.hid hbb8
            have HW8 := Lib.hid hW8
            have HM8 := Lib.hid hm8
            have HSZ8 := Lib.hid hs8
            have HB68 := Lib.hid hb68
            have HM68 := Lib.hid hm68
            clear hb8 hbb8 hW8 hm8 hs8 hb68 hm68
            go_wp2_with fail
            rw [← HW8.out]
            refine HK8.out.mono ?_
            rintro e w10 ⟨A10, c10, rfl, ho10, hb10⟩
            have HS10 := Lib.hid (HS8.out.belows hb10)
            have HRD10 := Lib.hid (HRD8.out.below hb10)
            have HRZ10 := Lib.hid (HRZ8.out.below hb10)
            have hm610 := (hb10.block _ (by have := HSZ8.out; have := HB68.out.size; have := HSZ6.out; omega)).trans HM68.out
            have hm810 := (hb10.block _ (by have := HSZ8.out; omega)).trans HM8.out
            have HRK := Lib.hid HS10.out.rkeys
            have HO10 := Lib.hid ho10
            have HB10 := Lib.hid hb10
            have HM610 := Lib.hid hm610
            have HM810 := Lib.hid hm810
            clear ho10 hb10 hm610 hm810
            go_wp2_with fail
            refine HRK.out.mono ?_
            rintro e w11 ⟨A11, c11, rfl, ho11, hb11⟩
            have HS11 := Lib.hid (HS10.out.belows hb11)
            have HRD11 := Lib.hid (HRD10.out.below hb11)
            have HRZ11 := Lib.hid (HRZ10.out.below hb11)
            have HO10' := Lib.hid (own_below HO10.out hb11)
            have hm611 := (hb11.block _ (by have := HSZ8.out; have := HB68.out.size; have := HSZ6.out; have := HB10.out.size; omega)).trans HM610.out
            have hm811 := (hb11.block _ (by have := HSZ8.out; have := HB10.out.size; omega)).trans HM810.out
            have u0 := mcell hm611 0
            have u1 := mcell hm611 1
            have u2 := mcell hm611 2
            have u3 := mcell hm611 3
            have u4 := mcell hm611 4
            have u5 := mcell hm611 5
            have u6 := mcell hm611 6
            have u7 := mcell hm611 7
            have u8 := mcell hm611 8
            have u9 := mcell hm611 9
            simp at u0 u1 u2 u3 u4 u5 u6 u7 u8 u9
            have v0 := mcell hm811 0
            have v1 := mcell hm811 1
            have v2 := mcell hm811 2
            have v3 := mcell hm811 3
            have v4 := mcell hm811 4
            have v5 := mcell hm811 5
            have v6 := mcell hm811 6
            have v7 := mcell hm811 7
            have v8 := mcell hm811 8
            have v9 := mcell hm811 9
            simp at v0 v1 v2 v3 v4 v5 v6 v7 v8 v9
            have hgq := HS11.out.rblk
            have g0 := mcell hgq 0
            have g1 := mcell hgq 1
            simp at g0 g1
            have HEC := Lib.hid (entry_calls (w := w11.drew) (e := ⟨lt, lf, ls, ld, lcl, lbd, lah, lse, lst, loa, lon_, loc⟩) (e' := ⟨mt, mf, ms, md, mcl, mbd, mah, mse, mst, moa, mon_, moc⟩) (HRD11.out.below (below_drew1 (Below.refl _ _))) (HRZ11.out.below (below_drew1 (Below.refl _ _))) HKK.out)
            simp only [Ent.val] at HEC
            have HO11 := Lib.hid ho11
            have HB11 := Lib.hid hb11
            have HM611 := Lib.hid hm611
            have HM811 := Lib.hid hm811
            have HGQ := Lib.hid hgq
            clear ho11 hb11 hm611 hm811 hgq
            have hbqq : (bq != bq) = false := by simp
            go_wp2_with fail
            go_region_held3 (fun w' => w'.cell? ⟨w6.heap.size, 0, none⟩ = some (.int .i64 lt) ∧ w'.cell? ⟨w6.heap.size, 1, none⟩ = some (.int .i64 lf) ∧ w'.cell? ⟨w6.heap.size, 2, none⟩ = some (.int .i64 ls) ∧ w'.cell? ⟨w6.heap.size, 3, none⟩ = some (.int .i64 ld) ∧ w'.cell? ⟨w6.heap.size, 4, none⟩ = some (.int .i64 lcl) ∧ w'.cell? ⟨w6.heap.size, 5, none⟩ = some (.int .i64 lbd) ∧ w'.cell? ⟨w6.heap.size, 6, none⟩ = some (.int .i64 lah) ∧ w'.cell? ⟨w6.heap.size, 7, none⟩ = some (.int .i64 lse) ∧ w'.cell? ⟨w6.heap.size, 8, none⟩ = some (.int .i64 lst) ∧ w'.cell? ⟨w6.heap.size, 9, none⟩ = some (.slice loa lon_ loc) ∧ w'.cell? ⟨w8.heap.size, 0, none⟩ = some (.int .i64 mt) ∧ w'.cell? ⟨w8.heap.size, 1, none⟩ = some (.int .i64 mf) ∧ w'.cell? ⟨w8.heap.size, 2, none⟩ = some (.int .i64 ms) ∧ w'.cell? ⟨w8.heap.size, 3, none⟩ = some (.int .i64 md) ∧ w'.cell? ⟨w8.heap.size, 4, none⟩ = some (.int .i64 mcl) ∧ w'.cell? ⟨w8.heap.size, 5, none⟩ = some (.int .i64 mbd) ∧ w'.cell? ⟨w8.heap.size, 6, none⟩ = some (.int .i64 mah) ∧ w'.cell? ⟨w8.heap.size, 7, none⟩ = some (.int .i64 mse) ∧ w'.cell? ⟨w8.heap.size, 8, none⟩ = some (.int .i64 mst) ∧ w'.cell? ⟨w8.heap.size, 9, none⟩ = some (.slice moa mon_ moc) ∧ w'.cell? ⟨gr, 0, none⟩ = some (.int .i64 fl1) ∧ w'.cell? ⟨gr, 1, none⟩ = some (.slice Ar1 P1.length cr1))
              ((go_split_ands; refine ⟨?_, ?_, ?_, ?_, ?_, ?_, ?_, ?_, ?_, ?_, ?_, ?_, ?_, ?_, ?_, ?_, ?_, ?_, ?_, ?_, ?_, ?_⟩ <;> first | assumption | exact pw_cell_below hb25 (by assumption)))
              (first | (go_at_call 25; refine HEC.out.mono ?_; rintro e w25 ⟨rfl, hb25⟩) | (go_at_call 11; refine (len_at _ _ _ _ _ _ _ ((HS11.out.belows (below_drew1 (Below.refl _ _))).belows hb25).po.past).mono ?_; rintro e w26 ⟨rfl, hw26⟩; have hw26 := hw26.symm; subst hw26) | (go_at_call 12; refine (floor_at _ _ _ _ _ _ _ ((HS11.out.belows (below_drew1 (Below.refl _ _))).belows hb25).po.past).mono ?_; rintro e w27 ⟨rfl, hw27⟩; have hw27 := hw27.symm; subst hw27))
            have hb25' : Below w11.heap.size w11 w25 := ⟨hb25.os, hb25.tape, hb25.output, hb25.size, hb25.block⟩
            have HS25 := Lib.hid (HS11.out.belows hb25')
            have HO10f := Lib.hid (own_below HO10'.out hb25')
            have HO11f := Lib.hid (own_below HO11.out hb25')
            clear hb25 hb25' u0 u1 u2 u3 u4 u5 u6 u7 u8 u9 v0 v1 v2 v3 v4 v5 v6 v7 v8 v9 g0 g1 hgp5 hgr5 hz5 hbqq
            obtain ⟨wo, hwo⟩ : ∃ wo, wo = wr := ⟨_, rfl⟩
            subst hwo
            go_wp2_with fail
            go_loopw [13] (fun i wr => ∃ m : Nat, m ≤ P1.length ∧ i = .int .i64 m ∧ Below w25.heap.size w25 wr) (fun i _ => P1.length - (intOf i).toNat)
            case atStart => exact ⟨0, Nat.zero_le _, rfl, Below.refl _ _⟩
            case round =>
              obtain ⟨m, hm, rfl, hbm⟩ := hrel
              by_cases hml : m < P1.length
              · have hml' : m < (fs P1).length := by simpa [fs] using hml
                obtain ⟨b7, rfl, hc7, e0', e1', e2'⟩ := key_cells HO10f.out (by simp [fs]) m hml'
                obtain ⟨b8, rfl, hc8, q0', q1', q2'⟩ := key_cells HO11f.out (by simp [fs]) m hml'
                have e0 := pw_cell_below hbm e0'
                have e1 := pw_cell_below hbm e1'
                have e2 := pw_cell_below hbm e2'
                have q0 := pw_cell_below hbm q0'
                have q1 := pw_cell_below hbm q1'
                have q2 := pw_cell_below hbm q2'
                have hmi : (m : Int) < (P1.length : Int) := by omega
                have HBM := Lib.hid hbm
                clear e0' e1' e2' q0' q1' q2' hbm
                generalize (fs P1)[m] = em at *
                go_wp2_with fail
                go_quiet (fail)
                go_wp2_with fail
                exact ⟨⟨m + 1, hml, by go_num, pw_below_drewN HBM.out nq⟩, by simp [intOf]; omega⟩
              · have HBM := Lib.hid hbm
                clear hbm
                go_wp2_with fail
                exact ⟨⟨A1, c1, Ar1, cr1, fl1, P1, Q1, k + 1, hlt, by go_num, HS25.out.belows HBM.out⟩, by simp [intOf]; omega⟩
          · have hb1 : (kd == 1) = false := by rw [beq_eq_false_iff_ne]; exact hk1
            by_cases hk2 : kd = 2
            · subst hk2
              have HSE := Lib.hid (settle_q W1.drew W.heap.size gp c A fl (fs P) (sn P) _ HSW.out.po t HSW.out.inv.monoT_at)
              clear hk0 hk1
              have hbe' : wr.heap.size < W1.drew.heap.size := hbe
              go_wp2_with fail
              rw [← HW1.out]
              go_region_held3 (fun w' => w'.cell? ⟨wr.heap.size, 0, none⟩ = some (.int .i64 t))
                (first | assumption | exact pw_cell_below hb6 (by assumption) | exact cell_kept (by assumption) h1 hngr | exact cell_kept (by assumption) g5 hngp)
                (first | (go_at_call 10; refine HSE.out.mono ?_; rintro x4 w4 hq4; obtain ⟨k', A4, c4, rfl, g1, g2, g3, g4, g5, g6, g7⟩ := HSW.out.settle hq4) | (go_at_call 21; refine (rsettle_at w4 W.heap.size gr Ar cr fl (fs Q) g4 t k' g1 g2 g3).mono ?_; rintro x5 w5 hq5; obtain ⟨h1, A5, c5, rfl, ⟨A6, c6, Ar5, cr5, hs5⟩, hc5⟩ := g7 _ _ hq5) | (go_at_call 19; refine hc5.mono ?_; rintro x6 w6 ⟨rfl, hb6⟩))
              obtain ⟨A1, c1, Ar1, cr1, fl1, P1, Q1, hs1⟩ : ∃ A1 c1 Ar1 cr1 fl1 P1 Q1, SS W gp gr A1 c1 Ar1 cr1 fl1 P1 Q1 w6 := ⟨_, _, _, _, _, _, _, hs5.belows hb6⟩
              have HS1 := Lib.hid hs1
              clear hq4 hq5 hs1 g1 g2 g3 g4 g5 g6 g7 h1 hs5 hc5 hb6
              have hz5 := HS1.out.below.size
              have hgp5 := HS1.out.po.past.lt.1
              have hgr5 := blk_lt HS1.out.ref.1
              have h64 : P1.length ≤ 64 := by have := HS1.out.po.past.2.2.2; simpa [fs] using this
              have HL1 := Lib.hid HS1.out.last
              go_wp2_with fail
              refine HL1.out.mono ?_
              rintro e w6 ⟨⟨lt, lf, ls, ld, lcl, lbd, lah, lse, lst, loa, lon_, loc⟩, yl, rfl, hb6, hrd6, hkk6⟩
              simp only [Ent.val, Ent.o] at *
              obtain ⟨W6, hW6⟩ : ∃ W6, W6 = w6.alloc (.cells #[.int .i64 lt, .int .i64 lf, .int .i64 ls, .int .i64 ld, .int .i64 lcl, .int .i64 lbd, .int .i64 lah, .int .i64 lse, .int .i64 lst, .slice loa lon_ loc] 32) := ⟨_, rfl⟩
              have hbb6 : Below w6.heap.size w6 W6 := by rw [hW6]; exact (Below.refl _ w6).alloc (Nat.le_refl _) _
              have hm6 : W6.heap[w6.heap.size]? = some (.cells #[.int .i64 lt, .int .i64 lf, .int .i64 ls, .int .i64 ld, .int .i64 lcl, .int .i64 lbd, .int .i64 lah, .int .i64 lse, .int .i64 lst, .slice loa lon_ loc] 32 (0, 0)) := by rw [hW6]; exact blk_new' _ _
              have hs6 : w6.heap.size + 1 = W6.heap.size := by rw [hW6]; simp
              have HS6 := Lib.hid ((HS1.out.belows hb6).belows hbb6)
              have HRD6 := Lib.hid (hrd6.below hbb6)
              have HRL := Lib.hid HS6.out.rlast
              have HRZ := Lib.hid HS6.out.zlast
              obtain ⟨zl, hzl⟩ : ∃ zl : EM, zl = Q1.getLast?.getD (⟨0, 0, 0, 0, 0, 0, 0, 0, 0, none, 0, 0⟩, []) := ⟨_, rfl⟩
              rw [← hzl] at HRL HRZ hkk6
              have HB6 := Lib.hid hb6
              have HBB6 := Lib.hid hbb6
              have HRD6' := Lib.hid hrd6
              have HKK := Lib.hid hkk6
              have HW6 := Lib.hid hW6
              have HM6 := Lib.hid hm6
              have HSZ6 := Lib.hid hs6
              clear hb6 hbb6 hrd6 hkk6 hW6 hm6 hs6
              clear hzl
              obtain ⟨⟨mt, mf, ms, md, mcl, mbd, mah, mse, mst, moa, mon_, moc⟩, yr⟩ := zl
              simp only [Ent.val, Ent.o] at HRL HRZ
              obtain ⟨bq, hbq⟩ : ∃ bq, bq = !Q1.isEmpty := ⟨_, rfl⟩
              rw [← hbq] at HRL ⊢
              clear hbq
              go_wp2_with fail
              rw [← HW6.out]
              refine HRL.out.mono ?_
              rintro e w8 ⟨rfl, hb8⟩
              obtain ⟨W8, hW8⟩ : ∃ W8, W8 = w8.alloc (.cells #[.int .i64 mt, .int .i64 mf, .int .i64 ms, .int .i64 md, .int .i64 mcl, .int .i64 mbd, .int .i64 mah, .int .i64 mse, .int .i64 mst, .slice moa mon_ moc] 52) := ⟨_, rfl⟩
              have hbb8 : Below w8.heap.size w8 W8 := by rw [hW8]; exact (Below.refl _ w8).alloc (Nat.le_refl _) _
              have hm8 : W8.heap[w8.heap.size]? = some (.cells #[.int .i64 mt, .int .i64 mf, .int .i64 ms, .int .i64 md, .int .i64 mcl, .int .i64 mbd, .int .i64 mah, .int .i64 mse, .int .i64 mst, .slice moa mon_ moc] 52 (0, 0)) := by rw [hW8]; exact blk_new' _ _
              have hs8 : w8.heap.size + 1 = W8.heap.size := by rw [hW8]; simp
              have hb68 : Below W6.heap.size W6 W8 := hb8.trans (hbb8.mono hb8.size)
              have HS8 := Lib.hid (HS6.out.belows hb68)
              have HRD8 := Lib.hid (HRD6.out.below hb68)
              have HRZ8 := Lib.hid (HRZ.out.below hb68)
              have hm68 := (hb68.block _ (by have := HSZ6.out; omega)).trans HM6.out
              have HK8 := Lib.hid HS8.out.keys
              have HB8 := Lib.hid hb8
              have HBB8 := Lib.hid hbb8
              have HW8 := Lib.hid hW8
              have HM8 := Lib.hid hm8
              have HSZ8 := Lib.hid hs8
              have HB68 := Lib.hid hb68
              have HM68 := Lib.hid hm68
              clear hb8 hbb8 hW8 hm8 hs8 hb68 hm68
              go_wp2_with fail
              rw [← HW8.out]
              refine HK8.out.mono ?_
              rintro e w10 ⟨A10, c10, rfl, ho10, hb10⟩
              have HS10 := Lib.hid (HS8.out.belows hb10)
              have HRD10 := Lib.hid (HRD8.out.below hb10)
              have HRZ10 := Lib.hid (HRZ8.out.below hb10)
              have hm610 := (hb10.block _ (by have := HSZ8.out; have := HB68.out.size; have := HSZ6.out; omega)).trans HM68.out
              have hm810 := (hb10.block _ (by have := HSZ8.out; omega)).trans HM8.out
              have HRK := Lib.hid HS10.out.rkeys
              have HO10 := Lib.hid ho10
              have HB10 := Lib.hid hb10
              have HM610 := Lib.hid hm610
              have HM810 := Lib.hid hm810
              clear ho10 hb10 hm610 hm810
              go_wp2_with fail
              refine HRK.out.mono ?_
              rintro e w11 ⟨A11, c11, rfl, ho11, hb11⟩
              have HS11 := Lib.hid (HS10.out.belows hb11)
              have HRD11 := Lib.hid (HRD10.out.below hb11)
              have HRZ11 := Lib.hid (HRZ10.out.below hb11)
              have HO10' := Lib.hid (own_below HO10.out hb11)
              have hm611 := (hb11.block _ (by have := HSZ8.out; have := HB68.out.size; have := HSZ6.out; have := HB10.out.size; omega)).trans HM610.out
              have hm811 := (hb11.block _ (by have := HSZ8.out; have := HB10.out.size; omega)).trans HM810.out
              have u0 := mcell hm611 0
              have u1 := mcell hm611 1
              have u2 := mcell hm611 2
              have u3 := mcell hm611 3
              have u4 := mcell hm611 4
              have u5 := mcell hm611 5
              have u6 := mcell hm611 6
              have u7 := mcell hm611 7
              have u8 := mcell hm611 8
              have u9 := mcell hm611 9
              simp at u0 u1 u2 u3 u4 u5 u6 u7 u8 u9
              have v0 := mcell hm811 0
              have v1 := mcell hm811 1
              have v2 := mcell hm811 2
              have v3 := mcell hm811 3
              have v4 := mcell hm811 4
              have v5 := mcell hm811 5
              have v6 := mcell hm811 6
              have v7 := mcell hm811 7
              have v8 := mcell hm811 8
              have v9 := mcell hm811 9
              simp at v0 v1 v2 v3 v4 v5 v6 v7 v8 v9
              have hgq := HS11.out.rblk
              have g0 := mcell hgq 0
              have g1 := mcell hgq 1
              simp at g0 g1
              have HEC := Lib.hid (entry_calls (w := w11.drew) (e := ⟨lt, lf, ls, ld, lcl, lbd, lah, lse, lst, loa, lon_, loc⟩) (e' := ⟨mt, mf, ms, md, mcl, mbd, mah, mse, mst, moa, mon_, moc⟩) (HRD11.out.below (below_drew1 (Below.refl _ _))) (HRZ11.out.below (below_drew1 (Below.refl _ _))) HKK.out)
              simp only [Ent.val] at HEC
              have HO11 := Lib.hid ho11
              have HB11 := Lib.hid hb11
              have HM611 := Lib.hid hm611
              have HM811 := Lib.hid hm811
              have HGQ := Lib.hid hgq
              clear ho11 hb11 hm611 hm811 hgq
              have hbqq : (bq != bq) = false := by simp
              go_wp2_with fail
              go_region_held3 (fun w' => w'.cell? ⟨w6.heap.size, 0, none⟩ = some (.int .i64 lt) ∧ w'.cell? ⟨w6.heap.size, 1, none⟩ = some (.int .i64 lf) ∧ w'.cell? ⟨w6.heap.size, 2, none⟩ = some (.int .i64 ls) ∧ w'.cell? ⟨w6.heap.size, 3, none⟩ = some (.int .i64 ld) ∧ w'.cell? ⟨w6.heap.size, 4, none⟩ = some (.int .i64 lcl) ∧ w'.cell? ⟨w6.heap.size, 5, none⟩ = some (.int .i64 lbd) ∧ w'.cell? ⟨w6.heap.size, 6, none⟩ = some (.int .i64 lah) ∧ w'.cell? ⟨w6.heap.size, 7, none⟩ = some (.int .i64 lse) ∧ w'.cell? ⟨w6.heap.size, 8, none⟩ = some (.int .i64 lst) ∧ w'.cell? ⟨w6.heap.size, 9, none⟩ = some (.slice loa lon_ loc) ∧ w'.cell? ⟨w8.heap.size, 0, none⟩ = some (.int .i64 mt) ∧ w'.cell? ⟨w8.heap.size, 1, none⟩ = some (.int .i64 mf) ∧ w'.cell? ⟨w8.heap.size, 2, none⟩ = some (.int .i64 ms) ∧ w'.cell? ⟨w8.heap.size, 3, none⟩ = some (.int .i64 md) ∧ w'.cell? ⟨w8.heap.size, 4, none⟩ = some (.int .i64 mcl) ∧ w'.cell? ⟨w8.heap.size, 5, none⟩ = some (.int .i64 mbd) ∧ w'.cell? ⟨w8.heap.size, 6, none⟩ = some (.int .i64 mah) ∧ w'.cell? ⟨w8.heap.size, 7, none⟩ = some (.int .i64 mse) ∧ w'.cell? ⟨w8.heap.size, 8, none⟩ = some (.int .i64 mst) ∧ w'.cell? ⟨w8.heap.size, 9, none⟩ = some (.slice moa mon_ moc) ∧ w'.cell? ⟨gr, 0, none⟩ = some (.int .i64 fl1) ∧ w'.cell? ⟨gr, 1, none⟩ = some (.slice Ar1 P1.length cr1))
                ((go_split_ands; refine ⟨?_, ?_, ?_, ?_, ?_, ?_, ?_, ?_, ?_, ?_, ?_, ?_, ?_, ?_, ?_, ?_, ?_, ?_, ?_, ?_, ?_, ?_⟩ <;> first | assumption | exact pw_cell_below hb25 (by assumption)))
                (first | (go_at_call 25; refine HEC.out.mono ?_; rintro e w25 ⟨rfl, hb25⟩) | (go_at_call 11; refine (len_at _ _ _ _ _ _ _ ((HS11.out.belows (below_drew1 (Below.refl _ _))).belows hb25).po.past).mono ?_; rintro e w26 ⟨rfl, hw26⟩; have hw26 := hw26.symm; subst hw26) | (go_at_call 12; refine (floor_at _ _ _ _ _ _ _ ((HS11.out.belows (below_drew1 (Below.refl _ _))).belows hb25).po.past).mono ?_; rintro e w27 ⟨rfl, hw27⟩; have hw27 := hw27.symm; subst hw27))
              have hb25' : Below w11.heap.size w11 w25 := ⟨hb25.os, hb25.tape, hb25.output, hb25.size, hb25.block⟩
              have HS25 := Lib.hid (HS11.out.belows hb25')
              have HO10f := Lib.hid (own_below HO10'.out hb25')
              have HO11f := Lib.hid (own_below HO11.out hb25')
              clear hb25 hb25' u0 u1 u2 u3 u4 u5 u6 u7 u8 u9 v0 v1 v2 v3 v4 v5 v6 v7 v8 v9 g0 g1 hgp5 hgr5 hz5 hbqq
              obtain ⟨wo, hwo⟩ : ∃ wo, wo = wr := ⟨_, rfl⟩
              subst hwo
              go_wp2_with fail
              go_loopw [13] (fun i wr => ∃ m : Nat, m ≤ P1.length ∧ i = .int .i64 m ∧ Below w25.heap.size w25 wr) (fun i _ => P1.length - (intOf i).toNat)
              case atStart => exact ⟨0, Nat.zero_le _, rfl, Below.refl _ _⟩
              case round =>
                obtain ⟨m, hm, rfl, hbm⟩ := hrel
                by_cases hml : m < P1.length
                · have hml' : m < (fs P1).length := by simpa [fs] using hml
                  obtain ⟨b7, rfl, hc7, e0', e1', e2'⟩ := key_cells HO10f.out (by simp [fs]) m hml'
                  obtain ⟨b8, rfl, hc8, q0', q1', q2'⟩ := key_cells HO11f.out (by simp [fs]) m hml'
                  have e0 := pw_cell_below hbm e0'
                  have e1 := pw_cell_below hbm e1'
                  have e2 := pw_cell_below hbm e2'
                  have q0 := pw_cell_below hbm q0'
                  have q1 := pw_cell_below hbm q1'
                  have q2 := pw_cell_below hbm q2'
                  have hmi : (m : Int) < (P1.length : Int) := by omega
                  have HBM := Lib.hid hbm
                  clear e0' e1' e2' q0' q1' q2' hbm
                  generalize (fs P1)[m] = em at *
                  go_wp2_with fail
                  go_quiet (fail)
                  go_wp2_with fail
                  exact ⟨⟨m + 1, hml, by go_num, pw_below_drewN HBM.out nq⟩, by simp [intOf]; omega⟩
                · have HBM := Lib.hid hbm
                  clear hbm
                  go_wp2_with fail
                  exact ⟨⟨A1, c1, Ar1, cr1, fl1, P1, Q1, k + 1, hlt, by go_num, HS25.out.belows HBM.out⟩, by simp [intOf]; omega⟩
            · have hb2 : (kd == 2) = false := by rw [beq_eq_false_iff_ne]; exact hk2
              obtain ⟨A1, c1, Ar1, cr1, fl1, P1, Q1, hs1⟩ : ∃ A1 c1 Ar1 cr1 fl1 P1 Q1, SS W gp gr A1 c1 Ar1 cr1 fl1 P1 Q1 W1 := ⟨_, _, _, _, _, _, _, HSS.out.belows HBW1.out⟩
              have HS1 := Lib.hid hs1
              clear hk0 hk1 hk2 hs1
              have hz5 := HS1.out.below.size
              have hgp5 := HS1.out.po.past.lt.1
              have hgr5 := blk_lt HS1.out.ref.1
              have h64 : P1.length ≤ 64 := by have := HS1.out.po.past.2.2.2; simpa [fs] using this
              have HL1 := Lib.hid HS1.out.last
              go_wp2_with fail
              rw [← HW1.out]
              refine HL1.out.mono ?_
              rintro e w6 ⟨⟨lt, lf, ls, ld, lcl, lbd, lah, lse, lst, loa, lon_, loc⟩, yl, rfl, hb6, hrd6, hkk6⟩
              simp only [Ent.val, Ent.o] at *
              obtain ⟨W6, hW6⟩ : ∃ W6, W6 = w6.alloc (.cells #[.int .i64 lt, .int .i64 lf, .int .i64 ls, .int .i64 ld, .int .i64 lcl, .int .i64 lbd, .int .i64 lah, .int .i64 lse, .int .i64 lst, .slice loa lon_ loc] 32) := ⟨_, rfl⟩
              have hbb6 : Below w6.heap.size w6 W6 := by rw [hW6]; exact (Below.refl _ w6).alloc (Nat.le_refl _) _
              have hm6 : W6.heap[w6.heap.size]? = some (.cells #[.int .i64 lt, .int .i64 lf, .int .i64 ls, .int .i64 ld, .int .i64 lcl, .int .i64 lbd, .int .i64 lah, .int .i64 lse, .int .i64 lst, .slice loa lon_ loc] 32 (0, 0)) := by rw [hW6]; exact blk_new' _ _
              have hs6 : w6.heap.size + 1 = W6.heap.size := by rw [hW6]; simp
              have HS6 := Lib.hid ((HS1.out.belows hb6).belows hbb6)
              have HRD6 := Lib.hid (hrd6.below hbb6)
              have HRL := Lib.hid HS6.out.rlast
              have HRZ := Lib.hid HS6.out.zlast
              obtain ⟨zl, hzl⟩ : ∃ zl : EM, zl = Q1.getLast?.getD (⟨0, 0, 0, 0, 0, 0, 0, 0, 0, none, 0, 0⟩, []) := ⟨_, rfl⟩
              rw [← hzl] at HRL HRZ hkk6
              have HB6 := Lib.hid hb6
              have HBB6 := Lib.hid hbb6
              have HRD6' := Lib.hid hrd6
              have HKK := Lib.hid hkk6
              have HW6 := Lib.hid hW6
              have HM6 := Lib.hid hm6
              have HSZ6 := Lib.hid hs6
              clear hb6 hbb6 hrd6 hkk6 hW6 hm6 hs6
              clear hzl
              obtain ⟨⟨mt, mf, ms, md, mcl, mbd, mah, mse, mst, moa, mon_, moc⟩, yr⟩ := zl
              simp only [Ent.val, Ent.o] at HRL HRZ
              obtain ⟨bq, hbq⟩ : ∃ bq, bq = !Q1.isEmpty := ⟨_, rfl⟩
              rw [← hbq] at HRL ⊢
              clear hbq
              go_wp2_with fail
              rw [← HW6.out]
              refine HRL.out.mono ?_
              rintro e w8 ⟨rfl, hb8⟩
              obtain ⟨W8, hW8⟩ : ∃ W8, W8 = w8.alloc (.cells #[.int .i64 mt, .int .i64 mf, .int .i64 ms, .int .i64 md, .int .i64 mcl, .int .i64 mbd, .int .i64 mah, .int .i64 mse, .int .i64 mst, .slice moa mon_ moc] 52) := ⟨_, rfl⟩
              have hbb8 : Below w8.heap.size w8 W8 := by rw [hW8]; exact (Below.refl _ w8).alloc (Nat.le_refl _) _
              have hm8 : W8.heap[w8.heap.size]? = some (.cells #[.int .i64 mt, .int .i64 mf, .int .i64 ms, .int .i64 md, .int .i64 mcl, .int .i64 mbd, .int .i64 mah, .int .i64 mse, .int .i64 mst, .slice moa mon_ moc] 52 (0, 0)) := by rw [hW8]; exact blk_new' _ _
              have hs8 : w8.heap.size + 1 = W8.heap.size := by rw [hW8]; simp
              have hb68 : Below W6.heap.size W6 W8 := hb8.trans (hbb8.mono hb8.size)
              have HS8 := Lib.hid (HS6.out.belows hb68)
              have HRD8 := Lib.hid (HRD6.out.below hb68)
              have HRZ8 := Lib.hid (HRZ.out.below hb68)
              have hm68 := (hb68.block _ (by have := HSZ6.out; omega)).trans HM6.out
              have HK8 := Lib.hid HS8.out.keys
              have HB8 := Lib.hid hb8
              have HBB8 := Lib.hid hbb8
              have HW8 := Lib.hid hW8
              have HM8 := Lib.hid hm8
              have HSZ8 := Lib.hid hs8
              have HB68 := Lib.hid hb68
              have HM68 := Lib.hid hm68
              clear hb8 hbb8 hW8 hm8 hs8 hb68 hm68
              go_wp2_with fail
              rw [← HW8.out]
              refine HK8.out.mono ?_
              rintro e w10 ⟨A10, c10, rfl, ho10, hb10⟩
              have HS10 := Lib.hid (HS8.out.belows hb10)
              have HRD10 := Lib.hid (HRD8.out.below hb10)
              have HRZ10 := Lib.hid (HRZ8.out.below hb10)
              have hm610 := (hb10.block _ (by have := HSZ8.out; have := HB68.out.size; have := HSZ6.out; omega)).trans HM68.out
              have hm810 := (hb10.block _ (by have := HSZ8.out; omega)).trans HM8.out
              have HRK := Lib.hid HS10.out.rkeys
              have HO10 := Lib.hid ho10
              have HB10 := Lib.hid hb10
              have HM610 := Lib.hid hm610
              have HM810 := Lib.hid hm810
              clear ho10 hb10 hm610 hm810
              go_wp2_with fail
              refine HRK.out.mono ?_
              rintro e w11 ⟨A11, c11, rfl, ho11, hb11⟩
              have HS11 := Lib.hid (HS10.out.belows hb11)
              have HRD11 := Lib.hid (HRD10.out.below hb11)
              have HRZ11 := Lib.hid (HRZ10.out.below hb11)
              have HO10' := Lib.hid (own_below HO10.out hb11)
              have hm611 := (hb11.block _ (by have := HSZ8.out; have := HB68.out.size; have := HSZ6.out; have := HB10.out.size; omega)).trans HM610.out
              have hm811 := (hb11.block _ (by have := HSZ8.out; have := HB10.out.size; omega)).trans HM810.out
              have u0 := mcell hm611 0
              have u1 := mcell hm611 1
              have u2 := mcell hm611 2
              have u3 := mcell hm611 3
              have u4 := mcell hm611 4
              have u5 := mcell hm611 5
              have u6 := mcell hm611 6
              have u7 := mcell hm611 7
              have u8 := mcell hm611 8
              have u9 := mcell hm611 9
              simp at u0 u1 u2 u3 u4 u5 u6 u7 u8 u9
              have v0 := mcell hm811 0
              have v1 := mcell hm811 1
              have v2 := mcell hm811 2
              have v3 := mcell hm811 3
              have v4 := mcell hm811 4
              have v5 := mcell hm811 5
              have v6 := mcell hm811 6
              have v7 := mcell hm811 7
              have v8 := mcell hm811 8
              have v9 := mcell hm811 9
              simp at v0 v1 v2 v3 v4 v5 v6 v7 v8 v9
              have hgq := HS11.out.rblk
              have g0 := mcell hgq 0
              have g1 := mcell hgq 1
              simp at g0 g1
              have HEC := Lib.hid (entry_calls (w := w11.drew) (e := ⟨lt, lf, ls, ld, lcl, lbd, lah, lse, lst, loa, lon_, loc⟩) (e' := ⟨mt, mf, ms, md, mcl, mbd, mah, mse, mst, moa, mon_, moc⟩) (HRD11.out.below (below_drew1 (Below.refl _ _))) (HRZ11.out.below (below_drew1 (Below.refl _ _))) HKK.out)
              simp only [Ent.val] at HEC
              have HO11 := Lib.hid ho11
              have HB11 := Lib.hid hb11
              have HM611 := Lib.hid hm611
              have HM811 := Lib.hid hm811
              have HGQ := Lib.hid hgq
              clear ho11 hb11 hm611 hm811 hgq
              have hbqq : (bq != bq) = false := by simp
              go_wp2_with fail
              go_region_held3 (fun w' => w'.cell? ⟨w6.heap.size, 0, none⟩ = some (.int .i64 lt) ∧ w'.cell? ⟨w6.heap.size, 1, none⟩ = some (.int .i64 lf) ∧ w'.cell? ⟨w6.heap.size, 2, none⟩ = some (.int .i64 ls) ∧ w'.cell? ⟨w6.heap.size, 3, none⟩ = some (.int .i64 ld) ∧ w'.cell? ⟨w6.heap.size, 4, none⟩ = some (.int .i64 lcl) ∧ w'.cell? ⟨w6.heap.size, 5, none⟩ = some (.int .i64 lbd) ∧ w'.cell? ⟨w6.heap.size, 6, none⟩ = some (.int .i64 lah) ∧ w'.cell? ⟨w6.heap.size, 7, none⟩ = some (.int .i64 lse) ∧ w'.cell? ⟨w6.heap.size, 8, none⟩ = some (.int .i64 lst) ∧ w'.cell? ⟨w6.heap.size, 9, none⟩ = some (.slice loa lon_ loc) ∧ w'.cell? ⟨w8.heap.size, 0, none⟩ = some (.int .i64 mt) ∧ w'.cell? ⟨w8.heap.size, 1, none⟩ = some (.int .i64 mf) ∧ w'.cell? ⟨w8.heap.size, 2, none⟩ = some (.int .i64 ms) ∧ w'.cell? ⟨w8.heap.size, 3, none⟩ = some (.int .i64 md) ∧ w'.cell? ⟨w8.heap.size, 4, none⟩ = some (.int .i64 mcl) ∧ w'.cell? ⟨w8.heap.size, 5, none⟩ = some (.int .i64 mbd) ∧ w'.cell? ⟨w8.heap.size, 6, none⟩ = some (.int .i64 mah) ∧ w'.cell? ⟨w8.heap.size, 7, none⟩ = some (.int .i64 mse) ∧ w'.cell? ⟨w8.heap.size, 8, none⟩ = some (.int .i64 mst) ∧ w'.cell? ⟨w8.heap.size, 9, none⟩ = some (.slice moa mon_ moc) ∧ w'.cell? ⟨gr, 0, none⟩ = some (.int .i64 fl1) ∧ w'.cell? ⟨gr, 1, none⟩ = some (.slice Ar1 P1.length cr1))
                ((go_split_ands; refine ⟨?_, ?_, ?_, ?_, ?_, ?_, ?_, ?_, ?_, ?_, ?_, ?_, ?_, ?_, ?_, ?_, ?_, ?_, ?_, ?_, ?_, ?_⟩ <;> first | assumption | exact pw_cell_below hb25 (by assumption)))
                (first | (go_at_call 25; refine HEC.out.mono ?_; rintro e w25 ⟨rfl, hb25⟩) | (go_at_call 11; refine (len_at _ _ _ _ _ _ _ ((HS11.out.belows (below_drew1 (Below.refl _ _))).belows hb25).po.past).mono ?_; rintro e w26 ⟨rfl, hw26⟩; have hw26 := hw26.symm; subst hw26) | (go_at_call 12; refine (floor_at _ _ _ _ _ _ _ ((HS11.out.belows (below_drew1 (Below.refl _ _))).belows hb25).po.past).mono ?_; rintro e w27 ⟨rfl, hw27⟩; have hw27 := hw27.symm; subst hw27))
              have hb25' : Below w11.heap.size w11 w25 := ⟨hb25.os, hb25.tape, hb25.output, hb25.size, hb25.block⟩
              have HS25 := Lib.hid (HS11.out.belows hb25')
              have HO10f := Lib.hid (own_below HO10'.out hb25')
              have HO11f := Lib.hid (own_below HO11.out hb25')
              clear hb25 hb25' u0 u1 u2 u3 u4 u5 u6 u7 u8 u9 v0 v1 v2 v3 v4 v5 v6 v7 v8 v9 g0 g1 hgp5 hgr5 hz5 hbqq
              obtain ⟨wo, hwo⟩ : ∃ wo, wo = wr := ⟨_, rfl⟩
              subst hwo
              go_wp2_with fail
              go_loopw [13] (fun i wr => ∃ m : Nat, m ≤ P1.length ∧ i = .int .i64 m ∧ Below w25.heap.size w25 wr) (fun i _ => P1.length - (intOf i).toNat)
              case atStart => exact ⟨0, Nat.zero_le _, rfl, Below.refl _ _⟩
              case round =>
                obtain ⟨m, hm, rfl, hbm⟩ := hrel
                by_cases hml : m < P1.length
                · have hml' : m < (fs P1).length := by simpa [fs] using hml
                  obtain ⟨b7, rfl, hc7, e0', e1', e2'⟩ := key_cells HO10f.out (by simp [fs]) m hml'
                  obtain ⟨b8, rfl, hc8, q0', q1', q2'⟩ := key_cells HO11f.out (by simp [fs]) m hml'
                  have e0 := pw_cell_below hbm e0'
                  have e1 := pw_cell_below hbm e1'
                  have e2 := pw_cell_below hbm e2'
                  have q0 := pw_cell_below hbm q0'
                  have q1 := pw_cell_below hbm q1'
                  have q2 := pw_cell_below hbm q2'
                  have hmi : (m : Int) < (P1.length : Int) := by omega
                  have HBM := Lib.hid hbm
                  clear e0' e1' e2' q0' q1' q2' hbm
                  generalize (fs P1)[m] = em at *
                  go_wp2_with fail
                  go_quiet (fail)
                  go_wp2_with fail
                  exact ⟨⟨m + 1, hml, by go_num, pw_below_drewN HBM.out nq⟩, by simp [intOf]; omega⟩
                · have HBM := Lib.hid hbm
                  clear hbm
                  go_wp2_with fail
                  exact ⟨⟨A1, c1, Ar1, cr1, fl1, P1, Q1, k + 1, hlt, by go_num, HS25.out.belows HBM.out⟩, by simp [intOf]; omega⟩
      · obtain rfl : k = len := by omega
        have HPE := Lib.hid (push_early wr W.heap.size gp A c fl (fs P) HSS.out.po.past HSS.out.po.outs.rds ⟨-9, 0, 0, 0, 0, 0, 0, 0, 0, none, 0, 0⟩ [] (.inl ⟨⟨0, rfl⟩, rfl⟩) (by have := HSS.out.inv.pos; show (-9 : Int) < fl; omega))
        simp only [Ent.val] at HPE
        go_wp2_with fail
        refine HPE.out.mono ?_
        rintro e w9 ⟨rfl, hb9⟩
        go_wp2_with fail
        go_ret
        exact ⟨rfl, HSS.out.below.trans (hb9.mono HSS.out.below.size)⟩
end Go.Proofs.Ytemedggbodkhcaa.Past
