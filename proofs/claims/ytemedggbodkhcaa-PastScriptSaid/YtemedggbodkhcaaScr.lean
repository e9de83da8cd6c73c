/- past: entries with messages against the reference's, plain; the law's words on them. -/
import Derived.Test.YtemedggbodkhcaaRef
import Derived.Test.YtemedggbodkhcaaXPastScriptx4
set_option linter.unusedVariables false
set_option linter.unusedSimpArgs false
namespace Go.Proofs.Ytemedggbodkhcaa.Past
open Go.RowKit Go.Proofs.YtemedggbodkhcaaW.PrintWords Go.Proofs.YtemedggbodkhcaaW.PrintLast Go.Proofs.Ytemedggbodkhcaa.XPastScript
/-- a message's six cells -/
def mcs (p : S29) : List Value := [.int .i64 p.f0.f0, .int .i64 p.f0.f1, .int .i64 p.f0.f2, .int .i64 p.f1, .int .i64 p.f2, .int .i64 p.f3]
instance : Inhabited S29 := ⟨z29⟩
abbrev EM := Ent × List S29
def msv (x : List S29) : List Value := x.flatMap mcs
theorem msv_len (x : List S29) : (msv x).length = x.length * 6 := by
  unfold msv
  rw [← flatK_list mcs 6 (fun _ => rfl) x]
  simp [Go.Sort.flatK]
theorem msv_one (x : List S29) : ∀ u ∈ msv x, u.oneCell' = true := by
  intro u hu
  obtain ⟨p, _, hp⟩ := List.mem_flatMap.1 hu
  simp only [mcs, List.mem_cons, List.not_mem_nil, or_false] at hp
  rcases hp with rfl | rfl | rfl | rfl | rfl | rfl <;> rfl
/-- what an entry says, but for where its messages lie -/
def kk (p : EM) : (Int × Int × Int × Int × Int × Int) × (Int × Int × Int) × List S29 := ((p.1.t, p.1.f, p.1.s, p.1.d, p.1.cl, p.1.bd), (p.1.ah, p.1.se, p.1.st), p.2)
def e32 (p : EM) : S32 := ⟨⟨⟨p.1.t, p.1.f, p.1.s⟩, p.1.d, p.1.cl, p.1.bd⟩, p.1.ah, p.1.se, p.1.st, p.2⟩
def e52 (p : EM) : S52 := ⟨⟨⟨p.1.t, p.1.f, p.1.s⟩, p.1.d, p.1.cl, p.1.bd⟩, p.1.ah, p.1.se, p.1.st, p.2⟩
theorem C_of_rd {w : World} {A : Option Addr} {n c : Nat} {x : List S29} (h : Rd w (.slice A n c) (msv x)) : x.length = n ∧ x.length ≤ c ∧ k29.C w A x.length x := by
  have hl := msv_len x
  rcases h with ⟨⟨c', e⟩, e2⟩ | ⟨ad, n', c', e, h1, h2, h3, h4⟩
  · cases e
    rw [e2] at hl
    obtain rfl : x = [] := List.eq_nil_of_length_eq_zero (by simp at hl; omega)
    exact ⟨rfl, Nat.zero_le _, Kd.C_nil _ _⟩
  · cases e
    have hx : x.length = n := by omega
    refine ⟨hx, by omega, rfl, ?_, fun h0 => ⟨ad, rfl, fun j p hj => ⟨mcs p, rfl, k29_mk w p, fun i u hi => ?_⟩⟩⟩
    · have : k29.sz = 6 := rfl
      omega
    · have e6 : k29.sz = 6 := rfl
      rw [e6]
      have hi6 : i < 6 := (List.getElem?_eq_some_iff.1 hi).1
      have hjl : j < x.length := (List.getElem?_eq_some_iff.1 hj).1
      refine h4 (j * 6 + i) u ?_
      rw [show msv x = x.flatMap mcs from rfl, flatMap_get mcs 6 (fun _ => rfl) x _ (by omega), show (j * 6 + i) / 6 = j by omega, show (j * 6 + i) % 6 = i by omega]
      have : x[j]! = p := by rw [getElem!_pos x j hjl]; have := List.getElem?_eq_getElem hjl; rw [this] at hj; exact Option.some.inj hj
      rw [this]; exact hi
theorem rd_of_C {w : World} {A : Option Addr} {c : Nat} {x : List S29} (h : k29.C w A x.length x) (hc : x.length ≤ c) (h20 : x.length ≤ 20) : Rd w (.slice A x.length c) (msv x) := by
  cases A with
  | none =>
    have : x.length = 0 := by
      rcases Nat.eq_zero_or_pos x.length with h0 | h0
      · exact h0
      · obtain ⟨ad, e, _⟩ := h.2.2 h0
        cases e
    have hx : x = [] := List.eq_nil_of_length_eq_zero this
    subst hx
    exact .inl ⟨⟨c, rfl⟩, rfl⟩
  | some ad =>
    have hlen := msv_len x
    refine .inr ⟨ad, x.length, c, rfl, hlen, ⟨by omega, hc⟩, msv_one x, fun j u hj => ?_⟩
    have hjl : j < x.length * 6 := by rw [← hlen]; exact (List.getElem?_eq_some_iff.1 hj).1
    rw [show msv x = x.flatMap mcs from rfl, flatMap_get mcs 6 (fun _ => rfl) x j hjl] at hj
    obtain ⟨ad', e, hc⟩ := h.2.2 (by omega)
    cases e
    have hq : j / 6 < x.length := by omega
    obtain ⟨cs, hcl, hK, hcell⟩ := hc (j / 6) (x[j / 6]!) (by rw [getElem!_pos x (j / 6) hq, List.getElem?_eq_getElem hq])
    have hcs : cs = mcs (x[j / 6]!) := k29_open hK
    rw [← hcs] at hj
    have := hcell (j % 6) u hj
    have e6 : j / 6 * k29.sz + j % 6 = j := by
      have : k29.sz = 6 := rfl
      rw [this]
      omega
    rwa [e6] at this
def RdP (w : World) (P : List EM) : Prop := ∀ p ∈ P, Rd w p.1.o (msv p.2)
/-- a row of entries, read by the law's kinds -/
theorem C32_of {w : World} {B n c : Nat} {A : Option Addr} {P : List EM} (h : w.ownsRow B 32 10 (.slice A n c) n (flat (P.map Prod.fst))) (hn : P.length = n) (hr : RdP w P) (h64 : n ≤ 64) : k32.C w A (P.map e32).length (P.map e32) ∧ (P.map e32).length = n ∧ n ≤ c := by
  have hlen : (P.map e32).length = n := by simp [hn]
  have hc : n ≤ c := by
    rcases h.2 with ⟨e, e2⟩ | ⟨b', cap', cur, q, _, _, h5, _⟩
    · omega
    · cases q; exact h5
  refine ⟨?_, hlen, hc⟩
  rw [hlen]
  refine ⟨hlen, by have : k32.sz = 10 := rfl; omega, fun h0 => ?_⟩
  obtain ⟨b, cap, he, h1, h2⟩ := h.form h0
  injection he with he _ _
  subst he
  refine ⟨_, rfl, fun j p hj => ?_⟩
  have hjl : j < P.length := by have := (List.getElem?_eq_some_iff.1 hj).1; simpa using this
  have hp : e32 P[j] = p := by rw [List.getElem?_map, List.getElem?_eq_getElem hjl] at hj; exact Option.some.inj hj
  have hrd := hr P[j] (List.getElem_mem hjl)
  generalize hE : P[j] = pj at hp hrd
  obtain ⟨⟨t, f, s, d, cl, bd, ah, se, st, oa, on_, oc⟩, x⟩ := pj
  simp only [Ent.o] at hrd
  obtain ⟨r1, r2, r3⟩ := C_of_rd hrd
  subst hp
  subst r1
  refine ⟨_, rfl, k32_mk w _ r2 r3, fun i u hi => ?_⟩
  have hi10 : i < 10 := (List.getElem?_eq_some_iff.1 hi).1
  have e10 : k32.sz = 10 := rfl
  rw [e10]
  refine h.cells rfl (j * 10 + i) u ?_
  rw [flat_at _ j (by simpa using hjl) i hi10]
  have : (P.map Prod.fst)[j]'(by simpa using hjl) = P[j].1 := by simp
  rw [this, hE]
  exact hi
theorem C52_of {w : World} {B n c : Nat} {A : Option Addr} {P : List EM} (h : w.ownsRow B 52 10 (.slice A n c) n (flat (P.map Prod.fst))) (hn : P.length = n) (hr : RdP w P) (h64 : n ≤ 64) : k52.C w A (P.map e52).length (P.map e52) ∧ (P.map e52).length = n ∧ n ≤ c := by
  have hlen : (P.map e52).length = n := by simp [hn]
  have hc : n ≤ c := by
    rcases h.2 with ⟨e, e2⟩ | ⟨b', cap', cur, q, _, _, h5, _⟩
    · omega
    · cases q; exact h5
  refine ⟨?_, hlen, hc⟩
  rw [hlen]
  refine ⟨hlen, by have : k52.sz = 10 := rfl; omega, fun h0 => ?_⟩
  obtain ⟨b, cap, he, h1, h2⟩ := h.form h0
  injection he with he _ _
  subst he
  refine ⟨_, rfl, fun j p hj => ?_⟩
  have hjl : j < P.length := by have := (List.getElem?_eq_some_iff.1 hj).1; simpa using this
  have hp : e52 P[j] = p := by rw [List.getElem?_map, List.getElem?_eq_getElem hjl] at hj; exact Option.some.inj hj
  have hrd := hr P[j] (List.getElem_mem hjl)
  generalize hE : P[j] = pj at hp hrd
  obtain ⟨⟨t, f, s, d, cl, bd, ah, se, st, oa, on_, oc⟩, x⟩ := pj
  simp only [Ent.o] at hrd
  obtain ⟨r1, r2, r3⟩ := C_of_rd hrd
  subst hp
  subst r1
  refine ⟨_, rfl, k52_mk w _ r2 r3, fun i u hi => ?_⟩
  have hi10 : i < 10 := (List.getElem?_eq_some_iff.1 hi).1
  have e10 : k52.sz = 10 := rfl
  rw [e10]
  refine h.cells rfl (j * 10 + i) u ?_
  rw [flat_at _ j (by simpa using hjl) i hi10]
  have : (P.map Prod.fst)[j]'(by simpa using hjl) = P[j].1 := by simp
  rw [this, hE]
  exact hi
/-! ### the law's own functions -/
theorem entry_l0 (x : List S29) (d : Nat) (a0 a1 a2 a3 a4 a5 a6 a7 a8 b0 b1 b2 b3 b4 b5 b6 b7 b8 : Int) : ∀ (k : Nat) (i : Int), 0 ≤ i → i ≤ x.length → (x.length : Int) - i = d → x.length ≤ 9223372036854775806 → d < k → pacelinelaw13_sameEntry.l0 k i a0 a1 a2 a3 a4 a5 a6 a7 a8 x b0 b1 b2 b3 b4 b5 b6 b7 b8 x = some true := by
  induction d with
  | zero =>
    intro k i h0 h1 hd hb hk
    obtain ⟨k, rfl⟩ : ∃ m, k = m + 1 := ⟨k - 1, by omega⟩
    simp only [pacelinelaw13_sameEntry.l0]; rw [if_neg (by omega)]
  | succ d ih =>
    intro k i h0 h1 hd hb hk
    obtain ⟨k, rfl⟩ : ∃ m, k = m + 1 := ⟨k - 1, by omega⟩
    have hlt : i < (x.length : Int) := by omega
    simp only [pacelinelaw13_sameEntry.l0]
    rw [if_pos hlt, if_pos h0, if_pos hlt, if_neg (by simp), show wrap64 (i + 1) = i + 1 by unfold wrap64; omega]
    exact ih k (i + 1) (by omega) (by omega) (by omega) hb (by omega)
theorem entry_same (a0 a1 a2 a3 a4 a5 a6 a7 a8 : Int) (x : List S29) (hb : x.length ≤ 9223372036854775806) (k : Nat) (hk : x.length + 1 < k) : pacelinelaw13_sameEntry.f k a0 a1 a2 a3 a4 a5 a6 a7 a8 x a0 a1 a2 a3 a4 a5 a6 a7 a8 x = some true := by
  obtain ⟨k, rfl⟩ : ∃ m, k = m + 1 := ⟨k - 1, by omega⟩
  unfold pacelinelaw13_sameEntry.f
  rw [if_neg (by simp), if_pos rfl, if_pos rfl, if_pos rfl]
  simp only [pacelinelaw13_sameEntry.j0]
  rw [if_neg (by simp)]
  exact entry_l0 x x.length _ _ _ _ _ _ _ _ _ _ _ _ _ _ _ _ _ _ k 0 (by omega) (by omega) (by omega) hb (by omega)
theorem same_l0 (P Q : List EM) (h : P.map kk = Q.map kk) (N : Nat) (hx : ∀ p ∈ P, p.2.length ≤ N) (hN : N ≤ 9223372036854775806) (h64 : P.length ≤ 64) (d : Nat) : ∀ (k : Nat) (i : Int), 0 ≤ i → i ≤ P.length → (P.length : Int) - i = d → d + N + 2 < k → pacelinelaw13_same.l0 k (P.map e32) (Q.map e52) i = some true := by
  have hl : P.length = Q.length := by have := congrArg List.length h; simpa using this
  induction d with
  | zero =>
    intro k i h0 h1 hd hk
    obtain ⟨k, rfl⟩ : ∃ m, k = m + 1 := ⟨k - 1, by omega⟩
    simp only [pacelinelaw13_same.l0, List.length_map]; rw [if_neg (by omega)]
  | succ d ih =>
    intro k i h0 h1 hd hk
    obtain ⟨k, rfl⟩ : ∃ m, k = m + 1 := ⟨k - 1, by omega⟩
    obtain ⟨j, rfl⟩ : ∃ j : Nat, i = (j : Int) := ⟨i.toNat, by omega⟩
    have hjP : j < P.length := by omega
    have hjQ : j < Q.length := by omega
    have e1 : rd_T32 (P.map e32) (j : Int) = e32 P[j] := by unfold rd_T32; simp [List.getD_eq_getElem?_getD, hjP]
    have e2 : rd_T52 (Q.map e52) (j : Int) = e52 Q[j] := by unfold rd_T52; simp [List.getD_eq_getElem?_getD, hjQ]
    have hk2 : kk P[j] = kk Q[j] := by
      have e3 : (P.map kk)[j]'(by simpa using hjP) = (Q.map kk)[j]'(by simpa using hjQ) := by simp only [h]
      simpa using e3
    have hxp := hx _ (List.getElem_mem hjP)
    simp only [pacelinelaw13_same.l0, List.length_map]
    rw [if_pos (by omega), if_pos h0, if_pos (by omega), e1, e2]
    generalize P[j] = p at hk2 hxp
    generalize Q[j] = q at hk2
    obtain ⟨⟨t, f, s, dd, cl, bd, ah, se, st, oa, on_, oc⟩, x⟩ := p
    obtain ⟨⟨t', f', s', d', cl', bd', ah', se', st', oa', on', oc'⟩, x'⟩ := q
    simp only [kk, Prod.mk.injEq] at hk2
    obtain ⟨⟨rfl, rfl, rfl, rfl, rfl, rfl⟩, ⟨rfl, rfl, rfl⟩, rfl⟩ := hk2
    have hxp : x.length ≤ N := hxp
    simp only [e32, e52]
    rw [entry_same _ _ _ _ _ _ _ _ _ x (by omega) k (by omega)]
    simp only [Option.bind_some, if_true]
    rw [show wrap64 ((j : Int) + 1) = (j : Int) + 1 by unfold wrap64; omega]
    exact ih k _ (by omega) (by omega) (by omega) (by omega)
theorem same_some (P Q : List EM) (h : P.map kk = Q.map kk) (N : Nat) (hx : ∀ p ∈ P, p.2.length ≤ N) (hN : N ≤ 9223372036854775806) (h64 : P.length ≤ 64) : ∃ k, pacelinelaw13_same.f k (P.map e32) (Q.map e52) = some true := by
  have hl : P.length = Q.length := by have := congrArg List.length h; simpa using this
  refine ⟨P.length + N + 3, ?_⟩
  unfold pacelinelaw13_same.f
  rw [if_pos (by simp [hl])]
  exact same_l0 P Q h N hx hN h64 P.length _ 0 (by omega) (by omega) (by omega) (by omega)
theorem bound_of (P : List EM) {w : World} (h : RdP w P) : ∀ p ∈ P, p.2.length ≤ 140737488355 := by
  intro p hp
  have hl := msv_len p.2
  rcases h p hp with ⟨_, e2⟩ | ⟨ad, n', c', e, h1, h2, h3, h4⟩
  · rw [e2] at hl; simp at hl; omega
  · omega
/-- the law's 'same' on rows that say the same -/
theorem same_calls {w : World} {B B' n c c' : Nat} {A A' : Option Addr} {P Q : List EM} (h : w.ownsRow B 32 10 (.slice A n c) n (flat (P.map Prod.fst))) (h' : w.ownsRow B' 52 10 (.slice A' n c') n (flat (Q.map Prod.fst))) (hn : P.length = n) (hk : P.map kk = Q.map kk) (hr : RdP w P) (hr' : RdP w Q) (h64 : n ≤ 64) :
    Calls Try.prog 19 #[.slice A n c, .slice A' n c'] w fun x w' => x = .returned (.bool true) ∧ Below w.heap.size w w' := by
  have hl : P.length = Q.length := by have := congrArg List.length hk; simpa using this
  obtain ⟨c1, c2, c3⟩ := C32_of h hn hr h64
  obtain ⟨d1, d2, d3⟩ := C52_of h' (by omega) hr' h64
  obtain ⟨k, hf⟩ := same_some P Q hk 140737488355 (bound_of P hr) (by omega) (by omega)
  have := pacelinelaw13_same.calls k A c (P.map e32) A' c' (Q.map e52) true w c1 (by omega) d1 (by omega) hf
  rw [c2, d2] at this
  exact this
end Go.Proofs.Ytemedggbodkhcaa.Past

set_option linter.unusedVariables false
set_option linter.unusedSimpArgs false
namespace Go.Proofs.Ytemedggbodkhcaa.Past
open Go.RowKit Go.Proofs.YtemedggbodkhcaaW.PrintWords Go.Proofs.YtemedggbodkhcaaW.PrintLast Go.Proofs.Ytemedggbodkhcaa.XPastScript
abbrev fs (P : List EM) : List Ent := P.map Prod.fst
abbrev sn (P : List EM) : List (List Value) := P.map (fun p => msv p.2)
/-- both pasts, and that they say the same -/
structure SS (W : World) (gp gr : Nat) (A : Option Addr) (c : Nat) (Ar : Option Addr) (cr : Nat) (fl : Int) (P Q : List EM) (wr : World) : Prop where
  po : PO wr W.heap.size gp A c fl (fs P) (sn P) (fun q => q = gr)
  ref : RefAt wr W.heap.size gr Ar cr fl (fs Q)
  twin : P.map kk = Q.map kk
  rds : RdP W Q
  inv : Inv (fs P) fl
  below : Below W.heap.size W wr
section
variable {W : World} {gp gr : Nat} {A : Option Addr} {c : Nat} {Ar : Option Addr} {cr : Nat} {fl : Int} {P Q : List EM} {wr w' : World}
theorem SS.belows (h : SS W gp gr A c Ar cr fl P Q wr) (hb : Below wr.heap.size wr w') : SS W gp gr A c Ar cr fl P Q w' :=
  ⟨h.po.below hb, h.ref.below hb, h.twin, h.rds, h.inv, h.below.trans (hb.mono h.below.size)⟩
theorem SS.len (h : SS W gp gr A c Ar cr fl P Q wr) : P.length = Q.length := by have := congrArg List.length h.twin; simpa using this
theorem SS.apart (h : SS W gp gr A c Ar cr fl P Q wr) : ¬ FP gp A gr ∧ gp ≠ gr ∧ ∀ q, ablk Ar = some q → ¬ FP gp A q := by
  have hg := h.po.past.1
  have hr := h.ref.1
  have hne : gp ≠ gr := fun e => by subst e; exact type_ne hg hr (by decide)
  refine ⟨fun e => ?_, hne, fun q hq e => ?_⟩
  · rcases e with e | e
    · exact hne e.symm
    · obtain ⟨cs, hc⟩ := own_type h.po.past.2.1 e
      exact type_ne hc hr (by decide)
  · obtain ⟨cs, hc⟩ := own_type h.ref.2.1 hq
    rcases e with e | e
    · subst e; exact type_ne hc hg (by decide)
    · obtain ⟨cs', hc'⟩ := own_type h.po.past.2.1 e
      exact type_ne hc hc' (by decide)
theorem last_twin {P Q : List EM} (h : P.map kk = Q.map kk) : P.getLast?.map kk = Q.getLast?.map kk := by rw [← List.getLast?_map, ← List.getLast?_map, h]
theorem pushR_twin {P Q : List EM} (h : P.map kk = Q.map kk) (fl t f s : Int) : pushR fl (fs P) t f s = pushR fl (fs Q) t f s := by
  have hl : P.length = Q.length := by have := congrArg List.length h; simpa using this
  have h2 := last_twin h
  unfold pushR
  simp only [fs, List.getLast?_map, List.length_map, hl]
  cases hp : P.getLast? with
  | none =>
    rw [hp] at h2
    cases hq : Q.getLast? with
    | none => rfl
    | some q => rw [hq] at h2; cases h2
  | some p =>
    rw [hp] at h2
    cases hq : Q.getLast? with
    | none => rw [hq] at h2; cases h2
    | some q =>
      rw [hq] at h2
      simp only [Option.map_some, Option.some.injEq, kk, Prod.mk.injEq] at h2
      obtain ⟨⟨e1, e2, e3, _⟩, _⟩ := h2
      simp only [Option.map_some, e1, e2, e3]
theorem RdP.below {w : World} {Q : List EM} (h : RdP W Q) (hb : Below W.heap.size W w) : RdP w Q := fun p hp => (h p hp).below hb
/-- between the two calls of Push -/
theorem SS.ref_mid (h : SS W gp gr A c Ar cr fl P Q wr) {S : Nat → Prop} (hk : Kept wr w' S) (hS : ∀ q, S q → FP gp A q ∨ wr.heap.size ≤ q) : RefAt w' W.heap.size gr Ar cr fl (fs Q) := by
  obtain ⟨a1, _, a3⟩ := h.apart
  refine h.ref.kept hk (fun e => ?_) (fun q hq e => ?_)
  · rcases hS _ e with e | e
    · exact a1 e
    · exact absurd (blk_lt h.ref.1) (Nat.not_lt.2 e)
  · rcases hS _ e with e | e
    · exact a3 q hq e
    · exact absurd (own_lt h.ref.2.1 q (by rw [ablk_own]; exact hq)) (Nat.not_lt.2 e)
theorem PO.keep_gr {w : World} {B : Nat} {L : List Ent} {M : List (List Value)} (h : PO w B gp A c fl L M (fun q => q = gr)) (hk : Kept w w' (fun q => q = gr)) (hne : ¬ FP gp A gr) : PO w' B gp A c fl L M (fun q => q = gr) :=
  h.others hk (fun q hq => .inl ⟨hq, fun e => hne (by rw [← show q = gr from hq]; exact e)⟩) (fun q hq => .inl hq)
theorem SS.push (h : SS W gp gr A c Ar cr fl P Q wr) {e : Ent} {x : List S29} (he : Rd W e.o (msv x)) {x1 x2 : Ending} {w4 w5 : World}
    (h1 : PushQ wr W.heap.size gp A c fl (fs P) (sn P) (fun q => q = gr) e (msv x) x1 w4) (h2 : RPushP w4 W.heap.size gr fl (fs Q) e Ar cr x2 w5) :
    ∃ A' c' Ar' cr' P' Q', SS W gp gr A' c' Ar' cr' fl P' Q' w5 := by
  obtain ⟨rfl, b1, k1, o1⟩ := h1
  obtain ⟨rfl, k2, b2, o2⟩ := h2
  have hr := pushR_twin h.twin fl e.t e.f e.s
  have hgl := blk_lt h.ref.1
  have hg4 : W.heap.size ≤ gr := h.ref.2.2.1
  have hbl : Below W.heap.size W w5 := (h.below.trans b1).trans (b2 _ hg4 (Nat.le_trans h.below.size b1.size))
  rcases o1 with ⟨r0, A', c', a, n, k, po, hA⟩ | ⟨r0, po⟩
  · rcases o2 with ⟨_, Ar', cr', hrf⟩ | ⟨r1, _⟩
    · refine ⟨A', c', Ar', cr', P ++ [({ e with oa := a, on_ := n, oc := k }, x)], Q ++ [(e, x)], ?_, ?_, ?_, ?_, ?_, hbl⟩
      · have : PO w4 W.heap.size gp A' c' fl (fs (P ++ [({ e with oa := a, on_ := n, oc := k }, x)])) (sn (P ++ [({ e with oa := a, on_ := n, oc := k }, x)])) (fun q => q = gr) := by simpa [fs, sn] using po
        refine this.keep_gr k2 (fun e => ?_)
        have hr4 := h.ref_mid k1 (fun q hq => hq)
        rcases e with e | e
        · exact h.apart.2.1 e.symm
        · obtain ⟨cs, hc⟩ := own_type po.past.2.1 e
          exact type_ne hc hr4.1 (by decide)
      · simpa [fs] using hrf
      · rw [List.map_append, List.map_append, h.twin]; rfl
      · intro p hp
        rcases List.mem_append.1 hp with hp | hp
        · exact h.rds p hp
        · rw [List.mem_singleton.1 hp]; exact he
      · have := h.inv.push e a n k r0
        simpa [fs] using this
    · exact absurd (hr ▸ r0) r1
  · rcases o2 with ⟨r1, _⟩ | ⟨_, hrf⟩
    · exact absurd (hr.trans r1) r0
    · exact ⟨A, c, Ar, cr, P, Q, po.keep_gr k2 h.apart.1, hrf, h.twin, h.rds, h.inv, hbl⟩
theorem Outs.rdp {w : World} {X : Nat → Prop} : ∀ {P : List EM}, Outs w X (fs P) (sn P) → RdP w P
  | [], _ => fun p hp => by cases hp
  | q :: P, h => by
    cases h with
    | cons h1 h2 =>
      intro p hp
      rcases List.mem_cons.1 hp with rfl | hp
      · exact h1.1
      · exact Outs.rdp h2 p hp
theorem Outs.keep {w : World} {X : Nat → Prop} {L : List Ent} {M : List (List Value)} (h : Outs w X L M) (hk : Kept w w' (fun q => q = gr)) (hx : X gr) : Outs w' X L M :=
  h.imp (fun e ms _ ho => ⟨by
    by_cases hm : ms = []
    · subst hm; exact rd_nil_any ho.1
    · exact ho.1.kept hk (fun q hq e => ho.2 hm q hq (by rw [show q = gr from e]; exact hx)), ho.2⟩)
theorem twin_at {P Q : List EM} (h : P.map kk = Q.map kk) (i : Nat) (h1 : i < (fs P).length) (h2 : i < (fs Q).length) : (fs P)[i].t = (fs Q)[i].t ∧ (fs P)[i].f = (fs Q)[i].f ∧ (fs P)[i].s = (fs Q)[i].s := by
  have h1' : i < P.length := by simpa using h1
  have h2' : i < Q.length := by simpa using h2
  have e3 : (P.map kk)[i]'(by simpa using h1') = (Q.map kk)[i]'(by simpa using h2') := by simp only [h]
  simp only [List.getElem_map, kk, Prod.mk.injEq] at e3 ⊢
  exact ⟨e3.1.1, e3.1.2.1, e3.1.2.2.1⟩
theorem twin_at' {P Q : List EM} (h : P.map kk = Q.map kk) (i : Nat) (h2 : i < (fs Q).length) : ∃ h1 : i < (fs P).length, (fs Q)[i].t = (fs P)[i].t ∧ (fs Q)[i].f = (fs P)[i].f ∧ (fs Q)[i].s = (fs P)[i].s := by
  have hl : P.length = Q.length := by have := congrArg List.length h; simpa using this
  have h1 : i < (fs P).length := by simp [fs] at h2 ⊢; omega
  obtain ⟨a, b, c⟩ := twin_at h i h1 h2
  exact ⟨h1, a.symm, b.symm, c.symm⟩
/-- what is kept while the reference writes its own block -/
theorem own_keep_gr {w : World} {B n c : Nat} {e : TypeId} {sz : Nat} {A1 : Option Addr} {xs : List Value} (h : w.ownsRow B e sz (.slice A1 n c) n xs) (hk : Kept w w' (fun q => q = gr)) (hg : gr < B) : w'.ownsRow B e sz (.slice A1 n c) n xs :=
  own_keep h hk (fun b hb e => by have := own_base h b hb; have : b = gr := e; omega)
theorem SS.back (h : SS W gp gr A c Ar cr fl P Q wr) {k0 k1 k2 : Int} {x1 : Ending} {w4 : World} (hq : BackQ wr W.heap.size gp c A fl (fs P) (sn P) (fun q => q = gr) k0 k1 k2 x1 w4) :
    ∃ k A1 c1, x1 = .returned (.slice A1 (P.length - k) c1) ∧ k ≤ (fs Q).length ∧ (∀ i (hi : i < (fs Q).length), i < k → kc ((fs Q)[i]).t ((fs Q)[i]).f ((fs Q)[i]).s k0 k1 k2 < 0) ∧ (∀ i (hi : i < (fs Q).length), k ≤ i → 0 ≤ kc ((fs Q)[i]).t ((fs Q)[i]).f ((fs Q)[i]).s k0 k1 k2) ∧
      RefAt w4 W.heap.size gr Ar cr fl (fs Q) ∧ Kept wr w4 (fun q => q = gp) ∧ wr.heap.size ≤ w4.heap.size ∧ ∀ x2 w5, RBackP w4 W.heap.size gr fl (fs Q) k x2 w5 → Kept w4 w5 (fun q => q = gr) ∧ ∃ A2 c2, x2 = .returned (.slice A2 (P.length - k) c2) ∧ (∃ Ar' cr', SS W gp gr A c Ar' cr' fl (P.take k) (Q.take k) w5) ∧
        Calls Try.prog 19 #[.slice A1 (P.length - k) c1, .slice A2 (P.length - k) c2] w5 (fun x w' => x = .returned (.bool true) ∧ Below w5.heap.size w5 w') := by
  obtain ⟨k, A1, c1, rfl, h1, h2, h3, h4, h5, h6, h7, h8⟩ := hq
  have hl := h.len
  have h64 : P.length ≤ 64 := by have := h.po.past.2.2.2; simpa [fs] using this
  have hlP : (fs P).length = P.length := by simp [fs]
  have hlQ : (fs Q).length = P.length := by simp [fs, hl]
  rw [hlP] at h1 h4
  have hgl := blk_lt h.ref.1
  refine ⟨k, A1, c1, by rw [hlP], by omega, fun i hi hik => ?_, fun i hi hik => ?_, h.ref_mid h7 (fun q hq => .inl (.inl hq)), h7, h7.1, fun x2 w5 hr => ?_⟩
  · obtain ⟨hi', e1, e2, e3⟩ := twin_at' h.twin i hi
    rw [e1, e2, e3]; exact h2 i hi' hik
  · obtain ⟨hi', e1, e2, e3⟩ := twin_at' h.twin i hi
    rw [e1, e2, e3]; exact h3 i hi' hik
  · obtain ⟨A2, c2, Ar', cr', rfl, g1, g2, g3, g4, g5⟩ := hr
    rw [hlQ] at g1
    have hg4 : W.heap.size ≤ gr := h.ref.2.2.1
    have hbl : Below W.heap.size W w5 := (h.below.trans h8).trans (g4 _ hg4 (Nat.le_trans h.below.size h7.1))
    have ht : (fs P).take k = fs (P.take k) := by simp [fs]
    have hd : ((fs P).drop k).reverse = fs (P.drop k).reverse := by simp [fs]
    have hd' : ((fs Q).drop k).reverse = fs (Q.drop k).reverse := by simp [fs]
    have ht' : (fs Q).take k = fs (Q.take k) := by simp [fs]
    have hm : (sn P).take k = sn (P.take k) := by simp [sn]
    have hm' : (sn P).drop k = sn (P.drop k) := by simp [sn]
    have hdd : (fs P).drop k = fs (P.drop k) := by simp [fs]
    have htw : ∀ {X Y : List EM}, X.map kk = Y.map kk → (X.take k).map kk = (Y.take k).map kk := fun e => by rw [List.map_take, List.map_take, e]
    have hdw : (P.drop k).reverse.map kk = (Q.drop k).reverse.map kk := by rw [List.map_reverse, List.map_reverse, List.map_drop, List.map_drop, h.twin]
    rw [ht, hm] at h5
    rw [hdd, hm'] at h6
    rw [hd] at h4
    rw [hd'] at g1
    rw [ht'] at g2
    refine ⟨g3, A2, c2, by rw [hlQ], ⟨Ar', cr', h5.keep_gr g3 h.apart.1, g2, htw h.twin, fun p hp => h.rds p (List.mem_of_mem_take hp), by rw [← ht]; exact h.inv.take k, hbl⟩, ?_⟩
    refine same_calls (own_keep_gr h4 g3 hgl) g1 (by simp) hdw (fun p hp => ?_) (fun p hp => ?_) (by omega)
    · exact (Outs.rdp (h6.keep g3 (.inr rfl))) p (List.mem_reverse.1 hp)
    · exact (h.rds.below hbl) p (List.mem_of_mem_drop (List.mem_reverse.1 hp))
theorem SS.settle (h : SS W gp gr A c Ar cr fl P Q wr) {t : Int} {x1 : Ending} {w4 : World} (hq : SettleQ wr W.heap.size gp fl t (fs P) (sn P) (fun q => q = gr) x1 w4) :
    ∃ k A1 c1, x1 = .returned (.slice A1 k c1) ∧ k ≤ (fs Q).length ∧ (∀ i (hi : i < (fs Q).length), i < k → ((fs Q)[i]).t < t) ∧ (∀ i (hi : i < (fs Q).length), k ≤ i → t ≤ ((fs Q)[i]).t) ∧
      RefAt w4 W.heap.size gr Ar cr fl (fs Q) ∧ Kept wr w4 (fun q => q = gp) ∧ wr.heap.size ≤ w4.heap.size ∧ ∀ x2 w5, RSettleP w4 W.heap.size gr fl t (fs Q) k x2 w5 → Kept w4 w5 (fun q => q = gr) ∧ ∃ A2 c2, x2 = .returned (.slice A2 k c2) ∧ (∃ A' c' Ar' cr', SS W gp gr A' c' Ar' cr' (max fl t) (P.drop k) (Q.drop k) w5) ∧
        Calls Try.prog 19 #[.slice A1 k c1, .slice A2 k c2] w5 (fun x w' => x = .returned (.bool true) ∧ Below w5.heap.size w5 w') := by
  obtain ⟨k, A1, c1, A', c', rfl, h1, h2, h3, h4, h5, h6, h7, h8, h9⟩ := hq
  have hl := h.len
  have h64 : P.length ≤ 64 := by have := h.po.past.2.2.2; simpa [fs] using this
  have hlP : (fs P).length = P.length := by simp [fs]
  have hlQ : (fs Q).length = P.length := by simp [fs, hl]
  rw [hlP] at h1
  have hgl := blk_lt h.ref.1
  refine ⟨k, A1, c1, rfl, by omega, fun i hi hik => ?_, fun i hi hik => ?_, h.ref_mid h7 (fun q hq => .inl (.inl hq)), h7, h7.1, fun x2 w5 hr => ?_⟩
  · obtain ⟨hi', e1, e2, e3⟩ := twin_at' h.twin i hi
    rw [e1]; exact h2 i hi' hik
  · obtain ⟨hi', e1, e2, e3⟩ := twin_at' h.twin i hi
    rw [e1]; exact h3 i hi' hik
  · obtain ⟨A2, c2, Ar', cr', rfl, g1, g2, g3, g4, g5⟩ := hr
    have hg4 : W.heap.size ≤ gr := h.ref.2.2.1
    have hbl : Below W.heap.size W w5 := (h.below.trans h8).trans (g4 _ hg4 (Nat.le_trans h.below.size h7.1))
    have ht : (fs P).take k = fs (P.take k) := by simp [fs]
    have ht' : (fs Q).take k = fs (Q.take k) := by simp [fs]
    have hm : (sn P).take k = sn (P.take k) := by simp [sn]
    have hm' : (sn P).drop k = sn (P.drop k) := by simp [sn]
    have hdd : (fs P).drop k = fs (P.drop k) := by simp [fs]
    have hdd' : (fs Q).drop k = fs (Q.drop k) := by simp [fs]
    have htw : (P.take k).map kk = (Q.take k).map kk := by rw [List.map_take, List.map_take, h.twin]
    have hdw : (P.drop k).map kk = (Q.drop k).map kk := by rw [List.map_drop, List.map_drop, h.twin]
    have hin := (h.inv.settle (G := []) ⟨List.Pairwise.nil, fun e he => by cases he⟩ h2 h3).1
    rw [hdd, hm'] at h5
    rw [hdd'] at g2
    rw [ht] at h4
    rw [ht, hm] at h6
    rw [ht'] at g1
    rw [hdd] at hin
    have hne : ¬ FP gp A' gr := fun e => by
      rcases e with e | e
      · exact h.apart.2.1 e.symm
      · have := (h9 gr e).1
        omega
    refine ⟨g3, A2, c2, rfl, ⟨A', c', Ar', cr', h5.keep_gr g3 hne, g2, hdw, fun p hp => h.rds p (List.mem_of_mem_drop hp), hin, hbl⟩, ?_⟩
    refine same_calls (own_keep_gr h4 g3 hgl) g1 (by simp; omega) htw (fun p hp => ?_) (fun p hp => ?_) (by omega)
    · exact (Outs.rdp (h6.keep g3 (.inr rfl))) p hp
    · exact (h.rds.below hbl) p (List.mem_of_mem_take hp)
/-- the last entry, with its messages -/
theorem SS.last (h : SS W gp gr A c Ar cr fl P Q wr) : Calls Try.prog 22 #[.pointer (some ⟨gp, 0, none⟩)] wr fun x w' => ∃ (e : Ent) (y : List S29), x = .returned (.tuple #[e.val, .bool (!Q.isEmpty)]) ∧ Below wr.heap.size wr w' ∧ Rd w' e.o (msv y) ∧ kk (e, y) = kk (Q.getLast?.getD (⟨0, 0, 0, 0, 0, 0, 0, 0, 0, none, 0, 0⟩, [])) := by
  have h2 := last_twin h.twin
  cases hp : P.getLast? with
  | none =>
    rw [hp] at h2
    cases hq : Q.getLast? with
    | some q => rw [hq] at h2; cases h2
    | none =>
      obtain rfl : P = [] := List.getLast?_eq_none_iff.1 hp
      obtain rfl : Q = [] := List.getLast?_eq_none_iff.1 hq
      refine (last_none wr W.heap.size gp A c fl h.po.past).mono ?_
      rintro x w' ⟨rfl, hb⟩
      exact ⟨⟨0, 0, 0, 0, 0, 0, 0, 0, 0, none, 0, 0⟩, [], rfl, hb, .inl ⟨⟨0, rfl⟩, rfl⟩, rfl⟩
  | some p =>
    rw [hp] at h2
    cases hq : Q.getLast? with
    | none => rw [hq] at h2; cases h2
    | some q =>
      rw [hq] at h2
      simp only [Option.map_some, Option.some.injEq] at h2
      have hm : p ∈ P := List.mem_of_getLast? hp
      have hne : Q.isEmpty = false := by cases Q <;> simp at hq ⊢
      have hl : (fs P).getLast? = some p.1 := by simp [fs, List.getLast?_map, hp]
      refine (last_some wr W.heap.size gp A c fl (fs P) h.po.past p.1 hl (msv p.2) (Outs.rdp h.po.outs p hm)).mono ?_
      rintro x w' ⟨a, n, k, rfl, hr, hb, _⟩
      exact ⟨{ p.1 with oa := a, on_ := n, oc := k }, p.2, by rw [hne]; rfl, hb, hr, by rw [Option.getD_some, ← h2]; rfl⟩
theorem SS.rlast (h : SS W gp gr A c Ar cr fl P Q wr) : Calls Try.prog 23 #[.pointer (some ⟨gr, 0, none⟩)] wr fun x w' => x = .returned (.tuple #[(Q.getLast?.getD (⟨0, 0, 0, 0, 0, 0, 0, 0, 0, none, 0, 0⟩, [])).1.val, .bool (!Q.isEmpty)]) ∧ Below wr.heap.size wr w' := by
  refine (rlast_at wr W.heap.size gr Ar cr fl (fs Q) h.ref).mono ?_
  rintro x w' ⟨rfl, hb⟩
  refine ⟨?_, hb⟩
  simp only [fs, List.getLast?_map, List.isEmpty_map]
  cases Q.getLast? <;> rfl
/-- the law's 'sameEntry' on what says the same -/
theorem entry_calls {w : World} {e e' : Ent} {y y' : List S29} (h : Rd w e.o (msv y)) (h' : Rd w e'.o (msv y')) (hk : kk (e, y) = kk (e', y')) :
    Calls Try.prog 25 #[e.val, e'.val] w fun x w' => x = .returned (.bool true) ∧ Below w.heap.size w w' := by
  obtain ⟨t, f, s, dd, cl, bd, ah, se, st, oa, on_, oc⟩ := e
  obtain ⟨t', f', s', d', cl', bd', ah', se', st', oa', on', oc'⟩ := e'
  simp only [kk, Prod.mk.injEq] at hk
  obtain ⟨⟨rfl, rfl, rfl, rfl, rfl, rfl⟩, ⟨rfl, rfl, rfl⟩, rfl⟩ := hk
  simp only [Ent.o] at h h'
  obtain ⟨r1, r2, r3⟩ := C_of_rd h
  obtain ⟨q1, q2, q3⟩ := C_of_rd h'
  subst r1
  subst q1
  exact pacelinelaw13_sameEntry.calls _ _ _ _ _ _ _ _ _ _ oa oc y _ _ _ _ _ _ _ _ _ oa' oc' y true w r3 r2 q3 q2 (entry_same _ _ _ _ _ _ _ _ _ y (by have := bound_of [(⟨0, 0, 0, 0, 0, 0, 0, 0, 0, oa, y.length, oc⟩, y)] (w := w) (fun p hp => by rw [List.mem_singleton.1 hp]; exact h) _ (List.mem_singleton.2 rfl); have : y.length ≤ 140737488355 := this; omega) (y.length + 2) (by omega))
theorem SS.zlast (h : SS W gp gr A c Ar cr fl P Q wr) : Rd wr (Q.getLast?.getD (⟨0, 0, 0, 0, 0, 0, 0, 0, 0, none, 0, 0⟩, [])).1.o (msv (Q.getLast?.getD (⟨0, 0, 0, 0, 0, 0, 0, 0, 0, none, 0, 0⟩, [])).2) := by
  cases hq : Q.getLast? with
  | none => exact .inl ⟨⟨0, rfl⟩, rfl⟩
  | some q => exact (h.rds.below h.below) q (List.mem_of_getLast? hq)
end
end Go.Proofs.Ytemedggbodkhcaa.Past
