/- Part of a proof over the given program: Piq1, Pkq1, Prq1, Rq, Rr. -/
import Derived.Test.YtehnkebcbomidaaGreatDoorCb41
import Derived.Test.YtehnkebcbomidaaGreatDoorCb35
set_option linter.unusedVariables false
set_option linter.unusedSimpArgs false
section
namespace Go.Proofs.YtehnkebcbomidaaGreatDoor.Rt
def half (p : Mg → Bool) (Q : List Mg) (j : Nat) : List Mg := ((Q.take j).filter fun x => !p x) ++ Q.drop j
theorem half_zero (p : Mg → Bool) (Q : List Mg) : half p Q 0 = Q := by simp [half]
theorem half_all (p : Mg → Bool) (Q : List Mg) : half p Q Q.length = Q.filter fun x => !p x := by simp [half]
theorem half_keep (p : Mg → Bool) (Q : List Mg) (j : Nat) (hj : j < Q.length) (h : p Q[j] = false) : half p Q (j + 1) = half p Q j := by
  unfold half
  rw [List.take_succ_eq_append_getElem hj, List.filter_append, List.drop_eq_getElem_cons hj]
  simp [h]
theorem half_mem (p : Mg → Bool) (Q : List Mg) (j : Nat) (hj : j < Q.length) : Q[j] ∈ half p Q j := by
  unfold half
  rw [List.drop_eq_getElem_cons hj]
  exact List.mem_append_right _ List.mem_cons_self
theorem filter_ne {L : List Mg} {k : Ky} (h : ∀ x ∈ L, x.k ≠ k) : (L.filter fun x => decide (x.k ≠ k)) = L := by
  rw [List.filter_eq_self]
  intro x hx
  simpa using h x hx
theorem half_take {p : Mg → Bool} {Q : List Mg} (hs : Srt Q) (j : Nat) (hj : j < Q.length) (h : p Q[j] = true) : half p Q (j + 1) = (half p Q j).filter fun x => decide (x.k ≠ Q[j].k) := by
  have hlt : ∀ x ∈ Q.take j, x.k ≠ Q[j].k := fun x hx e => by
    have := take_drop_srt hs j hx (y := Q[j]) (by rw [List.drop_eq_getElem_cons hj]; exact List.mem_cons_self)
    rw [e] at this
    exact Ky.lt_irrefl _ this
  have hgt : ∀ x ∈ Q.drop (j + 1), x.k ≠ Q[j].k := fun x hx e => by
    have := take_drop_srt hs (j + 1) (x := Q[j]) (by rw [List.take_succ_eq_append_getElem hj]; exact List.mem_append_right _ List.mem_cons_self) hx
    rw [e] at this
    exact Ky.lt_irrefl _ this
  unfold half
  rw [List.take_succ_eq_append_getElem hj, List.filter_append, List.filter_append, List.drop_eq_getElem_cons hj, List.filter_cons, List.filter_cons, filter_ne hgt, filter_ne (fun x hx => hlt x (List.mem_filter.1 hx).1)]
  rw [if_neg (by simp [h]), if_neg (by simp), List.filter_nil, List.append_nil]
def St.backTo (S : St) (p : Mg → Bool) (k : Nat) : St := { S with l := (List.range 8).map fun g => if g < k then { S.get g with Q := (S.get g).Q.filter fun x => !p x } else S.get g }
theorem map_get (S : St) (h8 : S.l.length = 8) (F : Mem → Mem) : S.l.map F = (List.range 8).map fun g => F (S.get g) := by
  apply List.ext_getElem
  · simp [h8]
  · intro i h1 h2
    have hi : i < S.l.length := by simpa using h1
    simp [St.get, List.getD_eq_getElem?_getD, List.getElem?_eq_getElem hi]
theorem backTo_zero (S : St) (h8 : S.l.length = 8) (p : Mg → Bool) : S.backTo p 0 = S := by
  unfold St.backTo
  have : (List.range 8).map (fun g => if g < 0 then { S.get g with Q := (S.get g).Q.filter fun x => !p x } else S.get g) = S.l := by
    rw [← List.map_id S.l, map_get S h8 id]
    refine List.map_congr_left fun g _ => ?_
    rw [if_neg (by omega)]
    rfl
  rw [this]
theorem backTo_all (S : St) (h8 : S.l.length = 8) (p : Mg → Bool) : S.backTo p 8 = { S with l := S.l.map fun m => { m with Q := m.Q.filter fun x => !p x } } := by
  unfold St.backTo
  rw [map_get S h8]
  have : (List.range 8).map (fun g => if g < 8 then { S.get g with Q := (S.get g).Q.filter fun x => !p x } else S.get g) = (List.range 8).map (fun g => { S.get g with Q := (S.get g).Q.filter fun x => !p x }) :=
    List.map_congr_left fun g hg => by rw [if_pos (by simpa using hg)]
  rw [this]
theorem backTo_get (S : St) (p : Mg → Bool) (k g : Nat) (hg : g < 8) : (S.backTo p k).get g = if g < k then { S.get g with Q := (S.get g).Q.filter fun x => !p x } else S.get g := by
  unfold St.backTo
  unfold St.get
  simp only
  rw [List.getD_eq_getElem?_getD, List.getElem?_map, List.getElem?_range hg]
  rfl
theorem backTo_l8 (S : St) (p : Mg → Bool) (k : Nat) : (S.backTo p k).l.length = 8 := by simp [St.backTo]
theorem backTo_put (S : St) (p : Mg → Bool) (k : Nat) (hk : k < 8) : S.backTo p (k + 1) = (S.backTo p k).put k { S.get k with Q := (S.get k).Q.filter fun x => !p x } := by
  have e : (S.backTo p (k + 1)).l = ((S.backTo p k).put k { S.get k with Q := (S.get k).Q.filter fun x => !p x }).l := by
    apply List.ext_getElem
    · rw [St.put_l, backTo_l8, backTo_l8]
    · intro i h1 h2
      have hi : i < 8 := by rw [backTo_l8] at h1; exact h1
      rw [get_el _ _ h1, get_el _ _ h2, backTo_get S p _ i hi, St.get_put _ (backTo_l8 S p k) k i hk, backTo_get S p _ i hi]
      by_cases c : i = k
      · subst c; rw [if_pos (by omega), if_pos rfl]
      · rw [if_neg c]
        by_cases c2 : i < k
        · rw [if_pos (by omega), if_pos c2]
        · rw [if_neg (by omega), if_neg c2]
  unfold St.put St.backTo at e ⊢
  simp only at e ⊢
  rw [e]
end Go.Proofs.YtehnkebcbomidaaGreatDoor.Rt
end
section
namespace Go.Proofs.YtehnkebcbomidaaGreatDoor.Rt
theorem duo0 (m0 m1 : Mem) : (duo m0 m1).get 0 = m0 := rfl
theorem ins_filter (p : Mg → Bool) (m : Mg) (hm : p m = false) : ∀ Q : List Mg, (ins m Q).filter p = Q.filter p := by
  intro Q
  induction Q with
  | nil => simp [ins, hm]
  | cons q Q ih =>
    unfold ins
    split
    · rw [List.filter_cons, hm]; rfl
    · rw [List.filter_cons, List.filter_cons, ih]
theorem mem_eta (m : Mem) (Q : List Mg) (h : m.Q = Q) : { m with Q := Q } = m := by subst h; rfl
theorem duo_retract_no {m0 m1 : Mem} (f : Int) (hb : (duo m0 m1).byE f = 0) (h : Int) (h0 : ∀ x ∈ m0.Q, hasMsg f h x = false) (h1 : ∀ x ∈ m1.Q, hasMsg f h x = false) : (duo m0 m1).retract f h = (209, duo m0 m1) := by
  have hg : ∀ g : Nat, ∀ x ∈ ((duo m0 m1).get g).Q, hasMsg f h x = false := by
    intro g x hx
    by_cases e0 : g = 0
    · subst e0; exact h0 x hx
    · by_cases e1 : g = 1
      · subst e1; exact h1 x hx
      · rw [duoN _ _ g (by omega)] at hx; cases hx
  have ha : ((List.range 8).any fun g => ((duo m0 m1).get g).Q.any (hasMsg f h)) = false := by
    rw [List.any_eq_false]
    intro g _
    rw [Bool.not_eq_true, List.any_eq_false]
    intro x hx
    simp [hg g x hx]
  have hf : ∀ m : Mem, (∀ x ∈ m.Q, hasMsg f h x = false) → { m with Q := m.Q.filter fun x => !hasMsg f h x } = m := by
    intro m hm
    refine mem_eta m _ ?_
    symm
    rw [List.filter_eq_self]
    intro x hx
    simp [hm x hx]
  unfold St.retract
  rw [if_neg (fun z => z hb), ha, if_neg (by decide)]
  show (209, (⟨[-1], [1], [1, 1, 0, 0, 0, 0, 0, 0], [{ m0 with Q := m0.Q.filter fun x => !hasMsg f h x }, { m1 with Q := m1.Q.filter fun x => !hasMsg f h x }, {}, {}, {}, {}, {}, {}], false⟩ : St)) = _
  rw [hf m0 h0, hf m1 h1]
  rfl
theorem duo_retract_yes {m0 m1 : Mem} (i0 : m0.is = true) (hq0 : m0.Q = []) (m : Mg) (h : Int) (hf : m.k.f = 0) (hs : m.k.s = h) (h1 : ∀ x ∈ m1.Q, hasMsg 0 h x = false) : (duo m0 { m1 with Q := ins m m1.Q }).retract 0 h = (0, duo m0 m1) := by
  have hm : hasMsg 0 h m = true := by rw [hasMsg_iff]; exact ⟨hf, hs⟩
  have ha : ((List.range 8).any fun g => ((duo m0 { m1 with Q := ins m m1.Q }).get g).Q.any (hasMsg 0 h)) = true := by
    rw [List.any_eq_true]
    refine ⟨1, by simp, ?_⟩
    rw [List.any_eq_true]
    exact ⟨m, (mem_ins m m m1.Q).2 (.inl rfl), hm⟩
  unfold St.retract
  rw [if_neg (fun z => z (duo_by0 _ i0)), ha, if_pos rfl]
  have e1 : (ins m m1.Q).filter (fun x => !hasMsg 0 h x) = m1.Q := by
    rw [ins_filter _ m (by simp [hm]), List.filter_eq_self]
    intro x hx
    simp [h1 x hx]
  show (0, (⟨[-1], [1], [1, 1, 0, 0, 0, 0, 0, 0], [{ m0 with Q := m0.Q.filter fun x => !hasMsg 0 h x }, { m1 with Q := (ins m m1.Q).filter fun x => !hasMsg 0 h x }, {}, {}, {}, {}, {}, {}], false⟩ : St)) = _
  rw [e1, mem_eta m0 _ (by rw [hq0]; rfl), mem_eta m1 _ rfl]
  rfl
end Go.Proofs.YtehnkebcbomidaaGreatDoor.Rt
end
section
namespace Go.Proofs.YtehnkebcbomidaaGreatDoor.Rt
theorem duo_ask0 {m0 m1 : Mem} (i0 : m0.is = true) (hk : m0.kind = 0) (ht : m0.time = 0) {k t : Int} (k1 : 1 ≤ k) (k3 : k ≤ 3) (t0 : 0 ≤ t) (t1 : t ≤ 1099511627776) :
    (duo m0 m1).ask 0 k t = (0, duo { m0 with kind := k, ask := t } m1) := by
  unfold St.ask
  rw [if_neg (fun z => z (duo_by0 m1 i0)), if_neg (by omega)]
  simp only [show (0 : Int).toNat = 0 from rfl, duo0]
  rw [if_neg (fun z => z hk), if_neg (by omega), if_neg (by omega), duo_put0]
def rs (x : Int) (z : List Int) (B : Nat → Bool) (i : Nat) : St := duo (f0 x i) (f1 (fq x z B i))
def rsm (x : Int) (z : List Int) (B : Nat → Bool) (i : Nat) : St := duo (f0 x (i + 1)) (f1 (ins (fm x z i) (fq x z B i)))
def rsA (x : Int) (z : List Int) (B : Nat → Bool) (n : Nat) : St := duo { f0 x n with kind := 1, ask := 500 } (f1 (fq x z B n))
def rsB (x : Int) (z : List Int) (B : Nat → Bool) (n : Nat) : St := duo { f0 x n with kind := 1, ask := 500 } { f1 (fq x z B n) with kind := 3, ask := 500 }
def rsL (x : Int) (n : Nat) (t : Int) : St := duo { f0 x n with kind := 1, ask := 500 } { f1 [] with time := t }
theorem rs_bound {x : Int} (x1 : 1 ≤ x) (x2 : x ≤ 9) (n : Nat) (m1 : Mem) : (duo { f0 x n with kind := 1, ask := 500 } m1).bound 1 = 500 + x := by
  rw [duo_bound1 (m0 := { f0 x n with kind := 1, ask := 500 }) m1 x1, duo_out0 (m0 := { f0 x n with kind := 1, ask := 500 }) m1 x1 (by show x ≤ 1048576; omega) (.inr rfl) (t := 500) rfl (by omega) (by show 500 + x ≤ 1099511627776; omega)]
  rfl
structure RetractOk (x : Int) (z : List Int) (B : Nat → Bool) (n : Nat) (t : Int) : Prop where
  se : ∀ i, i < n → (rs x z B i).send 0 0 i (x + z.getD i 0) true = ((i : Int), 0, rsm x z B i)
  ok : ∀ i, i ≤ n → (rs x z B i).Ok i
  om : ∀ i, i < n → (rsm x z B i).Ok (i + 1)
  ke : ∀ i, i < n → B i = false → rsm x z B i = rs x z B (i + 1)
  r0 : ∀ i, i < n → B i = true → (rsm x z B i).retract 0 i = (0, rs x z B (i + 1))
  r1 : ∀ i, i < n → B i = true → (rs x z B (i + 1)).retract 0 i = (209, rs x z B (i + 1))
  r2 : ∀ i, i < n → B i = true → (rs x z B (i + 1)).retract 1 i = (209, rs x z B (i + 1))
  ak : (rs x z B n).ask 0 1 500 = (0, rsA x z B n)
  oa : (rsA x z B n).Ok n
  bk : (rsA x z B n).ask 1 3 500 = (0, rsB x z B n)
  ob : (rsB x z B n).Ok n
  lk : (rsB x z B n).look 1 = (⟨[], fq x z B n, true, t⟩, 0, rsL x n t)
  ol : (rsL x n t).Ok n
  rl : ∀ h, (rsL x n t).retract 0 h = (209, rsL x n t)
theorem retract_ok {x : Int} (x1 : 1 ≤ x) (x2 : x ≤ 9) (z : List Int) (B : Nat → Bool) (n : Nat) (hn : n ≤ 40) (hz : ∀ i, i < n → 0 ≤ z.getD i 0 ∧ z.getD i 0 < 256) : ∃ t, RetractOk x z B n t := by
  have p := pair_oks (a := x) (b := 3) x1 (by omega) (by omega) (by omega)
  have se : ∀ i, i < n → (rs x z B i).send 0 0 i (x + z.getD i 0) true = ((i : Int), 0, rsm x z B i) := fun i hi => duo_send_step x1 x2 z B i (by omega) (hz i hi).1 (hz i hi).2
  have ke : ∀ i, i < n → B i = false → rsm x z B i = rs x z B (i + 1) := fun i hi hB => by
    show duo (f0 x (i + 1)) (f1 (ins (fm x z i) (fq x z B i))) = duo (f0 x (i + 1)) (f1 (if B i then fq x z B i else ins (fm x z i) (fq x z B i)))
    rw [hB, if_neg (by decide)]
  have kb : ∀ i, i < n → B i = true → rs x z B (i + 1) = duo (f0 x (i + 1)) (f1 (fq x z B i)) := fun i hi hB => by
    show duo (f0 x (i + 1)) (f1 (if B i then fq x z B i else ins (fm x z i) (fq x z B i))) = _
    rw [hB, if_pos rfl]
  have hold : ∀ i, i < n → ∀ m ∈ fq x z B i, ∀ f, hasMsg f i m = false := fun i hi m hm f => by
    obtain ⟨k, h1, h2, rfl⟩ := (fq_mem x z B i m).1 hm
    unfold hasMsg
    rw [decide_eq_false]
    rintro ⟨_, h⟩
    have h : (k : Int) = i := h
    omega
  have r0 : ∀ i, i < n → B i = true → (rsm x z B i).retract 0 i = (0, rs x z B (i + 1)) := fun i hi hB => by
    rw [kb i hi hB]
    exact duo_retract_yes (m0 := f0 x (i + 1)) (m1 := f1 (fq x z B i)) rfl rfl (fm x z i) i rfl rfl (fun m hm => hold i hi m hm 0)
  have ok : ∀ i, i ≤ n → (rs x z B i).Ok i := by
    intro i
    induction i with
    | zero => intro _; exact p.oz
    | succ i ih =>
      intro hi
      have := Ok.send (ih (by omega)) (by omega) 0 0 (i : Int) (x + z.getD i 0) true
      rw [se i (by omega)] at this
      cases hB : B i with
      | false => rw [← ke i (by omega) hB]; exact this
      | true =>
        have := Ok.retract this 0 i
        rw [r0 i (by omega) hB] at this
        exact this
  have om : ∀ i, i < n → (rsm x z B i).Ok (i + 1) := fun i hi => by
    have := Ok.send (ok i (by omega)) (by omega) 0 0 (i : Int) (x + z.getD i 0) true
    rw [se i (by omega)] at this
    exact this
  have ak : (rs x z B n).ask 0 1 500 = (0, rsA x z B n) := duo_ask0 rfl rfl rfl (by omega) (by omega) (by omega) (by omega)
  have oa := Ok.ask (ok n (Nat.le_refl _)) 0 1 500
  rw [ak] at oa
  have bk : (rsA x z B n).ask 1 3 500 = (0, rsB x z B n) := duo_ask1 rfl rfl rfl (by omega) (by omega) (by omega) (by omega)
  have ob := Ok.ask oa 1 3 500
  rw [bk] at ob
  obtain ⟨t, lk, ht⟩ := duo_flush (m0 := { f0 x n with kind := 1, ask := 500 }) (m1 := { f1 (fq x z B n) with kind := 3, ask := 500 }) rfl rfl rfl rfl (by show (0 : Int) ≤ 500; omega) (B := 500 + x) (rs_bound x1 x2 n _) (by omega) (fun m hm => by
    obtain ⟨k, h1, h2, rfl⟩ := (fq_mem x z B n m).1 hm
    have := (hz k h1).1
    show 0 ≤ x + z.getD k 0
    omega)
  have ol := Ok.look ob 1
  have lk : (rsB x z B n).look 1 = (⟨[], fq x z B n, true, t⟩, 0, rsL x n t) := lk
  rw [lk] at ol
  refine ⟨t, se, ok, om, ke, r0, fun i hi hB => ?_, fun i hi hB => ?_, ak, oa, bk, ob, lk, ol, fun h => ?_⟩
  · rw [kb i hi hB]
    exact duo_retract_no (m0 := f0 x (i + 1)) (m1 := f1 (fq x z B i)) 0 (duo_by0 _ rfl) i (fun m hm => by cases hm) (fun m hm => hold i hi m hm 0)
  · rw [kb i hi hB]
    exact duo_retract_no (m0 := f0 x (i + 1)) (m1 := f1 (fq x z B i)) 1 (duo_by1 _ rfl) i (fun m hm => by cases hm) (fun m hm => hold i hi m hm 1)
  · exact duo_retract_no (m0 := { f0 x n with kind := 1, ask := 500 }) (m1 := { f1 [] with time := t }) 0 (duo_by0 _ rfl) h (fun m hm => by cases hm) (fun m hm => by cases hm)
end Go.Proofs.YtehnkebcbomidaaGreatDoor.Rt
end
namespace Go.Proofs.YtehnkebcbomidaaGreatDoor.Rt
open Go Go.RowKit Go.Proofs Go.Proofs.YtehnkebcbomidaaGreatDoorW.PrintWords Go.Proofs.YtehnkebcbomidaaGreatDoorW.PrintLast
def fnd (S : St) (p : Mg → Bool) (k : Nat) : Bool := (List.range k).any fun g => (S.get g).Q.any p
theorem fnd_succ (S : St) (p : Mg → Bool) (k : Nat) : fnd S p (k + 1) = (fnd S p k || (S.get k).Q.any p) := by
  unfold fnd
  rw [List.range_succ, List.any_append]
  simp
def fndQ (p : Mg → Bool) (Q : List Mg) (j : Nat) : Bool := (Q.take j).any p
theorem fndQ_succ (p : Mg → Bool) (Q : List Mg) (j : Nat) (hj : j < Q.length) : fndQ p Q (j + 1) = (fndQ p Q j || p Q[j]) := by
  unfold fndQ
  rw [List.take_succ_eq_append_getElem hj, List.any_append]
  simp
theorem fndQ_all (p : Mg → Bool) (Q : List Mg) : fndQ p Q Q.length = Q.any p := by unfold fndQ; rw [List.take_length]
structure Behind (H : Sh) (w : World) (S' : St) (H' : Sh) (w' : World) : Prop where
  turn : Turn H w S' H' w'
  q : ∀ g, H'.q g = H.q g
theorem Behind.below {H H1 : Sh} {w w1 w2 : World} {S1 : St} (h : Behind H w S1 H1 w1) (g : Below w1.heap.size w1 w2) : Behind H w S1 H1 w2 := ⟨h.turn.below g, h.q⟩
theorem Behind.trans {H H1 H2 : Sh} {w w1 w2 : World} {S1 S2 : St} (h : Behind H w S1 H1 w1) (g : Behind H1 w1 S2 H2 w2) : Behind H w S2 H2 w2 := ⟨h.turn.trans g.turn, fun k => (g.q k).trans (h.q k)⟩
def RemAt (H : Sh) (w : World) (S' : St) (e : Ending) (w' : World) : Prop := ∃ v, e = .returned v ∧ ∃ H', Behind H w S' H' w'
theorem rem_at {H1 H' : Sh} {w1 wm : World} {S1 : St} {k : Nat} (hk : k < 8) {m : Mem} {Q' : List Mg} (hb : Behind H1 w1 (S1.put k { m with Q := Q' }) H' wm) (h8 : S1.l.length = 8) (x : Mg) (hx : x ∈ Q') (hok : x.k.ok) :
    Calls Tryz.prog 75 #[.pointer (some ⟨H1.q k, 0, none⟩), .agg #[.int .i64 x.k.t, .int .i64 x.k.f, .int .i64 x.k.s]] wm (RemAt H1 w1 (S1.put k { m with Q := rmQ Q' x.k })) := by
  have hg : (S1.put k { m with Q := Q' }).get k = { m with Q := Q' } := by rw [St.get_put S1 h8 k k hk, if_pos rfl]
  have hq := hb.turn.at_.que k hk
  rw [hg] at hq
  have hc := remove_call wm _ _ _ Q' hq x.k hok ⟨x, hx, rfl⟩
  rw [hb.q k] at hc
  refine hc.mono (fun e w' hp => ?_)
  obtain ⟨mm, hp⟩ := hp
  rw [← hb.q k] at hp
  obtain ⟨he, v', ht⟩ := Turn.queue hb.turn.at_ (by rw [St.put_l]; exact h8) hk hp
  rw [hg, put_put] at ht
  exact ⟨_, he, _, hb.turn.trans ht, fun g => (Sh.put_q H' k _ _ _ g).trans (hb.q g)⟩
theorem half_put0 (S : St) (p : Mg → Bool) (k : Nat) (hk : k < 8) : (S.backTo p k).put k { S.get k with Q := half p (S.get k).Q 0 } = S.backTo p k := by
  have hbg : (S.backTo p k).get k = S.get k := by rw [backTo_get S p k k hk, if_neg (by omega)]
  rw [half_zero, show ({ S.get k with Q := (S.get k).Q } : Mem) = (S.backTo p k).get k from hbg.symm, put_self _ (backTo_l8 S p k) k hk]
theorem half_putN (S : St) (p : Mg → Bool) (k : Nat) (hk : k < 8) : (S.backTo p k).put k { S.get k with Q := half p (S.get k).Q (S.get k).Q.length } = S.backTo p (k + 1) := by
  rw [half_all, backTo_put S p k hk]
theorem mg_ok {n : Nat} {m : Mg} (h : MgOk n m) : m.k.ok := by
  obtain ⟨h1, h2, h3, h4, h5, h6, _⟩ := h
  exact ⟨i64_of _ (by omega) (by omega), i64_of _ (by omega) (by omega), i64_of _ (by omega) (by omega)⟩
theorem all1 (w : World) (f : Int) (s : Nat) (b1 : Bool) (e1 : Int) (h : w.heap[s]? = some (.cells #[.bool b1, .int .i64 e1] 121 (0, 0))) :
    Calls Tryz.prog 67 #[.int .i64 f, .slice (some ⟨s, 0, none⟩) 1 1] w fun e w' => AllRes w f (firstNo [(b1, e1)]) e w' ∧ Below w.heap.size w w' :=
  all_call w f s 1 [(b1, e1)] (by simp) (by simp) (fun j hj => by
    obtain rfl : j = 0 := by simpa using hj
    simp [World.cell?, h])
theorem Below.refl_al (w : World) (o : Obj) : Below w.heap.size w (w.alloc o) := (Below.refl _ w).alloc (Nat.le_refl _) o
set_option maxHeartbeats 16000000 in
set_option maxRecDepth 100000 in
theorem retract_yes (w : World) (H : Sh) (S : St) {N : Int} (hR : RAt H w S) (ok : S.Ok N) (n : Nat) (hn : n < 8) (he : S.byE n = 0) (h : Int) :
    Calls Tryz.prog 28 #[.pointer (some ⟨H.r, 0, none⟩), .int .i64 n, .int .i64 h] w (MPost H w (.int .i64 (S.retract n h).1) (S.retract n h).2) := by
  have hre : S.retract n h = ((if fnd S (hasMsg n h) 8 then 0 else 209), S.backTo (hasMsg n h) 8) := by
    unfold St.retract
    rw [if_neg (fun z => z he), backTo_all S ok.l8]
    rfl
  have hby := by_yes w H S hR n he
  have hld := fun w1 (hb : Below w.heap.size w w1) => (hR.below hb).ld
  have hb0 := backTo_zero S ok.l8 (hasMsg n h)
  have hix := fun j hj => idx113 H S j hj
  have hpl : ∀ j, j < 8 → ∃ A c, H.pl j = .slice A (S.get j).P.length c := fun j hj => by
    obtain ⟨A, c, e⟩ := own_slice (hR.pla j hj)
    exact ⟨A, c, e⟩
  have HRE := Lib.hid hre
  have HBY := Lib.hid hby
  have HLD := Lib.hid hld
  have HB0 := Lib.hid hb0
  have HPL := Lib.hid hpl
  have HR := Lib.hid hR
  have OK := Lib.hid ok
  clear hre hby hld hb0 hR ok he hpl
  generalize hCC : allCells H S = CC at HLD hix
  have HIX := Lib.hid hix
  clear hCC hix
  have hu115 := Tryz.underlying115
  have hu112 := Tryz.underlying112
  have hu113 := Tryz.underlying113
  have hu41 := Tryz.underlying41
  have hu39 := Tryz.underlying39
  have hu29 := Tryz.underlying29
  have hu121 := Tryz.underlying121
  have hu193 := Tryz.underlying193
  go_enter Tryz.func28, Tryz.ntmps28
  have hmix : Tryz.prog.follows .mixedOrders = true := by kernel_rfl
  go_wp2_with (go_at_call 63; (with_reducible refine HBY.out.mono ?_); rintro e w1 ⟨rfl, hb1⟩; have HB1 := Lib.hid hb1; clear hb1)
  have aE := agg113
  obtain ⟨n80, hn80⟩ : ∃ n, n = 80 := ⟨80, rfl⟩
  have zE : ∀ w, (Go.sizeOf 113).run Tryz.prog w = .ok n80 w := fun w => by rw [hn80]; exact size113 w
  have ldE := HLD.out w1 HB1.out
  rw [← hn80] at ldE
  clear hn80
  rename_i K aK
  refine opwp_value (v := .agg CC.toArray) (w1 := w1) ?_ ?_
  · go_simp
  refine aK _ _ ?_
  simp only [Act.put, List.setIfInBounds_toArray, List.set_cons_zero, List.set_cons_succ]
  clear aK K aE zE ldE
  go_wp2
  go_loopw [8, 24] (fun v i wr => ∃ k : Nat, k ≤ 8 ∧ i = .int .i64 k ∧ v = .bool (fnd S (hasMsg n h) k) ∧ ∃ H', Behind H w (S.backTo (hasMsg n h) k) H' wr) (fun _ i _ => 8 - (RowKit.intOf i).toNat)
  case atStart => exact ⟨0, by omega, rfl, rfl, H, ⟨by rw [HB0.out]; exact (Turn.refl HR.out).below HB1.out, fun _ => rfl⟩⟩
  case round =>
    obtain ⟨k, hk, rfl, rfl, Hk, hbk⟩ := hrel
    by_cases hlt : k < 8
    · have hka : (k : Int) < 8 := by omega
      obtain ⟨PA, pc, hpl⟩ := HPL.out k hlt
      have hix := HIX.out k hlt
      unfold mcells at hix
      rw [hpl] at hix
      have hbg : (S.backTo (hasMsg n h) k).get k = S.get k := by rw [backTo_get S _ k k hlt, if_neg (by omega)]
      obtain ⟨W0, hW0⟩ : ∃ W0, W0 = wr.alloc (.cells #[.bool (S.get k).is, .bool (S.get k).con, .int .i64 (S.get k).time, .int .i64 (S.get k).look, .int .i64 (S.get k).kind, .int .i64 (S.get k).ask, .int .i64 (S.get k).sent, .pointer (some ⟨H.q k, 0, none⟩), .slice PA (S.get k).P.length pc, .int .u32 ((S.get k).subs : Nat)] 112) := ⟨_, rfl⟩
      have hb0 : Below wr.heap.size wr W0 := by rw [hW0]; exact (Below.refl _ _).alloc (Nat.le_refl _) _
      have hx := heap_alloc_new wr (.cells #[.bool (S.get k).is, .bool (S.get k).con, .int .i64 (S.get k).time, .int .i64 (S.get k).look, .int .i64 (S.get k).kind, .int .i64 (S.get k).ask, .int .i64 (S.get k).sent, .pointer (some ⟨H.q k, 0, none⟩), .slice PA (S.get k).P.length pc, .int .u32 ((S.get k).subs : Nat)] 112)
      rw [← hW0] at hx
      have hs0 : W0.heap.size = wr.heap.size + 1 := by rw [hW0]; simp
      have hbk0 := hbk.below hb0
      have hlc := list_call W0 (Hk.q k) (Hk.b k) (Hk.v k) _ (hbk0.turn.at_.que k hlt)
      rw [hbg, hbk.q k] at hlc
      have HQK := Lib.hid (hbk.q k)
      have hfr : ∀ g, wr.heap.size ≤ g → Hk.own g = 0 := fun g hg => hbk.turn.at_.fresh hg
      obtain ⟨bb, hbb⟩ : ∃ bb, bb = wr.heap.size := ⟨_, rfl⟩
      rw [← hbb] at hx
      have HW0 := Lib.hid hW0
      have HLC := Lib.hid hlc
      have HX := Lib.hid hx
      have HS0 := Lib.hid hs0
      have HBB := Lib.hid hbb
      have HBK0 := Lib.hid hbk0
      have HFR := Lib.hid hfr
      have HBG := Lib.hid hbg
      clear hW0 hlc hx hs0 hbb hb0 hbk hbk0 hfr hbg hpl
      go_wp2_with fail
      rw [← HW0.out, ← HBB.out]
      refine HLC.out.mono ?_
      rintro e w5 ⟨LA, lc, rfl, hl5, hb5⟩
      have hb5k := HBK0.out.below hb5
      have hx5 := (hb5.block bb (by have := HBB.out; have := HS0.out; omega)).trans HX.out
      have hown : ∀ g, (Value.slice LA (S.get k).Q.length lc).ownBlock = some g → Hk.own g = 0 := fun g hg => HFR.out g (by
        have h1 := own_base hl5 g hg
        have := HS0.out
        omega)
      have hbb0 : Hk.own bb = 0 := HFR.out bb (by have := HBB.out; omega)
      have HL5 := Lib.hid hl5
      have HB5K := Lib.hid hb5k
      have HX5 := Lib.hid hx5
      have HOWN := Lib.hid hown
      have HBB0 := Lib.hid hbb0
      have hql := (OK.out.m k).ql
      clear hix hl5 hb5 hb5k hx5 hown hbb0
      go_wp2
      obtain ⟨wo, hwo⟩ : ∃ wo, wo = wr := ⟨_, rfl⟩
      subst hwo
      go_loopw [8, 31] (fun v i wr => ∃ j : Nat, j ≤ (S.get k).Q.length ∧ i = .int .i64 j ∧ v = .bool (fnd S (hasMsg n h) k || fndQ (hasMsg n h) (S.get k).Q j) ∧ ∃ H', Behind Hk w5 ((S.backTo (hasMsg n h) k).put k { S.get k with Q := half (hasMsg n h) (S.get k).Q j }) H' wr) (fun _ i _ => (S.get k).Q.length - (RowKit.intOf i).toNat)
      case atStart => exact ⟨0, Nat.zero_le _, rfl, by simp [fndQ], Hk, ⟨by rw [half_put0 S _ k hlt]; exact Turn.refl HB5K.out.turn.at_, fun _ => rfl⟩⟩
      case round =>
        obtain ⟨j, hj, rfl, rfl, H', hbj⟩ := hrel
        by_cases hjl : j < (S.get k).Q.length
        · have hji : (j : Int) < ((S.get k).Q.length : Int) := by omega
          have hj0 : (0 : Int) ≤ (j : Int) := by omega
          obtain ⟨g, hg, e0, e1, e2, e3, e4, e5⟩ := row_m HL5.out j hjl
          subst hg
          have hg0 := HOWN.out g rfl
          have e0 := hbj.turn.tch.cell e0 (fun e => e hg0)
          have e1 := hbj.turn.tch.cell e1 (fun e => e hg0)
          have e2 := hbj.turn.tch.cell e2 (fun e => e hg0)
          have e3 := hbj.turn.tch.cell e3 (fun e => e hg0)
          have e4 := hbj.turn.tch.cell e4 (fun e => e hg0)
          have e5 := hbj.turn.tch.cell e5 (fun e => e hg0)
          have y7 : w5.cell? ⟨bb, 7, none⟩ = some (.pointer (some ⟨H.q k, 0, none⟩)) := by simp [World.cell?, HX5.out]
          have y7 := hbj.turn.tch.cell y7 (fun e => e HBB0.out)
          have hfq := fndQ_succ (hasMsg n h) (S.get k).Q j hjl
          have hkp := half_keep (hasMsg n h) (S.get k).Q j hjl
          have htk := half_take (OK.out.m k).srt j hjl (p := hasMsg n h)
          have hmm := half_mem (hasMsg n h) (S.get k).Q j hjl
          have hok := mg_ok ((OK.out.m k).q _ (List.getElem_mem hjl)).1
          obtain ⟨m, hm⟩ : ∃ m, m = (S.get k).Q[j] := ⟨_, rfl⟩
          rw [← hm] at e0 e1 e2 e3 e4 e5 hfq hkp htk hmm hok
          clear hm hg0
          have hrm := rem_at hlt (hbj.below (Below.refl_al wr (.cells #[.int .i64 m.k.t, .int .i64 m.k.f, .int .i64 m.k.s, .int .i64 m.d, .int .i64 m.cl, .int .i64 m.bd] 41))) (backTo_l8 S _ k) m hmm hok
          rw [HQK.out] at hrm
          have y7a := cell_al y7 (.cells #[.int .i64 m.k.t, .int .i64 m.k.f, .int .i64 m.k.s, .int .i64 m.d, .int .i64 m.cl, .int .i64 m.bd] 41)
          have hbj2 := hbj.below (Below.refl_al wr (.cells #[.int .i64 m.k.t, .int .i64 m.k.f, .int .i64 m.k.s, .int .i64 m.d, .int .i64 m.cl, .int .i64 m.bd] 41))
          clear hmm hok hbj
          obtain ⟨⟨mt, mf, ms⟩, md, mc, mb⟩ := m
          simp only at e0 e1 e2 e3 e4 e5 hrm y7a htk hbj2
          have HFQ := Lib.hid hfq
          have HKP := Lib.hid hkp
          have HTK := Lib.hid htk
          have HRM := Lib.hid hrm
          have HBJ2 := Lib.hid hbj2
          clear hfq hkp htk hrm hbj2
          by_cases h1 : mf = (n : Int)
          · subst h1
            by_cases h2 : ms = h
            · subst h2
              have hp : hasMsg n ms ⟨⟨mt, n, ms⟩, md, mc, mb⟩ = true := by simp [hasMsg]
              go_wp2_with (go_at_call 75; refine HRM.out.mono ?_; rintro e w6 ⟨v6, rfl, H6, hb6⟩; have HB6 := Lib.hid hb6; clear hb6)
              exact ⟨⟨j + 1, hjl, by go_num, by rw [HFQ.out, hp]; simp, H6, by rw [HTK.out hp]; exact HB6.out⟩, by simp [RowKit.intOf]; omega⟩
            · have hp : hasMsg n h ⟨⟨mt, n, ms⟩, md, mc, mb⟩ = false := by simp [hasMsg, h2]
              have HP := Lib.hid hp
              clear hp HRM
              go_wp2
              exact ⟨⟨j + 1, hjl, by go_num, by rw [HFQ.out, HP.out]; simp, H', by rw [HKP.out HP.out]; exact HBJ2.out⟩, by simp [RowKit.intOf]; omega⟩
          · have hp : hasMsg n h ⟨⟨mt, mf, ms⟩, md, mc, mb⟩ = false := by simp [hasMsg, h1]
            have HP := Lib.hid hp
            clear hp HRM
            go_wp2
            exact ⟨⟨j + 1, hjl, by go_num, by rw [HFQ.out, HP.out]; simp, H', by rw [HKP.out HP.out]; exact HBJ2.out⟩, by simp [RowKit.intOf]; omega⟩
        · obtain rfl : j = (S.get k).Q.length := by omega
          have hji : ¬ ((S.get k).Q.length : Int) < ((S.get k).Q.length : Int) := by omega
          have HBJ := Lib.hid hbj
          clear hbj
          go_wp2
          refine ⟨⟨k + 1, by omega, by go_num, by rw [fnd_succ, ← fndQ_all], H', ?_⟩, by simp [RowKit.intOf]; omega⟩
          have h1 := HBJ.out
          rw [half_putN S _ k hlt] at h1
          exact HB5K.out.trans h1
    · obtain rfl : k = 8 := by omega
      have hka : ¬ (8 : Int) < 8 := by omega
      have hall := all1 (wr.alloc (.cells #[.bool (fnd S (hasMsg n h) 8), .int .i64 209] 121)) n wr.heap.size (fnd S (hasMsg n h) 8) 209 (heap_alloc_new wr _)
      have HRE2 := Lib.hid HRE.out
      have HALL := Lib.hid hall
      have HBK := Lib.hid hbk
      clear hall hbk
      generalize fnd S (hasMsg n h) 8 = fd at HRE2 HALL ⊢
      go_wp2_with (go_at_call 67; refine HALL.out.mono ?_; rintro e w6 ⟨hr6, hb6⟩; obtain ⟨v6, rfl, hr6⟩ := hr6.ret; have HR6 := Lib.hid hr6; have HB6 := Lib.hid hb6; clear hr6 hb6)
      have hb7 := (HBK.out.below (Below.refl_al wr _)).below HB6.out
      have her := errno_call w6 _ hb7.turn.at_.env n (firstNo [(fd, 209)]) v6 HR6.out (by cases fd <;> simp [firstNo])
      have HER := Lib.hid her
      have HB7 := Lib.hid hb7
      clear her hb7
      go_wp2_with (go_at_call 64; refine HER.out.mono ?_; rintro e w7 ⟨rfl, hb7⟩)
      go_ret
      rw [HRE2.out]
      have e : (firstNo [(fd, (209 : Int))]).getD 0 = if fd then 0 else 209 := by cases fd <;> rfl
      rw [e]
      exact (HB7.out.below hb7).turn.mpost _
end Go.Proofs.YtehnkebcbomidaaGreatDoor.Rt
