/- Part of a proof over the given program: Paq1, Pbq1, Hpq1, Hqq1, Qx, Qz, Erq1, Boq1, Ph. -/
import Derived.Test.YtehnkebcbomidaaGreatDoorCb24
set_option linter.unusedVariables false
set_option linter.unusedSimpArgs false
section
namespace Go.Proofs.YtehnkebcbomidaaGreatDoor.Rt
def hasMsg (f h : Int) (m : Mg) : Bool := decide (m.k.f = f ∧ m.k.s = h)
def St.retract (S : St) (f h : Int) : Int × St :=
  if S.byE f ≠ 0 then (S.byE f, S)
  else (if (List.range 8).any (fun g => (S.get g).Q.any (hasMsg f h)) then 0 else 209, { S with l := S.l.map fun m => { m with Q := m.Q.filter fun x => !hasMsg f h x } })
end Go.Proofs.YtehnkebcbomidaaGreatDoor.Rt
end
section
namespace Go.Proofs.YtehnkebcbomidaaGreatDoor.Rt
theorem get_map (S : St) (F : Mem → Mem) (hF : F {} = {}) (g : Nat) : ({ S with l := S.l.map F } : St).get g = F (S.get g) := by
  unfold St.get
  simp only [List.getD_eq_getElem?_getD, List.getElem?_map]
  cases S.l[g]? with
  | none => simp [hF]
  | some x => rfl
theorem Ok.retract {N : Int} {S : St} (h : S.Ok N) (f k : Int) : (S.retract f k).2.Ok N := by
  unfold St.retract
  split
  · exact h
  · have hg := get_map S (fun m => { m with Q := m.Q.filter fun x => !hasMsg f k x }) rfl
    refine ⟨h.n1, by simp [h.l8], h.p8, h.al, h.a0, h.a1, h.ab, h.pb, fun g => ?_, fun g x => ?_, fun g x => ?_, fun g => ?_⟩
    · rw [hg]
      have hm := h.m g
      refine ⟨hm.t0, hm.t1, hm.l0, hm.l1, hm.k0, hm.k1, hm.a0, hm.a1, hm.s0, hm.s1, List.Pairwise.sublist List.filter_sublist hm.srt, (fun x hx => hm.q x (List.mem_filter.1 hx).1), hm.p, Nat.le_trans (List.length_filter_le _ _) hm.ql, hm.pl, hm.su, hm.kask, hm.kno, (fun e => by have := hm.qno e; simp [this]), fun e => ?_⟩
      have := hm.out e
      generalize S.get g = M at this
      simp only at e
      rw [this]
      simp
    · rw [hg, hg]
      intro hx
      exact h.q1 g x (List.mem_filter.1 hx).1
    · rw [hg, hg]
      exact h.p1 g x
    · rw [hg]
      exact h.pno g
theorem dec_bounds {kind ask time bound : Int} {q : List Int} (h : (dec kind ask time bound q).1 = true) (h0 : 0 ≤ time) (h1 : time ≤ 1099511627776) (h2 : time ≤ ask) (h3 : ask ≤ 1099511627776) :
    kind ≠ 0 ∧ time ≤ (dec kind ask time bound q).2.1 ∧ (dec kind ask time bound q).2.1 ≤ ask ∧ (dec kind ask time bound q).2.2 ≤ q.length := by
  unfold dec at h ⊢
  by_cases k1 : kind = 1
  · simp only [if_pos k1] at h ⊢
    split at h
    · rename_i c; simp only [if_pos c]; exact ⟨by omega, h2, Int.le_refl _, upN_le _ _⟩
    · cases h
  · simp only [if_neg k1] at h ⊢
    by_cases k2 : kind = 2
    · simp only [if_pos k2] at h ⊢
      split at h
      · rename_i c
        simp only [if_pos c]
        split at h
        · rename_i d; simp only [if_pos d]; exact ⟨by omega, by omega, by omega, upN_le _ _⟩
        · cases h
      · rename_i c
        simp only [if_neg c]
        split at h
        · rename_i d; simp only [if_pos d]; exact ⟨by omega, h2, Int.le_refl _, Nat.zero_le _⟩
        · cases h
    · simp only [if_neg k2] at h ⊢
      split at h
      · rename_i c
        simp only [if_pos c]
        refine ⟨by omega, by omega, ?_, Nat.le_refl _⟩
        split <;> omega
      · cases h
theorem Ok.look {N : Int} {S : St} (h : S.Ok N) (f : Int) : (S.look f).2.2.Ok N := by
  unfold St.look
  split
  · exact h
  · rename_i h1
    obtain ⟨h2, h3, hf, h4, h5⟩ := byE_zero (Classical.not_not.1 h1)
    have hm := h.m f.toNat
    simp only
    split
    · exact Ok.put' h hf _ ⟨hm.t0, hm.t1, hm.l0, hm.l1, hm.k0, hm.k1, hm.a0, hm.a1, hm.s0, hm.s1, hm.srt, hm.q, (fun x hx => by cases hx), hm.ql, by simp, hm.su, hm.kask, hm.kno, hm.qno, fun e => by rw [h4] at e; cases e⟩ rfl (fun x hx => hx) (fun x hx => by cases hx) (fun e => by rw [h4] at e; cases e)
    · rename_i hg
      have hg : (S.grant f.toNat).1 = true := by simpa using hg
      have hk0 := hm.k0
      have hk : (S.get f.toNat).kind > 0 := by
        unfold St.grant dec at hg
        by_cases c : (S.get f.toNat).kind = 0
        · simp [c] at hg
        · omega
      unfold St.grant at hg ⊢
      obtain ⟨d1, d2, d3, d4⟩ := dec_bounds hg hm.t0 hm.t1 (hm.kask hk) hm.a1
      have := hm.t0
      have := hm.a1
      refine Ok.put' h hf _ ⟨by show 0 ≤ (dec _ _ _ _ _).2.1; omega, by show (dec _ _ _ _ _).2.1 ≤ 1099511627776; omega, hm.l0, hm.l1, by simp, by simp, by simp, by simp, hm.s0, hm.s1, List.Pairwise.sublist (List.drop_sublist _ _) hm.srt, (fun x hx => hm.q x (List.mem_of_mem_drop hx)), (fun x hx => by cases hx), by simp; have := hm.ql; omega, by simp, hm.su, by simp, by simp, (fun e => by have := hm.qno e; simp [this]), fun e => by rw [h4] at e; cases e⟩ rfl (fun x hx => List.mem_of_mem_drop hx) (fun x hx => by cases hx) (fun e => by rw [h4] at e; cases e)
end Go.Proofs.YtehnkebcbomidaaGreatDoor.Rt
end
section
namespace Go.Proofs.YtehnkebcbomidaaGreatDoor.Rt
theorem downF_ge (n : Nat) : ∀ (m : Nat) (L : List Mg) (i : Nat), i ≤ (downF n m L i).2 := by
  intro m
  induction m with
  | zero => intro L i; exact Nat.le_refl _
  | succ m ih =>
    intro L i
    unfold downF
    split
    · exact Nat.le_refl _
    · split
      · have := ih (sw L i (childF L n i)) (childF L n i)
        have : childF L n i = 2 * i + 1 ∨ childF L n i = 2 * i + 2 := by unfold childF; split <;> simp
        omega
      · exact Nat.le_refl _
theorem upF_high (n : Nat) : ∀ (m : Nat) (L : List Mg) (j : Nat), n ≤ L.length → j < n → ∀ x, n ≤ x → (upF m L j).getD x mg0 = L.getD x mg0 := by
  intro m
  induction m with
  | zero => intro L i _ _ x _; rfl
  | succ m ih =>
    intro L j hn hj x hx
    unfold upF
    split
    · rfl
    · split
      · rw [ih _ _ (by rw [sw_length]; exact hn) (by omega) x hx, sw_getD L _ _ x (by omega) (by omega), if_neg (by omega), if_neg (by omega)]
      · rfl
def fixF (n : Nat) (L : List Mg) (i : Nat) : List Mg := if (downF n n L i).2 > i then (downF n n L i).1 else upF (i + 1) (downF n n L i).1 i
theorem fixF_spec (n : Nat) (L : List Mg) (i : Nat) (hi : i < n) (hn : n ≤ L.length) (ok : ∀ k, 0 < k → k < n → k ≠ i → (k - 1) / 2 ≠ i → ¬ (K L k).lt (K L ((k - 1) / 2))) (gr : ∀ k, 0 < k → k < n → (k - 1) / 2 = i → 0 < i → ¬ (K L k).lt (K L ((i - 1) / 2))) : HeapOk (fixF n L i) n ∧ (fixF n L i).Perm L := by
  unfold fixF
  obtain ⟨m, rfl⟩ : ∃ m, n = m + 1 := ⟨n - 1, by omega⟩
  by_cases c : m + 1 ≤ 2 * i + 1
  · have e : downF (m + 1) (m + 1) L i = (L, i) := by unfold downF; rw [if_pos c]
    rw [e, if_neg (by omega)]
    exact upF_spec (m + 1) (i + 1) L i (by omega) hi hn ⟨fun k h0 hk hki => ok k h0 hk hki (by omega), gr⟩
  · obtain ⟨c1, c2, c3⟩ := child_spec L (m + 1) i (by omega)
    by_cases d : (K L (childF L (m + 1) i)).lt (K L i)
    · have e : downF (m + 1) (m + 1) L i = downF (m + 1) m (sw L i (childF L (m + 1) i)) (childF L (m + 1) i) := by rw [downF, if_neg c, if_pos d]
      have hge := downF_ge (m + 1) m (sw L i (childF L (m + 1) i)) (childF L (m + 1) i)
      rw [e, if_pos (by omega)]
      have hinv := down_step L (m + 1) i hn (by omega) d ok gr
      obtain ⟨r1, r2⟩ := downF_spec (m + 1) m _ _ (by omega) (by rw [sw_length]; exact hn) hinv
      exact ⟨r1, r2.trans (sw_perm L _ _ (by omega) (by omega))⟩
    · have e : downF (m + 1) (m + 1) L i = (L, i) := by rw [downF, if_neg c, if_neg d]
      rw [e, if_neg (by omega)]
      refine upF_spec (m + 1) (i + 1) L i (by omega) hi hn ⟨fun k h0 hk hki => ?_, gr⟩
      by_cases e2 : (k - 1) / 2 = i
      · rw [e2]; exact le_trans' d (c3 k h0 hk e2)
      · exact ok k h0 hk hki e2
end Go.Proofs.YtehnkebcbomidaaGreatDoor.Rt
end
section
namespace Go.Proofs.YtehnkebcbomidaaGreatDoor.Rt
def remT (L : List Mg) (i : Nat) : List Mg := if L.length - 1 = i then L else fixF (L.length - 1) (sw L i (L.length - 1)) i
def remL (L : List Mg) (i : Nat) : List Mg := (remT L i).take (L.length - 1)
theorem fixF_length (n : Nat) (L : List Mg) (i : Nat) : (fixF n L i).length = L.length := by
  unfold fixF
  split
  · exact downF_length _ _ _ _
  · rw [upF_length, downF_length]
theorem fixF_high (n : Nat) (L : List Mg) (i : Nat) (hn : n ≤ L.length) (hi : i < n) (x : Nat) (hx : n ≤ x) : (fixF n L i).getD x mg0 = L.getD x mg0 := by
  unfold fixF
  split
  · exact downF_high n _ L i hn hi x hx
  · rw [upF_high n _ _ i (by rw [downF_length]; exact hn) hi x hx]
    exact downF_high n _ L i hn hi x hx
theorem remT_length (L : List Mg) (i : Nat) : (remT L i).length = L.length := by
  unfold remT
  split
  · rfl
  · rw [fixF_length, sw_length]
def rmQ (Q : List Mg) (k : Ky) : List Mg := Q.filter fun x => decide (x.k ≠ k)
theorem QH.remove {L Q : List Mg} (h : QH L Q) (i : Nat) (hi : i < L.length) : QH (remL L i) (rmQ Q (K L i)) ∧ (remT L i).getD (L.length - 1) mg0 = L.getD i mg0 := by
  have main : HeapOk (remT L i) (L.length - 1) ∧ (remT L i).Perm L ∧ (remT L i).getD (L.length - 1) mg0 = L.getD i mg0 := by
    unfold remT
    by_cases c : L.length - 1 = i
    · rw [if_pos c]
      exact ⟨fun k k0 hk => h.heap k k0 (by omega), List.Perm.refl _, by rw [c]⟩
    · rw [if_neg c]
      have hK := fun x => sw_K L i (L.length - 1) x hi (by omega)
      have hsl := sw_length L i (L.length - 1)
      obtain ⟨r1, r2⟩ := fixF_spec (L.length - 1) (sw L i (L.length - 1)) i (by omega) (by omega) (fun k k0 hk hki hp => by
          rw [hK, hK, if_neg (by omega), if_neg hki, if_neg (by omega), if_neg hp]
          exact h.heap k k0 (by omega)) (fun k k0 hk hp hi0 => by
          rw [hK, hK, if_neg (by omega), if_neg (by omega), if_neg (by omega), if_neg (by omega)]
          have h1 := h.heap k k0 (by omega)
          rw [hp] at h1
          exact le_trans' (h.heap i hi0 (by omega)) h1)
      exact ⟨r1, r2.trans (sw_perm L _ _ hi (by omega)), by rw [fixF_high _ _ _ (by omega) (by omega) _ (Nat.le_refl _), sw_getD L _ _ _ hi (by omega), if_pos rfl]⟩
  obtain ⟨m1, m2, m3⟩ := main
  have hrl := remT_length L i
  refine ⟨⟨heap_take m1 (by omega), ?_, List.Pairwise.sublist List.filter_sublist h.srt⟩, m3⟩
  have e := take_last (remT L i) (L.length - 1) (by omega)
  rw [m3] at e
  have hp : (remL L i ++ [L.getD i mg0]).Perm Q := by unfold remL; rw [← e]; exact m2.trans h.perm
  have hnd : ((remL L i ++ [L.getD i mg0]).map Mg.k).Nodup := (hp.map Mg.k).nodup_iff.2 (srt_nodup h.srt)
  have hf := hp.filter (fun x => decide (x.k ≠ K L i))
  rw [List.filter_append] at hf
  have e1 : [L.getD i mg0].filter (fun x => decide (x.k ≠ K L i)) = [] := by simp [K]
  have e2 : (remL L i).filter (fun x => decide (x.k ≠ K L i)) = remL L i := by
    rw [List.filter_eq_self]
    intro x hx
    rw [List.map_append, List.nodup_append] at hnd
    have := hnd.2.2 x.k (List.mem_map_of_mem hx) (K L i) (by simp [K])
    simpa using this
  rw [e1, e2, List.append_nil] at hf
  exact hf
end Go.Proofs.YtehnkebcbomidaaGreatDoor.Rt
end
namespace Go.Proofs.YtehnkebcbomidaaGreatDoor.Rt
open Go Go.RowKit Go.Proofs Go.Proofs.YtehnkebcbomidaaGreatDoorW.PrintWords Go.Proofs.YtehnkebcbomidaaGreatDoorW.PrintLast
theorem down_bool (w : World) (q b : Nat) (v : Value) (L : List Mg) (h : QAt w q b v L) (x y : Int) (i n : Nat) (hx : x = i) (hy : y = n) (hi : i ≤ n) (hn : n ≤ L.length) (r : Bool) (hr : decide ((downF n n L i).2 > i) = r) :
    Calls Tryz.prog 211 #[.iface 200 (.agg #[.pointer (some ⟨q, 0, none⟩)]), .int .i64 x, .int .i64 y] w fun e w' => e = .returned (.bool r) ∧ QAt w' q b v (downF n n L i).1 ∧ Tch (QFp q b v) w w' := by
  subst hx hy
  refine (down_call w q b v L h i n hi hn).mono ?_
  rintro e w' ⟨h1, h2⟩
  rw [hr] at h1
  exact ⟨h1, h2⟩
set_option maxHeartbeats 8000000 in
theorem hrem_call (w : World) (q b : Nat) (v : Value) (L : List Mg) (h : QAt w q b v L) (i : Nat) (hi : i < L.length) :
    Calls Tryz.prog 149 #[.iface 200 (fac q), .int .i64 i] w (QPost w q b v (remL L i) (.iface 41 ((remT L i).getD (L.length - 1) mg0).val)) := by
  have hlen := h.len
  have HQ := Lib.hid h
  unfold fac
  obtain ⟨n, hn⟩ : ∃ n, L.length = n + 1 := ⟨L.length - 1, by omega⟩
  have HN := Lib.hid hn
  have HI := Lib.hid hi
  clear h
  have hn64 : (n : Int) ≤ 64 := by omega
  have hn0 : (0 : Int) ≤ (n : Int) := by omega
  have tail : ∀ w3, QAt w3 q b v (remT L i) → Tch (QFp q b v) w w3 → Calls Tryz.prog 328 #[.agg #[.pointer (some ⟨q, 0, none⟩)]] w3 (QPost w q b v (remL L i) (.iface 41 ((remT L i).getD (L.length - 1) mg0).val)) := fun w3 hq3 ht3 => by
    have e1 := take_last (remT L i) (L.length - 1) (by rw [remT_length]; omega)
    rw [e1] at hq3
    refine (fpop_call w3 q b v (remL L i) _ hq3).mono ?_
    rintro e w4 ⟨v4, rfl, hq4, ho4, ht4⟩
    exact ⟨v4, rfl, hq4, fun k hk => .inl (by rw [← ho4]; exact hk), ht3.trans ht4 (fun _ _ e => e)⟩
  have TAIL := Lib.hid tail
  clear tail hn hlen hi
  by_cases c : n = i
  · subst c
    have hrt : remT L n = L := by unfold remT; rw [if_pos (by rw [HN.out]; rfl)]
    have HRT := Lib.hid hrt
    clear hrt
    go_enter Tryz.func149, Tryz.ntmps149
    go_wp2_with (go_at_call 326; (with_reducible refine (flen_any _ q b v L HQ.out ((n : Int) + 1) (by rw [HN.out]; simp)).mono ?_); rintro e w1 ⟨rfl, hb1⟩)
    have hp := TAIL.out w1 (by rw [HRT.out]; exact HQ.out.below hb1) (Tch.of_below hb1)
    have HP := Lib.hid hp
    clear hp hb1
    go_wp2_with (go_at_call 328; (with_reducible refine HP.out.mono ?_); rintro e w4 ⟨v4, rfl, hq4⟩)
    go_ret
    exact ⟨v4, rfl, hq4⟩
  · have hne : ¬ (n : Int) = (i : Int) := by omega
    have hrt : remT L i = fixF n (sw L i n) i := by unfold remT; rw [HN.out, if_neg (by simpa using c)]; rfl
    have HRT := Lib.hid hrt
    have hin : i < n := by have := HI.out; have := HN.out; omega
    have HIN := Lib.hid hin
    clear hrt c hin
    obtain ⟨r, hr⟩ : ∃ r : Bool, decide ((downF n n (sw L i n) i).2 > i) = r := ⟨_, rfl⟩
    have HR := Lib.hid hr
    clear hr
    cases r with
    | true =>
      go_enter Tryz.func149, Tryz.ntmps149
      go_wp2_with (go_at_call 326; (with_reducible refine (flen_any _ q b v L HQ.out ((n : Int) + 1) (by rw [HN.out]; simp)).mono ?_); rintro e w1 ⟨rfl, hb1⟩)
      have HB1 := Lib.hid hb1
      clear hb1
      go_wp2_with (go_at_call 330; (with_reducible refine (swap_any _ q b v L (HQ.out.below HB1.out) _ _ i n (by omega) (by omega) (by have := HI.out; omega) (by have := HN.out; omega)).mono ?_); rintro e w2 ⟨rfl, hq2, ht2⟩)
      have HQ2 := Lib.hid hq2
      have HT2 := Lib.hid ht2
      clear hq2 ht2
      go_wp2_with (go_at_call 211; (with_reducible refine (down_bool _ q b v (sw L i n) HQ2.out _ _ i n (by omega) (by omega) (by have := HIN.out; omega) (by rw [sw_length]; have := HN.out; omega) true HR.out).mono ?_); rintro e w3 ⟨rfl, hq3, ht3⟩)
      have hp := TAIL.out w3 (by rw [HRT.out]; unfold fixF; rw [if_pos (of_decide_eq_true HR.out)]; exact hq3) (((Tch.of_below HB1.out).trans HT2.out (fun _ _ e => e)).trans ht3 (fun _ _ e => e))
      have HP := Lib.hid hp
      clear hp hq3 ht3
      go_wp2_with (go_at_call 328; (with_reducible refine HP.out.mono ?_); rintro e w4 ⟨v4, rfl, hq4⟩)
      go_ret
      exact ⟨v4, rfl, hq4⟩
    | false =>
      go_enter Tryz.func149, Tryz.ntmps149
      go_wp2_with (go_at_call 326; (with_reducible refine (flen_any _ q b v L HQ.out ((n : Int) + 1) (by rw [HN.out]; simp)).mono ?_); rintro e w1 ⟨rfl, hb1⟩)
      have HB1 := Lib.hid hb1
      clear hb1
      go_wp2_with (go_at_call 330; (with_reducible refine (swap_any _ q b v L (HQ.out.below HB1.out) _ _ i n (by omega) (by omega) (by have := HI.out; omega) (by have := HN.out; omega)).mono ?_); rintro e w2 ⟨rfl, hq2, ht2⟩)
      have HQ2 := Lib.hid hq2
      have HT2 := Lib.hid ht2
      clear hq2 ht2
      go_wp2_with (go_at_call 211; (with_reducible refine (down_bool _ q b v (sw L i n) HQ2.out _ _ i n (by omega) (by omega) (by have := HIN.out; omega) (by rw [sw_length]; have := HN.out; omega) false HR.out).mono ?_); rintro e w3 ⟨rfl, hq3, ht3⟩)
      have HQ3 := Lib.hid hq3
      have HT3 := Lib.hid ht3
      clear hq3 ht3
      go_wp2_with (go_at_call 204; (with_reducible refine (up_any _ q b v (downF n n (sw L i n) i).1 HQ3.out _ i (by omega) (by rw [downF_length, sw_length]; exact HI.out)).mono ?_); rintro e w5 ⟨rfl, hq5, ht5⟩)
      have hp := TAIL.out w5 (by rw [HRT.out]; unfold fixF; rw [if_neg (of_decide_eq_false HR.out)]; exact hq5) ((((Tch.of_below HB1.out).trans HT2.out (fun _ _ e => e)).trans HT3.out (fun _ _ e => e)).trans ht5 (fun _ _ e => e))
      have HP := Lib.hid hp
      clear hp hq5 ht5
      go_wp2_with (go_at_call 328; (with_reducible refine HP.out.mono ?_); rintro e w4 ⟨v4, rfl, hq4⟩)
      go_ret
      exact ⟨v4, rfl, hq4⟩
def RemPost (w : World) (q b : Nat) (v : Value) (Q : List Mg) (e : Ending) (w' : World) : Prop := ∃ m : Mg, QInPost w q b v Q (.tuple #[m.val, .bool true]) e w'
set_option maxHeartbeats 8000000 in
set_option maxRecDepth 100000 in
theorem remove_call (w : World) (q b : Nat) (v : Value) (Q : List Mg) (h : QIn w q b v Q) (k : Ky) (hk : k.ok) (hin : ∃ m ∈ Q, m.k = k) :
    Calls Tryz.prog 75 #[.pointer (some ⟨q, 0, none⟩), k.val] w (RemPost w q b v (rmQ Q k)) := by
  obtain ⟨L, hq, hh⟩ := h
  have hll := hh.len
  obtain ⟨i, hi, hik⟩ : ∃ i, i < L.length ∧ K L i = k := by
    obtain ⟨m, hm, hmk⟩ := hin
    obtain ⟨i, hi, e⟩ := List.getElem_of_mem (hh.perm.mem_iff.2 hm)
    exact ⟨i, hi, by rw [K_at hi, e, hmk]⟩
  have hidn : idx L k = some i := (idx_iff hq.nd k i).2 ⟨hi, hik⟩
  obtain ⟨h1, h2⟩ := hh.remove i hi
  rw [hik] at h1
  obtain ⟨c0, c1, c2⟩ := hq.cells
  obtain ⟨A, c, rfl, hc⟩ := hq.form
  have hql : q < w.heap.size := World.block_lt_of_cell? w _ c1
  have hlen := hq.len
  have hu192 := Tryz.underlying192
  have hu200 := Tryz.underlying200
  have hu29 := Tryz.underlying29
  have hu41 := Tryz.underlying41
  have hu39 := Tryz.underlying39
  have hu190 := Tryz.underlying190
  have hinf := info41
  have has := as41
  obtain ⟨W, hW⟩ : ∃ W1, W1 = (w.alloc (Obj.cells #[.int .i64 k.t, .int .i64 k.f, .int .i64 k.s] 39)).alloc (Obj.cells #[.int .i64 0, .int .i64 0, .int .i64 0, .int .i64 0, .int .i64 0, .int .i64 0] 41) := ⟨_, rfl⟩
  obtain ⟨bx, hbx⟩ : ∃ bx, bx = w.heap.size := ⟨_, rfl⟩
  have hB1 : Below w.heap.size w W := by rw [hW]; exact ((Below.refl _ _).alloc (Nat.le_refl _) _).alloc (by simp) _
  have hkb : (w.alloc (Obj.cells #[.int .i64 k.t, .int .i64 k.f, .int .i64 k.s] 39)).heap[bx]? = some (Obj.cells #[.int .i64 k.t, .int .i64 k.f, .int .i64 k.s] 39) := by rw [hbx]; exact heap_alloc_new _ _
  have y0 : W.cell? ⟨bx, 0, none⟩ = some (.int .i64 k.t) := by rw [hW]; exact cell_al (by simp [World.cell?, hkb]) _
  have y1 : W.cell? ⟨bx, 1, none⟩ = some (.int .i64 k.f) := by rw [hW]; exact cell_al (by simp [World.cell?, hkb]) _
  have y2 : W.cell? ⟨bx, 2, none⟩ = some (.int .i64 k.s) := by rw [hW]; exact cell_al (by simp [World.cell?, hkb]) _
  have hblk0 : W.heap[bx + 1]? = some (.cells #[.int .i64 0, .int .i64 0, .int .i64 0, .int .i64 0, .int .i64 0, .int .i64 0] 41 (0, 0)) := by
    have := heap_alloc_new (w.alloc (Obj.cells #[.int .i64 k.t, .int .i64 k.f, .int .i64 k.s] 39)) (Obj.cells #[.int .i64 0, .int .i64 0, .int .i64 0, .int .i64 0, .int .i64 0, .int .i64 0] 41)
    rw [World.size_alloc, ← hW, ← hbx] at this
    exact this
  have c2' := pw_cell_below hB1 c2
  have hqW := hq.below hB1
  obtain ⟨cc, hk0, hcc⟩ := map_look' hqW.map k hk
  obtain rfl := hcc i hidn
  have hkk := fun n => hk0 (W.drewN n) rfl
  rw [hidn] at hkk
  have hp := fun n => hrem_call (W.drewN n) q b (.slice A L.length c) L (hqW.frame (fun _ _ _ => rfl)) i hi
  rw [h2] at hp
  generalize L.getD i mg0 = mr at hp
  have hnq : ∀ j, bx ≤ j → ¬ QFp q b (.slice A L.length c) j := fun j hj e => by
    rcases e with e | e | e
    · rw [e, hbx] at hj; omega
    · obtain ⟨D, ⟨es, clock, h1, _⟩, _⟩ := hq.map
      have := (Array.getElem?_eq_some_iff.1 h1).1
      omega
    · have := own_lt hq.row j e
      omega
  unfold fac Mg.val at hp
  unfold Ky.val at *
  have HW := Lib.hid hW
  have HBX := Lib.hid hbx
  have HB1 := Lib.hid hB1
  have HQW := Lib.hid hqW
  have HID := Lib.hid hidn
  have HP := Lib.hid hp
  have HQ := Lib.hid hq
  have HH := Lib.hid hh
  have H1 := Lib.hid h1
  have H2 := Lib.hid h2
  have HLL := Lib.hid hll
  have HIK := Lib.hid hik
  have HB0 := Lib.hid hblk0
  have HNQ := Lib.hid hnq
  have HKB := Lib.hid hkb
  have HIN := Lib.hid hin
  have HKY := Lib.hid hk
  clear hW hbx hB1 hqW hidn hp hq hh h1 h2 hll hik hblk0 hnq hkb hin hk
  clear hk0 c0 c1 c2 hcc
  go_enter Tryz.func75, Tryz.ntmps75
  have hmix : Tryz.prog.follows .mixedOrders = true := by kernel_rfl
  go_wp2
  rw [← HW.out, ← HBX.out]
  go_quiet (fail)
  go_wp2_with fail
  (with_reducible refine (HP.out _).mono ?_)
  rintro e w1 ⟨v1, rfl, hq1, ho1, ht1⟩
  have hblk1 := (ht1.block (bx + 1) (Array.getElem?_eq_some_iff.1 HB0.out).1 (HNQ.out _ (by omega))).trans HB0.out
  have z0 : w1.cell? ⟨bx + 1, 0, none⟩ = some (.int .i64 0) := by simp [World.cell?, hblk1]
  have z1 : w1.cell? ⟨bx + 1, 1, none⟩ = some (.int .i64 0) := by simp [World.cell?, hblk1]
  have z2 : w1.cell? ⟨bx + 1, 2, none⟩ = some (.int .i64 0) := by simp [World.cell?, hblk1]
  have z3 : w1.cell? ⟨bx + 1, 3, none⟩ = some (.int .i64 0) := by simp [World.cell?, hblk1]
  have z4 : w1.cell? ⟨bx + 1, 4, none⟩ = some (.int .i64 0) := by simp [World.cell?, hblk1]
  have z5 : w1.cell? ⟨bx + 1, 5, none⟩ = some (.int .i64 0) := by simp [World.cell?, hblk1]
  have f0 : ∀ j, w1.frozen? ⟨bx + 1, j, none⟩ = false := fun j => by simp [World.frozen?, hblk1]
  have g0 := f0 0
  have g1 := f0 1
  have g2 := f0 2
  have g3 := f0 3
  have g4 := f0 4
  have g5 := f0 5
  have hno : ∀ k, v1.ownBlock = some k → k ≠ bx + 1 := fun k hk => by
    have hs : bx + 1 < W.heap.size := (Array.getElem?_eq_some_iff.1 HB0.out).1
    rcases ho1 k hk with e | e
    · have := own_lt HQ.out.row k e
      have := HBX.out
      omega
    · have e : W.heap.size ≤ k := e
      omega
  have HBK := Lib.hid hblk1
  have HQ1 := Lib.hid hq1
  have HO1 := Lib.hid ho1
  have HT1 := Lib.hid ht1
  have HNO := Lib.hid hno
  clear hblk1 hq1 ho1 ht1 hno
  clear f0
  go_wp2
  refine bodyPost_ret (results_ct rfl _ _ (bx + 1) 41 _ (0, 0) _ rfl (put6 HBK.out _ _ _ _ _ _) hu41 rfl (by rw [hinf]; rfl)) rfl ?_
  have ht6 := tch6 w1 (bx + 1) (.int .i64 mr.k.t) (.int .i64 mr.k.f) (.int .i64 mr.k.s) (.int .i64 mr.d) (.int .i64 mr.cl) (.int .i64 mr.bd)
  refine ⟨mr, v1, rfl, ⟨_, HQ1.out.frame (fun k hk hf => ht6.block k hk (fun e => ?_)), H1.out⟩, fun k hk => ?_, ?_⟩
  · subst e
    rcases hf with e | e | e
    · have := HBX.out; omega
    · obtain ⟨D, ⟨es, clock, h1, _⟩, _⟩ := HQ.out.map
      have := (Array.getElem?_eq_some_iff.1 h1).1
      have := HBX.out
      omega
    · exact HNO.out _ e rfl
  · rcases HO1.out k hk with e | e
    · exact .inl e
    · have e : W.heap.size ≤ k := e
      have := HB1.out.size
      exact .inr (by omega)
  · refine (((Tch.of_below HB1.out).drewN _).trans HT1.out (fun _ _ e => e)).trans ht6 (fun k hk e => ?_)
    have := HBX.out
    omega
set_option maxHeartbeats 2000000 in
theorem as_nil (x : Value) (w : World) : Calls Tryz.prog 132 #[.nilIface, x] w fun e w' => e = .returned (.bool false) ∧ w' = w := by
  have hu104 := Tryz.underlying104
  go_enter Tryz.func132, Tryz.ntmps132
  go_wp2
  go_ret
  exact ⟨rfl, rfl⟩
set_option maxHeartbeats 2000000 in
theorem errno_nil (w : World) : Calls Tryz.prog 64 #[.nilIface] w fun e w' => e = .returned (.int .i64 0) ∧ Below w.heap.size w w' := by
  go_enter Tryz.func64, Tryz.ntmps64
  go_wp2_with (go_at_call 132; (with_reducible refine (as_nil _ _).mono ?_); rintro e w1 ⟨rfl, rfl⟩)
  go_ret
  exact ⟨rfl, (Below.refl _ _).alloc (Nat.le_refl _) _⟩
theorem errno_call (w w0 : World) (henv : Env w) (f : Int) (o : Option Int) (v : Value) (h : AllRes w0 f o (.returned v) w) (hc : ∀ c, o = some c → 0 ≤ c ∧ c < 220) :
    Calls Tryz.prog 64 #[v] w fun e w' => e = .returned (.int .i64 (o.getD 0)) ∧ Below w.heap.size w w' := by
  cases o with
  | none => cases h; exact errno_nil w
  | some c =>
    obtain ⟨g, h1, h2, h3⟩ := h
    cases h2
    exact errno_ref w henv g f c (hc c rfl).1 (hc c rfl).2 h3
set_option maxHeartbeats 4000000 in
theorem retract_no (w : World) (H : Sh) (S : St) (hR : RAt H w S) (f : Int) (x : Int) (he : S.byE f ≠ 0) :
    Calls Tryz.prog 28 #[.pointer (some ⟨H.r, 0, none⟩), .int .i64 f, .int .i64 x] w fun e w' => e = .returned (.int .i64 (S.byE f)) ∧ Below w.heap.size w w' := by
  have hb := by_no w H S hR f he
  have HB := Lib.hid hb
  clear hb hR he
  go_enter Tryz.func28, Tryz.ntmps28
  go_wp2_with (go_at_call 63; (with_reducible refine HB.out.mono ?_); rintro e w1 ⟨g, rfl, hb1, hc1⟩)
  have HB1 := Lib.hid hb1
  have HC1 := Lib.hid hc1
  clear hb1 hc1
  go_wp2_with (go_at_call 64; (with_reducible refine HC1.out.mono ?_); rintro e w2 ⟨rfl, hb2⟩)
  go_ret
  exact ⟨rfl, HB1.out.trans (hb2.mono HB1.out.size)⟩
end Go.Proofs.YtehnkebcbomidaaGreatDoor.Rt
section
namespace Go.Proofs.YtehnkebcbomidaaGreatDoor.Rt
theorem hasMsg_iff (f h : Int) (m : Mg) : hasMsg f h m = true ↔ m.k.f = f ∧ m.k.s = h := by simp [hasMsg]
theorem take_drop_srt {Q : List Mg} (h : Srt Q) (n : Nat) {x y : Mg} (hx : x ∈ Q.take n) (hy : y ∈ Q.drop n) : x.k.lt y.k := by
  unfold Srt at h
  rw [← List.take_append_drop n Q, List.pairwise_append] at h
  exact h.2.2 x hx y hy
end Go.Proofs.YtehnkebcbomidaaGreatDoor.Rt
end
