/- LinesJoined: the walk. -/
import Derived.Test.YtkjghjffdjjedaaDoorLea
import Derived.Laws.AppendOwnNone
set_option linter.unusedVariables false
set_option linter.unusedSimpArgs false
namespace Go.Proofs.YtkjghjffdjjedaaDoor.Enc
open Go Go.RowKit Go.Lib Go.Proofs Go.Proofs.YtkjghjffdjjedaaDoorW.PrintWords Go.Proofs.YtkjghjffdjjedaaDoorW.PrintLast
/-- append onto a row of the call's own, from a slice that may be nil -/
theorem wpList_app {P : Program} {w : World} {ops : Array Oper} {rest : List Oper} {o : Oper} {a : Act} {Q : Exit → Act → World → Prop} (hgd : o.guard = none) (s x : Operand) (t : TypeId)
    (ho : o.op = .call { callee := .builtin .append, args := #[s, x], argTypes := #[t, t] })
    (base : Nat) (e : TypeId) (i : TypeInfo) (z : Value) (size bytes : Nat) (ht : P.underlying t = some (.slice e)) (hi : P.info? e = some i) (hz : i.zero = some z)
    (hsize : i.size = size) (hby : i.bytes = bytes) (hzs : z.cells.size = size) (hsz : 0 < size)
    (v : Value) (n : Nat) (xs : List Value) (hs : a.eval s = v) (hown : w.ownsRow base e size v n xs)
    (A : Option Addr) (m c : Nat) (news : List Value) (hx : a.eval x = .slice A m c) (hl : news.length = m * size) (hA : A = none → m = 0 ∧ c = 0) (hnews : ∀ ad, A = some ad → ∀ j u, news[j]? = some u → w.cell? (ad.add j) = some u) (h1 : ∀ u ∈ news, u.oneCell' = true)
    (h63 : n + m ≤ maxLen) (hbytes : (n + m) * bytes ≤ 140737488355328) (hbase : base ≤ w.heap.size)
    (h : ∀ v' w', w'.ownsRow base e size v' (n + m) (xs ++ news) → w.grownBy w' v.ownBlock → wpList P ops Q rest (a.put o.dst v') w') : wpList P ops Q (o :: rest) a w := by
  cases A with
  | some ad => exact wpList_append_own w hgd s x t ho base e i z size bytes ht hi hz hsize hby hzs hsz v n xs hs hown ad m c news hx hl (hnews ad rfl) h1 h63 hbytes hbase fun v' w' h2 h3 _ => h v' w' h2 h3
  | none =>
    obtain ⟨rfl, rfl⟩ := hA rfl
    obtain rfl : news = [] := List.eq_nil_of_length_eq_zero (by omega)
    exact wpList_append_own_none hgd s x t ho base e i size ht hi v n xs hs hown hx (h v w (by simpa using hown) (World.grownBy.refl w _))
/-- a row's elements as values -/
def ElemsOf (W : World) (hs : List Value) (rows : List (List ByteArray)) : Prop := hs.length = rows.length ∧ ∀ j (h : j < rows.length), ∃ A c, hs[j]? = some (.slice A rows[j].length c) ∧ rows[j].length ≤ c ∧ Kd.string.C W A rows[j].length rows[j]
theorem elems_of {W : World} {A : Option Addr} {n : Nat} {rows : List (List ByteArray)} (h : Kd.C (Kd.slice 9 Kd.string) W A n rows) :
    ∃ hs, ElemsOf W hs rows ∧ (∀ ad, A = some ad → ∀ j u, hs[j]? = some u → W.cell? (ad.add j) = some u) ∧ ∀ u ∈ hs, u.oneCell' = true := by
  obtain ⟨h1, h2, h3⟩ := h
  by_cases h0 : 0 < n
  · obtain ⟨ad, rfl, h4⟩ := h3 h0
    have hall : ∀ i : Fin rows.length, ∃ u : Value, (∃ A c, u = .slice A rows[i].length c ∧ rows[i].length ≤ c ∧ Kd.string.C W A rows[i].length rows[i]) ∧ W.cell? (ad.add i) = some u := by
      intro i
      obtain ⟨c, hc, ⟨A', c', e, hl, hC⟩, hcell⟩ := h4 i rows[i] (List.getElem?_eq_getElem i.2)
      refine ⟨_, ⟨A', c', rfl, hl, hC⟩, ?_⟩
      have := hcell 0 (.slice A' rows[i].length c') (by rw [e]; rfl)
      have e2 : i.1 * (Kd.slice 9 Kd.string).sz + 0 = i.1 := by show i.1 * 1 + 0 = i.1; omega
      rw [e2] at this
      exact this
    obtain ⟨f, hf⟩ := Classical.axiomOfChoice hall
    refine ⟨List.ofFn f, ⟨List.length_ofFn, fun j hj => ?_⟩, ?_, ?_⟩
    · obtain ⟨⟨A', c', e, hl, hC⟩, _⟩ := hf ⟨j, hj⟩
      exact ⟨A', c', by rw [List.getElem?_ofFn, dif_pos hj, e]; rfl, hl, hC⟩
    · rintro ad' q j u hu
      obtain rfl := Option.some.inj q
      have hj : j < rows.length := by have := (List.getElem?_eq_some_iff.1 hu).1; simpa using this
      rw [List.getElem?_ofFn, dif_pos hj] at hu
      obtain rfl := Option.some.inj hu
      exact (hf ⟨j, hj⟩).2
    · intro u hu
      obtain ⟨i, rfl⟩ := List.mem_ofFn.1 hu
      obtain ⟨⟨A', c', e, _, _⟩, _⟩ := hf i
      rw [e]; rfl
  · have : rows = [] := List.length_eq_zero_iff.1 (by omega)
    subst this
    exact ⟨[], ⟨rfl, fun j hj => by simp at hj⟩, fun ad _ j u hu => by simp at hu, fun u hu => by cases hu⟩
theorem ElemsOf.below {W W' : World} {hs : List Value} {rows : List (List ByteArray)} (h : ElemsOf W hs rows) (hb : Below W.heap.size W W') : ElemsOf W' hs rows :=
  ⟨h.1, fun j hj => by obtain ⟨A, c, e1, e2, e3⟩ := h.2 j hj; exact ⟨A, c, e1, e2, Kd.C_below e3 hb⟩⟩
theorem ElemsOf.append {W : World} {hs hs' : List Value} {rows rows' : List (List ByteArray)} (h : ElemsOf W hs rows) (h' : ElemsOf W hs' rows') : ElemsOf W (hs ++ hs') (rows ++ rows') := by
  refine ⟨by rw [List.length_append, List.length_append, h.1, h'.1], fun j hj => ?_⟩
  by_cases hl : j < rows.length
  · obtain ⟨A, c, e1, e2, e3⟩ := h.2 j hl
    refine ⟨A, c, ?_, ?_, ?_⟩
    · rw [List.getElem?_append_left (by rw [h.1]; exact hl), e1, List.getElem_append_left hl]
    · rw [List.getElem_append_left hl]; exact e2
    · rw [List.getElem_append_left hl]; exact e3
  · have hj' : j - rows.length < rows'.length := by rw [List.length_append] at hj; omega
    obtain ⟨A, c, e1, e2, e3⟩ := h'.2 (j - rows.length) hj'
    refine ⟨A, c, ?_, ?_, ?_⟩
    · rw [List.getElem?_append_right (by rw [h.1]; omega), h.1, e1, List.getElem_append_right (by omega)]
    · rw [List.getElem_append_right (by omega)]; exact e2
    · rw [List.getElem_append_right (by omega)]; exact e3
theorem reads_own {W : World} {b : Nat} {v : Value} {hs : List Value} {rows : List (List ByteArray)} (h : W.ownsRow b 35 1 v rows.length hs) (he : ElemsOf W hs rows) : Reads W v rows := by
  have h4 : OwnRow ((Kd.slice 9 Kd.string).K W) 35 1 W b v rows := ⟨hs, h, by rw [he.1]; simp, fun j p hj => by
    obtain ⟨hl, rfl⟩ := List.getElem?_eq_some_iff.1 hj
    obtain ⟨A, c, e1, e2, e3⟩ := he.2 j hl
    obtain ⟨hl2, e4⟩ := List.getElem?_eq_some_iff.1 e1
    rw [Nat.mul_one, List.drop_eq_getElem_cons hl2]
    refine ⟨A, c, ?_, e2, e3⟩
    rw [List.take_succ_cons, List.take_zero, e4]⟩
  exact h4.reads
theorem reads_C {W : World} {A : Option Addr} {n c : Nat} {rows : List (List ByteArray)} (h : Reads W (.slice A n c) rows) : Kd.C (Kd.slice 9 Kd.string) W A n rows := by
  obtain ⟨A', c', e, h1, h2⟩ := h
  cases e
  exact h2
def Pause (p : Prop) : Prop := p
theorem Pause.go {p : Prop} (h : Pause p) : p := h
theorem Pause.mk {p : Prop} (h : p) : Pause p := h
/-- joined rows -/
theorem enc_append {a b : List (List ByteArray)} {s t : ByteArray} (ha : encF a = (s, 0)) (hb : encF b = (t, 0)) : encF (a ++ b) = (s ++ t, 0) := by
  have na := encF_inv (rows := a) (by rw [ha])
  have nb := encF_inv (rows := b) (by rw [hb])
  have e1 := encF_ok na
  have e2 := encF_ok nb
  rw [ha] at e1
  rw [hb] at e2
  rw [encF_ok (fun r hr => (List.mem_append.1 hr).elim (na r) (nb r)), (Prod.mk.inj e1).1, (Prod.mk.inj e2).1, bl_append]
  have : encT (toL (a ++ b)) = encT (toL a) ++ encT (toL b) := by simp [encT, toL]
  rw [this]
theorem infoR35 : (Tryd.prog.info? 35).map (fun i => (i.zero, i.size, i.bytes)) = some (some (.slice none 0 0), 1, 24) := by kernel_rfl
set_option maxHeartbeats 8000000 in
set_option maxRecDepth 100000 in
theorem joined_walk (a b : List (List ByteArray)) (A1 A2 : Option Addr) (c1 c2 : Nat) (w : World) (ha : Reads w (.slice A1 a.length c1) a) (hb : Reads w (.slice A2 b.length c2) b) (hn1 : A1 = none → a.length = 0 ∧ c1 = 0) (hn2 : A2 = none → b.length = 0 ∧ c2 = 0) (hE : EnvD w) :
    Calls Tryd.prog 6 #[.slice A1 a.length c1, .slice A2 b.length c2] w fun e w' => e = .returned (.bool true) ∧ Below w.heap.size w w' := by
  have hu22 := Tryd.underlying22
  have hu9 := Tryd.underlying9
  have hu27 := Tryd.underlying27
  have hu35 := Tryd.underlying35
  have hha := heavy_call a _ w ha
  have hhb := fun w' h => heavy_call b (.slice A2 b.length c2) w' h
  have HHA := Lib.hid hha
  have HHB := Lib.hid hhb
  have HA := Lib.hid ha
  have HB := Lib.hid hb
  have HE := Lib.hid hE
  have HN1 := Lib.hid hn1
  have HN2 := Lib.hid hn2
  clear hha hhb ha hb hE hn1 hn2
  go_enter Tryd.func6, Tryd.ntmps6
  go_wp2_with (go_at_call 13; refine HHA.out.mono ?_)
  rintro e w1 ⟨rfl | ⟨rfl, hwa⟩, hb1⟩
  · go_wp2_with fail
    go_ret
    exact ⟨rfl, hb1⟩
  · have ha1 := HA.out.below hb1
    have hbb1 := HB.out.below hb1
    have hE1 := HE.out.below hb1
    have hhb1 := HHB.out w1 hbb1
    have HA1 := Lib.hid ha1
    have HBB1 := Lib.hid hbb1
    have HE1 := Lib.hid hE1
    have HB1 := Lib.hid hb1
    have HHB1 := Lib.hid hhb1
    have HWA := Lib.hid hwa
    clear ha1 hbb1 hE1 hb1 hhb1 hwa
    go_wp2_with (go_at_call 13; refine HHB1.out.mono ?_)
    rintro e w2 ⟨rfl | ⟨rfl, hwb⟩, hb2⟩
    · have hb2' := HB1.out.trans (hb2.mono HB1.out.size)
      go_wp2_with fail
      go_ret
      exact ⟨rfl, hb2'⟩
    · have hb2' := HB1.out.trans (hb2.mono HB1.out.size)
      have ha2 := HA1.out.below hb2
      have hbb2 := HBB1.out.below hb2
      have hE2 := HE1.out.below hb2
      have hwa_ := HWA.out
      have hea := enc_call2 a _ w2 ha2 hwa_
      have heb := fun w' h => enc_call2 b (.slice A2 b.length c2) w' h hwb
      have hra := fun w' h => refE_call a (.slice A1 a.length c1) w' h hwa_
      have hrb := fun w' h => refE_call b (.slice A2 b.length c2) w' h hwb
      have hsa := encF_size a hwa_
      have hsb := encF_size b hwb
      have hlb := light hwb
      have hla := light hwa_
      have hba := fun h => encF_bad (rows := a) h
      have hbb := fun h => encF_bad (rows := b) h
      have hjn := fun s t h1 h2 => enc_append (a := a) (b := b) (s := s) (t := t) h1 h2
      obtain ⟨s, ea, hta⟩ : ∃ s ea, encF a = (s, ea) := ⟨_, _, rfl⟩
      obtain ⟨t, eb, htb⟩ : ∃ t eb, encF b = (t, eb) := ⟨_, _, rfl⟩
      rw [hta] at hea hsa hba
      rw [htb] at hsb hbb
      simp only [hta] at hra hjn
      simp only [htb] at heb hrb hjn
      simp only at hsa hsb hba hbb
      have HEA := Lib.hid hea
      have HEB := Lib.hid heb
      have HRA := Lib.hid hra
      have HRB := Lib.hid hrb
      have HBA := Lib.hid hba
      have HBB := Lib.hid hbb
      have HTA := Lib.hid hta
      have HTB := Lib.hid htb
      have HLB := Lib.hid hlb
      have HLA := Lib.hid hla
      have HB2W := Lib.hid hb2'
      have HA2 := Lib.hid ha2
      have HBB2 := Lib.hid hbb2
      have HE2 := Lib.hid hE2
      have HB2 := Lib.hid hb2
      have HWB := Lib.hid hwb
      have HWA2 := Lib.hid hwa_
      have HJN := Lib.hid hjn
      clear hea heb hra hrb hba hbb hta htb hlb hla hb2' ha2 hbb2 hE2 hb2 hwb hwa_ hjn
      go_wp2_with (go_at_call 14; refine HEA.out.mono ?_)
      first | rintro e w3 ⟨rfl, hb3⟩ | rintro e w3 rfl hb3
      have ha3 := HA2.out.below hb3
      have hbb3 := HBB2.out.below hb3
      have hE3 := HE2.out.below hb3
      have hb3' := HB2W.out.trans (hb3.mono HB2W.out.size)
      have heb3 := HEB.out w3 hbb3
      have HA3 := Lib.hid ha3
      have HBB3 := Lib.hid hbb3
      have HE3 := Lib.hid hE3
      have HB3 := Lib.hid hb3
      have HB3W := Lib.hid hb3'
      have HEB3 := Lib.hid heb3
      clear ha3 hbb3 hE3 hb3 hb3' heb3
      go_wp2_with (go_at_call 14; refine HEB3.out.mono ?_)
      first | rintro e w4 ⟨rfl, hb4⟩ | rintro e w4 rfl hb4
      have ha4 := HA3.out.below hb4
      have hbb4 := HBB3.out.below hb4
      have hE4 := HE3.out.below hb4
      have hb4' := HB3W.out.trans (hb4.mono HB3W.out.size)
      have hra4 := HRA.out w4 ha4
      have HA4 := Lib.hid ha4
      have HBB4 := Lib.hid hbb4
      have HE4 := Lib.hid hE4
      have HB4 := Lib.hid hb4
      have HB4W := Lib.hid hb4'
      have HRA4 := Lib.hid hra4
      clear ha4 hbb4 hE4 hb4 hb4' hra4
      go_wp2_with (go_at_call 15; refine HRA4.out.mono ?_)
      first | rintro e w5 ⟨rfl, hb5⟩ | rintro e w5 rfl hb5
      have ha5 := HA4.out.below hb5
      have hbb5 := HBB4.out.below hb5
      have hE5 := HE4.out.below hb5
      have hb5' := HB4W.out.trans (hb5.mono HB4W.out.size)
      have hrb5 := HRB.out w5 hbb5
      have HA5 := Lib.hid ha5
      have HBB5 := Lib.hid hbb5
      have HE5 := Lib.hid hE5
      have HB5 := Lib.hid hb5
      have HB5W := Lib.hid hb5'
      have HRB5 := Lib.hid hrb5
      clear ha5 hbb5 hE5 hb5 hb5' hrb5
      go_wp2_with (go_at_call 15; refine HRB5.out.mono ?_)
      first | rintro e w6 ⟨rfl, hb6⟩ | rintro e w6 rfl hb6
      have ha6 := HA5.out.below hb6
      have hbb6 := HBB5.out.below hb6
      have hE6 := HE5.out.below hb6
      have hb6' := HB5W.out.trans (hb6.mono HB5W.out.size)
      have HA6 := Lib.hid ha6
      have HBB6 := Lib.hid hbb6
      have HE6 := Lib.hid hE6
      have HB6 := Lib.hid hb6
      have HB6W := Lib.hid hb6'
      clear ha6 hbb6 hE6 hb6 hb6'
      by_cases h0 : ea = 0
      · by_cases h1 : eb = 0
        · subst h0 h1
          have hst := HJN.out s t rfl rfl
          have hdst : decF (s ++ t) = (a ++ b, 0, 0) := by have := dec_enc (rows := a ++ b) (by rw [hst]); rw [hst] at this; exact this
          obtain ⟨xa, ea1, ea2, ea3⟩ := elems_of (reads_C HA6.out)
          obtain ⟨xb, eb1, eb2, eb3⟩ := elems_of (reads_C HBB6.out)
          obtain ⟨i0, hi0, hi1, hi2, hi3⟩ := info_parts infoR35
          have hal : Below w6.heap.size w6 (w6.alloc (Obj.cells #[] 35)) := (Below.refl _ _).alloc (Nat.le_refl _) _
          have hown0 : (w6.alloc (Obj.cells #[] 35)).ownsRow w6.heap.size 35 1 (.slice (some ⟨w6.heap.size, 0, none⟩) 0 0) 0 [] := by
            have h := World.ownsRow_lit (base := w6.heap.size) (e := 35) (size := 1) w6 #[] 0 (Nat.le_refl _) (by decide) rfl
            simpa using h
          have hna : ∀ ad, A1 = some ad → ∀ j u, xa[j]? = some u → (w6.alloc (Obj.cells #[] 35)).cell? (ad.add j) = some u := fun ad q j u hu => by
            have h := ea2 ad q j u hu
            exact (hal.cell (World.block_lt_of_cell? w6 _ h)).trans h
          have hla1 := HLA.out.1
          have hlb1 := HLB.out.1
          have hxa := ea1.1
          have hxb := eb1.1
          have EA1 := Lib.hid ea1
          have EA2 := Lib.hid ea2
          have EA3 := Lib.hid ea3
          have EB1 := Lib.hid eb1
          have EB2 := Lib.hid eb2
          have EB3 := Lib.hid eb3
          have HOWN0 := Lib.hid hown0
          have HNA := Lib.hid hna
          have HST := Lib.hid hst
          have HDST := Lib.hid hdst
          have HAL := Lib.hid hal
          clear ea1 ea2 ea3 eb1 eb2 eb3 hown0 hna hst hdst hal
          go_wp2_with (at_builtin; refine wpList_app rfl (.tmp 64) (.tmp 65) 27 rfl w6.heap.size 35 i0 _ 1 24 Tryd.underlying27 hi0 hi1 hi2 hi3 rfl (by decide) (.slice (some ⟨w6.heap.size, 0, none⟩) 0 0) 0 [] rfl HOWN0.out A1 a.length c1 xa rfl (by omega) HN1.out HNA.out EA3.out (by unfold maxLen; omega) (by omega) (by simp) ?_; intro v7 w7 hown7 hg7; refine Pause.go ?_)
          simp only [Nat.zero_add, List.nil_append] at hown7
          have hb7 : Below w6.heap.size w6 w7 := HAL.out.grown hg7 (by simp) (fun k hk => (HOWN0.out.lt k hk).1)
          obtain ⟨A7, n7, c7, hv7⟩ := own_form hown7
          subst hv7
          have hnb : ∀ ad, A2 = some ad → ∀ j u, xb[j]? = some u → w7.cell? (ad.add j) = some u := fun ad q j u hu => by
            have h := EB2.out ad q j u hu
            exact (hb7.cell (World.block_lt_of_cell? w6 _ h)).trans h
          have hz7 := hb7.size
          have HOWN7 := Lib.hid hown7
          have HG7 := Lib.hid hg7
          have HB7 := Lib.hid hb7
          have HNB := Lib.hid hnb
          clear hown7 hg7 hb7 hnb
          refine Pause.mk ?_
          go_wp2_with (at_builtin; refine wpList_app rfl (.tmp 67) (.tmp 68) 27 rfl w6.heap.size 35 i0 _ 1 24 Tryd.underlying27 hi0 hi1 hi2 hi3 rfl (by decide) _ a.length xa rfl HOWN7.out A2 b.length c2 xb rfl (by omega) HN2.out HNB.out EB3.out (by unfold maxLen; omega) (by omega) hz7 ?_; intro v8 w8 hown8 hg8; refine Pause.go ?_)
          have hb8 : Below w6.heap.size w6 w8 := HB7.out.grown hg8 hz7 (fun k hk => (HOWN7.out.lt k hk).1)
          have hrd8 : Reads w8 v8 (a ++ b) := reads_own (by rw [List.length_append]; exact hown8) ((EA1.out.below hb8).append (EB1.out.below hb8))
          have hE8 := HE6.out.below hb8
          have hb8' := HB6W.out.trans (hb8.mono HB6W.out.size)
          have hdc := dec_call (s ++ t) w8 (by rw [ByteArray.size_append]; omega) hE8
          rw [HDST.out] at hdc
          simp only at hdc
          obtain ⟨A8, n8, c8, hv8⟩ := own_form hown8
          subst hv8
          have HOWN8 := Lib.hid hown8
          have HG8 := Lib.hid hg8
          have HB8 := Lib.hid hb8
          have HRD8 := Lib.hid hrd8
          have HE8 := Lib.hid hE8
          have HB8W := Lib.hid hb8'
          have HDC := Lib.hid hdc
          clear hown8 hg8 hb8 hrd8 hE8 hb8' hdc
          refine Pause.mk ?_
          go_wp2_with (go_at_call 16; refine HDC.out.mono ?_)
          first | rintro e w9 ⟨v9, rfl, hv9, hb9⟩ | rintro e w9 v9 rfl hv9 hb9
          have hb9' := HB8W.out.trans (hb9.mono HB8W.out.size)
          have hrd9 := HRD8.out.below hb9
          have hsm := same_call (a ++ b) v9 _ w9 hv9 hrd9 (fun r hr => (List.mem_append.1 hr).elim (fun h => Nat.lt_of_le_of_lt (HLA.out.2.2.1 r h) (by decide)) (fun h => Nat.lt_of_le_of_lt (HLB.out.2.2.1 r h) (by decide))) (by rw [List.length_append]; omega)
          have HV9 := Lib.hid hv9
          have HB9 := Lib.hid hb9
          have HB9W := Lib.hid hb9'
          have HRD9 := Lib.hid hrd9
          have HSM := Lib.hid hsm
          clear hv9 hb9 hb9' hrd9 hsm
          go_wp2_with (go_at_call 17; refine HSM.out.mono ?_)
          first | rintro e w10 ⟨rfl, hdr⟩ | rintro e w10 rfl hdr
          have hb10 := HB9W.out.trans (hdr.below.mono HB9W.out.size)
          have HDR := Lib.hid hdr
          have HB10 := Lib.hid hb10
          clear hdr hb10
          go_wp2
          go_ret
          exact ⟨rfl, HB10.out⟩
        · obtain ⟨q1, q2⟩ := Prod.mk.inj (HBB.out h1)
          subst q1 q2
          by_cases hs0 : s = ⟨#[]⟩
          · subst hs0
            go_wp2_with fail
            go_ret
            exact ⟨rfl, HB6W.out⟩
          · go_wp2_with fail
            all_goals (go_ret; exact ⟨rfl, HB6W.out⟩)
      · obtain ⟨q1, q2⟩ := Prod.mk.inj (HBA.out h0)
        subst q1 q2
        go_wp2_with fail
        go_ret
        exact ⟨rfl, HB6W.out⟩
open Go.ChangeShapes Go.WideShapes Go.Deep in
theorem nil_arg {H : Type} {enc : TypeId × Value → H} {x : DataW H} {p : List MemPlace} (W : World) (a : Option Addr) (len cap : Nat) (k : DataW.Trod enc Tryd.prog W 0 (fun _ => true) true 27 (.slice a len cap) x p) : a = none → len = 0 ∧ cap = 0 := by
  obtain ⟨fuel, hf⟩ := k
  rintro rfl
  rcases Go.Deep.open_slice Tryd.underlying27 hf with ⟨h, _⟩ | ⟨a, l, c, m, n, D, Pl, h, _⟩
  · simpa [Value.cells] using h
  · simp [Value.cells] at h
theorem joined_row {H : Type} {enc : TypeId × Value → H} {x y : DataW H} {p q : List MemPlace} (a0 : Option Addr) (len0 cap0 : Nat) (a1 : Option Addr) (len1 cap1 : Nat) (W : World) (k0 : DataW.Trod enc Tryd.prog W 0 (fun _ => true) true 27 (.slice a0 len0 cap0) x p)
    (k1 : DataW.Trod enc Tryd.prog W 0 (fun _ => true) true 27 (.slice a1 len1 cap1) y q) (hE : EnvD W) :
    Calls Tryd.prog 6 #[.slice a0 len0 cap0, .slice a1 len1 cap1] W fun e w' => e = .returned (.bool true) ∧ Below W.heap.size W w' := by
  have n0 := nil_arg W a0 len0 cap0 k0
  have n1 := nil_arg W a1 len1 cap1 k1
  obtain ⟨a, ha⟩ := rows_arg W a0 len0 cap0 k0
  obtain ⟨b, hb⟩ := rows_arg W a1 len1 cap1 k1
  obtain rfl := (reads_C ha).1
  obtain rfl := (reads_C hb).1
  exact joined_walk a b a0 a1 cap0 cap1 W ha hb n0 n1 hE
end Go.Proofs.YtkjghjffdjjedaaDoor.Enc
