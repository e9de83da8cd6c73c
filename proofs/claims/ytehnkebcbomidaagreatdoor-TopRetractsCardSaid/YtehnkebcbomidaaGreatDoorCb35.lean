/- Part of a proof over the given program: Pl, Pr, Tq, Lw. -/
import Derived.Test.YtehnkebcbomidaaGreatDoorCb34
set_option linter.unusedVariables false
set_option linter.unusedSimpArgs false
section
namespace Go.Proofs.YtehnkebcbomidaaGreatDoor.Rt
theorem getN8 (m0 m1 : Mem) (g : Nat) (h : 2 ≤ g) : ([m0, m1, {}, {}, {}, {}, {}, {}] : List Mem).getD g {} = {} := by
  match g, h with
  | g + 2, _ =>
    show ([{}, {}, {}, {}, {}, {}] : List Mem).getD g {} = {}
    rw [List.getD_eq_getElem?_getD]
    rcases g with _ | _ | _ | _ | _ | _ | g <;> rfl
theorem blank_memOk (n : Nat) (N : Int) (g : Nat) (hN : 0 ≤ N) : MemOk n N g {} := memOk_blank n N g 0 (Int.le_refl _) hN
theorem get_blank (g : Nat) : ([{}, {}, {}, {}, {}, {}, {}, {}] : List Mem).getD g {} = {} := by
  rcases g with _ | _ | g
  · rfl
  · rfl
  · exact getN8 {} {} (g + 2) (by omega)
theorem getD_zeros (g : Nat) : ([0, 0, 0, 0, 0, 0, 0, 0] : List Nat).getD g 0 = 0 := by
  rw [List.getD_eq_getElem?_getD]
  rcases g with _ | _ | _ | _ | _ | _ | _ | _ | g <;> rfl
theorem ok_new {S : St} (hl : S.l = [{}, {}, {}, {}, {}, {}, {}, {}]) (hp : S.pubs = [0, 0, 0, 0, 0, 0, 0, 0]) (ha : S.above.length = S.par.length) (h0 : 0 < S.par.length) (h1 : S.par.length ≤ 16) (hab : ∀ x ∈ S.above, x < 4294967296) : S.Ok 0 := by
  have hg : ∀ g, S.get g = {} := fun g => by unfold St.get; rw [hl]; exact get_blank g
  refine ⟨by decide, by rw [hl]; rfl, by rw [hp]; rfl, ha, h0, h1, hab, fun x hx => ?_, fun g => by rw [hg]; exact blank_memOk _ _ _ (Int.le_refl _), fun g x hx => ?_, fun g x hx => ?_, fun g _ => by rw [hp]; exact getD_zeros g⟩
  · rw [hp] at hx
    simp at hx
    omega
  · rw [hg] at hx; cases hx
  · rw [hg] at hx; cases hx
theorem nw1_ok : nw1.Ok 0 := ok_new rfl rfl rfl (by decide) (by decide) (by decide)
def p2 : List Nat := [2, 0, 0, 0, 0, 0, 0, 0]
def mb (ask : Int) (P : List Mg) : Mem := { is := true, con := true, kind := 1, ask := ask, subs := 1, P := P }
end Go.Proofs.YtehnkebcbomidaaGreatDoor.Rt
end
section
namespace Go.Proofs.YtehnkebcbomidaaGreatDoor.Rt
structure PairOks (a b : Int) : Prop extends PairOk a b where
  o1 : (du [0, 0, 0, 0, 0, 0, 0, 0] { is := true } {}).Ok 0
  o2 : (du [1, 0, 0, 0, 0, 0, 0, 0] { is := true } {}).Ok 0
  o3 : (du [1, 0, 0, 0, 0, 0, 0, 0] (md 0 false) {}).Ok 0
  o4 : (du [1, 0, 0, 0, 0, 0, 0, 0] (md a false) {}).Ok 0
  o5 : (du [1, 0, 0, 0, 0, 0, 0, 0] (md a true) {}).Ok 0
  o6 : (du [1, 0, 0, 0, 0, 0, 0, 0] (md a true) { is := true }).Ok 0
  o7 : (duo (md a true) { is := true }).Ok 0
  o8 : (duo (md a true) (md 0 false)).Ok 0
  o9 : (duo (md a true) (md b false)).Ok 0
  oz : (duo (md a true) (md b true)).Ok 0
theorem pair_oks {a b : Int} (a1 : 1 ≤ a) (a2 : a ≤ 1048576) (b1 : 1 ≤ b) (b2 : b ≤ 1048576) : PairOks a b := by
  have p := pair_ok a1 a2 b1 b2
  have o1 := Ok.join nw1_ok 0
  rw [p.j0] at o1
  have o2 := Ok.publish o1 0 0 true
  rw [show (du [0, 0, 0, 0, 0, 0, 0, 0] { is := true } {}).publish 0 0 true = _ from p.p0] at o2
  have o3 := Ok.subscribe o2 0 0 true
  rw [show (du [1, 0, 0, 0, 0, 0, 0, 0] { is := true } {}).subscribe 0 0 true = _ from p.s0] at o3
  have o4 := Ok.regulate o3 0 a
  rw [show (du [1, 0, 0, 0, 0, 0, 0, 0] (md 0 false) {}).regulate 0 a = _ from p.r0] at o4
  have o5 := Ok.constrain o4 0
  rw [show (du [1, 0, 0, 0, 0, 0, 0, 0] (md a false) {}).constrain 0 = _ from p.c0] at o5
  have o6 := Ok.join o5 1
  rw [show (du [1, 0, 0, 0, 0, 0, 0, 0] (md a true) {}).join 1 = _ from p.j1] at o6
  have o7 := Ok.publish o6 1 0 true
  rw [show (du [1, 0, 0, 0, 0, 0, 0, 0] (md a true) { is := true }).publish 1 0 true = _ from p.p1] at o7
  have o8 := Ok.subscribe o7 1 0 true
  rw [show (duo (md a true) { is := true }).subscribe 1 0 true = _ from p.s1] at o8
  have o9 := Ok.regulate o8 1 b
  rw [show (duo (md a true) (md 0 false)).regulate 1 b = _ from p.r1] at o9
  have oz := Ok.constrain o9 1
  rw [show (duo (md a true) (md b false)).constrain 1 = _ from p.c1] at oz
  exact ⟨p, o1, o2, o3, o4, o5, o6, o7, o8, o9, oz⟩
def fm (x : Int) (z : List Int) (i : Nat) : Mg := ⟨⟨x + z.getD i 0, 0, i⟩, 1, 0, i⟩
def fq (x : Int) (z : List Int) (B : Nat → Bool) : Nat → List Mg
  | 0 => []
  | i + 1 => if B i then fq x z B i else ins (fm x z i) (fq x z B i)
def f0 (x : Int) (i : Nat) : Mem := { is := true, con := true, look := x, sent := i, subs := 1 }
def f1 (Q : List Mg) : Mem := { is := true, con := true, look := 3, subs := 1, Q := Q }
theorem fq_mem (x : Int) (z : List Int) (B : Nat → Bool) (i : Nat) : ∀ m, m ∈ fq x z B i ↔ ∃ k, k < i ∧ B k = false ∧ m = fm x z k := by
  induction i with
  | zero => intro m; simp [fq]
  | succ i ih =>
    intro m
    unfold fq
    cases hB : B i with
    | true =>
      rw [if_pos rfl, ih]
      constructor
      · rintro ⟨k, h1, h2, h3⟩; exact ⟨k, by omega, h2, h3⟩
      · rintro ⟨k, h1, h2, h3⟩
        have : k ≠ i := fun e => by subst e; rw [hB] at h2; cases h2
        exact ⟨k, by omega, h2, h3⟩
    | false =>
      rw [if_neg (by decide), mem_ins, ih]
      constructor
      · rintro (h | ⟨k, h1, h2, h3⟩)
        · exact ⟨i, by omega, hB, h⟩
        · exact ⟨k, by omega, h2, h3⟩
      · rintro ⟨k, h1, h2, h3⟩
        by_cases e : k = i
        · subst e; exact .inl h3
        · exact .inr ⟨k, by omega, h2, h3⟩
def fn (B : Nat → Bool) : Nat → Nat
  | 0 => 0
  | i + 1 => if B i then fn B i else fn B i + 1
theorem fn_le (B : Nat → Bool) (i : Nat) : fn B i ≤ i := by
  induction i with
  | zero => exact Nat.le_refl _
  | succ i ih => unfold fn; split <;> omega
theorem fq_length (x : Int) (z : List Int) (B : Nat → Bool) (i : Nat) : (fq x z B i).length = fn B i := by
  induction i with
  | zero => rfl
  | succ i ih =>
    unfold fq fn
    split
    · exact ih
    · rw [ins_length, ih]
theorem duo_send_step {x : Int} (x1 : 1 ≤ x) (x2 : x ≤ 9) (z : List Int) (B : Nat → Bool) (i : Nat) (hi : i < 40) (h0 : 0 ≤ z.getD i 0) (h1 : z.getD i 0 < 256) :
    (duo (f0 x i) (f1 (fq x z B i))).send 0 0 i (x + z.getD i 0) true = ((i : Int), 0, duo (f0 x (i + 1)) (f1 (ins (fm x z i) (fq x z B i)))) := by
  have h := duo_send (m0 := f0 x i) (m1 := f1 (fq x z B i)) rfl x1 (by show x ≤ 1048576; omega) rfl rfl rfl rfl (by show (fq x z B i).length < 64; rw [fq_length]; have := fn_le B i; omega) (i := (i : Int)) (t := x + z.getD i 0) (by omega) (by omega) (by show x ≤ _; omega) (by omega)
  rw [h]
  rfl
theorem duo_ask1 {m0 m1 : Mem} (i1 : m1.is = true) (hk : m1.kind = 0) (ht : m1.time = 0) {k t : Int} (k1 : 1 ≤ k) (k3 : k ≤ 3) (t0 : 0 ≤ t) (t1 : t ≤ 1099511627776) :
    (duo m0 m1).ask 1 k t = (0, duo m0 { m1 with kind := k, ask := t }) := by
  unfold St.ask
  rw [if_neg (fun z => z (duo_by1 m0 i1)), if_neg (by omega)]
  simp only [show (1 : Int).toNat = 1 from rfl, duo1]
  rw [if_neg (fun z => z hk), if_neg (by omega), if_neg (by omega), duo_put1]
theorem fs_bound {x : Int} (x1 : 1 ≤ x) (x2 : x ≤ 9) (n : Nat) (m1 : Mem) : (duo (f0 x n) m1).bound 1 = x := by
  rw [duo_bound1 (m0 := f0 x n) m1 x1, duo_out0 (m0 := f0 x n) m1 x1 (by show x ≤ 1048576; omega) (.inl rfl) (t := 0) rfl (Int.le_refl _) (by show 0 + x ≤ 1099511627776; omega)]
  show 0 + x = x
  omega
end Go.Proofs.YtehnkebcbomidaaGreatDoor.Rt
end
namespace Go.Proofs.YtehnkebcbomidaaGreatDoor.Rt
open Go Go.RowKit Go.Proofs Go.Proofs.YtehnkebcbomidaaGreatDoorW.PrintWords Go.Proofs.YtehnkebcbomidaaGreatDoorW.PrintLast
def P1 : List Int := [-1]
theorem par1 : Par P1 := ⟨by decide, by decide, fun c hc => by
  have : c = 0 := by simp [P1] at hc; omega
  subst this; decide⟩
theorem new1 : St.new P1 = nw1 := by decide
theorem chk1 : XCheck.tree_Check.f 10 P1 = some 0 := by kernel_rfl
theorem new1_call (w : World) (henv : Env w) : Calls Tryz.prog 32 #[.slice (some ⟨w.heap.size, 0, none⟩) 1 1] (w.alloc (.cells #[.int .i64 (-1)] 3)) fun e w' => ∃ r, e = .returned (.tuple #[.pointer (some ⟨r, 0, none⟩), .int .i64 0]) ∧ Rti (fun k => k < w.heap.size) r w' nw1 ∧ Below w.heap.size w w' := by
  have hb := (Below.refl w.heap.size w).alloc (Nat.le_refl _) (.cells #[.int .i64 (-1)] 3)
  have hrow := World.ownsRow_lit (base := 0) (e := 3) (size := 1) w #[.int .i64 (-1)] 1 (Nat.zero_le _) (by unfold maxLen; omega) rfl
  refine (new_rti _ (Env.below_ henv hb) 0 (some ⟨w.heap.size, 0, none⟩) 1 P1 par1 hrow chk1).mono (fun e w' h => ?_)
  obtain ⟨r, h1, h2, h3⟩ := rti_new h
  rw [new1] at h2
  exact ⟨r, h1, h2.fewer (fun k hk => by simp; omega), hb.trans (h3.mono (by simp))⟩
structure PairCalls (K : Nat → Prop) (r : Nat) (a b : Int) : Prop where
  j0 : ∀ w, Rti K r w nw1 → Calls Tryz.prog 34 #[.pointer (some ⟨r, 0, none⟩), .int .i64 0] w (RPost K r w (.int .i64 0) (du [0, 0, 0, 0, 0, 0, 0, 0] { is := true } {}))
  p0 : ∀ w, Rti K r w (du [0, 0, 0, 0, 0, 0, 0, 0] { is := true } {}) → Calls Tryz.prog 35 #[.pointer (some ⟨r, 0, none⟩), .int .i64 0, .int .i64 0, .bool true] w (RPost K r w (.int .i64 0) (du [1, 0, 0, 0, 0, 0, 0, 0] { is := true } {}))
  s0 : ∀ w, Rti K r w (du [1, 0, 0, 0, 0, 0, 0, 0] { is := true } {}) → Calls Tryz.prog 36 #[.pointer (some ⟨r, 0, none⟩), .int .i64 0, .int .i64 0, .bool true] w (RPost K r w (.int .i64 0) (du [1, 0, 0, 0, 0, 0, 0, 0] (md 0 false) {}))
  r0 : ∀ w, Rti K r w (du [1, 0, 0, 0, 0, 0, 0, 0] (md 0 false) {}) → Calls Tryz.prog 37 #[.pointer (some ⟨r, 0, none⟩), .int .i64 0, .int .i64 a] w (RPost K r w (.int .i64 0) (du [1, 0, 0, 0, 0, 0, 0, 0] (md a false) {}))
  c0 : ∀ w, Rti K r w (du [1, 0, 0, 0, 0, 0, 0, 0] (md a false) {}) → Calls Tryz.prog 38 #[.pointer (some ⟨r, 0, none⟩), .int .i64 0] w (RPost K r w (.int .i64 0) (du [1, 0, 0, 0, 0, 0, 0, 0] (md a true) {}))
  j1 : ∀ w, Rti K r w (du [1, 0, 0, 0, 0, 0, 0, 0] (md a true) {}) → Calls Tryz.prog 34 #[.pointer (some ⟨r, 0, none⟩), .int .i64 1] w (RPost K r w (.int .i64 0) (du [1, 0, 0, 0, 0, 0, 0, 0] (md a true) { is := true }))
  p1 : ∀ w, Rti K r w (du [1, 0, 0, 0, 0, 0, 0, 0] (md a true) { is := true }) → Calls Tryz.prog 35 #[.pointer (some ⟨r, 0, none⟩), .int .i64 1, .int .i64 0, .bool true] w (RPost K r w (.int .i64 0) (duo (md a true) { is := true }))
  s1 : ∀ w, Rti K r w (duo (md a true) { is := true }) → Calls Tryz.prog 36 #[.pointer (some ⟨r, 0, none⟩), .int .i64 1, .int .i64 0, .bool true] w (RPost K r w (.int .i64 0) (duo (md a true) (md 0 false)))
  r1 : ∀ w, Rti K r w (duo (md a true) (md 0 false)) → Calls Tryz.prog 37 #[.pointer (some ⟨r, 0, none⟩), .int .i64 1, .int .i64 b] w (RPost K r w (.int .i64 0) (duo (md a true) (md b false)))
  c1 : ∀ w, Rti K r w (duo (md a true) (md b false)) → Calls Tryz.prog 38 #[.pointer (some ⟨r, 0, none⟩), .int .i64 1] w (RPost K r w (.int .i64 0) (duo (md a true) (md b true)))
theorem pair_calls (K : Nat → Prop) (r : Nat) {a b : Int} (p : PairOks a b) : PairCalls K r a b := by
  refine ⟨fun w h => ?_, fun w h => ?_, fun w h => ?_, fun w h => ?_, fun w h => ?_, fun w h => ?_, fun w h => ?_, fun w h => ?_, fun w h => ?_, fun w h => ?_⟩
  · have := h.join nw1_ok 0
    rw [p.j0] at this
    exact this
  · have := h.publish p.o1 0 0 true
    rw [p.p0] at this
    exact this
  · have := h.subscribe p.o2 0 0 true
    rw [p.s0] at this
    exact this
  · have := h.regulate p.o3 0 a
    rw [p.r0] at this
    exact this
  · have := h.constrain p.o4 0
    rw [p.c0] at this
    exact this
  · have := h.join p.o5 1
    rw [p.j1] at this
    exact this
  · have := h.publish p.o6 1 0 true
    rw [p.p1] at this
    exact this
  · have := h.subscribe p.o7 1 0 true
    rw [p.s1] at this
    exact this
  · have := h.regulate p.o8 1 b
    rw [p.r1] at this
    exact this
  · have := h.constrain p.o9 1
    rw [p.c1] at this
    exact this
def PairPost (W : World) (a b : Int) (e : Ending) (w' : World) : Prop := ∃ r, e = .returned (.pointer (some ⟨r, 0, none⟩)) ∧ Rti (fun k => k < W.heap.size) r w' (duo (md a true) (md b true)) ∧ Below W.heap.size W w'
set_option maxHeartbeats 16000000 in
set_option maxRecDepth 100000 in
theorem pair_call (W : World) (hE : Env W) (a b : Int) (a1 : 1 ≤ a) (a2 : a ≤ 1048576) (b1 : 1 ≤ b) (b2 : b ≤ 1048576) :
    Calls Tryz.prog 23 #[.int .i64 a, .int .i64 b] W (PairPost W a b) := by
  have p := pair_oks a1 a2 b1 b2
  have HP := Lib.hid p
  have HNW := Lib.hid (new1_call W hE)
  have hu52 := Tryz.underlying52
  clear p hE
  go_enter Tryz.func23, Tryz.ntmps23
  have hmix : Tryz.prog.follows .mixedOrders = true := by kernel_rfl
  go_wp2_with (go_at_call 32; (with_reducible refine HNW.out.mono ?_); rintro e w2 ⟨r, rfl, hr2, hb2⟩; have HR2 := Lib.hid hr2; have HB2 := Lib.hid hb2; clear hr2 hb2)
  have hr3 := HR2.out.keep (.cells #[.int .i64 a, .int .i64 b] 3)
  have hblk := heap_alloc_new w2 (.cells #[.int .i64 a, .int .i64 b] 3)
  have hb3 : Below W.heap.size W (w2.alloc (.cells #[.int .i64 a, .int .i64 b] 3)) := HB2.out.alloc HB2.out.size _
  obtain ⟨w3, hw3⟩ : ∃ w3, w3 = w2.alloc (.cells #[.int .i64 a, .int .i64 b] 3) := ⟨_, rfl⟩
  rw [← hw3] at hr3 hblk hb3 ⊢
  obtain ⟨lk, hlk⟩ : ∃ lk, lk = w2.heap.size := ⟨_, rfl⟩
  rw [← hlk] at hr3 hblk ⊢
  have HC := Lib.hid (pair_calls (fun k => k < W.heap.size ∨ k = lk) r HP.out)
  have k0 : w3.cell? ⟨lk, 0, none⟩ = some (.int .i64 a) := by simp [World.cell?, hblk]
  have k1 : w3.cell? ⟨lk, 1, none⟩ = some (.int .i64 b) := by simp [World.cell?, hblk]
  have K0 := Lib.hid k0
  have K1 := Lib.hid k1
  have HR3 := Lib.hid hr3
  have HB3 := Lib.hid hb3
  clear hw3 hlk k0 k1 hr3 hb3 hblk HR2 HB2 HNW
  go_loopw [9] (fun iv wr => ((iv = .int .i64 0 ∧ Rti (fun k => k < W.heap.size ∨ k = lk) r wr nw1) ∨ (iv = .int .i64 1 ∧ Rti (fun k => k < W.heap.size ∨ k = lk) r wr (du [1, 0, 0, 0, 0, 0, 0, 0] (md a true) {})) ∨ (iv = .int .i64 2 ∧ Rti (fun k => k < W.heap.size ∨ k = lk) r wr (duo (md a true) (md b true)))) ∧ Tch (fun k => ¬ (k < W.heap.size ∨ k = lk)) w3 wr) (fun iv _ => 2 - (RowKit.intOf iv).toNat)
  case atStart => exact ⟨.inl ⟨rfl, HR3.out⟩, Tch.refl _ _⟩
  case round =>
    obtain ⟨hrel, ht⟩ := hrel
    have HT := Lib.hid ht
    clear ht
    rcases hrel with ⟨rfl, hr⟩ | ⟨rfl, hr⟩ | ⟨rfl, hr⟩
    · have HR := Lib.hid hr
      clear hr
      go_wp2_with (first | (go_at_call 34; (with_reducible refine (HC.out.j0 wr HR.out).mono ?_); rintro e x3 ⟨rfl, hr3, ht3⟩; have HX3 := Lib.hid hr3; have HT3 := Lib.hid ht3; clear hr3 ht3) | (go_at_call 35; (with_reducible refine (HC.out.p0 x3 HX3.out).mono ?_); rintro e x4 ⟨rfl, hr4, ht4⟩; have HX4 := Lib.hid hr4; have HT4 := Lib.hid ht4; clear hr4 ht4) | (go_at_call 36; (with_reducible refine (HC.out.s0 x4 HX4.out).mono ?_); rintro e x5 ⟨rfl, hr5, ht5⟩; have HX5 := Lib.hid hr5; have HT5 := Lib.hid ht5; clear hr5 ht5; have hk5 : x5.cell? ⟨lk, 0, none⟩ = some (.int .i64 a) := (((HT.out.trans HT3.out (fun _ _ e => e)).trans HT4.out (fun _ _ e => e)).trans HT5.out (fun _ _ e => e)).cell K0.out (fun e => e (.inr rfl))) | (go_at_call 37; (with_reducible refine (HC.out.r0 x5 HX5.out).mono ?_); rintro e x6 ⟨rfl, hr6, ht6⟩; have HX6 := Lib.hid hr6; have HT6 := Lib.hid ht6; clear hr6 ht6) | (go_at_call 38; (with_reducible refine (HC.out.c0 x6 HX6.out).mono ?_); rintro e x7 ⟨rfl, hr7, ht7⟩; have HX7 := Lib.hid hr7; have HT7 := Lib.hid ht7; clear hr7 ht7))
      exact ⟨⟨.inr (.inl ⟨by go_num, HX7.out⟩), ((((HT.out.trans HT3.out (fun _ _ e => e)).trans HT4.out (fun _ _ e => e)).trans HT5.out (fun _ _ e => e)).trans HT6.out (fun _ _ e => e)).trans HT7.out (fun _ _ e => e)⟩, by simp [RowKit.intOf]⟩
    · have HR := Lib.hid hr
      clear hr
      go_wp2_with (first | (go_at_call 34; (with_reducible refine (HC.out.j1 wr HR.out).mono ?_); rintro e x3 ⟨rfl, hr3, ht3⟩; have HX3 := Lib.hid hr3; have HT3 := Lib.hid ht3; clear hr3 ht3) | (go_at_call 35; (with_reducible refine (HC.out.p1 x3 HX3.out).mono ?_); rintro e x4 ⟨rfl, hr4, ht4⟩; have HX4 := Lib.hid hr4; have HT4 := Lib.hid ht4; clear hr4 ht4) | (go_at_call 36; (with_reducible refine (HC.out.s1 x4 HX4.out).mono ?_); rintro e x5 ⟨rfl, hr5, ht5⟩; have HX5 := Lib.hid hr5; have HT5 := Lib.hid ht5; clear hr5 ht5; have hk5 : x5.cell? ⟨lk, 1, none⟩ = some (.int .i64 b) := (((HT.out.trans HT3.out (fun _ _ e => e)).trans HT4.out (fun _ _ e => e)).trans HT5.out (fun _ _ e => e)).cell K1.out (fun e => e (.inr rfl))) | (go_at_call 37; (with_reducible refine (HC.out.r1 x5 HX5.out).mono ?_); rintro e x6 ⟨rfl, hr6, ht6⟩; have HX6 := Lib.hid hr6; have HT6 := Lib.hid ht6; clear hr6 ht6) | (go_at_call 38; (with_reducible refine (HC.out.c1 x6 HX6.out).mono ?_); rintro e x7 ⟨rfl, hr7, ht7⟩; have HX7 := Lib.hid hr7; have HT7 := Lib.hid ht7; clear hr7 ht7))
      exact ⟨⟨.inr (.inr ⟨by go_num, HX7.out⟩), ((((HT.out.trans HT3.out (fun _ _ e => e)).trans HT4.out (fun _ _ e => e)).trans HT5.out (fun _ _ e => e)).trans HT6.out (fun _ _ e => e)).trans HT7.out (fun _ _ e => e)⟩, by simp [RowKit.intOf]⟩
    · have HR := Lib.hid hr
      clear hr
      go_wp2
      go_ret
      exact ⟨r, rfl, HR.out.fewer (fun k hk => .inl hk), HB3.out.trans (HT.out.below HB3.out.size (fun k hk e => e (.inl hk)))⟩
theorem Turn.put4 {H H1 : Sh} {w w1 : World} {S1 : St} (h : Turn H w S1 H1 w1) (h00 : 0 < w.heap.size) {b : Nat} (hb : w.heap.size ≤ b) (h0 : H1.own b = 0) (v0 v1 v2 v3 : Value) : Turn H w S1 H1 (put4 w1 b v0 v1 v2 v3) :=
  (((h.side h00 hb h0 0 v0).side h00 hb h0 1 v1).side h00 hb h0 2 v2).side h00 hb h0 3 v3
theorem Turn.grown {H H1 : Sh} {w w1 w2 : World} {S1 : St} (h : Turn H w S1 H1 w1) (h00 : 0 < w.heap.size) {v : Value} (hg : w1.grownBy w2 v.ownBlock) (hv : ∀ k, v.ownBlock = some k → H1.own k = 0 ∧ w.heap.size ≤ k) : Turn H w S1 H1 w2 := by
  have ht : Tch (fun k => v.ownBlock = some k) w1 w2 := (Tch.refl _ w1).grown hg (fun k hk => .inl hk)
  exact ⟨h.at_.frame ht (fun k hk e => (hv k e).1) (fun e => by have := (hv 0 e).2; omega), h.r, h.own, h.tch.trans ht (fun k hk e => by have := (hv k e).2; omega)⟩
theorem bound_P (S : St) (h8 : S.l.length = 8) (n : Nat) (hn : n < 8) (P : List Mg) (f : Int) : (S.put n { S.get n with P := P }).bound f = S.bound f := by
  have e : (S.put n { S.get n with P := P }).members = S.members := by
    unfold St.members St.put
    rw [List.map_set]
    have hl : n < S.l.length := by omega
    have hg : S.get n = S.l[n] := get_el S n hl ▸ rfl
    have : ({ S.get n with P := P } : Mem).lm = (S.l.map Mem.lm)[n]'(by simpa using hl) := by rw [List.getElem_map, ← hg]; rfl
    rw [this]
    exact List.set_getElem_self _
  unfold St.bound
  rw [e]
def kts (Q : List Mg) : List Int := Q.map fun m => m.k.t
theorem row_m {W : World} {base c : Nat} {A : Option Addr} {Q : List Mg} (h : W.ownsRow base 41 6 (.slice A Q.length c) Q.length (flatM Q)) (j : Nat) (hj : j < Q.length) :
    ∃ g, A = some ⟨g, 0, none⟩ ∧ W.cell? ⟨g, j * 6, none⟩ = some (.int .i64 Q[j].k.t) ∧ W.cell? ⟨g, j * 6 + 1, none⟩ = some (.int .i64 Q[j].k.f) ∧ W.cell? ⟨g, j * 6 + 2, none⟩ = some (.int .i64 Q[j].k.s) ∧ W.cell? ⟨g, j * 6 + 3, none⟩ = some (.int .i64 Q[j].d) ∧ W.cell? ⟨g, j * 6 + 4, none⟩ = some (.int .i64 Q[j].cl) ∧ W.cell? ⟨g, j * 6 + 5, none⟩ = some (.int .i64 Q[j].bd) := by
  rcases h.2 with ⟨e, h1⟩ | ⟨g, cap, cur, e, _⟩
  · omega
  · simp only [Value.slice.injEq] at e
    obtain ⟨e1, e2, e3⟩ := e
    have hc : ∀ i v, i < 6 → Q[j].cells[i]? = some v → W.cell? ⟨g, j * 6 + i, none⟩ = some v := fun i v hi hv => by
      have := h.cells (g := g) (by rw [e1]; rfl) (j * 6 + i) v (by
        rw [show flatM Q = Q.flatMap Mg.cells from rfl, flat_get Mg.cells 6 (fun _ => rfl) Q j i hj hi]
        exact hv)
      rwa [add_plain] at this
    exact ⟨g, e1, hc 0 _ (by decide) rfl, hc 1 _ (by decide) rfl, hc 2 _ (by decide) rfl, hc 3 _ (by decide) rfl, hc 4 _ (by decide) rfl, hc 5 _ (by decide) rfl⟩
theorem dec_n_le (k a t b : Int) (q : List Int) : (dec k a t b q).2.2 ≤ q.length := by
  have h := fun t => upN_le q t
  unfold dec
  repeat' split
  all_goals first | exact h _ | exact Nat.zero_le _ | exact Nat.le_refl _
theorem kts_snoc (Q : List Mg) (j : Nat) (hj : j < Q.length) : kts (Q.take (j + 1)) = kts (Q.take j) ++ [Q[j].k.t] := by
  unfold kts
  rw [List.take_succ_eq_append_getElem hj, List.map_append]
  rfl
structure PopInv (H : Sh) (w : World) (S1 : St) (n b4 b8 B : Nat) (P Q : List Mg) (vp : Value) (tm : Int) (j : Nat) (H' : Sh) (vt : Value) (wr : World) : Prop where
  turn : Turn H w (S1.put n { S1.get n with Q := Q.drop j }) H' wr
  o4 : H'.own b4 = 0
  o8 : H'.own b8 = 0
  blk4 : wr.heap[b4]? = some (.cells #[.slice none 0 0, .slice none 0 0, .bool false, .int .i64 0] 31 (0, 0))
  blk8 : wr.heap[b8]? = some (.cells #[vp, vt, .bool false, .int .i64 tm] 31 (0, 0))
  p : wr.ownsRow 0 41 6 vp P.length (flatM P)
  pow : ∀ k, vp.ownBlock = some k → H'.own k = 0
  pB : ∀ k, vp.ownBlock = some k → k < w.heap.size
  t : wr.ownsRow B 41 6 vt j (flatM (Q.take j))
  tow : ∀ k, vt.ownBlock = some k → H'.own k = 0
  sz : B ≤ wr.heap.size
theorem PopInv.step {H : Sh} {w : World} {S1 : St} {n b4 b8 B : Nat} {P Q : List Mg} {vp : Value} {tm : Int} {j : Nat} {H' H2 : Sh} {vt v11 : Value} {wr w9 w10 w11 : World} (h : PopInv H w S1 n b4 b8 B P Q vp tm j H' vt wr)
    (hT9 : Turn H' wr (S1.put n { S1.get n with Q := Q.drop (j + 1) }) H2 w9) (hw : Below w9.heap.size w9 w10) (hg : w10.grownBy w11 vt.ownBlock) (hl : ∀ k, v11.ownBlock = some k → vt.ownBlock = some k ∨ w10.heap.size ≤ k)
    (hown : w11.ownsRow B 41 6 v11 (j + 1) (flatM (Q.take (j + 1)))) (h4B : b4 < B) (h8B : b8 < B) (h4w : w.heap.size ≤ b4) (h8w : w.heap.size ≤ b8) (h48 : b4 ≠ b8) (hBw : w.heap.size ≤ B) (h00 : 0 < w.heap.size) :
    PopInv H w S1 n b4 b8 B P Q vp tm (j + 1) H2 v11 (w11.setCell ⟨b8, 1, none⟩ v11) := by
  have l4 : b4 < wr.heap.size := (Array.getElem?_eq_some_iff.1 h.blk4).1
  have l8 : b8 < wr.heap.size := (Array.getElem?_eq_some_iff.1 h.blk8).1
  have s9 := hT9.tch.size
  have s10 := hw.size
  have hvt : ∀ k, vt.ownBlock = some k → H2.own k = 0 ∧ B ≤ k ∧ k < wr.heap.size := fun k hk => ⟨hT9.own k (own_lt h.t k hk) (h.tow k hk), own_base h.t k hk, own_lt h.t k hk⟩
  have o4 := hT9.own b4 l4 h.o4
  have o8 := hT9.own b8 l8 h.o8
  have ht : Tch (fun k => vt.ownBlock = some k) w10 w11 := (Tch.refl _ w10).grown hg (fun k hk => .inl hk)
  have hkeep : ∀ k, k < wr.heap.size → H'.own k = 0 → ¬ vt.ownBlock = some k → k ≠ b8 → (w11.setCell ⟨b8, 1, none⟩ v11).heap[k]? = wr.heap[k]? := fun k hk h0 hv hb => by
    rw [heap_setCell_other w11 ⟨b8, 1, none⟩ k v11 hb, ht.block k (by omega) hv, hw.block k (by omega), hT9.keeps hk h0]
  have hn4 : ¬ vt.ownBlock = some b4 := fun e => by have := (hvt b4 e).2.1; omega
  have hn8 : ¬ vt.ownBlock = some b8 := fun e => by have := (hvt b8 e).2.1; omega
  refine ⟨(((h.turn.trans hT9).below hw).grown h00 hg (fun k hk => ⟨(hvt k hk).1, by have := (hvt k hk).2.1; omega⟩)).side h00 h8w o8 1 v11, o4, o8, ?_, ?_, ?_, fun k hk => ?_, h.pB, ?_, fun k hk => ?_, ?_⟩
  · rw [hkeep b4 l4 h.o4 hn4 h48]
    exact h.blk4
  · have hb : w11.heap[b8]? = some (.cells #[vp, vt, .bool false, .int .i64 tm] 31 (0, 0)) := by
      rw [ht.block b8 (by omega) hn8, hw.block b8 (by omega), hT9.keeps l8 h.o8]
      exact h.blk8
    rw [heap_setCell_same w11 b8 1 _ 31 v11 hb]
    rfl
  · exact own_move h.p (fun k hk => hkeep k (own_lt h.p k hk) (h.pow k hk) (fun e => by have h1 := (hvt k e).2.1; have h2 := h.pB k hk; omega) (fun e => by have h2 := h.pB k hk; omega))
  · exact hT9.own k (own_lt h.p k hk) (h.pow k hk)
  · refine own_move hown (fun k hk => heap_setCell_other w11 ⟨b8, 1, none⟩ k v11 (fun e => ?_))
    have e : k = b8 := e
    rcases hl k hk with z | z
    · have := (hvt k z).2.1; omega
    · omega
  · rcases hl k hk with z | z
    · exact (hvt k z).1
    · exact hT9.at_.fresh (by omega)
  · have h1 := h.sz
    have h2 := hg.size
    show B ≤ (w11.setCell _ _).heap.size
    simp [World.setCell]
    omega
theorem Turn.ask3 {H H1 : Sh} {w wr : World} {S1 : St} (h : Turn H w S1 H1 wr) (h8 : S1.l.length = 8) {n : Nat} (hn : n < 8) (t : Int) :
    Turn H w (S1.put n { S1.get n with time := t, kind := 0, ask := 0 }) H1 (((wr.setCell ⟨H.r, 2 + n * 10 + 2, none⟩ (.int .i64 t)).setCell ⟨H.r, 2 + n * 10 + 4, none⟩ (.int .i64 0)).setCell ⟨H.r, 2 + n * 10 + 5, none⟩ (.int .i64 0)) := by
  have hr := h.r
  have hb1 := blk_put h.at_.blk h8 n 2 hn (by decide) (.int .i64 t) { S1.get n with time := t } rfl
  have g1 := gput_eq S1 h8 hn { S1.get n with time := t }
  have l1 : (S1.put n { S1.get n with time := t }).l.length = 8 := by rw [St.put_l]; exact h8
  have hb2 := blk_put hb1 l1 n 4 hn (by decide) (.int .i64 0) { S1.get n with time := t, kind := 0 } (by rw [g1]; rfl)
  rw [put_put] at hb2
  have g2 := gput_eq S1 h8 hn { S1.get n with time := t, kind := 0 }
  have l2 : (S1.put n { S1.get n with time := t, kind := 0 }).l.length = 8 := by rw [St.put_l]; exact h8
  have hb3 := blk_put hb2 l2 n 5 hn (by decide) (.int .i64 0) { S1.get n with time := t, kind := 0, ask := 0 } (by rw [g2]; rfl)
  rw [put_put] at hb3
  have ht : Tch (fun k => k = H1.r) wr (((wr.setCell ⟨H1.r, 2 + n * 10 + 2, none⟩ (.int .i64 t)).setCell ⟨H1.r, 2 + n * 10 + 4, none⟩ (.int .i64 0)).setCell ⟨H1.r, 2 + n * 10 + 5, none⟩ (.int .i64 0)) :=
    ((Tch.setCell (P := fun k => k = H1.r) (Tch.refl _ wr) (p := ⟨H1.r, 2 + n * 10 + 2, none⟩) (.inl rfl) _).setCell (p := ⟨H1.r, 2 + n * 10 + 4, none⟩) (.inl rfl) _).setCell (p := ⟨H1.r, 2 + n * 10 + 5, none⟩) (.inl rfl) _
  rw [← hr]
  refine h.trans ⟨h.at_.turn ht hb3 rfl rfl rfl (put_keeps S1 h8 hn _ ⟨rfl, rfl, rfl⟩), rfl, fun _ _ e => e, ht.mono (fun k _ e => by rw [e, h.at_.o1]; decide)⟩
end Go.Proofs.YtehnkebcbomidaaGreatDoor.Rt
