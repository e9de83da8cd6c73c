/- Part of a proof over the given program: Paq0, Ti, Rxq0, Prq0, Bd. -/
import Derived.Test.YtehnkebcbomidaaGreatDoorCb35
set_option linter.unusedVariables false
set_option linter.unusedSimpArgs false
section
namespace Go.Proofs.YtehnkebcbomidaaGreatDoor.Rt
def St.timeOf (S : St) (f : Int) : Int := if f < 0 ∨ 8 ≤ f ∨ (S.get f.toNat).is = false then -1 else (S.get f.toNat).time
def St.boundOf (S : St) (f : Int) : Int := if S.timeOf f < 0 then -1 else S.bound f
end Go.Proofs.YtehnkebcbomidaaGreatDoor.Rt
end
namespace Go.Proofs.YtehnkebcbomidaaGreatDoor.Rt
open Go Go.RowKit Go.Proofs Go.Proofs.YtehnkebcbomidaaGreatDoorW.PrintWords Go.Proofs.YtehnkebcbomidaaGreatDoorW.PrintLast
theorem time_out (w : World) (g : Nat) (f : Int) (h : f < 0 ∨ 8 ≤ f) : Calls Tryz.prog 39 #[.pointer (some ⟨g, 0, none⟩), .int .i64 f] w fun e w' => e = .returned (.int .i64 (-1)) ∧ Below w.heap.size w w' := by
  rcases h with h | h
  · go_enter Tryz.func39, Tryz.ntmps39
    go_wp2_with fail
    go_ret
    exact ⟨rfl, Below.refl _ _⟩
  · have h0 : ¬ f < 0 := by omega
    go_enter Tryz.func39, Tryz.ntmps39
    go_wp2_with fail
    go_ret
    exact ⟨rfl, Below.refl _ _⟩
set_option maxHeartbeats 4000000 in
set_option maxRecDepth 100000 in
theorem time_call (w : World) (g n : Nat) (is : Bool) (t : Int) (hn : n < 8) (c1 : w.cell? ⟨g, 2 + n * 10, none⟩ = some (.bool is)) (c2 : w.cell? ⟨g, 2 + n * 10 + 2, none⟩ = some (.int .i64 t)) :
    Calls Tryz.prog 39 #[.pointer (some ⟨g, 0, none⟩), .int .i64 n] w fun e w' => e = .returned (.int .i64 (if is then t else -1)) ∧ Below w.heap.size w w' := by
  have hu115 := Tryz.underlying115
  have hu113 := Tryz.underlying113
  have hu112 := Tryz.underlying112
  have h0 : ¬ (n : Int) < 0 := by omega
  have h8 : ¬ (8 : Int) ≤ (n : Int) := by omega
  cases is with
  | true =>
    go_enter Tryz.func39, Tryz.ntmps39
    go_wp2_with fail
    go_ret
    exact ⟨rfl, Below.refl _ _⟩
  | false =>
    go_enter Tryz.func39, Tryz.ntmps39
    go_wp2_with fail
    go_ret
    exact ⟨rfl, Below.refl _ _⟩
end Go.Proofs.YtehnkebcbomidaaGreatDoor.Rt
section
namespace Go.Proofs.YtehnkebcbomidaaGreatDoor.Rt
open Go Go.RowKit Go.Proofs Go.Proofs.YtehnkebcbomidaaGreatDoorW.PrintWords Go.Proofs.YtehnkebcbomidaaGreatDoorW.PrintLast
theorem Rti.below {K : Nat → Prop} {r : Nat} {w w' : World} {S : St} (h : Rti K r w S) (hb : Below w.heap.size w w') : Rti K r w' S := by
  obtain ⟨H, hR, hr, hK⟩ := h
  exact ⟨H, hR.below hb, hr, fun k hk => ⟨Nat.lt_of_lt_of_le (hK k hk).1 hb.size, (hK k hk).2⟩⟩
section
variable {K : Nat → Prop} {r : Nat} {w : World} {S : St} {N : Int} (h : Rti K r w S) (ok : S.Ok N)
include h ok
omit ok in
theorem Rti.time (f : Int) : Calls Tryz.prog 39 #[.pointer (some ⟨r, 0, none⟩), .int .i64 f] w fun e w' => e = .returned (.int .i64 (S.timeOf f)) ∧ Below w.heap.size w w' := by
  obtain ⟨H, hR, rfl, _⟩ := h
  by_cases hf : f < 0 ∨ 8 ≤ f
  · have e : S.timeOf f = -1 := by
      unfold St.timeOf
      rw [if_pos (by omega)]
    rw [e]
    exact time_out w H.r f hf
  · obtain ⟨n, rfl⟩ : ∃ n : Nat, f = n := ⟨f.toNat, by omega⟩
    have hn : n < 8 := by omega
    have e : S.timeOf n = if (S.get n).is then (S.get n).time else -1 := by
      unfold St.timeOf
      rw [Int.toNat_natCast]
      cases (S.get n).is <;> simp <;> omega
    rw [e]
    exact time_call w H.r n _ _ hn (hR.c_is hn) (hR.c_time hn)
end
end Go.Proofs.YtehnkebcbomidaaGreatDoor.Rt
end
section
namespace Go.Proofs.YtehnkebcbomidaaGreatDoor.Rt
theorem fn_none (i : Nat) : fn (fun _ => false) i = i := by
  induction i with
  | zero => rfl
  | succ i ih => unfold fn; rw [if_neg (by decide), ih]
def none_ : Nat → Bool := fun _ => false
def fs (x : Int) (z : List Int) (i : Nat) : St := duo (f0 x i) (f1 (fq x z none_ i))
def fsA (x : Int) (z : List Int) (n : Nat) (ask : Int) : St := duo (f0 x n) { f1 (fq x z none_ n) with kind := 3, ask := ask }
def fsL (x : Int) (n : Nat) (t : Int) : St := duo (f0 x n) { f1 [] with time := t }
structure FlushOk (x : Int) (z : List Int) (ask : Int) (n : Nat) : Prop where
  se : ∀ i, i < n → (fs x z i).send 0 0 i (x + z.getD i 0) true = ((i : Int), 0, fs x z (i + 1))
  ok : ∀ i, i ≤ n → (fs x z i).Ok i
  ak : (fs x z n).ask 1 3 ask = (0, fsA x z n ask)
  oa : (fsA x z n ask).Ok n
  lk : (fsA x z n ask).look 1 = (⟨[], fq x z none_ n, true, min x ask⟩, 0, fsL x n (min x ask))
  bo : (fsL x n (min x ask)).boundOf 1 = x
theorem flush_ok {x ask : Int} (x1 : 1 ≤ x) (x2 : x ≤ 9) (z : List Int) (n : Nat) (hn : n ≤ 40) (hz : ∀ i, i < n → 0 ≤ z.getD i 0 ∧ z.getD i 0 < 256) (a0 : 0 ≤ ask) (a1 : ask < 256) : FlushOk x z ask n := by
  have p := pair_oks (a := x) (b := 3) x1 (by omega) (by omega) (by omega)
  have se : ∀ i, i < n → (fs x z i).send 0 0 i (x + z.getD i 0) true = ((i : Int), 0, fs x z (i + 1)) := fun i hi => duo_send_step x1 x2 z none_ i (by omega) (hz i hi).1 (hz i hi).2
  have ok : ∀ i, i ≤ n → (fs x z i).Ok i := by
    intro i
    induction i with
    | zero => intro _; exact p.oz
    | succ i ih =>
      intro hi
      have := Ok.send (ih (by omega)) (by omega) 0 0 (i : Int) (x + z.getD i 0) true
      rw [se i (by omega)] at this
      exact this
  have ak : (fs x z n).ask 1 3 ask = (0, fsA x z n ask) := duo_ask1 rfl rfl rfl (by omega) (by omega) a0 (by omega)
  have oa := Ok.ask (ok n (Nat.le_refl _)) 1 3 ask
  rw [ak] at oa
  obtain ⟨t, lk, ht⟩ := duo_flush (m0 := f0 x n) (m1 := { f1 (fq x z none_ n) with kind := 3, ask := ask }) rfl rfl rfl rfl a0 (B := x) (fs_bound x1 x2 n _) (by omega) (fun m hm => by
    obtain ⟨k, h1, h2, rfl⟩ := (fq_mem x z none_ n m).1 hm
    have := (hz k h1).1
    show 0 ≤ x + z.getD k 0
    omega)
  have htx : t = min x ask := by
    rw [ht]
    show (match fq x z none_ n with | [] => min ask x | q :: _ => min (min ask x) q.k.t) = _
    cases hQ : fq x z none_ n with
    | nil => show min ask x = _; omega
    | cons q Q =>
      obtain ⟨k, h1, h2, h3⟩ := (fq_mem x z none_ n q).1 (by rw [hQ]; exact List.mem_cons_self)
      have := (hz k h1).1
      have : q.k.t = x + z.getD k 0 := by rw [h3]; rfl
      show min (min ask x) q.k.t = _
      omega
  rw [htx] at lk
  refine ⟨se, ok, ak, oa, lk, ?_⟩
  unfold St.boundOf
  rw [if_neg, show fsL x n (min x ask) = duo (f0 x n) { f1 [] with time := min x ask } from rfl, fs_bound x1 x2]
  show ¬ (fsL x n (min x ask)).timeOf 1 < 0
  have : (fsL x n (min x ask)).timeOf 1 = min x ask := rfl
  omega
end Go.Proofs.YtehnkebcbomidaaGreatDoor.Rt
end
namespace Go.Proofs.YtehnkebcbomidaaGreatDoor.Rt
open Go Go.RowKit Go.Proofs Go.Proofs.YtehnkebcbomidaaGreatDoorW.PrintWords Go.Proofs.YtehnkebcbomidaaGreatDoorW.PrintLast
set_option maxHeartbeats 4000000 in
theorem Rti.boundOf {K : Nat → Prop} {r : Nat} {w : World} {S : St} (h : Rti K r w S) (h8 : S.l.length = 8) (f : Int) : Calls Tryz.prog 27 #[.pointer (some ⟨r, 0, none⟩), .int .i64 f] w fun e w' => e = .returned (.int .i64 (S.boundOf f)) ∧ Below w.heap.size w w' := by
  have ht := h.time f
  obtain ⟨H, hR, rfl, _⟩ := h
  have HB := Lib.hid (fun w1 (hb : Below w.heap.size w w1) => bound_call w1 H S (hR.below hb) h8 f)
  have HBO := Lib.hid (show S.boundOf f = if S.timeOf f < 0 then -1 else S.bound f from rfl)
  have HT := Lib.hid ht
  clear hR h8 ht
  by_cases hc : S.timeOf f < 0
  · have hbo := HBO.out.trans (if_pos hc)
    have HBO2 := Lib.hid hbo
    clear hbo
    generalize S.timeOf f = t at hc HT
    go_enter Tryz.func27, Tryz.ntmps27
    go_wp2_with (go_at_call 39; (with_reducible refine HT.out.mono ?_); rintro e w1 ⟨rfl, hb1⟩; have HB1 := Lib.hid hb1; clear hb1)
    go_ret
    rw [HBO2.out]
    exact ⟨rfl, HB1.out⟩
  · have hbo := HBO.out.trans (if_neg hc)
    have HBO2 := Lib.hid hbo
    clear hbo
    generalize S.timeOf f = t at hc HT
    go_enter Tryz.func27, Tryz.ntmps27
    go_wp2_with (first | (go_at_call 39; (with_reducible refine HT.out.mono ?_); rintro e w1 ⟨rfl, hb1⟩; have HB1 := Lib.hid hb1; clear hb1) | (go_at_call 71; (with_reducible refine (HB.out w1 HB1.out).mono ?_); rintro e w2 ⟨rfl, hb2⟩; have HB2 := Lib.hid hb2; clear hb2))
    go_ret
    rw [HBO2.out]
    exact ⟨rfl, HB1.out.trans (HB2.out.mono HB1.out.size)⟩
end Go.Proofs.YtehnkebcbomidaaGreatDoor.Rt
