/- past: the row's argument, read: a slice of steps; PastScript over it. -/
import Derived.Test.YtemedggbodkhcaaScript
import Derived.Test.YtemedggbodkhcaaXPastScriptx2
import Derived.Deep.Slices
import Derived.ChangeArms
set_option linter.unusedVariables false
set_option linter.unusedSimpArgs false
namespace Go.Proofs.Ytemedggbodkhcaa.XPastScript
open Go.RowKit Go.ChangeShapes Go.WideShapes Go.Deep Go.Proofs.YtemedggbodkhcaaW.PrintWords Go.Proofs.YtemedggbodkhcaaW.PrintLast Go.Proofs.YtemedggbodkhcaaW.PrintMore
/-! ### arguments that are read, as the print's kinds tell them -/
structure Opens (P : Program) (T : TypeId) {α : Type} (d : Kd α) (good : α → Prop) : Prop where
  open_ : ∀ {H : Type} {enc : TypeId × Value → H} {w : World} {base : Nat} {spare : Nat → Bool} {held : Bool} {fuel : Nat} {cs : List Value} {x : DataW H × List MemPlace}, DataW.trod enc P w base spare held fuel T cs = some x → ∃ a, d.K w a cs ∧ good a
theorem Opens.int {P : Program} {T : TypeId} {k : IntKind} (ht : P.underlying T = some (.int k)) : Opens P T (Kd.int k) (fun n => (Lit.int k n).wf = true) :=
  ⟨fun h => by obtain ⟨n, rfl, _, hw⟩ := DataW.trod_int ht h; exact ⟨n, rfl, hw⟩⟩
theorem Opens.bool {P : Program} {T : TypeId} (ht : P.underlying T = some .bool) : Opens P T Kd.bool (fun _ => True) :=
  ⟨fun h => by obtain ⟨b, rfl, _⟩ := DataW.trod_bool ht h; exact ⟨b, rfl, trivial⟩⟩
theorem Opens.iso {P : Program} {T : TypeId} {α β : Type} {d : Kd α} {good : α → Prop} (f : β → α) (g : α → β) (hfg : ∀ a, f (g a) = a) (h : Opens P T d good) : Opens P T (Kd.iso d f) (fun b => good (f b)) :=
  ⟨fun hx => by obtain ⟨a, hk, hg⟩ := h.open_ hx; exact ⟨g a, (show d.K _ (f (g a)) _ by rw [hfg]; exact hk), by rw [hfg]; exact hg⟩⟩
theorem Opens.slice {P : Program} {T e : TypeId} {α : Type} {d : Kd α} {good : α → Prop} (ht : P.underlying T = some (.slice e)) (hs : P.cellsOf e = d.sz) (h : Opens P e d good) : Opens P T (Kd.slice e d) (fun l => ∀ a ∈ l, good a) := by
  refine ⟨fun {H enc w base spare held fuel cs x} hx => ?_⟩
  rcases Go.Deep.open_slice ht hx with ⟨rfl, _⟩ | ⟨a, len, cap, m, n, D, Pl, rfl, hb, hl, hm, hmm, _, hi⟩
  · exact ⟨[], ⟨none, 0, rfl, Nat.le_refl _, rfl, by simp, fun h => absurd h (Nat.lt_irrefl _)⟩, fun a ha => by cases ha⟩
  · have hlm : len ≤ m := by rw [hmm]; split <;> omega
    have hall : ∀ i : Fin len, ∃ a' : α, good a' ∧ ∃ c, c.length = d.sz ∧ d.K w a' c ∧ ∀ j u, c[j]? = some u → w.cell? (a.add (i.1 * d.sz + j)) = some u := by
      intro i
      obtain ⟨c, hc, ht'⟩ := hi i.1 (by have := i.2; omega)
      obtain ⟨a', hk, hg⟩ := h.open_ ht'
      obtain ⟨_, hcl, hat⟩ := World.cells?_some hc
      rw [hs] at hcl hat
      refine ⟨a', hg, c, hcl, hk, fun j u hj => ?_⟩
      have hjl : j < d.sz := by rw [← hcl]; exact (List.getElem?_eq_some_iff.1 hj).1
      have := hat j hjl
      rw [← Go.Deep.add_add, this, hj]
    obtain ⟨f, hf⟩ := Classical.axiomOfChoice hall
    have hlen : (List.ofFn f).length = len := List.length_ofFn
    refine ⟨List.ofFn f, ⟨some a, cap, by rw [hlen], by rw [hlen]; exact hl, rfl, by rw [hlen]; unfold maxLen at hm; omega, fun _ => ⟨a, rfl, fun j p hj => ?_⟩⟩, fun a' ha => ?_⟩
    · have hjl : j < len := by rw [← hlen]; exact (List.getElem?_eq_some_iff.1 hj).1
      rw [List.getElem?_ofFn, dif_pos hjl] at hj
      obtain rfl := Option.some.inj hj
      exact (hf ⟨j, hjl⟩).2
    · obtain ⟨i, rfl⟩ := List.mem_ofFn.1 ha
      exact (hf i).1
/-- a slice argument: its row -/
theorem Opens.arg {P : Program} {T e : TypeId} {α : Type} {d : Kd α} {good : α → Prop} (h : Opens P T (Kd.slice e d) (fun l => ∀ a ∈ l, good a)) {H : Type} {enc : TypeId × Value → H} {w : World} {base : Nat} {spare : Nat → Bool} {held : Bool} {a : Option Addr} {len cap : Nat} {x : DataW H} {p : List MemPlace}
    (hx : DataW.Trod enc P w base spare held T (.slice a len cap) x p) : ∃ l : List α, l.length = len ∧ len ≤ cap ∧ d.C w a len l ∧ ∀ a ∈ l, good a := by
  obtain ⟨fuel, hf⟩ := hx
  obtain ⟨l, ⟨A, c, he, hc, hC⟩, hg⟩ := h.open_ hf
  simp only [Value.cells, List.cons.injEq, and_true, Value.slice.injEq] at he
  obtain ⟨rfl, rfl, rfl⟩ := he
  exact ⟨l, rfl, hc, hC, hg⟩
theorem field_of {P : Program} {H : Type} {enc : TypeId × Value → H} {w : World} {base : Nat} {spare : Nat → Bool} {held : Bool} {n : Nat} {T : TypeId} {α : Type} {d : Kd α} {good : α → Prop} (h : Opens P T d good) {cs : List Value} {xs : List (DataW H × List MemPlace)} {i : Nat} (hi : i < xs.length) (hx : DataW.trod enc P w base spare held n T cs = xs[i]?) : ∃ a, d.K w a cs ∧ good a :=
  h.open_ (hx.trans (List.getElem?_eq_getElem hi))
theorem cut_at (l : List Value) (o s : Nat) : l.drop o = (l.drop o).take s ++ l.drop (o + s) := by
  rw [← List.drop_drop]
  exact (List.take_append_drop s (l.drop o)).symm
theorem opens27 : Opens Try.prog 27 k27 (fun _ => True) := by
  refine ⟨fun {H enc w base spare held fuel cs x} hx => ?_⟩
  obtain ⟨xs, n, _, _, hcl, hxl, hf⟩ := DataW.trod_struct Try.underlying27 hx
  have hC : Try.prog.cellsOf 27 = 3 := by kernel_rfl
  rw [hC] at hcl
  have hxl' : xs.length = 3 := hxl
  have h0 : DataW.trod enc Try.prog w base spare held n 3 ((cs.drop 0).take (Try.prog.cellsOf 3)) = xs[0]? := hf 0 _ rfl
  rw [show Try.prog.cellsOf 3 = 1 by kernel_rfl] at h0
  obtain ⟨a0, k0, _⟩ := field_of (xs := xs) (Opens.int Try.underlying3) (i := 0) (by rw [hxl']; decide) h0
  have h1 : DataW.trod enc Try.prog w base spare held n 3 ((cs.drop 1).take (Try.prog.cellsOf 3)) = xs[1]? := hf 1 _ rfl
  rw [show Try.prog.cellsOf 3 = 1 by kernel_rfl] at h1
  obtain ⟨a1, k1, _⟩ := field_of (xs := xs) (Opens.int Try.underlying3) (i := 1) (by rw [hxl']; decide) h1
  have h2 : DataW.trod enc Try.prog w base spare held n 3 ((cs.drop 2).take (Try.prog.cellsOf 3)) = xs[2]? := hf 2 _ rfl
  rw [show Try.prog.cellsOf 3 = 1 by kernel_rfl] at h2
  obtain ⟨a2, k2, _⟩ := field_of (xs := xs) (Opens.int Try.underlying3) (i := 2) (by rw [hxl']; decide) h2
  rw [List.take_of_length_le (by rw [List.length_drop]; omega)] at k2
  exact ⟨⟨a0, a1, a2⟩, ⟨(cs.drop 0).take 1, cs.drop 1, cut_at cs 0 1, k0, ⟨(cs.drop 1).take 1, cs.drop 2, cut_at cs 1 1, k1, k2⟩⟩, trivial⟩
theorem opens29 : Opens Try.prog 29 k29 (fun _ => True) := by
  refine ⟨fun {H enc w base spare held fuel cs x} hx => ?_⟩
  obtain ⟨xs, n, _, _, hcl, hxl, hf⟩ := DataW.trod_struct Try.underlying29 hx
  have hC : Try.prog.cellsOf 29 = 6 := by kernel_rfl
  rw [hC] at hcl
  have hxl' : xs.length = 4 := hxl
  have h0 : DataW.trod enc Try.prog w base spare held n 27 ((cs.drop 0).take (Try.prog.cellsOf 27)) = xs[0]? := hf 0 _ rfl
  rw [show Try.prog.cellsOf 27 = 3 by kernel_rfl] at h0
  obtain ⟨a0, k0, _⟩ := field_of (xs := xs) opens27 (i := 0) (by rw [hxl']; decide) h0
  have h1 : DataW.trod enc Try.prog w base spare held n 3 ((cs.drop 3).take (Try.prog.cellsOf 3)) = xs[1]? := hf 1 _ rfl
  rw [show Try.prog.cellsOf 3 = 1 by kernel_rfl] at h1
  obtain ⟨a1, k1, _⟩ := field_of (xs := xs) (Opens.int Try.underlying3) (i := 1) (by rw [hxl']; decide) h1
  have h2 : DataW.trod enc Try.prog w base spare held n 3 ((cs.drop 4).take (Try.prog.cellsOf 3)) = xs[2]? := hf 2 _ rfl
  rw [show Try.prog.cellsOf 3 = 1 by kernel_rfl] at h2
  obtain ⟨a2, k2, _⟩ := field_of (xs := xs) (Opens.int Try.underlying3) (i := 2) (by rw [hxl']; decide) h2
  have h3 : DataW.trod enc Try.prog w base spare held n 3 ((cs.drop 5).take (Try.prog.cellsOf 3)) = xs[3]? := hf 3 _ rfl
  rw [show Try.prog.cellsOf 3 = 1 by kernel_rfl] at h3
  obtain ⟨a3, k3, _⟩ := field_of (xs := xs) (Opens.int Try.underlying3) (i := 3) (by rw [hxl']; decide) h3
  rw [List.take_of_length_le (by rw [List.length_drop]; omega)] at k3
  exact ⟨⟨a0, a1, a2, a3⟩, ⟨(cs.drop 0).take 3, cs.drop 3, cut_at cs 0 3, k0, ⟨(cs.drop 3).take 1, cs.drop 4, cut_at cs 3 1, k1, ⟨(cs.drop 4).take 1, cs.drop 5, cut_at cs 4 1, k2, k3⟩⟩⟩, trivial⟩
theorem opens32 : Opens Try.prog 32 k32 (fun _ => True) := by
  refine ⟨fun {H enc w base spare held fuel cs x} hx => ?_⟩
  obtain ⟨xs, n, _, _, hcl, hxl, hf⟩ := DataW.trod_struct Try.underlying32 hx
  have hC : Try.prog.cellsOf 32 = 10 := by kernel_rfl
  rw [hC] at hcl
  have hxl' : xs.length = 5 := hxl
  have h0 : DataW.trod enc Try.prog w base spare held n 29 ((cs.drop 0).take (Try.prog.cellsOf 29)) = xs[0]? := hf 0 _ rfl
  rw [show Try.prog.cellsOf 29 = 6 by kernel_rfl] at h0
  obtain ⟨a0, k0, _⟩ := field_of (xs := xs) opens29 (i := 0) (by rw [hxl']; decide) h0
  have h1 : DataW.trod enc Try.prog w base spare held n 3 ((cs.drop 6).take (Try.prog.cellsOf 3)) = xs[1]? := hf 1 _ rfl
  rw [show Try.prog.cellsOf 3 = 1 by kernel_rfl] at h1
  obtain ⟨a1, k1, _⟩ := field_of (xs := xs) (Opens.int Try.underlying3) (i := 1) (by rw [hxl']; decide) h1
  have h2 : DataW.trod enc Try.prog w base spare held n 3 ((cs.drop 7).take (Try.prog.cellsOf 3)) = xs[2]? := hf 2 _ rfl
  rw [show Try.prog.cellsOf 3 = 1 by kernel_rfl] at h2
  obtain ⟨a2, k2, _⟩ := field_of (xs := xs) (Opens.int Try.underlying3) (i := 2) (by rw [hxl']; decide) h2
  have h3 : DataW.trod enc Try.prog w base spare held n 3 ((cs.drop 8).take (Try.prog.cellsOf 3)) = xs[3]? := hf 3 _ rfl
  rw [show Try.prog.cellsOf 3 = 1 by kernel_rfl] at h3
  obtain ⟨a3, k3, _⟩ := field_of (xs := xs) (Opens.int Try.underlying3) (i := 3) (by rw [hxl']; decide) h3
  have h4 : DataW.trod enc Try.prog w base spare held n 30 ((cs.drop 9).take (Try.prog.cellsOf 30)) = xs[4]? := hf 4 _ rfl
  rw [show Try.prog.cellsOf 30 = 1 by kernel_rfl] at h4
  obtain ⟨a4, k4, _⟩ := field_of (xs := xs) (Opens.slice Try.underlying30 (by kernel_rfl) opens29) (i := 4) (by rw [hxl']; decide) h4
  rw [List.take_of_length_le (by rw [List.length_drop]; omega)] at k4
  exact ⟨⟨a0, a1, a2, a3, a4⟩, ⟨(cs.drop 0).take 6, cs.drop 6, cut_at cs 0 6, k0, ⟨(cs.drop 6).take 1, cs.drop 7, cut_at cs 6 1, k1, ⟨(cs.drop 7).take 1, cs.drop 8, cut_at cs 7 1, k2, ⟨(cs.drop 8).take 1, cs.drop 9, cut_at cs 8 1, k3, k4⟩⟩⟩⟩, trivial⟩
theorem opens47 : Opens Try.prog 47 k47 (fun _ => True) := by
  refine ⟨fun {H enc w base spare held fuel cs x} hx => ?_⟩
  obtain ⟨xs, n, _, _, hcl, hxl, hf⟩ := DataW.trod_struct Try.underlying47 hx
  have hC : Try.prog.cellsOf 47 = 11 := by kernel_rfl
  rw [hC] at hcl
  have hxl' : xs.length = 2 := hxl
  have h0 : DataW.trod enc Try.prog w base spare held n 3 ((cs.drop 0).take (Try.prog.cellsOf 3)) = xs[0]? := hf 0 _ rfl
  rw [show Try.prog.cellsOf 3 = 1 by kernel_rfl] at h0
  obtain ⟨a0, k0, _⟩ := field_of (xs := xs) (Opens.int Try.underlying3) (i := 0) (by rw [hxl']; decide) h0
  have h1 : DataW.trod enc Try.prog w base spare held n 32 ((cs.drop 1).take (Try.prog.cellsOf 32)) = xs[1]? := hf 1 _ rfl
  rw [show Try.prog.cellsOf 32 = 10 by kernel_rfl] at h1
  obtain ⟨a1, k1, _⟩ := field_of (xs := xs) opens32 (i := 1) (by rw [hxl']; decide) h1
  rw [List.take_of_length_le (by rw [List.length_drop]; omega)] at k1
  exact ⟨⟨a0, a1⟩, ⟨(cs.drop 0).take 1, cs.drop 1, cut_at cs 0 1, k0, k1⟩, trivial⟩
theorem heavy_l0 (l : List S47) (hl : l.length ≤ 200) (d : Nat) : ∀ (k : Nat) (i : Int), 0 ≤ i → i ≤ l.length → (l.length : Int) - i = d → d < k → ∃ r, pacelinelaw13_heavy.l0 k l i = some r ∧ (r = false → ∀ j : Nat, i ≤ j → j < l.length → (rd_T47 l j).f1.f4.length ≤ 20) := by
  induction d with
  | zero =>
    intro k i h0 h1 hd hk
    obtain ⟨k, rfl⟩ : ∃ m, k = m + 1 := ⟨k - 1, by omega⟩
    exact ⟨false, by simp only [pacelinelaw13_heavy.l0]; rw [if_neg (by omega)], fun _ j hj hj2 => by omega⟩
  | succ d ih =>
    intro k i h0 h1 hd hk
    obtain ⟨k, rfl⟩ : ∃ m, k = m + 1 := ⟨k - 1, by omega⟩
    have hlt : i < (l.length : Int) := by omega
    by_cases hx : (((rd_T47 l i).f1.f4).length : Int) > 20
    · exact ⟨true, by simp only [pacelinelaw13_heavy.l0]; rw [if_pos hlt, if_pos h0, if_pos hx], fun h => by cases h⟩
    · obtain ⟨r, hr, h⟩ := ih k (i + 1) (by omega) (by omega) (by omega) (by omega)
      refine ⟨r, ?_, fun hf j hj hj2 => ?_⟩
      · simp only [pacelinelaw13_heavy.l0]
        rw [if_pos hlt, if_pos h0, if_neg hx, show wrap64 (i + 1) = i + 1 by unfold wrap64; omega]
        exact hr
      · by_cases e : (j : Int) = i
        · subst e
          omega
        · exact h hf j (by omega) hj2
theorem heavy_some (l : List S47) : ∃ k r, pacelinelaw13_heavy.f k l = some r ∧ (r = false → l.length ≤ 200 ∧ ∀ j : Nat, j < l.length → (rd_T47 l j).f1.f4.length ≤ 20) := by
  by_cases hl : (l.length : Int) > 200
  · exact ⟨0, true, by unfold pacelinelaw13_heavy.f; rw [if_pos hl], fun h => by cases h⟩
  · obtain ⟨r, hr, h⟩ := heavy_l0 l (by omega) l.length (l.length + 1) 0 (by omega) (by omega) (by omega) (by omega)
    exact ⟨l.length + 1, r, by unfold pacelinelaw13_heavy.f; rw [if_neg hl]; exact hr, fun hf => ⟨by omega, fun j hj => h hf j (by omega) hj⟩⟩
theorem steps_of {w : World} {A0 : Option Addr} {l0 : List S47} (h : Kd.C k47 w A0 l0.length l0) (h20 : ∀ j : Nat, j < l0.length → (rd_T47 l0 j).f1.f4.length ≤ 20) : Past.Steps2 w A0 l0.length := by
  intro i hi
  obtain ⟨ad, c, e, _, hK, hc⟩ := Kd.C_get h z47 (i : Int) (by omega) (by omega)
  obtain ⟨A10, c10, hcs, hl, hC⟩ := k47_open hK
  have e1 : ((i : Int)).toNat = i := by omega
  rw [e1] at hc hcs hl hC
  have hx := h20 i hi
  have ex : rd_T47 l0 (i : Int) = l0.getD i z47 := rfl
  rw [ex] at hx
  generalize l0.getD i z47 = x at *
  refine ⟨ad, x.f0, ⟨x.f1.f0.f0.f0, x.f1.f0.f0.f1, x.f1.f0.f0.f2, x.f1.f0.f1, x.f1.f0.f2, x.f1.f0.f3, x.f1.f1, x.f1.f2, x.f1.f3, A10, x.f1.f4.length, c10⟩, x.f1.f4, e, fun j u hj => ?_, Past.rd_of_C hC hl hx⟩
  exact hc j u (by rw [hcs]; exact hj)
theorem script_calls (A0 : Option Addr) (c0 : Nat) (l0 : List (S47)) (w : World) (hr0 : Kd.C k47 w A0 l0.length l0) (hc0 : l0.length ≤ c0) :
    Calls Try.prog 7 #[.slice A0 l0.length c0] w fun e w' => e = .returned (.bool true) ∧ Below w.heap.size w w' := by
  obtain ⟨k, hv, hf, hb⟩ := heavy_some l0
  refine Past.script_walk w A0 c0 l0.length hv hc0 ((pacelinelaw13_heavy.calls k A0 c0 l0 hv w hr0 hc0 hf).mono ?_) (fun h => ⟨(hb h).1, steps_of hr0 (hb h).2⟩)
  rintro e w' ⟨rfl, n, rfl⟩
  exact ⟨rfl, pw_below_drewN (Below.refl _ _) n⟩
theorem script_arg {H : Type} {enc : TypeId × Value → H} {x : DataW H} {p : List MemPlace} (W : World) (a : Option Addr) (len cap : Nat) (k : DataW.Trod enc Try.prog W 0 (fun _ => true) true 43 (.slice a len cap) x p) :
    Calls Try.prog 7 #[.slice a len cap] W fun e W' => e = .returned (.bool true) ∧ Below W.heap.size W W' := by
  obtain ⟨l, rfl, hc, hC, _⟩ := Opens.arg (Opens.slice Try.underlying43 (by kernel_rfl) opens47) k
  exact script_calls a cap l W hC hc
end Go.Proofs.Ytemedggbodkhcaa.XPastScript
