/- lines: Decode and the reference's as contracts for the laws. -/
import Derived.Test.YtkjghjffdjjedaaDoorDec
import Derived.Test.YtkjghjffdjjedaaDoorPq
import Derived.Test.YtkjghjffdjjedaaDoorXLinesEncodesx1
import Derived.Test.YtkjghjffdjjedaaDoorXLinesEncodesx2
import Derived.Test.YtkjghjffdjjedaaDoorXLinesEncodesx3
import Derived.HandedShaped
set_option linter.unusedVariables false
set_option linter.unusedSimpArgs false
namespace Go.Proofs.YtkjghjffdjjedaaDoor.Enc
open Go Go.RowKit Go.Lib Go.Proofs Go.Proofs.YtkjghjffdjjedaaDoorW.PrintWords Go.Proofs.YtkjghjffdjjedaaDoorW.PrintLast
/-- rows that can be read -/
def Reads (W : World) (v : Value) (rows : List (List ByteArray)) : Prop := ∃ A c, v = .slice A rows.length c ∧ rows.length ≤ c ∧ Kd.C (Kd.slice 9 Kd.string) W A rows.length rows
theorem Reads.below {W W' : World} {v : Value} {rows : List (List ByteArray)} (h : Reads W v rows) (hb : Below W.heap.size W W') : Reads W' v rows := by
  obtain ⟨A, c, h1, h2, h3⟩ := h
  exact ⟨A, c, h1, h2, Kd.C_below h3 hb⟩
theorem Reads.nil (W : World) : Reads W (.slice none 0 0) [] := ⟨none, 0, rfl, Nat.le_refl _, rfl, by decide, fun h => absurd h (by decide)⟩
theorem own_C {W : World} {b : Nat} {v : Value} {r : List ByteArray} (h : W.ownsRow b 9 1 v r.length (r.map Value.string)) : ∃ A c, v = .slice A r.length c ∧ r.length ≤ c ∧ Kd.string.C W A r.length r := by
  have h1 : OwnRow (Kd.string.K W) 9 1 W b v r := ⟨_, h, by simp, fun j p hj => by
    show _ = [Value.string p]
    obtain ⟨hl, rfl⟩ := List.getElem?_eq_some_iff.1 hj
    rw [Nat.mul_one, List.drop_eq_getElem_cons (by simpa using hl)]
    simp⟩
  exact h1.reads
theorem Rws.reads {b : Nat} {W : World} {v : Value} {rows : List (List ByteArray)} (h : Rws b W v rows) : Reads W v rows := by
  obtain ⟨hs, h1, h2, h3⟩ := h
  have h4 : OwnRow ((Kd.slice 9 Kd.string).K W) 35 1 W b v rows := ⟨hs, h2, by rw [h1]; simp, fun j p hj => by
    obtain ⟨hl, rfl⟩ := List.getElem?_eq_some_iff.1 hj
    have hl2 : j < hs.length := by omega
    rw [Nat.mul_one, List.drop_eq_getElem_cons hl2]
    obtain ⟨A, c, e1, e2, e3⟩ := own_C (h3 j hs[j] rows[j] (List.getElem?_eq_getElem hl2) hj)
    refine ⟨A, c, ?_, e2, e3⟩
    rw [List.take_succ_cons, List.take_zero, e1]⟩
  exact h4.reads
/-- the world as the laws want it -/
structure EnvD (W : World) : Prop where
  max : ∃ m, W.cell? ⟨4, 0, none⟩ = some (.int .i64 m)
  typ : W.cell? ⟨0, 0, none⟩ = some (.iface 93 (.agg #[As.hd 38]))
theorem EnvD.below {W W' : World} (h : EnvD W) (hb : Below W.heap.size W W') : EnvD W' := by
  obtain ⟨⟨m, h1⟩, h2⟩ := h
  exact ⟨⟨m, (hb.cell (p := ⟨4, 0, none⟩) (World.block_lt_of_cell? W _ h1)).trans h1⟩, (hb.cell (p := ⟨0, 0, none⟩) (World.block_lt_of_cell? W _ h2)).trans h2⟩
theorem dec_call (s : ByteArray) (w : World) (hs : s.size ≤ 1000000000) (hE : EnvD w) :
    Calls Tryd.prog 16 #[.string s] w fun e w' => ∃ v, e = .returned (.tuple #[v, .int .i64 (decF s).2.1, .int .i64 (decF s).2.2]) ∧ Reads w' v (decF s).1 ∧ Below w.heap.size w w' := by
  obtain ⟨m, hm⟩ := hE.max
  refine (decode_walk s m w (by omega) hm hE.typ).mono ?_
  rintro e w' ⟨h, hb⟩
  unfold DecRes at h
  rw [rowsF_Q] at h
  unfold decF
  cases hq : Q s.data.toList with
  | inl rs =>
    rw [hq] at h
    obtain ⟨v, rfl, hv⟩ := h
    exact ⟨v, rfl, hv.reads, hb⟩
  | inr k =>
    rw [hq] at h
    exact ⟨_, h, Reads.nil w', hb⟩
theorem ref_call (s : ByteArray) (w : World) (hs : s.size ≤ 1000000) :
    Calls Tryd.prog 18 #[.string s] w fun e w' => ∃ v, e = .returned (.tuple #[v, .int .i64 (decF s).2.1, .int .i64 (decF s).2.2]) ∧ Reads w' v (decF s).1 ∧ Below w.heap.size w w' := by
  refine (XLinesDecodes.pacelineref02_Decode.calls (s.size + 1) s _ _ _ w (ref_decode s hs)).mono ?_
  rintro e w' ⟨v, rfl, hv, hb⟩
  exact ⟨v, rfl, Kd.R_reads (Kd.S_R hv), hb⟩
theorem enc_call (rows : List (List ByteArray)) (v : Value) (w : World) (hv : Reads w v rows) (hb : (allE rows rows.length).length ≤ 140737488355328) (hl : rows.length ≤ 9223372036854775806) :
    Calls Tryd.prog 14 #[v] w fun e w' => e = .returned (.tuple #[.string (encF rows).1, .int .i64 (encF rows).2]) ∧ Below w.heap.size w w' := by
  obtain ⟨A, c, rfl, h1, h2⟩ := hv
  exact enc_walk A c rows w h2 h1 hb hl
/-! ### the law's own functions -/
open Go.Proofs.YtkjghjffdjjedaaDoor.XLinesEncodes
theorem wrN (i : Nat) (h : i < 9223372036854775807) : wrap64 ((i : Int) + 1) = ((i + 1 : Nat) : Int) := by unfold wrap64; omega
theorem same_l1 (a : List (List ByteArray)) (i : Nat) (hi : i < a.length) (hm : (a.getD i []).length < 9223372036854775807) (ha : a.length < 9223372036854775807)
    (hA : ∃ K, ∀ k, K ≤ k → pacelinelaw02_same.l0 k a a ((i + 1 : Nat) : Int) = some true) :
    ∀ (d kk : Nat), kk + d = (a.getD i []).length → ∃ K, ∀ k, K ≤ k → pacelinelaw02_same.l1 k a a (i : Int) (kk : Int) = some true := by
  have hib : (0 : Int) ≤ (i : Int) := by omega
  have hia : (i : Int) < (a.length : Int) := by omega
  have hrd : rd_L1 a (i : Int) = a.getD i [] := rfl
  intro d
  induction d with
  | zero =>
    intro kk h
    obtain ⟨K, hK⟩ := hA
    refine ⟨K + 1, fun k hk => ?_⟩
    obtain ⟨k, rfl⟩ : ∃ m, k = m + 1 := ⟨k - 1, by omega⟩
    rw [pacelinelaw02_same.l1, if_pos hib, if_pos hia, hrd, if_neg (by omega), wrN i (Nat.lt_trans hi ha)]
    exact hK k (by omega)
  | succ d ih =>
    intro kk h
    obtain ⟨K, hK⟩ := ih (kk + 1) (by omega)
    refine ⟨K + 1, fun k hk => ?_⟩
    obtain ⟨k, rfl⟩ : ∃ m, k = m + 1 := ⟨k - 1, by omega⟩
    have h1 : (kk : Int) < ((a.getD i []).length : Int) := by omega
    have h2 : (0 : Int) ≤ (kk : Int) := by omega
    rw [pacelinelaw02_same.l1, if_pos hib, if_pos hia, hrd, if_pos h1, if_pos h2, if_pos hia, if_pos h1, if_pos rfl, wrN kk (by omega)]
    exact hK k (by omega)
theorem same_l0 (a : List (List ByteArray)) (hm : ∀ r ∈ a, r.length < 9223372036854775807) (ha : a.length < 9223372036854775807) :
    ∀ (n i : Nat), i + n = a.length → ∃ K, ∀ k, K ≤ k → pacelinelaw02_same.l0 k a a (i : Int) = some true := by
  intro n
  induction n with
  | zero =>
    intro i h
    refine ⟨1, fun k hk => ?_⟩
    obtain ⟨k, rfl⟩ : ∃ m, k = m + 1 := ⟨k - 1, by omega⟩
    rw [pacelinelaw02_same.l0, if_neg (by omega)]
  | succ n ih =>
    intro i h
    have hi : i < a.length := by omega
    obtain ⟨K, hK⟩ := same_l1 a i hi (by rw [List.getD_eq_getElem?_getD, List.getElem?_eq_getElem hi]; exact hm _ (List.getElem_mem hi)) ha (ih (i + 1) (by omega)) (a.getD i []).length 0 (by omega)
    refine ⟨K + 1, fun k hk => ?_⟩
    obtain ⟨k, rfl⟩ : ∃ m, k = m + 1 := ⟨k - 1, by omega⟩
    have hib : (0 : Int) ≤ (i : Int) := by omega
    have hia : (i : Int) < (a.length : Int) := by omega
    rw [pacelinelaw02_same.l0, if_pos hia, if_pos hib, if_pos hia, if_pos rfl]
    exact hK k (by omega)
theorem same_refl (a : List (List ByteArray)) (hm : ∀ r ∈ a, r.length < 9223372036854775807) (ha : a.length < 9223372036854775807) : ∃ k, pacelinelaw02_same.f k a a = some true := by
  obtain ⟨K, hK⟩ := same_l0 a hm ha a.length 0 (by omega)
  exact ⟨K, by rw [pacelinelaw02_same.f, if_pos rfl]; exact hK K (Nat.le_refl _)⟩
theorem same_call (a : List (List ByteArray)) (v1 v2 : Value) (w : World) (h1 : Reads w v1 a) (h2 : Reads w v2 a) (hm : ∀ r ∈ a, r.length < 9223372036854775807) (ha : a.length < 9223372036854775807) :
    Calls Tryd.prog 17 #[v1, v2] w fun e w' => e = .returned (.bool true) ∧ Drawn0 w w' := by
  obtain ⟨A1, c1, rfl, p1, q1⟩ := h1
  obtain ⟨A2, c2, rfl, p2, q2⟩ := h2
  obtain ⟨k, hk⟩ := same_refl a hm ha
  exact pacelinelaw02_same.calls k A1 c1 a A2 c2 a true w q1 p1 q2 p2 hk
/-! ### how long rows are -/
theorem tailE_len (fs : Row8) : fs.length ≤ (tailE fs).length := by
  induction fs with
  | nil => exact Nat.le_refl _
  | cons f fs ih => simp only [tailE, List.flatMap_cons, List.length_append, List.length_cons] at ih ⊢; omega
theorem encR_len (r : Row8) : r.length ≤ (encR r).length + 1 := by
  cases r with
  | nil => simp
  | cons f fs => have := tailE_len fs; simp only [encR, List.length_append, List.length_cons]; omega
theorem encT_len (rows : List Row8) : rows.length ≤ (encT rows).length ∧ ∀ r ∈ rows, r.length ≤ (encT rows).length := by
  induction rows with
  | nil => exact ⟨Nat.le_refl _, fun r hr => by cases hr⟩
  | cons q rows ih =>
    have e : (encT (q :: rows)).length = (encR q).length + 1 + (encT rows).length := by simp [encT]; omega
    have hq := encR_len q
    rw [e]
    refine ⟨by simp only [List.length_cons]; omega, fun r hr => ?_⟩
    rcases List.mem_cons.1 hr with rfl | hr
    · omega
    · have := ih.2 r hr; omega
theorem rows_len (rows : List (List ByteArray)) : rows.length ≤ (encT (toL rows)).length ∧ ∀ r ∈ rows, r.length ≤ (encT (toL rows)).length := by
  have h := encT_len (toL rows)
  refine ⟨by simpa [toL] using h.1, fun r hr => ?_⟩
  have := h.2 _ (List.mem_map_of_mem (f := (·.map (·.data.toList))) hr)
  simpa using this
theorem enc_size {rows : List (List ByteArray)} {s : ByteArray} (h : encF rows = (s, 0)) : (allE rows rows.length).length = s.size ∧ rows.length ≤ s.size ∧ ∀ r ∈ rows, r.length ≤ s.size := by
  have h1 := encF_ok (encF_inv (rows := rows) (by rw [h]))
  rw [h] at h1
  have h2 : s.size = (encT (toL rows)).length := by rw [(Prod.mk.inj h1).1, bl_size]
  rw [allE_eq, h2]
  exact ⟨rfl, rows_len rows⟩
end Go.Proofs.YtkjghjffdjjedaaDoor.Enc
