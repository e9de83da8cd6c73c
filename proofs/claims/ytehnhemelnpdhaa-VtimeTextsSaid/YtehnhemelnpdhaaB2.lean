/- What vtime's functions and the document's come to, as total plain functions (cl, ad, lst, vd), and the contracts in these words. -/
import Derived.Test.YtehnhemelnpdhaaB1
import Derived.OpenShut
namespace Go.Proofs.Ytehnhemelnpdhaa.B
open Go.RowKit Go.Proofs.YtehnhemelnpdhaaW.PrintWords Go.Proofs.YtehnhemelnpdhaaW.PrintLast

/-- what a number counts as -/
def cl (t : Int) : Int := if t < 0 then 0 else if t > 1099511627776 then 1125899906842624 else t
theorem cl_range (t : Int) : 0 ≤ cl t ∧ (cl t ≤ 1099511627776 ∨ cl t = 1125899906842624) := by unfold cl; omega
/-- the sum of two times -/
def ad (t d : Int) : Int := cl (cl t + cl d)
theorem ad_range (t d : Int) : 0 ≤ ad t d ∧ (ad t d ≤ 1099511627776 ∨ ad t d = 1125899906842624) := cl_range _
theorem cl_eq (t : Int) : vtime_clamp.f t = some (cl t) := by unfold vtime_clamp.f cl; split <;> (try split) <;> rfl
theorem time_eq (t : Int) : pacelineref01_time.f t = some (cl t) := by unfold pacelineref01_time.f cl; split <;> (try split) <;> rfl
theorem ad_eq (t d : Int) : vtime_Add.f t d = some (ad t d) := by
  unfold vtime_Add.f ad
  simp only [cl_eq, Option.bind_some]
  have h1 := cl_range t
  have h2 := cl_range d
  rw [show wrap64 (cl t + cl d) = cl t + cl d from by unfold wrap64; omega]
theorem radd_eq (t d : Int) : pacelineref01_Add.f t d = some (ad t d) := by
  unfold pacelineref01_Add.f ad
  simp only [time_eq, Option.bind_some]
  have h1 := cl_range t
  have h2 := cl_range d
  rw [show wrap64 (cl t + cl d) = cl t + cl d from by unfold wrap64; omega]
  split
  · rename_i h; rw [h]; congr 1; unfold cl at *; omega
  · split
    · rename_i h; rw [h]; congr 1; unfold cl at *; omega
    · rfl
theorem wrap_head {i : Int} {n : Nat} (h0 : 0 ≤ i) (h : i < (n : Int)) (hn : n ≤ 1073741824) : wrap64 (i + 1) = i + 1 := by
  unfold wrap64
  omega
theorem rd_at (l : List Int) (i : Nat) (h : i < l.length) : rd l (i : Int) = l[i] := by
  unfold rd; simp [h]
theorem mn_eq (a b : Int) : mn a b = min a b := by unfold mn; omega
/-- the least of numbers, from n on -/
def lst (n : Int) (l : List Int) : Int := l.foldl (fun n t => min n (cl t)) n
theorem lst_drop (l : List Int) (n : Int) (i : Nat) (h : i < l.length) : lst n (l.drop i) = lst (min n (cl l[i])) (l.drop (i + 1)) := by
  rw [List.drop_eq_getElem_cons h]; rfl
theorem lst_range (l : List Int) (n : Int) : (0 ≤ n → 0 ≤ lst n l) ∧ lst n l ≤ n ∧ ((n ≤ 1099511627776 ∨ n = 1125899906842624) → (lst n l ≤ 1099511627776 ∨ lst n l = 1125899906842624)) ∧ ∀ t ∈ l, lst n l ≤ cl t := by
  induction l generalizing n with
  | nil => simp [lst]
  | cons t l ih =>
    have h := ih (min n (cl t))
    have c := cl_range t
    have e : lst n (t :: l) = lst (min n (cl t)) l := rfl
    rw [e]
    refine ⟨fun h0 => h.1 (by omega), by omega, fun g => h.2.2.1 (by omega), fun x hx => ?_⟩
    rcases List.mem_cons.1 hx with rfl | hx
    · omega
    · exact h.2.2.2 x hx
theorem rleast_loop (l : List Int) (hn : l.length ≤ 1073741824) (d : Nat) : ∀ (k i : Nat) (n : Int), l.length - i = d → i ≤ l.length → d < k →
    pacelineref01_Least.l0 k l n i = some (lst n (l.drop i)) := by
  induction d with
  | zero =>
    intro k i n hd hi hk
    obtain ⟨k, rfl⟩ : ∃ m, k = m + 1 := ⟨k - 1, by omega⟩
    simp only [pacelineref01_Least.l0]
    rw [if_neg (by omega), List.drop_of_length_le (by omega)]; rfl
  | succ d ih =>
    intro k i n hd hi hk
    obtain ⟨k, rfl⟩ : ∃ m, k = m + 1 := ⟨k - 1, by omega⟩
    have hlt : i < l.length := by omega
    simp only [pacelineref01_Least.l0]
    rw [if_pos (by omega), if_pos (by omega), time_eq, Option.bind_some, wrap_head (by omega) (by omega) hn, rd_at l i hlt, mn_eq, lst_drop l n i hlt]
    exact ih k (i + 1) _ (by omega) (by omega) (by omega)
theorem vleast_loop (l : List Int) (hn : l.length ≤ 1073741824) (d : Nat) : ∀ (k i : Nat) (n : Int), l.length - i = d → i ≤ l.length → d < k →
    vtime_Least.l0 k n l l.length i = some (lst n (l.drop i)) := by
  induction d with
  | zero =>
    intro k i n hd hi hk
    obtain ⟨k, rfl⟩ : ∃ m, k = m + 1 := ⟨k - 1, by omega⟩
    simp only [vtime_Least.l0]
    rw [if_neg (by omega), List.drop_of_length_le (by omega)]; rfl
  | succ d ih =>
    intro k i n hd hi hk
    obtain ⟨k, rfl⟩ : ∃ m, k = m + 1 := ⟨k - 1, by omega⟩
    have hlt : i < l.length := by omega
    simp only [vtime_Least.l0]
    rw [if_pos (by omega), if_pos (by omega), if_pos (by omega), cl_eq, Option.bind_some, wrap_head (by omega) (by omega) hn, rd_at l i hlt, mn_eq, lst_drop l n i hlt]
    exact ih k (i + 1) _ (by omega) (by omega) (by omega)
theorem rleast_eq (l : List Int) (hn : l.length ≤ 1073741824) (k : Nat) (hk : l.length < k) : pacelineref01_Least.f k l = some (lst 1125899906842624 l) := by
  have := rleast_loop l hn l.length k 0 1125899906842624 (by omega) (by omega) hk
  exact this
theorem vleast_eq (l : List Int) (hn : l.length ≤ 1073741824) (k : Nat) (hk : l.length < k) : vtime_Least.f k l = some (lst 1125899906842624 l) := by
  have := vleast_loop l hn l.length k 0 1125899906842624 (by omega) (by omega) hk
  exact this
def vd (t : Int) : Bool := decide ((0 ≤ t ∧ t ≤ 1099511627776) ∨ t = 1125899906842624)
theorem u64_wrap (t : Int) (h : -9223372036854775808 ≤ t ∧ t ≤ 9223372036854775807) : IntKind.u64.wrap t = if t < 0 then t + 18446744073709551616 else t := by
  have e : IntKind.u64.wrap t = t % 18446744073709551616 := by
    simp [IntKind.wrap, IntKind.bits, IntKind.signed]
  rw [e]; omega
theorem valid_eq (t : Int) (h : (Lit.int .i64 t).wf = true) : vtime_Valid.f t = some (vd t) := by
  have hb := bounds_i64 h
  unfold vtime_Valid.f vd
  rw [u64_wrap t hb]
  split
  · rename_i e; rw [e]; rfl
  · congr 1; rw [decide_eq_decide]; omega
theorem rvalid_eq (t : Int) : pacelineref01_Valid.f t = some (vd t) := by
  unfold pacelineref01_Valid.f vd
  split
  · split
    · congr 1; symm; rw [decide_eq_true_eq]; omega
    · congr 1; rw [Bool.eq_iff_iff]; simp; omega
  · congr 1; rw [Bool.eq_iff_iff]; simp; omega
theorem time_wf {t : Int} (h : 0 ≤ t ∧ (t ≤ 1099511627776 ∨ t = 1125899906842624)) : (Lit.int .i64 t).wf = true := Go.WalkArith.wf_i64 (by omega)

/-! ### the contracts -/
theorem add_calls (a b : Int) (w : World) : Calls Try.prog 11 #[.int .i64 a, .int .i64 b] w fun e w' => e = .returned (.int .i64 (ad a b)) ∧ Drawn0 w w' := vtime_Add.calls a b _ w (ad_eq a b)
theorem radd_calls (a b : Int) (w : World) : Calls Try.prog 12 #[.int .i64 a, .int .i64 b] w fun e w' => e = .returned (.int .i64 (ad a b)) ∧ Drawn0 w w' := pacelineref01_Add.calls a b _ w (radd_eq a b)
theorem valid_calls (a : Int) (w : World) (h : (Lit.int .i64 a).wf = true) : Calls Try.prog 13 #[.int .i64 a] w fun e w' => e = .returned (.bool (vd a)) ∧ Drawn0 w w' := vtime_Valid.calls a _ w (valid_eq a h)
theorem rvalid_calls (a : Int) (w : World) : Calls Try.prog 14 #[.int .i64 a] w fun e w' => e = .returned (.bool (vd a)) ∧ Drawn0 w w' := pacelineref01_Valid.calls a _ w (rvalid_eq a)
end Go.Proofs.Ytehnhemelnpdhaa.B
