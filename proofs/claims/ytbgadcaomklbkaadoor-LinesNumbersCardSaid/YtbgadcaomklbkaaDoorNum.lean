/- lines.Int and lines.Num by contracts. -/
import Derived.Test.YtbgadcaomklbkaaDoorShelf
import Derived.Shelf.Strconv.AtoiAll
import Derived.WalkKit
import Derived.LaidEql
import Derived.Stop.Asserts
import Derived.RowKitTokens
import Derived.Lib.Hide
import Derived.Outline
import Derived.Lib.IfaceEq
set_option linter.unusedVariables false
set_option linter.unusedSimpArgs false
namespace Go.Proofs.YtbgadcaomklbkaaDoor.As
open Go Go.RowKit Go.Lib Go.Shelf Go.Proofs Go.Sort
set_option maxRecDepth 100000
/-- What lines.Num answers. -/
def numOf (s : ByteArray) : Int × Int := match Lib.atoiAll s.data.toList with
  | .ok v => if v > 1152921504606846976 ∨ v < -1152921504606846976 ∨ (⟨(Lib.itoa v).toArray⟩ : ByteArray) ≠ s then (0, 20) else (v, 0)
  | _ => (0, 20)
theorem atoi_ok (s : ByteArray) (hs : s.size ≤ 9223372036854775806) (v : Int) (h : Lib.atoiAll s.data.toList = .ok v) (w : World) :
    Calls Tryd.prog 19 #[.string s] w fun e w' => e = .returned (.tuple #[.int .i64 v, .nilIface]) ∧ (w' = w ∨ ∃ t, w' = Lib.bytesWorld w 5 t) := Any.strconv_Atoi_ok Tryd.laysAllLaysC172 s hs v h w
theorem atoi_bad (s : ByteArray) (hs : s.size ≤ 281474976710656) (hno : ∀ v, Lib.atoiAll s.data.toList ≠ .ok v) (hnr : Lib.atoiAll s.data.toList ≠ .range) (ev : Value) (w : World) (hv : w.cell? ⟨1, 0, none⟩ = some ev) (hev : ev = .nilIface ∨ ∃ te pe, ev = .iface te pe) :
    Calls Tryd.prog 19 #[.string s] w fun e w' => ∃ N, e = .returned (.tuple #[.int .i64 0, .iface 84 (.pointer (some ⟨N, 0, none⟩))]) ∧ Below w.heap.size w w' := by
  cases h : Lib.atoiAll s.data.toList with
  | ok v => exact absurd h (hno v)
  | range => exact absurd h hnr
  | _ =>
    refine (Any.strconv_Atoi_syntax Tryd.laysAllLaysC172 s hs h ev w hv hev).mono ?_
    rintro e w' ⟨N, he, _, _, hb⟩
    exact ⟨N, he, hb⟩
theorem atoi_range (s : ByteArray) (hs : s.size ≤ 281474976710656) (h : Lib.atoiAll s.data.toList = .range) (ev : Value) (w : World) (hv : w.cell? ⟨2, 0, none⟩ = some ev) (hev : ev = .nilIface ∨ ∃ te pe, ev = .iface te pe) :
    Calls Tryd.prog 19 #[.string s] w fun e w' => ∃ N, e = .returned (.tuple #[.int .i64 (Lib.atoiSat s.data.toList), .iface 84 (.pointer (some ⟨N, 0, none⟩))]) ∧ w.heap.size ≤ N ∧ w'.heap[N]? = some (.cells #[.string ⟨#[65, 116, 111, 105]⟩, .string s, ev] 114 (0, 0)) ∧ Below w.heap.size w w' := Any.strconv_Atoi_range Tryd.laysAllLaysC172 s hs h ev w hv hev
theorem tab_below {w w' : World} (hb : Below w.heap.size w w') (h : Lib.TabIs Tryd.prog w "internal/strconv.uint64pow10" .u64 Lib.pow10Tab) : Lib.TabIs Tryd.prog w' "internal/strconv.uint64pow10" .u64 Lib.pow10Tab := by
  have hg : Tryd.prog.globalNamed "internal/strconv.uint64pow10" = some ((Tryd.prog.globalNamed "internal/strconv.uint64pow10").get (by kernel_rfl)) := by kernel_rfl
  revert hg
  generalize (Tryd.prog.globalNamed "internal/strconv.uint64pow10").get (by kernel_rfl) = g
  intro hg
  unfold Lib.TabIs World.var? at h ⊢
  rw [hg] at h ⊢
  simp only [Option.bind_some] at h ⊢
  have hlt : g < w.heap.size := by
    rcases Nat.lt_or_ge g w.heap.size with h' | h'
    · exact h'
    · simp [Array.getElem?_eq_none h'] at h
  rw [hb.block g hlt]; exact h
theorem atoi_bounds {l : List UInt8} {v : Int} (h : Lib.atoiAll l = .ok v) : -9223372036854775808 ≤ v ∧ v ≤ 9223372036854775807 := by
  unfold Lib.atoiAll at h
  split at h
  · exact absurd h (by simp)
  · simp only at h
    split at h
    · exact absurd h (by simp)
    · exact absurd h (by simp)
    · split at h
      · exact absurd h (by simp)
      · split at h
        · exact absurd h (by simp)
        · injection h with h; subst h; split <;> omega
theorem below_grow' {B : Nat} (w : World) (k : Nat) (os : Array Obj) (h : B ≤ w.heap.size) : Below B w (grow (w.drewN k) os) := by
  refine ⟨rfl, rfl, rfl, ?_, ?_⟩
  · simp [grow, World.drewN]
  · intro i hi
    simp only [grow, World.drewN]
    rw [Array.getElem?_append_left (by omega)]
set_option maxHeartbeats 2000000 in
theorem num_calls (s : ByteArray) (hs : s.size ≤ 281474976710656) (w : World) (htab : Lib.TabIs Tryd.prog w "internal/strconv.uint64pow10" .u64 Lib.pow10Tab) (v1 v2 : Value) (h1 : w.cell? ⟨1, 0, none⟩ = some v1) (hv1 : v1 = .nilIface ∨ ∃ te pe, v1 = .iface te pe) (h2 : w.cell? ⟨2, 0, none⟩ = some v2) (hv2 : v2 = .nilIface ∨ ∃ te pe, v2 = .iface te pe) :
    Calls Tryd.prog 9 #[.string s] w fun x w' => x = .returned (.tuple #[.int .i64 (numOf s).1, .int .i64 (numOf s).2]) ∧ Below w.heap.size w w' := by
  cases h : Lib.atoiAll s.data.toList with
  | ok v =>
    have hn : numOf s = if v > 1152921504606846976 ∨ v < -1152921504606846976 ∨ (⟨(Lib.itoa v).toArray⟩ : ByteArray) ≠ s then (0, 20) else (v, 0) := by unfold numOf; rw [h]
    rw [hn]
    obtain ⟨hb0, hb1⟩ := atoi_bounds h
    have hbw : ∀ w' : World, (w' = w ∨ ∃ t, w' = Lib.bytesWorld w 5 t) → Below w.heap.size w w' := by
      rintro w' (rfl | ⟨t, rfl⟩)
      · exact Below.refl _ _
      · exact Lib.bytesWorld_below _ _ _
    by_cases c1 : v > 1152921504606846976
    · rw [if_pos (Or.inl c1)]
      go_enter Tryd.func9, Tryd.ntmps9
      go_wp2_with (go_at_call 19; refine (atoi_ok s (by omega) v h _).mono ?_; rintro e w' ⟨rfl, hw⟩)
      go_ret2
      exact ⟨rfl, hbw _ hw⟩
    by_cases c2 : v < -1152921504606846976
    · rw [if_pos (Or.inr (Or.inl c2))]
      go_enter Tryd.func9, Tryd.ntmps9
      go_wp2_with (go_at_call 19; refine (atoi_ok s (by omega) v h _).mono ?_; rintro e w' ⟨rfl, hw⟩)
      go_ret2
      exact ⟨rfl, hbw _ hw⟩
    by_cases c3 : (⟨(Lib.itoa v).toArray⟩ : ByteArray) = s
    · rw [if_neg (fun c => c.elim c1 fun c => c.elim c2 fun c => c c3)]
      go_enter Tryd.func9, Tryd.ntmps9
      go_wp2_with (go_at_call 19; refine (atoi_ok s (by omega) v h _).mono ?_; rintro e w' ⟨rfl, hw⟩)
      have ht' := tab_below (hbw _ hw) htab
      have c1' : decide (1152921504606846976 < v) = false := by simpa using c1
      have c2' : decide (v < -1152921504606846976) = false := by simpa using c2
      go_wp2_with (go_at_call 20; refine (Tryd.strconv_Itoa v hb0 hb1 _ ht').mono ?_; rintro e w'' ⟨rfl, k, os, rfl⟩)
      all_goals go_ret2
      exact ⟨rfl, (hbw _ hw).trans (below_grow' w' k os (hbw _ hw).size)⟩
    · rw [if_pos (Or.inr (Or.inr c3))]
      go_enter Tryd.func9, Tryd.ntmps9
      go_wp2_with (go_at_call 19; refine (atoi_ok s (by omega) v h _).mono ?_; rintro e w' ⟨rfl, hw⟩)
      have ht' := tab_below (hbw _ hw) htab
      have c4 : (Lib.itoa v == s.toList) = false := by
        rw [beq_eq_false_iff_ne]; intro hh; apply c3; rw [hh]; cases s; simp [ByteArray.toList_eq]
      have c1' : decide (1152921504606846976 < v) = false := by simpa using c1
      have c2' : decide (v < -1152921504606846976) = false := by simpa using c2
      go_wp2_with (go_at_call 20; refine (Tryd.strconv_Itoa v hb0 hb1 _ ht').mono ?_; rintro e w'' ⟨rfl, k, os, rfl⟩)
      all_goals go_ret2
      exact ⟨rfl, (hbw _ hw).trans (below_grow' w' k os (hbw _ hw).size)⟩
  | range =>
    have hn : numOf s = (0, 20) := by unfold numOf; rw [h]
    rw [hn]
    go_enter Tryd.func9, Tryd.ntmps9
    go_wp2_with (go_at_call 19; refine (atoi_range s hs h v2 _ h2 hv2).mono ?_; rintro e w' ⟨N, rfl, -, -, hb⟩)
    go_ret2
    exact ⟨rfl, hb⟩
  | _ =>
    have hno : ∀ v, Lib.atoiAll s.data.toList ≠ .ok v := fun v e => by rw [h] at e; cases e
    have hnr : Lib.atoiAll s.data.toList ≠ .range := fun e => by rw [h] at e; cases e
    have hn : numOf s = (0, 20) := by unfold numOf; rw [h]
    rw [hn]
    go_enter Tryd.func9, Tryd.ntmps9
    go_wp2_with (go_at_call 19; refine (atoi_bad s hs hno hnr v1 _ h1 hv1).mono ?_; rintro e w' ⟨N, rfl, hb⟩)
    go_ret2
    exact ⟨rfl, hb⟩
end Go.Proofs.YtbgadcaomklbkaaDoor.As
