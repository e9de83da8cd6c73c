/- strings.Lines' closure: an iterator with a box. -/
import Derived.Test.YtkjghjffdjjedaaDoorRng
import Derived.Test.YtkjghjffdjjedaaDoorShelf
import Derived.RangeFuncBound
import Derived.RangeFuncCalls
import Derived.RangeFuncLeaves
import Derived.Shelf.Abstract
import Derived.Shelf.RegionOpen
import Derived.WalkKit
import Derived.OwnWalkIn
import Derived.TacticsInMore
import Derived.LoopNIn
import Derived.LoopIn
import Derived.Lib.IndexLaws
set_option linter.unusedVariables false
set_option linter.unusedSimpArgs false
namespace Go.Proofs.YtkjghjffdjjedaaDoor.Enc
open Go Go.RowKit Go.Lib Go.Proofs Go.Shelf
attribute [local go_sem] Oper.semAt_some
/-- the lines of a text, each with its line feed -/
def linesN : Nat → ByteArray → List ByteArray
  | 0, _ => []
  | n + 1, s => if s.size = 0 then [] else if indexByte s.data.toList 10 = -1 then [s] else s.extract 0 ((indexByte s.data.toList 10).toNat + 1) :: linesN n (s.extract ((indexByte s.data.toList 10).toNat + 1) s.size)
def linesB (s : ByteArray) : List ByteArray := linesN s.size s
theorem linesN_empty (m : Nat) : linesN m ⟨#[]⟩ = [] := by
  cases m with
  | zero => rfl
  | succ m => unfold linesN; exact if_pos rfl
/-- a text short enough to be split -/
abbrev Sh := { x : ByteArray // x.size < 4294967281 }
/-- a box of its own is kept -/
def KpBox (b : Nat) (W W' : World) : Prop := W'.heap[b]? = W.heap[b]?
def boxLen (b : Nat) (W : World) : Nat := match W.cell? ⟨b, 0, none⟩ with
  | some (.string s) => s.size
  | _ => 0
set_option maxHeartbeats 4000000 in
set_option maxRecDepth 100000 in
theorem lines_box (b : Nat) (s : ByteArray) (w : World) (hbx : Boxed w b 9 (.string s)) (hs : s.size < 4294967281) :
    SeqBox Fence.wide 3 Tryd.prog 49 #[.pointer (some ⟨b, 0, none⟩)] (fun x : Sh => #[.string x.1]) (KpBox b) (fun xs => xs.map (·.1) = linesB s) (fun pre => pre.map (·.1) <+: linesB s) (linesB s).length b w := by
  intro l J Jx W hW hJ hJx hJb hY h0
  refine callsIn_of_wp Tryd.func49 rfl trivial ?_ rfl
  simp only [Tryd.ntmps49, List.size_toArray, List.length_cons, List.length_nil, Nat.reduceAdd, Nat.reduceSub, Array.replicate_succ, Array.replicate_zero, List.push_toArray, List.append_toArray, List.nil_append, List.cons_append]
  gi_wp2
  gi_loopw [] (fun wr => ∃ pre m rest, linesB s = pre.map (·.1) ++ linesN m rest ∧ rest.size ≤ m ∧ rest.size < 4294967281 ∧ Boxed wr b 9 (.string rest) ∧ J pre wr) (fun wr => boxLen b wr)
  case atStart =>
    refine ⟨[], s.size, s, rfl, Nat.le_refl _, hs, ?_, h0⟩
    exact (hW.block _ hbx.lt).trans hbx
  case round =>
    obtain ⟨pre, m, rest, hl, hm, hsz, hbx2, hJs⟩ := hrel
    have hcb := hbx2.cell
    have hfb := hbx2.frozen
    by_cases hr0 : rest.size = 0
    · have hln : linesN m rest = [] := by
        cases m with
        | zero => rfl
        | succ m => unfold linesN; rw [if_pos hr0]
      have hd : decide ((0 : Int) < (rest.size : Int)) = false := decide_eq_false (by omega)
      rw [hln, List.append_nil] at hl
      gi_wp2
      go_end0
      exact ⟨⟨_, rfl⟩, .inl ⟨pre, hl.symm, hJs⟩⟩
    · obtain ⟨m, rfl⟩ : ∃ m', m = m' + 1 := ⟨m - 1, by omega⟩
      have hpos : 0 < rest.size := by omega
      have hd : decide ((0 : Int) < (rest.size : Int)) = true := decide_eq_true (by omega)
      have hln : linesN (m + 1) rest = if indexByte rest.data.toList 10 = -1 then [rest] else rest.extract 0 ((indexByte rest.data.toList 10).toNat + 1) :: linesN m (rest.extract ((indexByte rest.data.toList 10).toNat + 1) rest.size) := by
        rw [linesN, if_neg hr0]
      have h50 : ∀ k W, CallsIn Fence.wide k Tryd.prog 50 #[.string rest, .int .u8 10] W fun e w' => e = .returned (.int .i64 (indexByte rest.data.toList 10)) ∧ w' = W := fun k W => callsIn_wide.2 (Tryd.strings_IndexByte rest 10 W)
      have hge := indexByte_ge rest.data.toList 10
      have hsome := fun (o : Nat) (h : indexByte rest.data.toList 10 = o) => (indexByte_some h).1
      generalize indexByte rest.data.toList 10 = ix at *
      by_cases hix : ix = -1
      · subst hix
        rw [if_pos rfl] at hln
        rw [hln] at hl
        have hlen : pre.length < (linesB s).length := by rw [hl]; simp
        obtain ⟨W1, hW1⟩ : ∃ W1, W1 = wr.setCell ⟨b, 0, none⟩ (.string ⟨#[]⟩) := ⟨_, rfl⟩
        have hJ1 : J pre W1 := by rw [hW1]; exact hJb _ _ _ hJs
        have hb1 : Boxed W1 b 9 (.string ⟨#[]⟩) := by rw [hW1]; exact hbx2.set _
        obtain ⟨fn, tmps, assign, body, hy, hR⟩ := hY pre ⟨rest, hsz⟩ W1 hJ1 hlen
        dsimp only at hy
        rw [hW1] at hy hR
        gi_wp2_with (refine ⟨trivial, ?_⟩; gi_at_call 50; refine (h50 _ _).mono ?_; rintro e w' ⟨rfl, hw'⟩; rw [hw']; clear hw' w')
        refine hR.mono ?_
        rintro e W3 (⟨rfl, hJ3, hk3⟩ | ⟨rfl, hJx3⟩)
        · have hb3 : Boxed W3 b 9 (.string ⟨#[]⟩) := by
            have h3 : W3.heap[b]? = (wr.setCell ⟨b, 0, none⟩ (.string ⟨#[]⟩)).heap[b]? := hk3
            exact h3.trans (by rw [← hW1]; exact hb1)
          gi_wp2
          go_roundw
          case rel => exact ⟨pre ++ [⟨rest, hsz⟩], m, ⟨#[]⟩, by rw [hl, linesN_empty]; simp, Nat.zero_le _, by decide, hb3, hJ3⟩
          case measure => simp only [boxLen, hb3.cell, hcb]; exact hpos
        · gi_wp2
          refine bodyPost_ret (results_none rfl _ _ _) rfl ?_
          exact ⟨⟨_, rfl⟩, .inr ⟨pre ++ [⟨rest, hsz⟩], ⟨[], by rw [hl]; simp⟩, hJx3⟩⟩
      · obtain ⟨o, rfl⟩ : ∃ o : Nat, ix = (o : Int) := ⟨ix.toNat, by omega⟩
        have ho : o < rest.size := by
          have h1 := hsome o rfl
          have h2 := (List.getElem?_eq_some_iff.1 h1).1
          have e : rest.data.toList.length = rest.size := by simp
          omega
        rw [if_neg hix] at hln
        have eo : (o : Int).toNat = o := by omega
        rw [eo] at hln
        rw [hln] at hl
        have hd0 : decide ((0 : Int) ≤ (o : Int)) = true := decide_eq_true (by omega)
        have hlen : pre.length < (linesB s).length := by rw [hl]; simp
        have hxs : (rest.extract 0 (o + 1)).size < 4294967281 := by rw [ByteArray.size_extract]; omega
        obtain ⟨W1, hW1⟩ : ∃ W1, W1 = (wr.setCell ⟨b, 0, none⟩ (.string (rest.extract (o + 1) rest.size))).drew := ⟨_, rfl⟩
        have hJ1 : J pre W1 := by rw [hW1]; exact hJ _ _ _ none (hJb _ _ _ hJs) ⟨rfl, rfl, rfl, Nat.le_refl _, fun _ _ _ => rfl⟩ (fun _ e => by cases e)
        have hb1 : Boxed W1 b 9 (.string (rest.extract (o + 1) rest.size)) := by rw [hW1]; exact hbx2.set (.string (rest.extract (o + 1) rest.size))
        obtain ⟨fn, tmps, assign, body, hy, hR⟩ := hY pre ⟨rest.extract 0 (o + 1), hxs⟩ W1 hJ1 hlen
        dsimp only at hy
        rw [hW1] at hy hR
        gi_wp2_with (refine ⟨trivial, ?_⟩; gi_at_call 50; refine (h50 _ _).mono ?_; rintro e w' ⟨rfl, hw'⟩; rw [hw']; clear hw' w')
        have ho1 : (o : Int) + 1 ≤ (rest.size : Int) := by omega
        have hw1 : IntKind.i64.wrap ((o : Int) + 1) = (o : Int) + 1 := by rw [IntKind.wrap_i64]; omega
        have eo1 : ((o : Int) + 1).toNat = o + 1 := by omega
        gi_region
        gi_wp2
        refine hR.mono ?_
        rintro e W3 (⟨rfl, hJ3, hk3⟩ | ⟨rfl, hJx3⟩)
        · have hb3 : Boxed W3 b 9 (.string (rest.extract (o + 1) rest.size)) := by
            have h3 : W3.heap[b]? = ((wr.setCell ⟨b, 0, none⟩ (.string (rest.extract (o + 1) rest.size))).drew).heap[b]? := hk3
            exact h3.trans (by rw [← hW1]; exact hb1)
          have hes : (rest.extract (o + 1) rest.size).size = rest.size - (o + 1) := by simp
          gi_wp2
          go_roundw
          case rel => exact ⟨pre ++ [⟨rest.extract 0 (o + 1), hxs⟩], m, _, by rw [hl]; simp, by omega, by omega, hb3, hJ3⟩
          case measure => simp only [boxLen, hb3.cell, hcb]; omega
        · gi_wp2
          refine bodyPost_ret (results_none rfl _ _ _) rfl ?_
          exact ⟨⟨_, rfl⟩, .inr ⟨pre ++ [⟨rest.extract 0 (o + 1), hxs⟩], ⟨linesN m (rest.extract (o + 1) rest.size), by rw [hl]; simp⟩, hJx3⟩⟩
end Go.Proofs.YtkjghjffdjjedaaDoor.Enc
