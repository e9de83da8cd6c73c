/- Part of a proof over the given program: Ini. -/
import Derived.Test.YtehnkebcbomidaaGreatDoorProg
import Derived.Test.YtehnkebcbomidaaGreatDoorChecked
import Derived.ProofKit
import Derived.JoinedOf
set_option linter.unusedVariables false
set_option linter.unusedSimpArgs false
namespace Go.Proofs.YtehnkebcbomidaaGreatDoor.Ini
set_option maxRecDepth 100000
def signs : List Char :=
 List.map Char.ofNat [
  104, 97, 114, 110, 101, 115, 115, 32, 49, 57, 54, 97, 97, 98, 98, 97, 100, 101, 102, 57, 97, 100, 49, 102, 50, 55, 51, 53, 52, 57, 53, 54,
  101, 48, 53, 100, 98, 50, 98, 52, 54, 49, 52, 57, 54, 97, 97, 50, 55, 57, 57, 55, 49, 55, 55, 49, 101, 55, 97, 52, 55, 100, 97, 52,
  56, 55, 100, 56, 55, 52, 100, 57, 32, 99, 117, 116, 32, 97, 116, 32, 112, 97, 99, 101, 108, 105, 110, 101, 47, 112, 97, 99, 101, 108, 105, 110,
  101, 116, 111, 112, 46, 84, 111, 112, 70, 108, 117, 115, 104, 32, 112, 97, 99, 101, 108, 105, 110, 101, 47, 112, 97, 99, 101, 108, 105, 110, 101, 116,
  111, 112, 46, 84, 111, 112, 82, 101, 116, 114, 97, 99, 116, 115, 32, 112, 97, 99, 101, 108, 105, 110, 101, 47, 112, 97, 99, 101, 108, 105, 110, 101,
  116, 111, 112, 46, 84, 111, 112, 83, 97, 118, 101, 100, 32, 112, 97, 99, 101, 108, 105, 110, 101, 47, 112, 97, 99, 101, 108, 105, 110, 101, 108, 97,
  119, 50, 48, 46, 82, 116, 105, 80, 108, 97, 105, 110, 32, 112, 97, 99, 101, 108, 105, 110, 101, 47, 112, 97, 99, 101, 108, 105, 110, 101, 108, 97,
  119, 50, 48, 46, 82, 116, 105, 70, 111, 114, 109, 115, 32, 112, 97, 99, 101, 108, 105, 110, 101, 47, 112, 97, 99, 101, 108, 105, 110, 101, 108, 97,
  119, 50, 48, 46, 82, 116, 105, 78, 101, 118, 101, 114, 32, 112, 97, 99, 101, 108, 105, 110, 101, 47, 112, 97, 99, 101, 108, 105, 110, 101, 108, 97,
  119, 50, 48, 46, 82, 116, 105, 79, 110, 99, 101, 32, 112, 97, 99, 101, 108, 105, 110, 101, 47, 112, 97, 99, 101, 108, 105, 110, 101, 108, 97, 119,
  50, 48, 46, 82, 116, 105, 83, 97, 118, 101, 115, 32, 112, 97, 99, 101, 108, 105, 110, 101, 47, 112, 97, 99, 101, 108, 105, 110, 101, 108, 97, 119,
  50, 48, 46, 82, 116, 105, 78, 117, 109, 98, 101, 114, 115, 32, 112, 97, 99, 101, 108, 105, 110, 101, 47, 112, 97, 99, 101, 108, 105, 110, 101, 108,
  97, 119, 50, 48, 46, 82, 116, 105, 82, 105, 115, 101, 115, 32, 112, 97, 99, 101, 108, 105, 110, 101, 47, 112, 97, 99, 101, 108, 105, 110, 101, 108,
  97, 119, 50, 48, 46, 82, 116, 105, 69, 97, 114, 108, 121, 32, 112, 97, 99, 101, 108, 105, 110, 101, 47, 112, 97, 99, 101, 108, 105, 110, 101, 108,
  97, 119, 50, 48, 46, 82, 116, 105, 79, 117, 116, 115, 105, 100, 101, 114, 115, 32, 112, 97, 99, 101, 108, 105, 110, 101, 47, 112, 97, 99, 101, 108,
  105, 110, 101, 108, 97, 119, 50, 49, 46, 83, 97, 118, 101, 84, 101, 120, 116, 115, 32, 112, 97, 99, 101, 108, 105, 110, 101, 47, 112, 97, 99, 101,
  108, 105, 110, 101, 108, 97, 119, 50, 49, 46, 83, 97, 118, 101, 76, 111, 97, 100, 115, 32, 112, 97, 99, 101, 108, 105, 110, 101, 47, 112, 97, 99,
  101, 108, 105, 110, 101, 108, 97, 119, 50, 48, 46, 82, 116, 105, 82, 111, 119, 115, 32, 112, 97, 99, 101, 108, 105, 110, 101, 47, 112, 97, 99, 101,
  108, 105, 110, 101, 108, 97, 119, 50, 49, 46, 83, 97, 118, 101, 71, 111, 101, 115, 32, 112, 97, 99, 101, 108, 105, 110, 101, 47, 112, 97, 99, 101,
  108, 105, 110, 101, 108, 97, 119, 50, 49, 46, 83, 97, 118, 101, 67, 104, 97, 110, 103, 101, 100, 32, 112, 97, 99, 101, 108, 105, 110, 101, 47, 112,
  97, 99, 101, 108, 105, 110, 101, 108, 97, 119, 50, 49, 46, 83, 97, 118, 101, 79, 116, 104, 101, 114, 115, 32, 112, 97, 99, 101, 108, 105, 110, 101,
  47, 112, 97, 99, 101, 108, 105, 110, 101, 108, 97, 119, 50, 50, 46, 67, 111, 110, 115, 111, 108, 101, 83, 97, 118, 101, 115, 32, 112, 97, 99, 101,
  108, 105, 110, 101, 47, 112, 97, 99, 101, 108, 105, 110, 101, 116, 111, 112, 46, 84, 111, 112, 83, 97, 121, 115]
theorem ini : Tryz.prog.initOrder = String.ofList signs := by kernel_rfl
theorem words : wordsSigns Tryz.prog.initOrder.toList = wordsSigns signs := by rw [ini, String.toList_ofList]
theorem own_cut : stripLifts liftWords (behindMainWord (wordsSigns signs)) = ([], behindMainWord (wordsSigns signs)) := by kernel_rfl
theorem head_cut : ∃ r, behindMainWord (wordsSigns signs) = [Char.ofNat 99, Char.ofNat 117, Char.ofNat 116] :: r := ⟨(behindMainWord (wordsSigns signs)).tail, by kernel_rfl⟩
theorem later : Tryz.prog.laysLater = false := by kernel_rfl
theorem reflect : Tryz.prog.bearsReflect = false := by kernel_rfl
theorem fits : Tryz.prog.doorFits [] = true := by kernel_rfl
theorem cut_signs : "cut".toList = [Char.ofNat 99, Char.ofNat 117, Char.ofNat 116] := by kernel_rfl
theorem gc_no : ([Char.ofNat 99, Char.ofNat 117, Char.ofNat 116] == "gc".toList) = false := by kernel_rfl
theorem spec_no : ([Char.ofNat 99, Char.ofNat 117, Char.ofNat 116] == "spec".toList) = false := by kernel_rfl
theorem carried_no : ([Char.ofNat 99, Char.ofNat 117, Char.ofNat 116] == "carried".toList) = false := by kernel_rfl
theorem lifts : Tryz.prog.headLifts = [] := by
 unfold Program.headLifts
 rw [words, own_cut]
 simp
theorem make : Tryz.prog.make = some Make.cut := by
 unfold Program.make
 rw [words]
 obtain ⟨r, hr⟩ := head_cut
 rw [hr]
 simp only [cut_signs, gc_no, spec_no, carried_no, lifts]
 simp
theorem lifted : Tryz.prog.liftsFinal = false := by
 unfold Program.liftsFinal
 rw [words, lifts]
 obtain ⟨r, hr⟩ := head_cut
 rw [hr]
 have : (some [Char.ofNat 99, Char.ofNat 117, Char.ofNat 116] == some "carried".toList) = false := by kernel_rfl
 simp [this]
theorem mayEnter : Tryz.prog.mayEnter = true := by
 unfold Program.mayEnter
 have h := own_cut
 rw [words]
 obtain ⟨r, hr⟩ := head_cut
 rw [hr] at h ⊢
 simp only [h, cut_signs, gc_no, spec_no, carried_no, later, reflect, fits]
 simp
theorem mainIs : Tryz.prog.mainIs = some (true, "196aabbadef9ad1f27354956e05db2b461496aa279971771e7a47da487d874d9".toList) := by
 unfold Program.mainIs
 rw [words]
 kernel_rfl
end Go.Proofs.YtehnkebcbomidaaGreatDoor.Ini
