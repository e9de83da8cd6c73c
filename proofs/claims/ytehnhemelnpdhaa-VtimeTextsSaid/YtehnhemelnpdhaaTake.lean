/- vtime.Decode's closure 'take' of the given program: the number of a piece of a text, the highest byte first. -/
import Derived.Test.YtehnhemelnpdhaaWMore
import Derived.Test.YtehnhemelnpdhaaProg
import Derived.Lib.Hide
import Derived.Lib.Strings
namespace Go.Proofs.Ytehnhemelnpdhaa.Ext
open Go.RowKit Go.Lib Go.Proofs.YtehnhemelnpdhaaW.PrintWords Go.Proofs.YtehnhemelnpdhaaW.PrintLast

/-- the number of bytes, the highest first -/
def big (l : List UInt8) : Nat := l.foldl (fun n c => n * 256 + c.toNat) 0
theorem big_snoc (l : List UInt8) (c : UInt8) : big (l ++ [c]) = big l * 256 + c.toNat := by unfold big; simp
theorem big_from (l : List UInt8) (n : Nat) : l.foldl (fun n c => n * 256 + c.toNat) n < (n + 1) * 256 ^ l.length := by
  induction l generalizing n with
  | nil => simp
  | cons c l ih =>
    have := ih (n * 256 + c.toNat)
    have hc := c.toNat_lt
    have : (n * 256 + c.toNat + 1) * 256 ^ l.length ≤ ((n + 1) * 256) * 256 ^ l.length := Nat.mul_le_mul_right _ (by omega)
    simp only [List.foldl_cons, List.length_cons, Nat.pow_succ]
    rw [Nat.mul_comm (256 ^ l.length), ← Nat.mul_assoc]
    omega
theorem big_lt (l : List UInt8) : big l < 256 ^ l.length := by
  have := big_from l 0
  unfold big; simpa using this
theorem big_take_succ (l : List UInt8) (k : Nat) (h : k < l.length) : big (l.take (k + 1)) = big (l.take k) * 256 + l[k].toNat := by
  rw [List.take_succ_eq_append_getElem h, big_snoc]
theorem big_take_lt (l : List UInt8) (k : Nat) (h : k ≤ 7) : big (l.take k) < 72057594037927936 := by
  have h1 := big_lt (l.take k)
  have h2 : (l.take k).length ≤ 7 := by rw [List.length_take]; omega
  have h3 : 256 ^ (l.take k).length ≤ 256 ^ 7 := Nat.pow_le_pow_right (by decide) h2
  have h4 : (256 : Nat) ^ 7 = 72057594037927936 := by decide
  omega

set_option maxHeartbeats 1000000 in
set_option maxRecDepth 100000 in
theorem take_calls (bs : Nat) (s : ByteArray) (a b : Nat) (l : List UInt8) (w : World) (hL : (s.data.toList.drop a).take (b - a) = l) (hc : w.cell? ⟨bs, 0, none⟩ = some (.string s)) (hab : a ≤ b) (hb : b ≤ s.size) (h8 : b - a ≤ 8) :
    Calls Try.prog 27 #[.int .i64 a, .int .i64 b, .pointer (some ⟨bs, 0, none⟩)] w fun e w' => e = .returned (.int .i64 (wrap64 (big l : Nat))) ∧ Below w.heap.size w w' := by
  have hcv := fun (W : World) (t : ByteArray) => Lib.run_convert_string_bytes (P := Try.prog) W 9 48 5 t Try.underlying9 Try.underlying48 Try.underlying5
  have HL0 := Lib.hid hL
  clear hL
  have z1 : (0 : Int) ≤ (a : Int) := by omega
  have z2 : (a : Int) ≤ (b : Int) := by omega
  have z3 : (b : Int) ≤ (s.size : Int) := by omega
  go_enter Try.func27, Try.ntmps27
  go_wp2
  have hW : Below w.heap.size w (bytesWorld w 5 (s.extract a b)) := bytes_below (Below.refl _ _) (Nat.le_refl _) 5 _
  have hcell : ∀ j, j < b - a → (bytesWorld w 5 (s.extract a b)).cell? ⟨w.heap.size, j, none⟩ = some (.int .u8 (l.getD j 0).toNat) := fun j hj => by
    have := bytesWorld_cell w 5 (s.extract a b) j (by rw [ByteArray.size_extract]; omega)
    rwa [extract_data, HL0.out] at this
  have hl : l.length = b - a := by
    rw [← HL0.out, List.length_take, List.length_drop, Array.length_toList]
    show min (b - a) (s.size - a) = _
    omega
  generalize bytesWorld w 5 (s.extract a b) = W1 at *
  clear HL0
  generalize b - a = m at *
  have HC := Lib.hid hcell
  have HL := Lib.hid hl
  have HW := Lib.hid hW
  clear hcell hl hW hcv hc z1 z2 z3
  generalize grownCap w m 0 5 = cp at *
  go_loop [6, 15] (fun n i => ∃ k : Nat, k ≤ m ∧ i = .int .i64 k ∧ n = .int .u64 (big (l.take k) : Nat)) (fun _ i => m - (intOf i).toNat)
  case atStart => exact ⟨0, Nat.zero_le _, rfl, rfl⟩
  case round =>
    obtain ⟨k, hk, rfl, rfl⟩ := hrel
    by_cases hlt : k < m
    · have hx := HC.out k hlt
      have hkl : k < l.length := by rw [HL.out]; exact hlt
      have e1 : l.getD k 0 = l[k] := by simp [hkl]
      have hs := big_take_succ l k hkl
      have hb := big_take_lt l k (by omega)
      have hy := (l[k]).toNat_lt
      rw [e1] at hx
      have HS : Hid (big (l.take (k + 1)) = big (l.take k) * 256 + l[k].toNat) := hs
      clear hs e1
      generalize l[k].toNat = y at *
      generalize big (l.take k) = v at *
      have hyz : (y : Int) < 256 := by omega
      have hvz : (v : Int) < 72057594037927936 := by omega
      have hj : bits .or .u64 ((v : Int) * 256) (y : Int) = (v : Int) * 256 + y := bits_join .u64 64 (by decide) (fun n h0 h1 => by rw [IntKind.wrap_u64]; omega) 8 _ _ (by omega) (by omega) (by omega) (by omega) (by omega) (by omega)
      have HJ := Lib.hid hj
      clear hj
      go_wp2
      go_round
      case rel => exact ⟨k + 1, by omega, by go_num, by rw [HS.out, HJ.out]; go_num⟩
      case measure => simp [intOf]; omega
    · obtain rfl : m = k := by omega
      have e : l.take m = l := by rw [← HL.out]; exact List.take_length
      rw [e]
      clear e
      go_wp2
      go_ret
      exact ⟨rfl, HW.out⟩
end Go.Proofs.Ytehnhemelnpdhaa.Ext
