/- lines.Seal of the given program: the text, '=', the eight hex digits of its sum, a line feed. -/
import Derived.Test.YthmamoodmmloaaaPureLinesSums
import Derived.Test.YthmamoodmmloaaaWMore
import Derived.Lib.Hide
import Derived.Outline
set_option linter.unusedVariables false
set_option linter.unusedSimpArgs false
namespace Go.Proofs.Ythmamoodmmloaaa.Ext
open Go.RowKit Go.Proofs.YthmamoodmmloaaaW.PrintWords Go.Proofs.YthmamoodmmloaaaW.PrintLast Go.Proofs.Ythmamoodmmloaaa.Fnv

theorem sum_calls (s : ByteArray) (w : World) (hs : s.size ≤ 140737488351232) : Calls Try.prog 6 #[.string s] w fun e w' => e = .returned (.int .u32 (sum s.data.toList : Nat)) ∧ Drawn0 w w' :=
  PLinesSums.lines_Sum.calls (s.size + 1) s _ w (Pure.sum_eq s hs (s.size + 1) (by omega))
/-- a hex digit -/
def hx (d : Int) : Int := if d < 10 then 48 + d else 87 + d
/-- the first j hex digits of a number of 32 bits -/
def hexes (h : Int) (j : Nat) : List Int := (List.range j).map fun i => hx (h / 2 ^ (28 - 4 * i) % 16)
theorem info5 : (Try.prog.info? 5).map (fun i => (i.zero, i.size, i.bytes)) = some (some (.int .u8 0), 1, 1) := by kernel_rfl

theorem hexes_succ (h : Int) (j : Nat) : hexes h (j + 1) = hexes h j ++ [hx (h / 2 ^ (28 - 4 * j) % 16)] := by simp [hexes, List.range_succ]
theorem hexes_len (h : Int) (j : Nat) : (hexes h j).length = j := by simp [hexes]

theorem and15 (a : Int) (h0 : 0 ≤ a) (h1 : a < 4294967296) : bits .and .u32 a 15 = a % 16 := by
  have h := bits_mask .u32 32 (by decide) (fun n h0 h1 => by rw [IntKind.wrap_u32]; omega) 4 (by decide) a h0 (by omega)
  have e : ((2 : Int) ^ 4 - 1) = 15 := by decide
  have e2 : ((2 : Int) ^ 4) = 16 := by decide
  rw [e, e2] at h
  exact h
theorem divlt (S k : Nat) (h : S < 4294967296) : 0 ≤ (S : Int) / 2 ^ k ∧ (S : Int) / 2 ^ k < 4294967296 := by
  have e : ((S : Int) / 2 ^ k) = ((S / 2 ^ k : Nat) : Int) := by norm_cast
  rw [e]
  have : S / 2 ^ k ≤ S := Nat.div_le_self _ _
  generalize S / 2 ^ k = z at *
  omega
theorem tab16' (i : Nat) (h : i < 16) (p) : ((((ByteArray.mk #[48, 49, 50, 51, 52, 53, 54, 55, 56, 57, 97, 98, 99, 100, 101, 102])[i]'p).toNat : Nat) : Int) = hx i := by
  have key : ∀ d : Fin 16, ((((ByteArray.mk #[48, 49, 50, 51, 52, 53, 54, 55, 56, 57, 97, 98, 99, 100, 101, 102])[d.val]'(by have := d.isLt; simp [ByteArray.size])).toNat : Nat) : Int) = hx d.val := by decide
  exact key ⟨i, h⟩
theorem tab16 (i : Int) (h : 0 ≤ i ∧ i < 16) (p) : ((((ByteArray.mk #[48, 49, 50, 51, 52, 53, 54, 55, 56, 57, 97, 98, 99, 100, 101, 102])[i.toNat]'p).toNat : Nat) : Int) = hx i := by
  have := tab16' i.toNat (by omega) p
  rw [show ((i.toNat : Nat) : Int) = i by omega] at this
  exact this
def intV : Value → Nat
  | .int _ n => (n + 4).toNat
  | _ => 0

set_option maxHeartbeats 4000000 in
set_option maxRecDepth 100000 in
theorem seal_calls (s : ByteArray) (w : World) (hs : s.size ≤ 1000000) :
    Calls Try.prog 8 #[.string s] w fun e w' => e = .returned (.string (s ++ strOfNums (61 :: hexes (sum s.data.toList : Nat) 8 ++ [10]))) ∧ Below w.heap.size w w' := by
  obtain ⟨i0, hi, hz0, hz1, hz2⟩ := info_parts info5
  have c1 := sum_calls s w (by omega)
  have hh := sum_lt s.data.toList
  generalize sum s.data.toList = S at *
  have C1 := Lib.hid c1
  clear c1
  go_enter Try.func8, Try.ntmps8
  go_wp2_with (first
    | (go_at_call 6; refine C1.out.mono ?_; rintro e w' ⟨rfl, ⟨nd, rfl⟩⟩)
    | (at_make; (refine wpList_make_own _ rfl _ _ 22 rfl w.heap.size 5 i0 (.int .u8 0) 1 Try.underlying22 hi hz0 hz1 .i64 .i64 10 10 rfl rfl rfl (by rw [hz2]; omega) (by unfold maxLen; omega) (by simp) ?_); intro w0 hown0 hgrow0; change w0.ownsRow w.heap.size 5 1 (.slice (some ⟨w.heap.size, 0, none⟩) 0 10) 0 [] at hown0; have HB0 : Below w.heap.size w w0 := (pw_below_drewN (Below.refl w.heap.size w) nd).grown hgrow0 (Nat.le_refl _) (fun k h => by cases h); have hz0' := HB0.size)
    | (at_builtin; (refine print_append_num (w0 := w) w.heap.size rfl (.tmp 9) (.tmp 10) 22 5 .u8 1 rfl Try.underlying22 info5 (by decide) (.slice (some ⟨w.heap.size, 0, none⟩) 0 10) [] 61 rfl rfl hown0 HB0 hz0' (by simp) ?_); intro v1 w1 hown1 HB1 hgrow1 _))
  go_loopw [4, 5] (fun v x wr => ∃ (j : Nat) (u : Value), j ≤ 8 ∧ u = v ∧ x = .int .i64 (28 - 4 * (j : Int)) ∧ wr.ownsRow w.heap.size 5 1 v (61 :: hexes S j).length (nums .u8 (61 :: hexes S j)) ∧ Below w.heap.size w wr)
    (fun _ x _ => intV x)
  case atStart => exact ⟨0, v1, by omega, rfl, by simp, by simpa [hexes] using hown1, HB1⟩
  case round =>
    obtain ⟨j, u, hj, rfl, rfl, hown, hB⟩ := hrel
    have hq := divlt S (28 - 4 * j) hh
    have HQ := Lib.hid (and15 _ hq.1 hq.2)
    clear hq
    have hsz := hB.size
    go_wp2_with (first
      | (at_builtin; (refine print_append_num (w0 := w) w.heap.size rfl (.tmp 16) (.tmp 23) 22 5 .u8 1 rfl Try.underlying22 info5 (by decide) u (61 :: hexes S j) _ rfl rfl hown hB hsz (by simp [hexes_len]; omega) ?_); intro v1 w1 hown1 HB1 hgrow1 _)
      | (at_builtin; (refine print_append_num (w0 := w) w.heap.size rfl (.tmp 26) (.tmp 27) 22 5 .u8 1 rfl Try.underlying22 info5 (by decide) u (61 :: hexes S j) 10 rfl rfl hown hB hsz (by simp [hexes_len]; omega) ?_); intro v1 w1 hown1 HB1 hgrow1 _; have hcv := own_string (dst := 9) (by exact Try.underlying22) (by kernel_rfl) (by kernel_rfl) hown1))
    case roundEnd =>
      rw [tab16 _ (by assumption), HQ.out] at hown1
      exact ⟨⟨j + 1, v1, by omega, rfl, by congr 1; push_cast; omega, by rw [hexes_succ]; exact hown1, HB1⟩, by simp [intV]; omega⟩
    case isFalse hb =>
      exfalso
      rw [HQ.out] at hb
      omega
    case isTrue hb =>
      exfalso
      rw [strOfNums_size] at hb
      simp [hexes_len] at hb
      omega
    · have hj8 : j = 8 := by omega
      subst hj8
      exact bodyPost_ret (v := .string (s ++ strOfNums (61 :: (hexes S 8 ++ [10])))) (by simp [results, Try.f8, go_sem]) rfl ⟨by simp, HB1⟩
def sealOf (s : ByteArray) : ByteArray := s ++ strOfNums (61 :: (hexes (sum s.data.toList : Nat) 8 ++ [10]))
def lines_Seal.f (s : ByteArray) : Option ByteArray := if s.size ≤ 1000000 then some (sealOf s) else none
theorem lines_Seal.calls (s : ByteArray) (r : ByteArray) (w : World) (h : lines_Seal.f s = some r) :
    Calls Try.prog 8 #[.string s] w fun e w' => e = .returned (.string r) ∧ Below w.heap.size w w' := by
  unfold lines_Seal.f at h
  split at h
  · rename_i c
    cases h
    exact seal_calls s w c
  · cases h
end Go.Proofs.Ythmamoodmmloaaa.Ext
