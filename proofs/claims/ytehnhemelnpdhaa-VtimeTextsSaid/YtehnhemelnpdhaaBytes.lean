/- Keys as the document orders them, and numbers as bytes, the highest first (no program). -/
import Derived.Test.YtehnhemelnpdhaaDecode
import Derived.Sort.Walk0
set_option linter.unusedVariables false
set_option linter.unusedSimpArgs false
namespace Go.Proofs.Ytehnhemelnpdhaa.Bytes
open Go.RowKit Go.Proofs.YtehnhemelnpdhaaW.PrintWords Go.Proofs.YtehnhemelnpdhaaW.PrintMore Go.Proofs.Ytehnhemelnpdhaa.Ext Go.Proofs.Ytehnhemelnpdhaa.B

/-- keys as the document orders them -/
def kc (a0 a1 a2 b0 b1 b2 : Int) : Int := if a0 < b0 then -1 else if b0 < a0 then 1 else if a1 < b1 then -1 else if b1 < a1 then 1 else if a2 < b2 then -1 else if b2 < a2 then 1 else 0
theorem kc_range (a0 a1 a2 b0 b1 b2 : Int) : kc a0 a1 a2 b0 b1 b2 = -1 ∨ kc a0 a1 a2 b0 b1 b2 = 0 ∨ kc a0 a1 a2 b0 b1 b2 = 1 := by unfold kc; omega
theorem kc_neg (a0 a1 a2 b0 b1 b2 : Int) : kc b0 b1 b2 a0 a1 a2 = - kc a0 a1 a2 b0 b1 b2 := by unfold kc; omega
theorem kc_lt (a0 a1 a2 b0 b1 b2 : Int) : kc a0 a1 a2 b0 b1 b2 < 0 ↔ (a0 < b0 ∨ (a0 = b0 ∧ (a1 < b1 ∨ (a1 = b1 ∧ a2 < b2)))) := by unfold kc; omega
theorem kc_le (a0 a1 a2 b0 b1 b2 : Int) : kc a0 a1 a2 b0 b1 b2 ≤ 0 ↔ (a0 < b0 ∨ (a0 = b0 ∧ (a1 < b1 ∨ (a1 = b1 ∧ a2 ≤ b2)))) := by unfold kc; omega
theorem kc_zero (a0 a1 a2 b0 b1 b2 : Int) : kc a0 a1 a2 b0 b1 b2 = 0 ↔ (a0 = b0 ∧ a1 = b1 ∧ a2 = b2) := by unfold kc; omega

/-- so many bytes of a number, the highest first -/
def beI (n : Int) : Nat → List Int
  | 0 => []
  | m + 1 => beI (n / 256) m ++ [n % 256]
theorem beI_length (n : Int) (m : Nat) : (beI n m).length = m := by
  induction m generalizing n with
  | zero => rfl
  | succ m ih => simp [beI, ih]
theorem beI_range (n : Int) (m : Nat) : ∀ x ∈ beI n m, 0 ≤ x ∧ x < 256 := by
  induction m generalizing n with
  | zero => simp [beI]
  | succ m ih =>
    intro x hx
    simp only [beI, List.mem_append, List.mem_singleton] at hx
    rcases hx with hx | rfl
    · exact ih _ x hx
    · omega
theorem beI_cons (n : Int) (m : Nat) : beI n (m + 1) = (n / 256 ^ m % 256) :: beI n m := by
  induction m generalizing n with
  | zero => simp [beI]
  | succ m ih =>
    have h1 : beI n (m + 2) = beI (n / 256) (m + 1) ++ [n % 256] := rfl
    have h2 : beI n (m + 1) = beI (n / 256) m ++ [n % 256] := rfl
    have e : n / 256 / 256 ^ m = n / 256 ^ (m + 1) := by
      rw [Int.pow_succ, Int.mul_comm, Int.ediv_ediv_of_nonneg (by decide)]
    rw [h1, ih, h2, e]; rfl
theorem str_data (l : List Int) : (strOfNums l).data.toList = l.map fun n => UInt8.ofNat n.toNat := rfl
/-- the bytes' number is the number, as far as they go -/
theorem big_be (n : Int) (m : Nat) (h : 0 ≤ n) : (big ((beI n m).map fun n => UInt8.ofNat n.toNat) : Int) = n % 256 ^ m := by
  induction m generalizing n with
  | zero => simp [beI, big]
  | succ m ih =>
    have ih' := ih (n / 256) (by omega)
    simp only [beI, List.map_append, List.map_cons, List.map_nil]
    rw [big_snoc]
    have e : ((UInt8.ofNat (n % 256).toNat).toNat : Int) = n % 256 := by
      rw [UInt8.toNat_ofNat_of_lt' (by show (n % 256).toNat < 256; omega)]; omega
    rw [Int.natCast_add, Int.natCast_mul, ih', e]
    have hp : (256 : Int) ^ (m + 1) = 256 * 256 ^ m := by rw [Int.pow_succ, Int.mul_comm]
    have hq : (0 : Int) < 256 ^ m := Int.pow_pos (by decide)
    rw [hp]
    generalize (256 : Int) ^ m = q at hq ⊢
    have d1 := Int.emod_add_mul_ediv (n / 256) q
    have d3 := Int.emod_nonneg (n / 256) (show q ≠ 0 by omega)
    have d4 := Int.emod_lt_of_pos (n / 256) hq
    have e2 : n = (n / 256 % q * 256 + n % 256) + (256 * q) * (n / 256 / q) := by
      have d0 := Int.emod_add_mul_ediv n 256
      have : 256 * (n / 256) = 256 * (n / 256 % q) + (256 * q) * (n / 256 / q) := by
        rw [Int.mul_assoc, ← Int.mul_add, d1]
      omega
    symm
    show n % (256 * q) = n / 256 % q * ((256 : Nat) : Int) + n % 256
    conv => lhs; rw [e2]
    rw [Int.add_mul_emod_self_left]
    exact Int.emod_eq_of_lt (by omega) (by
      show n / 256 % q * 256 + n % 256 < 256 * q
      have : n / 256 % q + 1 ≤ q := by omega
      have h5 : (n / 256 % q + 1) * 256 ≤ q * 256 := Int.mul_le_mul_of_nonneg_right this (by decide)
      have h6 : q * 256 = 256 * q := Int.mul_comm _ _
      have h7 : (n / 256 % q + 1) * 256 = n / 256 % q * 256 + 256 := by rw [Int.add_mul]; rfl
      omega)
/-- bytes are their number's bytes -/
theorem be_big (l : List UInt8) : (beI (big l) l.length).map (fun n => UInt8.ofNat n.toNat) = l := by
  suffices h : ∀ (r : List UInt8), (beI (big r.reverse) r.length).map (fun n => UInt8.ofNat n.toNat) = r.reverse by
    have := h l.reverse
    simpa using this
  intro r
  induction r with
  | nil => rfl
  | cons c r ih =>
    have hc := c.toNat_lt
    simp only [List.reverse_cons, List.length_cons, beI, List.map_append, List.map_cons, List.map_nil]
    rw [big_snoc]
    have e1 : (((big r.reverse * 256 + c.toNat : Nat)) : Int) / 256 = (big r.reverse : Nat) := by omega
    have e2 : (((big r.reverse * 256 + c.toNat : Nat)) : Int) % 256 = (c.toNat : Nat) := by omega
    rw [e1, e2, ih, Int.toNat_natCast]
    simp
theorem big_inj (l m : List UInt8) (hl : l.length = m.length) (h : big l = big m) : l = m := by
  rw [← be_big l, ← be_big m, hl, h]
theorem big_append (l m : List UInt8) : big (l ++ m) = big l * 256 ^ m.length + big m := by
  suffices h : ∀ (r : List UInt8), big (l ++ r.reverse) = big l * 256 ^ r.length + big r.reverse by
    have := h m.reverse
    simpa using this
  intro r
  induction r with
  | nil => simp [big]
  | cons c r ih =>
    simp only [List.reverse_cons, List.length_cons]
    rw [← List.append_assoc, big_snoc, big_snoc, ih, Nat.pow_succ, Nat.add_mul, Nat.mul_assoc, Nat.add_assoc]
theorem big_cons (c : UInt8) (l : List UInt8) : big (c :: l) = c.toNat * 256 ^ l.length + big l := by
  have := big_append [c] l
  simpa [big] using this
theorem less_big : ∀ (l m : List UInt8), l.length = m.length → Op.bytesLess l m = decide (big l < big m)
  | [], [], _ => by simp [Op.bytesLess]
  | a :: l, b :: m, h => by
    have hl : l.length = m.length := by simpa using h
    have ih := less_big l m hl
    have h1 := big_lt l
    have h2 := big_lt m
    rw [← hl] at h2
    rw [big_cons, big_cons, ← hl]
    simp only [Op.bytesLess, ih]
    generalize big l = x at *
    generalize big m = y at *
    generalize 256 ^ l.length = q at *
    rw [Bool.eq_iff_iff]
    simp only [Bool.or_eq_true, Bool.and_eq_true, decide_eq_true_eq, beq_iff_eq, UInt8.lt_iff_toNat_lt]
    constructor
    · rintro (h | ⟨rfl, h⟩)
      · have : (a.toNat + 1) * q ≤ b.toNat * q := Nat.mul_le_mul_right q h
        rw [Nat.add_mul] at this; omega
      · omega
    · intro h
      rcases Nat.lt_trichotomy a.toNat b.toNat with g | g | g
      · exact Or.inl g
      · exact Or.inr ⟨UInt8.toNat_inj.1 g, by rw [g] at h; omega⟩
      · have : (b.toNat + 1) * q ≤ a.toNat * q := Nat.mul_le_mul_right q g
        rw [Nat.add_mul] at this; omega
/-- a key's bytes, or none -/
def okKey (t f s : Int) : Bool := vd t && decide (0 ≤ f ∧ f < 65536) && decide (0 ≤ s ∧ s < 281474976710656)
def keyBs (t f s : Int) : List Int := beI t 8 ++ beI f 2 ++ beI s 6
def codeP (t f s : Int) : ByteArray × Int := if okKey t f s = true then (strOfNums (keyBs t f s), 0) else (⟨#[]⟩, 1)
theorem vd_bound {t : Int} (h : vd t = true) : 0 ≤ t ∧ t ≤ 1125899906842624 := by unfold vd at h; rw [decide_eq_true_eq] at h; omega
theorem okKey_bound {t f s : Int} (h : okKey t f s = true) : (0 ≤ t ∧ t ≤ 1125899906842624) ∧ (0 ≤ f ∧ f < 65536) ∧ (0 ≤ s ∧ s < 281474976710656) := by
  unfold okKey at h
  simp only [Bool.and_eq_true, decide_eq_true_eq] at h
  exact ⟨vd_bound h.1.1, h.1.2, h.2⟩
theorem keyBs_length (t f s : Int) : (keyBs t f s).length = 16 := by unfold keyBs; simp [beI_length]
theorem keyBs_big {t f s : Int} (h : okKey t f s = true) : (big ((keyBs t f s).map fun n => UInt8.ofNat n.toNat) : Int) = t * 18446744073709551616 + f * 281474976710656 + s := by
  obtain ⟨ht, hf, hs⟩ := okKey_bound h
  unfold keyBs
  rw [List.map_append, List.map_append, big_append, big_append]
  simp only [List.length_map, beI_length]
  have e1 := big_be t 8 ht.1
  have e2 := big_be f 2 hf.1
  have e3 := big_be s 6 hs.1
  rw [Int.natCast_add, Int.natCast_mul, Int.natCast_add, Int.natCast_mul, e1, e2, e3]
  have p8 : (256 : Int) ^ 8 = 18446744073709551616 := by decide
  have p2 : (256 : Int) ^ 2 = 65536 := by decide
  have p6 : (256 : Int) ^ 6 = 281474976710656 := by decide
  have q2 : ((256 ^ 2 : Nat) : Int) = 65536 := by decide
  have q6 : ((256 ^ 6 : Nat) : Int) = 281474976710656 := by decide
  rw [p8, p2, p6, q2, q6]
  omega
end Go.Proofs.Ytehnhemelnpdhaa.Bytes
