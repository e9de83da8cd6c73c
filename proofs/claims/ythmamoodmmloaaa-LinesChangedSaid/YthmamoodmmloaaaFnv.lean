/- The sum of chapter 2 on lists of bytes: it goes on byte by byte, and one turned byte turns it, whatever stands behind (plain numbers and lists, no program). -/
import Derived.Laws.BitsLemmas
namespace Go.Proofs.Ythmamoodmmloaaa.Fnv

/-- one byte more -/
def fstep (h c : Nat) : Nat := ((h ^^^ c) * 16777619) % 4294967296
theorem fstep_lt (h c : Nat) : fstep h c < 4294967296 := Nat.mod_lt _ (by decide)
theorem mul_inj {a b : Nat} (ha : a < 4294967296) (hb : b < 4294967296) (h : a * 16777619 % 4294967296 = b * 16777619 % 4294967296) : a = b := by
  have key : ∀ x, x < 4294967296 → (x * 16777619 % 4294967296) * 899433627 % 4294967296 = x := by
    intro x hx
    rw [Nat.mod_mul_mod, Nat.mul_assoc]
    rw [show 16777619 * 899433627 = 4294967296 * 3513497 + 1 by decide]
    rw [Nat.mul_add, Nat.mul_one, show x * (4294967296 * 3513497) = 4294967296 * (x * 3513497) by rw [← Nat.mul_assoc, Nat.mul_comm x, Nat.mul_assoc]]
    rw [Nat.mul_add_mod]; exact Nat.mod_eq_of_lt hx
  rw [← key a ha, ← key b hb, h]
theorem xor_lt {h c : Nat} (hh : h < 4294967296) (hc : c < 256) : h ^^^ c < 4294967296 :=
  Nat.xor_lt_two_pow (n := 32) hh (by omega)
theorem fstep_inj_left {h g c : Nat} (hh : h < 4294967296) (hg : g < 4294967296) (hc : c < 256) (e : fstep h c = fstep g c) : h = g := by
  have := mul_inj (xor_lt hh hc) (xor_lt hg hc) e
  have e2 := congrArg (fun z => z ^^^ c) this
  simpa [Nat.xor_assoc] using e2
theorem fstep_inj_right {h c d : Nat} (hh : h < 4294967296) (hc : c < 256) (hd : d < 256) (e : fstep h c = fstep h d) : c = d := by
  have := mul_inj (xor_lt hh hc) (xor_lt hh hd) e
  have e2 := congrArg (fun z => h ^^^ z) this
  simpa [← Nat.xor_assoc] using e2
/-- the sum from h on -/
def fnv (h : Nat) (l : List UInt8) : Nat := l.foldl (fun h c => fstep h c.toNat) h
theorem fnv_append (h : Nat) (l m : List UInt8) : fnv h (l ++ m) = fnv (fnv h l) m := by simp [fnv]
theorem fnv_cons (h : Nat) (c : UInt8) (l : List UInt8) : fnv h (c :: l) = fnv (fstep h c.toNat) l := rfl
theorem fnv_lt (h : Nat) (l : List UInt8) (hh : h < 4294967296) : fnv h l < 4294967296 := by
  induction l generalizing h with
  | nil => exact hh
  | cons c l ih => exact ih _ (fstep_lt _ _)
theorem fnv_inj (l : List UInt8) {h g : Nat} (hh : h < 4294967296) (hg : g < 4294967296) (e : fnv h l = fnv g l) : h = g := by
  induction l generalizing h g with
  | nil => exact e
  | cons c l ih => exact fstep_inj_left hh hg c.toNat_lt (ih (fstep_lt _ _) (fstep_lt _ _) e)
/-- the sum of a text -/
def sum (l : List UInt8) : Nat := fnv 2166136261 l
theorem sum_lt (l : List UInt8) : sum l < 4294967296 := fnv_lt _ _ (by decide)
/-- two texts that part in one byte alone have sums that part -/
theorem sum_turn (a : List UInt8) (x y : UInt8) (b : List UInt8) : sum (a ++ x :: b) = sum (a ++ y :: b) ↔ x = y := by
  constructor
  · intro e
    unfold sum at e
    rw [fnv_append, fnv_append, fnv_cons, fnv_cons] at e
    have h1 := fnv_inj b (fstep_lt _ _) (fstep_lt _ _) e
    have h2 := fstep_inj_right (fnv_lt _ a (by decide)) x.toNat_lt y.toNat_lt h1
    exact UInt8.toNat_inj.1 h2
  · rintro rfl; rfl
theorem bits_xor (a b : Nat) (ha : a < 4294967296) (hb : b < 4294967296) : Go.bits .xor .u32 (a : Int) (b : Int) = ((a ^^^ b : Nat) : Int) := by
  have hx : a ^^^ b < 4294967296 := Nat.xor_lt_two_pow (n := 32) ha hb
  have e : IntKind.u32.wrap ((a ^^^ b : Nat) : Int) = ((a ^^^ b : Nat) : Int) := by
    simp only [IntKind.wrap, IntKind.bits, IntKind.signed]
    simp; omega
  have ha' : a % 2 ^ IntKind.u32.bits = a := Nat.mod_eq_of_lt ha
  have hb' : b % 2 ^ IntKind.u32.bits = b := Nat.mod_eq_of_lt hb
  simp only [bits, BitVec.ofInt_natCast, BitVec.toNat_xor, BitVec.toNat_ofNat, ha', hb']
  exact e
theorem bits_fstep (h : Nat) (c : UInt8) (hh : h < 4294967296) : ((Go.bits .xor .u32 (h : Int) (((c.toNat : Nat) : Int) % 4294967296)) * 16777619) % 4294967296 = ((fstep h c.toNat : Nat) : Int) := by
  have hc := c.toNat_lt
  rw [show ((c.toNat : Nat) : Int) % 4294967296 = ((c.toNat : Nat) : Int) by omega, bits_xor h c.toNat hh (by omega)]
  unfold fstep; omega
end Go.Proofs.Ythmamoodmmloaaa.Fnv
