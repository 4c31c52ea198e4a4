/-
  The plain law of the sum: a step by the table's word is eight steps of the register.
-/
import Derived.Test.YtdmdfccadjfpiaaGreatFill
namespace Go.Proofs.YtdmdfccadjfpiaaGreat
open Go.RowKit
set_option maxRecDepth 100000

theorem crcStep_xor (a b : Nat) : crcStep (a ^^^ b) = crcStep a ^^^ crcStep b := by
  have hd : (a ^^^ b) / 2 = a / 2 ^^^ b / 2 := by
    apply Nat.eq_of_testBit_eq
    intro i
    rw [Nat.testBit_div_two, Nat.testBit_xor, Nat.testBit_xor, Nat.testBit_div_two, Nat.testBit_div_two]
  have hm : (a ^^^ b) % 2 = (a % 2 + b % 2) % 2 := by
    have h0 : (a ^^^ b).testBit 0 = (a.testBit 0 ^^ b.testBit 0) := Nat.testBit_xor ..
    simp only [Nat.testBit_zero] at h0
    have ha : a % 2 = 0 ∨ a % 2 = 1 := by omega
    have hb : b % 2 = 0 ∨ b % 2 = 1 := by omega
    have hc : (a ^^^ b) % 2 = 0 ∨ (a ^^^ b) % 2 = 1 := by omega
    rcases ha with ha | ha <;> rcases hb with hb | hb <;> rcases hc with hc | hc <;> simp [ha, hb, hc] at h0 ⊢
  unfold crcStep
  rw [hd, hm]
  have ha : a % 2 = 0 ∨ a % 2 = 1 := by omega
  have hb : b % 2 = 0 ∨ b % 2 = 1 := by omega
  rcases ha with ha | ha <;> rcases hb with hb | hb <;> simp only [ha, hb]
  · rfl
  · show a / 2 ^^^ b / 2 ^^^ 3988292384 = a / 2 ^^^ (b / 2 ^^^ 3988292384)
    rw [Nat.xor_assoc]
  · show a / 2 ^^^ b / 2 ^^^ 3988292384 = a / 2 ^^^ 3988292384 ^^^ b / 2
    rw [Nat.xor_assoc, Nat.xor_assoc, Nat.xor_comm (b / 2)]
  · show a / 2 ^^^ b / 2 = a / 2 ^^^ 3988292384 ^^^ (b / 2 ^^^ 3988292384)
    rw [Nat.xor_comm (b / 2) 3988292384, Nat.xor_assoc, ← Nat.xor_assoc 3988292384, Nat.xor_self, Nat.zero_xor]
theorem crcSteps_xor (a b : Nat) : ∀ k, crcSteps k (a ^^^ b) = crcSteps k a ^^^ crcSteps k b
  | 0 => rfl
  | k + 1 => by show crcStep (crcSteps k (a ^^^ b)) = _; rw [crcSteps_xor a b k, crcStep_xor]; rfl
theorem crcStep_double (n : Nat) : crcStep (2 * n) = n := by
  unfold crcStep
  rw [if_neg (by omega)]
  omega
theorem crcSteps_high (h : Nat) : crcSteps 8 (256 * h) = h := by
  show crcStep (crcStep (crcStep (crcStep (crcStep (crcStep (crcStep (crcStep (256 * h)))))))) = h
  rw [show 256 * h = 2 * (128 * h) by omega, crcStep_double, show 128 * h = 2 * (64 * h) by omega, crcStep_double, show 64 * h = 2 * (32 * h) by omega, crcStep_double, show 32 * h = 2 * (16 * h) by omega, crcStep_double,
    show 16 * h = 2 * (8 * h) by omega, crcStep_double, show 8 * h = 2 * (4 * h) by omega, crcStep_double, show 4 * h = 2 * (2 * h) by omega, crcStep_double, crcStep_double]
theorem split_low (n : Nat) : n = n % 256 ^^^ 256 * (n / 256) := by
  apply Nat.eq_of_testBit_eq
  intro i
  rw [Nat.testBit_xor, show (256 : Nat) = 2 ^ 8 from rfl, Nat.testBit_mod_two_pow, Nat.testBit_two_pow_mul, Nat.testBit_div_two_pow]
  by_cases h : i < 8
  · rw [show decide (i < 8) = true by simpa using h, show decide (i ≥ 8) = false by simp; omega]; simp
  · rw [show decide (i < 8) = false by simpa using h, show decide (i ≥ 8) = true by simp; omega, show i - 8 + 8 = i by omega]; simp
/-- One byte: by the table, and by the register. -/
def crcUp (n : Nat) (c : UInt8) : Nat := crcSteps 8 (n ^^^ c.toNat)
theorem crcUp_table (n : Nat) (c : UInt8) : tabW (n % 256 ^^^ c.toNat) ^^^ n / 256 = crcUp n c := by
  unfold crcUp tabW
  conv => rhs; rw [split_low n]
  rw [Nat.xor_assoc, Nat.xor_comm (256 * (n / 256)), ← Nat.xor_assoc, crcSteps_xor (_ ^^^ _) (256 * _), crcSteps_high]
theorem crcUp_lt (n : Nat) (c : UInt8) (h : n < 4294967296) : crcUp n c < 4294967296 :=
  crcSteps_lt (Nat.xor_lt_two_pow (n := 32) h (Nat.lt_of_lt_of_le c.toNat_lt (by decide))) 8
def crcOver (n : Nat) (l : List UInt8) : Nat := l.foldl crcUp n
theorem crcOver_lt (l : List UInt8) : ∀ n, n < 4294967296 → crcOver n l < 4294967296 := by
  induction l with
  | nil => intro n h; exact h
  | cons c r ih => intro n h; exact ih _ (crcUp_lt n c h)
theorem crcOver_append (n : Nat) (a b : List UInt8) : crcOver n (a ++ b) = crcOver (crcOver n a) b := by simp [crcOver]
theorem crcOver_take_succ (n : Nat) (l : List UInt8) (k : Nat) (c : UInt8) (h : l[k]? = some c) : crcOver n (l.take (k + 1)) = crcUp (crcOver n (l.take k)) c := by
  rw [List.take_add_one, h]
  simp [crcOver]
/-- The sum of bytes. -/
def crcSum (l : List UInt8) : Nat := 4294967295 - crcOver 4294967295 l
theorem xor_ones (n : Nat) (h : n < 4294967296) : n ^^^ 4294967295 = 4294967295 - n := by
  have h1 := BitVec.xor_allOnes (x := BitVec.ofNat 32 n)
  have h2 := congrArg BitVec.toNat h1
  rw [BitVec.toNat_xor, BitVec.toNat_not, BitVec.toNat_allOnes, BitVec.toNat_ofNat, Nat.mod_eq_of_lt h] at h2
  omega
end Go.Proofs.YtdmdfccadjfpiaaGreat
