/-
  Four bytes: crc's Put and Take.
-/
import Derived.Test.YtdmdfccadjfpiaaGreatSum
namespace Go.Proofs.YtdmdfccadjfpiaaGreat
open Go.RowKit
set_option maxRecDepth 100000

/-- A number as four bytes, the lowest first. -/
def four (n : Nat) : List UInt8 := [UInt8.ofNat (n % 256), UInt8.ofNat (n / 256 % 256), UInt8.ofNat (n / 65536 % 256), UInt8.ofNat (n / 16777216)]
def unfour (a b c d : Nat) : Nat := a + 256 * b + 65536 * c + 16777216 * d
theorem four_unfour (n : Nat) : unfour (n % 256) (n / 256 % 256) (n / 65536 % 256) (n / 16777216) = n := by unfold unfour; omega

theorem crcPut (n : Nat) (h : n < 4294967296) (w : World) : Calls Tryz.prog 90 #[.int .u32 n] w fun e w' =>
    e = .returned (.agg #[.int .u8 (n % 256 : Nat), .int .u8 (n / 256 % 256 : Nat), .int .u8 (n / 65536 % 256 : Nat), .int .u8 (n / 16777216 : Nat)]) ∧ Below w.heap.size w w' := by
  go_enter Tryz.func90, Tryz.ntmps90
  go_wp2_with fail
  refine bodyPost_gen fun w1 hw1 => ?_
  have hB : Blk w1 w.heap.size #[.int .u8 ((n : Int) % 256), .int .u8 ((n : Int) / 256 % 256), .int .u8 ((n : Int) / 65536 % 256), .int .u8 ((n : Int) / 16777216)] 168 := by rw [hw1]; exact Blk.new _ _ _
  have hb : Below w.heap.size w w1 := by rw [hw1]; exact (Below.refl _ _).alloc (Nat.le_refl _) _
  clear hw1
  have a0 := hB.cell (j := 0) (v := .int .u8 ((n : Int) % 256)) rfl
  have a1 := hB.cell (j := 1) (v := .int .u8 ((n : Int) / 256 % 256)) rfl
  have a2 := hB.cell (j := 2) (v := .int .u8 ((n : Int) / 65536 % 256)) rfl
  have a3 := hB.cell (j := 3) (v := .int .u8 ((n : Int) / 16777216)) rfl
  refine bodyPost_ret (v := .agg #[.int .u8 ((n : Int) % 256), .int .u8 ((n : Int) / 256 % 256), .int .u8 ((n : Int) / 65536 % 256), .int .u8 ((n : Int) / 16777216)]) ?_ rfl ⟨rfl, hb⟩
  simp [results, Tryz.results90, go_sem, a0, a1, a2, a3]

theorem or_low (a b k : Nat) (h : a < 2 ^ k) : a ||| 2 ^ k * b = a + 2 ^ k * b := by
  have := Nat.two_pow_add_eq_or_of_lt h b
  rw [Nat.or_comm, ← this, Nat.add_comm]
theorem crcTake (a b c d : Nat) (ha : a < 256) (hb : b < 256) (hc : c < 256) (hd : d < 256) (w : World) : Calls Tryz.prog 106 #[.agg #[.int .u8 a, .int .u8 b, .int .u8 c, .int .u8 d]] w fun e w' =>
    e = .returned (.int .u32 (unfour a b c d : Nat)) ∧ Below w.heap.size w w' := by
  have e1 : bits .or .u32 (a : Int) ((b : Int) * 256) = ((a + 256 * b : Nat) : Int) := by
    have := u32_or_nat a (b * 256) (by omega) (by omega)
    rw [Nat.mul_comm b, or_low a b 8 ha] at this
    rw [Int.mul_comm]
    exact this
  have e2 : bits .or .u32 ((a + 256 * b : Nat) : Int) ((c : Int) * 65536) = ((a + 256 * b + 65536 * c : Nat) : Int) := by
    have := u32_or_nat (a + 256 * b) (c * 65536) (by omega) (by omega)
    rw [Nat.mul_comm c, or_low (a + 256 * b) c 16 (by omega)] at this
    rw [Int.mul_comm]
    exact this
  have e3 : bits .or .u32 ((a + 256 * b + 65536 * c : Nat) : Int) ((d : Int) * 16777216) = ((unfour a b c d : Nat) : Int) := by
    have := u32_or_nat (a + 256 * b + 65536 * c) (d * 16777216) (by omega) (by omega)
    rw [Nat.mul_comm d, or_low (a + 256 * b + 65536 * c) d 24 (by omega)] at this
    rw [Int.mul_comm]
    exact this
  generalize unfour a b c d = u at e3
  obtain ⟨x1, h1⟩ : ∃ x1, x1 = a + 256 * b := ⟨_, rfl⟩
  obtain ⟨x2, h2⟩ : ∃ x2, x2 = a + 256 * b + 65536 * c := ⟨_, rfl⟩
  rw [← h2] at e2 e3
  rw [← h1] at e1 e2
  clear h1 h2
  go_enter Tryz.func106, Tryz.ntmps106
  go_wp2_with fail
  go_ret
  exact ⟨rfl, (Below.refl _ _).alloc (Nat.le_refl _) _⟩
end Go.Proofs.YtdmdfccadjfpiaaGreat
