/-
  The words of a table: what crc's fill lays.
-/
import Derived.Test.YtdmdfccadjfpiaaGreatTab
import Derived.Laws.BitsAllLaws
namespace Go.Proofs.YtdmdfccadjfpiaaGreat
open Go.RowKit
set_option maxRecDepth 100000

def crcStep (n : Nat) : Nat := if n % 2 = 1 then n / 2 ^^^ 3988292384 else n / 2
def crcSteps : Nat → Nat → Nat
  | 0, n => n
  | k + 1, n => crcStep (crcSteps k n)
def tabW (i : Nat) : Nat := crcSteps 8 i
theorem crcStep_lt {n : Nat} (h : n < 4294967296) : crcStep n < 4294967296 := by
  unfold crcStep
  split
  · exact Nat.xor_lt_two_pow (n := 32) (by omega) (by omega)
  · omega
theorem crcSteps_lt {n : Nat} (h : n < 4294967296) : ∀ k, crcSteps k n < 4294967296
  | 0 => h
  | k + 1 => crcStep_lt (crcSteps_lt h k)

theorem fill (b d : Nat) (st : Int) (ws : Nat → Nat) (s t : Nat) (w : World) (hT : Tab w b d st ws s t) :
    Calls Tryz.prog 122 #[.pointer (some ⟨b, 0, none⟩)] w fun e w' => e = .returned (.tuple #[]) ∧ Tab w' b d st tabW s t ∧ But b w w' := by
  go_enter Tryz.func122, Tryz.ntmps122
  go_wp2_with fail
  go_loopw [4] (fun i wr => ∃ (k : Nat) (ws' : Nat → Nat), k ≤ 256 ∧ i = .int .i64 k ∧ Tab wr b d st ws' s t ∧ (∀ q, q < k → ws' q = tabW q) ∧ But b w wr) (fun i _ => 256 - (intOf i).toNat)
  case atStart => exact ⟨0, ws, Nat.zero_le _, rfl, hT, fun q h => absurd h (Nat.not_lt_zero q), But.refl b w⟩
  case round =>
    obtain ⟨k, ws', hk, rfl, hT', hq, hB⟩ := hrel
    clear hT
    by_cases hlt : k < 256
    · have wk : IntKind.u32.wrap (k : Int) = (k : Int) := by rw [IntKind.wrap_u32']; omega
      go_wp2_with fail
      go_loopw [3, 9] (fun n c wi => ∃ m : Nat, m ≤ 8 ∧ c = .int .i64 m ∧ n = .int .u32 (crcSteps m k) ∧ wi = wr) (fun _ c _ => 8 - (intOf c).toNat)
      case atStart => exact ⟨0, by decide, rfl, rfl, rfl⟩
      case round =>
        obtain ⟨m, hm, rfl, rfl, rfl⟩ := hrel
        have hn := crcSteps_lt (n := k) (by omega) m
        have hst : crcSteps (m + 1) k = crcStep (crcSteps m k) := rfl
        have h8 : m = 8 → crcSteps m k = tabW k := fun e => by rw [e]; rfl
        generalize crcSteps m k = n at hn hst h8
        have e1 : bits .and .u32 (n : Int) 1 = ((n % 2 : Nat) : Int) := by
          have := u32_and_nat n 1 hn (by decide)
          rw [Nat.and_one_is_mod] at this
          exact this
        by_cases hm8 : m < 8
        · by_cases hp : n % 2 = 1
          · rw [hp] at e1
            have e2 : bits .xor .u32 ((n : Int) / 2) 3988292384 = ((n / 2 ^^^ 3988292384 : Nat) : Int) := u32_xor_nat (n / 2) 3988292384 (by omega) (by decide)
            go_wp2_with fail
            go_roundw
            case rel => exact ⟨m + 1, by omega, by go_num, by rw [hst, crcStep, if_pos hp], trivial⟩
            case measure => simp [intOf]; omega
          · have hp0 : n % 2 = 0 := by omega
            rw [hp0] at e1
            go_wp2_with fail
            go_roundw
            case rel => exact ⟨m + 1, by omega, by go_num, by rw [hst, crcStep, if_neg hp]; simp, trivial⟩
            case measure => simp [intOf]; omega
        · have hm2 : m = 8 := by omega
          obtain rfl := h8 hm2
          have hc := hT'.word hlt
          have hz := hT'.frozen (3 + k)
          have hw := hT'.putWord hlt (tabW k)
          have hb := hB.trans (But.set b (3 + k) (.int .u32 (tabW k)) _)
          go_wp2_with fail
          go_roundw
          case rel =>
            refine ⟨k + 1, _, by omega, by go_num, hw, fun q hq2 => ?_, hb⟩
            split
            · rename_i e; rw [e]
            · exact hq q (by omega)
          case measure => simp [intOf]; omega
    · have hk2 : k = 256 := by omega
      go_wp2_with fail
      go_end0
      subst hk2
      exact ⟨rfl, hT'.congr hq, hB⟩
end Go.Proofs.YtdmdfccadjfpiaaGreat
