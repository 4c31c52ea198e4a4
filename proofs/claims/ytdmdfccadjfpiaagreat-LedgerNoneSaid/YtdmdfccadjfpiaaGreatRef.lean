/-
  The document's answer for sums and records: Four, Sum, Lay.
-/
import Derived.Test.YtdmdfccadjfpiaaGreatLay
namespace Go.Proofs.YtdmdfccadjfpiaaGreat
open Go.RowKit
set_option maxRecDepth 100000

theorem refFour (n : Nat) (h : n < 4294967296) (w : World) : Calls Tryz.prog 51 #[.int .u32 n] w fun e w' =>
    ∃ v, e = .returned v ∧ w'.ownsRow w.heap.size 5 1 v 4 (u8L (four n)) ∧ Below w.heap.size w w' := by
  have e0 : (n : Int).tmod 256 = (n : Int) % 256 := by rw [Int.tmod_eq_emod_of_nonneg (by omega)]
  go_enter Tryz.func51, Tryz.ntmps51
  go_wp2_with fail
  refine bodyPost_gen fun w1 hw1 => ?_
  have hB : Blk w1 w.heap.size (fourV n) 5 := by rw [hw1]; exact Blk.new _ _ _
  have hb : Below w.heap.size w w1 := by rw [hw1]; exact (Below.refl _ _).alloc (Nat.le_refl _) _
  have hown := owns_of_blk hB (Nat.le_refl _) (by unfold maxLen; show 4 ≤ _; omega)
  rw [← u8L_four n h] at hown
  go_ret
  exact ⟨_, rfl, hown, hb⟩

theorem refSum (v : Value) (l : List UInt8) (w : World) (hl : Rd w 1 v l.length (u8L l)) : Calls Tryz.prog 52 #[v] w fun e w' => e = .returned (.int .u32 (crcSum l : Nat)) ∧ w' = w := by
  obtain ⟨A, c, rfl, h1, h2, h3, h4⟩ := hl
  unfold maxLen at h3
  go_enter Tryz.func52, Tryz.ntmps52
  go_wp2_with fail
  go_loopw [3, 4] (fun n i wr => ∃ k : Nat, k ≤ l.length ∧ i = .int .i64 k ∧ n = .int .u32 (crcOver 4294967295 (l.take k)) ∧ wr = w) (fun _ i _ => l.length - (intOf i).toNat)
  case atStart => exact ⟨0, Nat.zero_le _, rfl, rfl, rfl⟩
  case round =>
    obtain ⟨k, hk, rfl, rfl, rfl⟩ := hrel
    have hlm := crcOver_lt (l.take k) 4294967295 (by decide)
    by_cases hlt : k < l.length
    · obtain ⟨x, hx⟩ : ∃ x, l[k]? = some x := ⟨_, List.getElem?_eq_getElem hlt⟩
      obtain ⟨q, o, rfl, hr⟩ := h4 (by omega)
      have hc : wr.cell? ⟨q, o + k, none⟩ = some (.int .u8 x.toNat) := hr k _ (by simp [u8L, hx])
      have hsucc := crcOver_take_succ 4294967295 l k x hx
      clear h4 hr hx
      generalize crcOver 4294967295 (l.take k) = m at hlm hsucc
      have hx8 := x.toNat_lt
      have e1 : bits .xor .u32 (m : Int) (x.toNat : Int) = ((m ^^^ x.toNat : Nat) : Int) := u32_xor_nat m x.toNat hlm (by omega)
      have l1 : m ^^^ x.toNat < 4294967296 := Nat.xor_lt_two_pow (n := 32) hlm (by omega)
      have hup : crcUp m x = crcSteps 8 (m ^^^ x.toNat) := rfl
      rw [hup] at hsucc
      clear hup
      generalize m ^^^ x.toNat = m1 at e1 l1 hsucc
      go_wp2_with fail
      go_loopw [3, 5] (fun n c wi => ∃ m : Nat, m ≤ 8 ∧ c = .int .i64 m ∧ n = .int .u32 (crcSteps m m1) ∧ wi = wr) (fun _ c _ => 8 - (intOf c).toNat)
      case atStart => exact ⟨0, by decide, rfl, rfl, rfl⟩
      case round =>
        obtain ⟨j, hj, rfl, rfl, rfl⟩ := hrel
        have hn := crcSteps_lt (n := m1) l1 j
        have hst : crcSteps (j + 1) m1 = crcStep (crcSteps j m1) := rfl
        have h8 : j = 8 → crcSteps j m1 = crcSteps 8 m1 := fun e => by rw [e]
        by_cases hj8 : j < 8
        · clear h8
          generalize crcSteps j m1 = n at hn hst
          have e2 : (n : Int).tmod 2 = ((n % 2 : Nat) : Int) := rfl
          by_cases hp : n % 2 = 1
          · rw [hp] at e2
            have e3 : bits .xor .u32 ((n : Int) / 2) 3988292384 = ((n / 2 ^^^ 3988292384 : Nat) : Int) := u32_xor_nat (n / 2) 3988292384 (by omega) (by decide)
            go_wp2_with fail
            go_roundw
            case rel => exact ⟨j + 1, by omega, by go_num, by rw [hst, crcStep, if_pos hp], trivial⟩
            case measure => simp [intOf]; omega
          · have hp0 : n % 2 = 0 := by omega
            rw [hp0] at e2
            go_wp2_with fail
            go_roundw
            case rel => exact ⟨j + 1, by omega, by go_num, by rw [hst, crcStep, if_neg hp]; simp, trivial⟩
            case measure => simp [intOf]; omega
        · have hj2 : j = 8 := by omega
          have e8 := h8 hj2
          rw [e8, ← hsucc]
          clear e8 h8 hst hn
          go_wp2_with fail
          go_roundw
          case rel => exact ⟨k + 1, by omega, by go_num, rfl, trivial⟩
          case measure => simp [intOf]; omega
    · have hk2 : k = l.length := by omega
      have hfull : l.take k = l := by rw [hk2, List.take_length]
      rw [hfull] at hlm ⊢
      have e9 : bits .xor .u32 ((crcOver 4294967295 l : Nat) : Int) 4294967295 = ((crcSum l : Nat) : Int) := by
        have := u32_xor_nat (crcOver 4294967295 l) 4294967295 hlm (by decide)
        rw [xor_ones _ hlm] at this
        exact this
      go_wp2_with fail
      go_ret
      exact ⟨rfl, rfl⟩
end Go.Proofs.YtdmdfccadjfpiaaGreat
