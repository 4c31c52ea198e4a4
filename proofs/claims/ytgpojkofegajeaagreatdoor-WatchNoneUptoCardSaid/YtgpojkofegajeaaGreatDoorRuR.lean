/-
  Rules for the reference: how a rule stands for it; its Check.
-/
import Derived.Test.YtgpojkofegajeaaGreatDoorRuC
import Derived.Test.YtgpojkofegajeaaGreatDoorLRefC
import Derived.RegionTactic
import Derived.BigRegion
namespace Go.Proofs.YtgpojkofegajeaaGreatDoor
open Go.RowKit FreeNew
set_option maxRecDepth 100000
attribute [local go_sem] out

set_option maxHeartbeats 4000000 in
theorem refCondCheck (k : Nat) (lim : Int) (tk : Nat) (w : World) : Calls Tryz.prog 40 #[.agg #[.int .i64 k, .int .i64 lim, .int .u64 tk]] w fun e w' => e = .returned (.int .i64 (chkC k lim tk : Nat)) ∧ Below w.heap.size w w' := by
  have hT : (tk = 0 ∨ (1 ≤ tk ∧ tk ≤ 1048576)) ∨ 1048576 < tk := by omega
  have hL : lim < 0 ∨ lim = 0 ∨ 0 < lim := by omega
  by_cases k1 : k = 1
  · subst k1
    rcases hT with (rfl | ⟨t1, t2⟩) | t2
    · skip
      rcases hL with l1 | rfl | l1
      · skip
        have b1 : decide ((0 : Int) ≤ lim) = false := by simp; omega
        have b2 : (lim == 0) = false := by simp; omega
        rw [show chkC 1 lim 0 = 0 by simp [chkC]]
        clear l1
        go_enter Tryz.func40, Tryz.ntmps40
        go_wp2_with fail
        go_ret
        exact ⟨rfl, (Below.refl _ _).alloc (Nat.le_refl _) _⟩
      · skip
        rw [show chkC 1 0 0 = 0 by simp [chkC]]
        go_enter Tryz.func40, Tryz.ntmps40
        go_wp2_with fail
        go_ret
        exact ⟨rfl, (Below.refl _ _).alloc (Nat.le_refl _) _⟩
      · skip
        have b1 : decide ((0 : Int) ≤ lim) = true := by simp; omega
        have b2 : (lim == 0) = false := by simp; omega
        rw [show chkC 1 lim 0 = 0 by simp [chkC]]
        clear l1
        go_enter Tryz.func40, Tryz.ntmps40
        go_wp2_with fail
        go_ret
        exact ⟨rfl, (Below.refl _ _).alloc (Nat.le_refl _) _⟩
    · skip
      have a1 : decide ((1 : Int) ≤ (tk : Int)) = true := by simp; omega
      have a2 : decide ((tk : Int) ≤ 1048576) = true := by simp; omega
      have a3 : ((tk : Int) == 0) = false := by simp; omega
      rcases hL with l1 | rfl | l1
      · skip
        have b1 : decide ((0 : Int) ≤ lim) = false := by simp; omega
        have b2 : (lim == 0) = false := by simp; omega
        rw [show chkC 1 lim tk = 6 by simp [chkC] <;> omega]
        clear l1
        clear t1 t2
        go_enter Tryz.func40, Tryz.ntmps40
        go_wp2_with fail
        go_ret
        exact ⟨rfl, (Below.refl _ _).alloc (Nat.le_refl _) _⟩
      · skip
        rw [show chkC 1 0 tk = 6 by simp [chkC] <;> omega]
        clear t1 t2
        go_enter Tryz.func40, Tryz.ntmps40
        go_wp2_with fail
        go_ret
        exact ⟨rfl, (Below.refl _ _).alloc (Nat.le_refl _) _⟩
      · skip
        have b1 : decide ((0 : Int) ≤ lim) = true := by simp; omega
        have b2 : (lim == 0) = false := by simp; omega
        rw [show chkC 1 lim tk = 6 by simp [chkC] <;> omega]
        clear l1
        clear t1 t2
        go_enter Tryz.func40, Tryz.ntmps40
        go_wp2_with fail
        go_ret
        exact ⟨rfl, (Below.refl _ _).alloc (Nat.le_refl _) _⟩
    · skip
      have a1 : decide ((1 : Int) ≤ (tk : Int)) = true := by simp; omega
      have a2 : decide ((tk : Int) ≤ 1048576) = false := by simp; omega
      have a3 : ((tk : Int) == 0) = false := by simp; omega
      rcases hL with l1 | rfl | l1
      · skip
        have b1 : decide ((0 : Int) ≤ lim) = false := by simp; omega
        have b2 : (lim == 0) = false := by simp; omega
        rw [show chkC 1 lim tk = 6 by simp [chkC] <;> omega]
        clear l1
        clear t2
        go_enter Tryz.func40, Tryz.ntmps40
        go_wp2_with fail
        go_ret
        exact ⟨rfl, (Below.refl _ _).alloc (Nat.le_refl _) _⟩
      · skip
        rw [show chkC 1 0 tk = 6 by simp [chkC] <;> omega]
        clear t2
        go_enter Tryz.func40, Tryz.ntmps40
        go_wp2_with fail
        go_ret
        exact ⟨rfl, (Below.refl _ _).alloc (Nat.le_refl _) _⟩
      · skip
        have b1 : decide ((0 : Int) ≤ lim) = true := by simp; omega
        have b2 : (lim == 0) = false := by simp; omega
        rw [show chkC 1 lim tk = 6 by simp [chkC] <;> omega]
        clear l1
        clear t2
        go_enter Tryz.func40, Tryz.ntmps40
        go_wp2_with fail
        go_ret
        exact ⟨rfl, (Below.refl _ _).alloc (Nat.le_refl _) _⟩
  by_cases k2 : k = 2
  · subst k2
    rcases hT with (rfl | ⟨t1, t2⟩) | t2
    · skip
      rcases hL with l1 | rfl | l1
      · skip
        have b1 : decide ((0 : Int) ≤ lim) = false := by simp; omega
        have b2 : (lim == 0) = false := by simp; omega
        rw [show chkC 2 lim 0 = 0 by simp [chkC]]
        clear l1
        go_enter Tryz.func40, Tryz.ntmps40
        go_wp2_with fail
        go_ret
        exact ⟨rfl, (Below.refl _ _).alloc (Nat.le_refl _) _⟩
      · skip
        rw [show chkC 2 0 0 = 0 by simp [chkC]]
        go_enter Tryz.func40, Tryz.ntmps40
        go_wp2_with fail
        go_ret
        exact ⟨rfl, (Below.refl _ _).alloc (Nat.le_refl _) _⟩
      · skip
        have b1 : decide ((0 : Int) ≤ lim) = true := by simp; omega
        have b2 : (lim == 0) = false := by simp; omega
        rw [show chkC 2 lim 0 = 0 by simp [chkC]]
        clear l1
        go_enter Tryz.func40, Tryz.ntmps40
        go_wp2_with fail
        go_ret
        exact ⟨rfl, (Below.refl _ _).alloc (Nat.le_refl _) _⟩
    · skip
      have a1 : decide ((1 : Int) ≤ (tk : Int)) = true := by simp; omega
      have a2 : decide ((tk : Int) ≤ 1048576) = true := by simp; omega
      have a3 : ((tk : Int) == 0) = false := by simp; omega
      rcases hL with l1 | rfl | l1
      · skip
        have b1 : decide ((0 : Int) ≤ lim) = false := by simp; omega
        have b2 : (lim == 0) = false := by simp; omega
        rw [show chkC 2 lim tk = 6 by simp [chkC] <;> omega]
        clear l1
        clear t1 t2
        go_enter Tryz.func40, Tryz.ntmps40
        go_wp2_with fail
        go_ret
        exact ⟨rfl, (Below.refl _ _).alloc (Nat.le_refl _) _⟩
      · skip
        rw [show chkC 2 0 tk = 6 by simp [chkC] <;> omega]
        clear t1 t2
        go_enter Tryz.func40, Tryz.ntmps40
        go_wp2_with fail
        go_ret
        exact ⟨rfl, (Below.refl _ _).alloc (Nat.le_refl _) _⟩
      · skip
        have b1 : decide ((0 : Int) ≤ lim) = true := by simp; omega
        have b2 : (lim == 0) = false := by simp; omega
        rw [show chkC 2 lim tk = 6 by simp [chkC] <;> omega]
        clear l1
        clear t1 t2
        go_enter Tryz.func40, Tryz.ntmps40
        go_wp2_with fail
        go_ret
        exact ⟨rfl, (Below.refl _ _).alloc (Nat.le_refl _) _⟩
    · skip
      have a1 : decide ((1 : Int) ≤ (tk : Int)) = true := by simp; omega
      have a2 : decide ((tk : Int) ≤ 1048576) = false := by simp; omega
      have a3 : ((tk : Int) == 0) = false := by simp; omega
      rcases hL with l1 | rfl | l1
      · skip
        have b1 : decide ((0 : Int) ≤ lim) = false := by simp; omega
        have b2 : (lim == 0) = false := by simp; omega
        rw [show chkC 2 lim tk = 6 by simp [chkC] <;> omega]
        clear l1
        clear t2
        go_enter Tryz.func40, Tryz.ntmps40
        go_wp2_with fail
        go_ret
        exact ⟨rfl, (Below.refl _ _).alloc (Nat.le_refl _) _⟩
      · skip
        rw [show chkC 2 0 tk = 6 by simp [chkC] <;> omega]
        clear t2
        go_enter Tryz.func40, Tryz.ntmps40
        go_wp2_with fail
        go_ret
        exact ⟨rfl, (Below.refl _ _).alloc (Nat.le_refl _) _⟩
      · skip
        have b1 : decide ((0 : Int) ≤ lim) = true := by simp; omega
        have b2 : (lim == 0) = false := by simp; omega
        rw [show chkC 2 lim tk = 6 by simp [chkC] <;> omega]
        clear l1
        clear t2
        go_enter Tryz.func40, Tryz.ntmps40
        go_wp2_with fail
        go_ret
        exact ⟨rfl, (Below.refl _ _).alloc (Nat.le_refl _) _⟩
  by_cases k3 : k = 3
  · subst k3
    rcases hT with (rfl | ⟨t1, t2⟩) | t2
    · skip
      rcases hL with l1 | rfl | l1
      · skip
        have b1 : decide ((0 : Int) ≤ lim) = false := by simp; omega
        have b2 : (lim == 0) = false := by simp; omega
        rw [show chkC 3 lim 0 = 6 by simp [chkC]]
        clear l1
        go_enter Tryz.func40, Tryz.ntmps40
        go_wp2_with fail
        go_ret
        exact ⟨rfl, (Below.refl _ _).alloc (Nat.le_refl _) _⟩
      · skip
        rw [show chkC 3 0 0 = 6 by simp [chkC]]
        go_enter Tryz.func40, Tryz.ntmps40
        go_wp2_with fail
        go_ret
        exact ⟨rfl, (Below.refl _ _).alloc (Nat.le_refl _) _⟩
      · skip
        have b1 : decide ((0 : Int) ≤ lim) = true := by simp; omega
        have b2 : (lim == 0) = false := by simp; omega
        rw [show chkC 3 lim 0 = 6 by simp [chkC]]
        clear l1
        go_enter Tryz.func40, Tryz.ntmps40
        go_wp2_with fail
        go_ret
        exact ⟨rfl, (Below.refl _ _).alloc (Nat.le_refl _) _⟩
    · skip
      have a1 : decide ((1 : Int) ≤ (tk : Int)) = true := by simp; omega
      have a2 : decide ((tk : Int) ≤ 1048576) = true := by simp; omega
      have a3 : ((tk : Int) == 0) = false := by simp; omega
      rcases hL with l1 | rfl | l1
      · skip
        have b1 : decide ((0 : Int) ≤ lim) = false := by simp; omega
        have b2 : (lim == 0) = false := by simp; omega
        rw [show chkC 3 lim tk = 6 by simp [chkC] <;> omega]
        clear l1
        clear t1 t2
        go_enter Tryz.func40, Tryz.ntmps40
        go_wp2_with fail
        go_ret
        exact ⟨rfl, (Below.refl _ _).alloc (Nat.le_refl _) _⟩
      · skip
        rw [show chkC 3 0 tk = 0 by simp [chkC] <;> omega]
        clear t1 t2
        go_enter Tryz.func40, Tryz.ntmps40
        go_wp2_with fail
        go_ret
        exact ⟨rfl, (Below.refl _ _).alloc (Nat.le_refl _) _⟩
      · skip
        have b1 : decide ((0 : Int) ≤ lim) = true := by simp; omega
        have b2 : (lim == 0) = false := by simp; omega
        rw [show chkC 3 lim tk = 6 by simp [chkC] <;> omega]
        clear l1
        clear t1 t2
        go_enter Tryz.func40, Tryz.ntmps40
        go_wp2_with fail
        go_ret
        exact ⟨rfl, (Below.refl _ _).alloc (Nat.le_refl _) _⟩
    · skip
      have a1 : decide ((1 : Int) ≤ (tk : Int)) = true := by simp; omega
      have a2 : decide ((tk : Int) ≤ 1048576) = false := by simp; omega
      have a3 : ((tk : Int) == 0) = false := by simp; omega
      rcases hL with l1 | rfl | l1
      · skip
        have b1 : decide ((0 : Int) ≤ lim) = false := by simp; omega
        have b2 : (lim == 0) = false := by simp; omega
        rw [show chkC 3 lim tk = 6 by simp [chkC] <;> omega]
        clear l1
        clear t2
        go_enter Tryz.func40, Tryz.ntmps40
        go_wp2_with fail
        go_ret
        exact ⟨rfl, (Below.refl _ _).alloc (Nat.le_refl _) _⟩
      · skip
        rw [show chkC 3 0 tk = 6 by simp [chkC] <;> omega]
        clear t2
        go_enter Tryz.func40, Tryz.ntmps40
        go_wp2_with fail
        go_ret
        exact ⟨rfl, (Below.refl _ _).alloc (Nat.le_refl _) _⟩
      · skip
        have b1 : decide ((0 : Int) ≤ lim) = true := by simp; omega
        have b2 : (lim == 0) = false := by simp; omega
        rw [show chkC 3 lim tk = 6 by simp [chkC] <;> omega]
        clear l1
        clear t2
        go_enter Tryz.func40, Tryz.ntmps40
        go_wp2_with fail
        go_ret
        exact ⟨rfl, (Below.refl _ _).alloc (Nat.le_refl _) _⟩
  by_cases k4 : k = 4
  · subst k4
    rcases hT with (rfl | ⟨t1, t2⟩) | t2
    · skip
      rcases hL with l1 | rfl | l1
      · skip
        have b1 : decide ((0 : Int) ≤ lim) = false := by simp; omega
        have b2 : (lim == 0) = false := by simp; omega
        rw [show chkC 4 lim 0 = 6 by simp [chkC]]
        clear l1
        go_enter Tryz.func40, Tryz.ntmps40
        go_wp2_with fail
        go_ret
        exact ⟨rfl, (Below.refl _ _).alloc (Nat.le_refl _) _⟩
      · skip
        rw [show chkC 4 0 0 = 6 by simp [chkC]]
        go_enter Tryz.func40, Tryz.ntmps40
        go_wp2_with fail
        go_ret
        exact ⟨rfl, (Below.refl _ _).alloc (Nat.le_refl _) _⟩
      · skip
        have b1 : decide ((0 : Int) ≤ lim) = true := by simp; omega
        have b2 : (lim == 0) = false := by simp; omega
        rw [show chkC 4 lim 0 = 6 by simp [chkC]]
        clear l1
        go_enter Tryz.func40, Tryz.ntmps40
        go_wp2_with fail
        go_ret
        exact ⟨rfl, (Below.refl _ _).alloc (Nat.le_refl _) _⟩
    · skip
      have a1 : decide ((1 : Int) ≤ (tk : Int)) = true := by simp; omega
      have a2 : decide ((tk : Int) ≤ 1048576) = true := by simp; omega
      have a3 : ((tk : Int) == 0) = false := by simp; omega
      rcases hL with l1 | rfl | l1
      · skip
        have b1 : decide ((0 : Int) ≤ lim) = false := by simp; omega
        have b2 : (lim == 0) = false := by simp; omega
        rw [show chkC 4 lim tk = 6 by simp [chkC] <;> omega]
        clear l1
        clear t1 t2
        go_enter Tryz.func40, Tryz.ntmps40
        go_wp2_with fail
        go_ret
        exact ⟨rfl, (Below.refl _ _).alloc (Nat.le_refl _) _⟩
      · skip
        rw [show chkC 4 0 tk = 0 by simp [chkC] <;> omega]
        clear t1 t2
        go_enter Tryz.func40, Tryz.ntmps40
        go_wp2_with fail
        go_ret
        exact ⟨rfl, (Below.refl _ _).alloc (Nat.le_refl _) _⟩
      · skip
        have b1 : decide ((0 : Int) ≤ lim) = true := by simp; omega
        have b2 : (lim == 0) = false := by simp; omega
        rw [show chkC 4 lim tk = 0 by simp [chkC] <;> omega]
        clear l1
        clear t1 t2
        go_enter Tryz.func40, Tryz.ntmps40
        go_wp2_with fail
        go_ret
        exact ⟨rfl, (Below.refl _ _).alloc (Nat.le_refl _) _⟩
    · skip
      have a1 : decide ((1 : Int) ≤ (tk : Int)) = true := by simp; omega
      have a2 : decide ((tk : Int) ≤ 1048576) = false := by simp; omega
      have a3 : ((tk : Int) == 0) = false := by simp; omega
      rcases hL with l1 | rfl | l1
      · skip
        have b1 : decide ((0 : Int) ≤ lim) = false := by simp; omega
        have b2 : (lim == 0) = false := by simp; omega
        rw [show chkC 4 lim tk = 6 by simp [chkC] <;> omega]
        clear l1
        clear t2
        go_enter Tryz.func40, Tryz.ntmps40
        go_wp2_with fail
        go_ret
        exact ⟨rfl, (Below.refl _ _).alloc (Nat.le_refl _) _⟩
      · skip
        rw [show chkC 4 0 tk = 6 by simp [chkC] <;> omega]
        clear t2
        go_enter Tryz.func40, Tryz.ntmps40
        go_wp2_with fail
        go_ret
        exact ⟨rfl, (Below.refl _ _).alloc (Nat.le_refl _) _⟩
      · skip
        have b1 : decide ((0 : Int) ≤ lim) = true := by simp; omega
        have b2 : (lim == 0) = false := by simp; omega
        rw [show chkC 4 lim tk = 6 by simp [chkC] <;> omega]
        clear l1
        clear t2
        go_enter Tryz.func40, Tryz.ntmps40
        go_wp2_with fail
        go_ret
        exact ⟨rfl, (Below.refl _ _).alloc (Nat.le_refl _) _⟩
  by_cases k5 : k = 5
  · subst k5
    rcases hT with (rfl | ⟨t1, t2⟩) | t2
    · skip
      rcases hL with l1 | rfl | l1
      · skip
        have b1 : decide ((0 : Int) ≤ lim) = false := by simp; omega
        have b2 : (lim == 0) = false := by simp; omega
        rw [show chkC 5 lim 0 = 6 by simp [chkC]]
        clear l1
        go_enter Tryz.func40, Tryz.ntmps40
        go_wp2_with fail
        go_ret
        exact ⟨rfl, (Below.refl _ _).alloc (Nat.le_refl _) _⟩
      · skip
        rw [show chkC 5 0 0 = 6 by simp [chkC]]
        go_enter Tryz.func40, Tryz.ntmps40
        go_wp2_with fail
        go_ret
        exact ⟨rfl, (Below.refl _ _).alloc (Nat.le_refl _) _⟩
      · skip
        have b1 : decide ((0 : Int) ≤ lim) = true := by simp; omega
        have b2 : (lim == 0) = false := by simp; omega
        rw [show chkC 5 lim 0 = 6 by simp [chkC]]
        clear l1
        go_enter Tryz.func40, Tryz.ntmps40
        go_wp2_with fail
        go_ret
        exact ⟨rfl, (Below.refl _ _).alloc (Nat.le_refl _) _⟩
    · skip
      have a1 : decide ((1 : Int) ≤ (tk : Int)) = true := by simp; omega
      have a2 : decide ((tk : Int) ≤ 1048576) = true := by simp; omega
      have a3 : ((tk : Int) == 0) = false := by simp; omega
      rcases hL with l1 | rfl | l1
      · skip
        have b1 : decide ((0 : Int) ≤ lim) = false := by simp; omega
        have b2 : (lim == 0) = false := by simp; omega
        rw [show chkC 5 lim tk = 6 by simp [chkC] <;> omega]
        clear l1
        clear t1 t2
        go_enter Tryz.func40, Tryz.ntmps40
        go_wp2_with fail
        go_ret
        exact ⟨rfl, (Below.refl _ _).alloc (Nat.le_refl _) _⟩
      · skip
        rw [show chkC 5 0 tk = 0 by simp [chkC] <;> omega]
        clear t1 t2
        go_enter Tryz.func40, Tryz.ntmps40
        go_wp2_with fail
        go_ret
        exact ⟨rfl, (Below.refl _ _).alloc (Nat.le_refl _) _⟩
      · skip
        have b1 : decide ((0 : Int) ≤ lim) = true := by simp; omega
        have b2 : (lim == 0) = false := by simp; omega
        rw [show chkC 5 lim tk = 0 by simp [chkC] <;> omega]
        clear l1
        clear t1 t2
        go_enter Tryz.func40, Tryz.ntmps40
        go_wp2_with fail
        go_ret
        exact ⟨rfl, (Below.refl _ _).alloc (Nat.le_refl _) _⟩
    · skip
      have a1 : decide ((1 : Int) ≤ (tk : Int)) = true := by simp; omega
      have a2 : decide ((tk : Int) ≤ 1048576) = false := by simp; omega
      have a3 : ((tk : Int) == 0) = false := by simp; omega
      rcases hL with l1 | rfl | l1
      · skip
        have b1 : decide ((0 : Int) ≤ lim) = false := by simp; omega
        have b2 : (lim == 0) = false := by simp; omega
        rw [show chkC 5 lim tk = 6 by simp [chkC] <;> omega]
        clear l1
        clear t2
        go_enter Tryz.func40, Tryz.ntmps40
        go_wp2_with fail
        go_ret
        exact ⟨rfl, (Below.refl _ _).alloc (Nat.le_refl _) _⟩
      · skip
        rw [show chkC 5 0 tk = 6 by simp [chkC] <;> omega]
        clear t2
        go_enter Tryz.func40, Tryz.ntmps40
        go_wp2_with fail
        go_ret
        exact ⟨rfl, (Below.refl _ _).alloc (Nat.le_refl _) _⟩
      · skip
        have b1 : decide ((0 : Int) ≤ lim) = true := by simp; omega
        have b2 : (lim == 0) = false := by simp; omega
        rw [show chkC 5 lim tk = 6 by simp [chkC] <;> omega]
        clear l1
        clear t2
        go_enter Tryz.func40, Tryz.ntmps40
        go_wp2_with fail
        go_ret
        exact ⟨rfl, (Below.refl _ _).alloc (Nat.le_refl _) _⟩
  clear hT hL
  rw [show chkC k lim tk = 12 by simp [chkC, k1, k2, k3, k4, k5]]
  by_cases k0 : k < 1
  · have d : decide ((k : Int) < 1) = true := by simp; omega
    clear k0 k1 k2 k3 k4 k5
    go_enter Tryz.func40, Tryz.ntmps40
    go_wp2_with fail
    go_ret
    exact ⟨rfl, (Below.refl _ _).alloc (Nat.le_refl _) _⟩
  have d : decide ((k : Int) < 1) = false := by simp; omega
  have d2 : decide ((5 : Int) < (k : Int)) = true := by simp; omega
  clear k0 k1 k2 k3 k4 k5
  go_enter Tryz.func40, Tryz.ntmps40
  go_wp2_with fail
  go_ret
  exact ⟨rfl, (Below.refl _ _).alloc (Nat.le_refl _) _⟩
set_option maxHeartbeats 4000000 in
theorem refRuCheckA (nm me : ByteArray) (A1 : Option Addr) (m1 q1 : Nat) (ps1 : List Pr) (k : Nat) (lim : Int) (tk fo ke pr : Nat) (A2 : Option Addr) (m2 q2 : Nat) (ps2 : List Pr) (w : World)
    (hnm : nm.size ≤ maxLen) (hme : me.size ≤ maxLen) (hr1 : Rd w 2 (.slice A1 m1 q1) ps1.length (pairCells ps1)) (hz1 : ∀ p ∈ ps1, p.1.size ≤ maxLen ∧ p.2.size ≤ maxLen)
    (hr2 : Rd w 2 (.slice A2 m2 q2) ps2.length (pairCells ps2)) (hz2 : ∀ p ∈ ps2, p.1.size ≤ maxLen ∧ p.2.size ≤ maxLen) :
    Calls Tryz.prog 15 #[.agg #[.string nm, .string me, .slice A1 m1 q1, .slice A2 m2 q2, .int .i64 k, .int .i64 lim, .int .u64 tk, .int .u64 fo, .int .u64 ke, .int .u8 pr]] w fun e w' => e = .returned (.int .i64 (chkR (nameB nm) (nameB me) (ownName nm) (chkL ps1) (chkL ps2) (chkC k lim tk) (chkW fo ke) pr : Nat)) ∧ Below w.heap.size w w' := by
  have N1 := fun w' => refName nm w' hnm
  have N2 := fun w' => refName me w' hme
  have O := fun w' => refOwn nm w' hnm
  have L1 := fun w' (hb : Below w.heap.size w w') => refCheck (.slice A1 m1 q1) ps1 w' (hr1.below hb) hz1
  have L2 := fun w' (hb : Below w.heap.size w w') => refCheck (.slice A2 m2 q2) ps2 w' (hr2.below hb) hz2
  have CC := fun w' => refCondCheck k lim tk w'
  have HW : chkW fo ke = if 1048576 < fo ∨ 1048576 < ke then 6 else 0 := rfl
  obtain ⟨n1, h1⟩ : ∃ x, x = nameB nm := ⟨_, rfl⟩
  obtain ⟨n2, h2⟩ : ∃ x, x = nameB me := ⟨_, rfl⟩
  obtain ⟨ow, h3⟩ : ∃ x, x = ownName nm := ⟨_, rfl⟩
  obtain ⟨e1, h4⟩ : ∃ x, x = chkL ps1 := ⟨_, rfl⟩
  obtain ⟨e2, h5⟩ : ∃ x, x = chkL ps2 := ⟨_, rfl⟩
  obtain ⟨e3, h6⟩ : ∃ x, x = chkC k lim tk := ⟨_, rfl⟩
  obtain ⟨e4, h7⟩ : ∃ x, x = chkW fo ke := ⟨_, rfl⟩
  rw [← h1] at N1 ⊢
  rw [← h2] at N2 ⊢
  rw [← h3] at O ⊢
  rw [← h4] at L1 ⊢
  rw [← h5] at L2 ⊢
  rw [← h6] at CC ⊢
  rw [← h7] at HW ⊢
  clear h1 h2 h3 h4 h5 h6 h7 hr1 hr2 hz1 hz2 hnm hme
  have U0 := (Upd.nil [] w).alloc #[.string nm, .string me, .slice A1 m1 q1, .slice A2 m2 q2, .int .i64 k, .int .i64 lim, .int .u64 tk, .int .u64 fo, .int .u64 ke, .int .u8 pr] 64
  cases n1 with
  | false =>
    have E := Lib.hid (show chkR false n2 ow e1 e2 e3 e4 pr = 8 by simp [chkR])
    go_enter Tryz.func15, Tryz.ntmps15
    go_wp2_with fail
    refine calls_genP fun w1 hw1 => ?_
    have U1 := U0.same hw1
    clear hw1 U0
    (with_reducible refine (N1 _).mono ?_)
    rintro e w2 ⟨rfl, rfl⟩
    have U2 := U1
    clear U1 N1
    go_wp2_with fail
    go_ret
    exact ⟨by rw [E.out]; rfl, U2.below⟩
  | true =>
  cases n2 with
  | false =>
    have E := Lib.hid (show chkR true false ow e1 e2 e3 e4 pr = 8 by simp [chkR])
    go_enter Tryz.func15, Tryz.ntmps15
    go_wp2_with fail
    refine calls_genP fun w1 hw1 => ?_
    have U1 := U0.same hw1
    clear hw1 U0
    (with_reducible refine (N1 _).mono ?_)
    rintro e w2 ⟨rfl, rfl⟩
    have U2 := U1
    clear U1 N1
    have c1 := (U2.blk 0 rfl).cell (j := 1) (v := .string me) rfl
    go_wp2_with fail
    (with_reducible refine (N2 _).mono ?_)
    rintro e w3 ⟨rfl, rfl⟩
    have U3 := U2
    clear U2 N2 c1
    go_wp2_with fail
    go_ret
    exact ⟨by rw [E.out]; rfl, U3.below⟩
  | true =>
  cases ow with
  | true =>
    have E := Lib.hid (show chkR true true true e1 e2 e3 e4 pr = 27 by simp [chkR])
    go_enter Tryz.func15, Tryz.ntmps15
    go_wp2_with fail
    refine calls_genP fun w1 hw1 => ?_
    have U1 := U0.same hw1
    clear hw1 U0
    (with_reducible refine (N1 _).mono ?_)
    rintro e w2 ⟨rfl, rfl⟩
    have U2 := U1
    clear U1 N1
    have c1 := (U2.blk 0 rfl).cell (j := 1) (v := .string me) rfl
    go_wp2_with fail
    (with_reducible refine (N2 _).mono ?_)
    rintro e w3 ⟨rfl, rfl⟩
    have U3 := U2
    clear U2 N2 c1
    have c0 := (U3.blk 0 rfl).cell (j := 0) (v := .string nm) rfl
    go_wp2_with fail
    (with_reducible refine (O _).mono ?_)
    rintro e w4 ⟨rfl, rfl⟩
    have U4 := U3
    clear U3 O c0
    go_wp2_with fail
    go_ret
    exact ⟨by rw [E.out]; rfl, U4.below⟩
  | false =>
  have E := Lib.hid (show chkR true true false e1 e2 e3 e4 pr = if e1 ≠ 0 then e1 else if e2 ≠ 0 then e2 else if e3 ≠ 0 then e3 else if e4 ≠ 0 then e4 else if 7 < pr then 6 else 0 by simp [chkR])
  go_enter Tryz.func15, Tryz.ntmps15
  go_wp2_with fail
  refine calls_genP fun w1 hw1 => ?_
  have U1 := U0.same hw1
  clear hw1 U0
  (with_reducible refine (N1 _).mono ?_)
  rintro e w2 ⟨rfl, rfl⟩
  have U2 := U1
  clear U1 N1
  have c1 := (U2.blk 0 rfl).cell (j := 1) (v := .string me) rfl
  go_wp2_with fail
  (with_reducible refine (N2 _).mono ?_)
  rintro e w3 ⟨rfl, rfl⟩
  have U3 := U2
  clear U2 N2 c1
  have c0 := (U3.blk 0 rfl).cell (j := 0) (v := .string nm) rfl
  go_wp2_with fail
  (with_reducible refine (O _).mono ?_)
  rintro e w4 ⟨rfl, rfl⟩
  have U4 := U3
  clear U3 O c0
  have c2 := (U4.blk 0 rfl).cell (j := 2) (v := .slice A1 m1 q1) rfl
  have K := L1 _ U4.below
  go_wp2_with fail
  (with_reducible refine (K).mono ?_)
  rintro e w5 ⟨rfl, hU5⟩
  have U5 := U4.grow hU5
  clear U4 hU5 c2 K
  by_cases z1 : e1 = 0
  · subst z1
    have c3 := (U5.blk 0 rfl).cell (j := 3) (v := .slice A2 m2 q2) rfl
    have K := L2 _ U5.below
    go_wp2_with fail
    (with_reducible refine (K).mono ?_)
    rintro e w6 ⟨rfl, hU6⟩
    have U6 := U5.grow hU6
    clear U5 hU6 c3 K L1 L2
    by_cases z2 : e2 = 0
    · subst z2
      have c4 := (U6.blk 0 rfl).cell (j := 4) (v := .int .i64 k) rfl
      have c5 := (U6.blk 0 rfl).cell (j := 5) (v := .int .i64 lim) rfl
      have c6 := (U6.blk 0 rfl).cell (j := 6) (v := .int .u64 tk) rfl
      go_wp2_with fail
      (with_reducible refine (CC _).mono ?_)
      rintro e w7 ⟨rfl, hU7⟩
      have U7 := U6.grow hU7
      clear U6 hU7 c4 c5 c6 CC
      by_cases z3 : e3 = 0
      · subst z3
        have c7 := (U7.blk 0 rfl).cell (j := 7) (v := .int .u64 fo) rfl
        have c8 := (U7.blk 0 rfl).cell (j := 8) (v := .int .u64 ke) rfl
        have c9 := (U7.blk 0 rfl).cell (j := 9) (v := .int .u8 pr) rfl
        have key : (if (0 : Nat) ≠ 0 then 0 else if (0 : Nat) ≠ 0 then 0 else if (0 : Nat) ≠ 0 then 0 else if e4 ≠ 0 then e4 else if 7 < pr then 6 else 0) = if 1048576 < fo ∨ 1048576 < ke ∨ 7 < pr then 6 else 0 := by rw [HW]; simp; (repeat' split) <;> first | rfl | omega
        have E2 := Lib.hid (E.out.trans key)
        clear E key HW
        by_cases f1 : 1048576 < fo
        · have d1 : decide ((1048576 : Int) < (fo : Int)) = true := by simp; omega
          have E3 := Lib.hid (E2.out.trans (if_pos (.inl f1)))
          clear f1 E2
          go_wp2_with fail
          go_ret
          exact ⟨by rw [E3.out]; rfl, U7.below⟩
        have d1 : decide ((1048576 : Int) < (fo : Int)) = false := by simp; omega
        by_cases f2 : 1048576 < ke
        · have d2 : decide ((1048576 : Int) < (ke : Int)) = true := by simp; omega
          have E3 := Lib.hid (E2.out.trans (if_pos (.inr (.inl f2))))
          clear f1 f2 E2
          go_wp2_with fail
          go_ret
          exact ⟨by rw [E3.out]; rfl, U7.below⟩
        have d2 : decide ((1048576 : Int) < (ke : Int)) = false := by simp; omega
        by_cases f3 : 7 < pr
        · have d3 : decide ((7 : Int) < (pr : Int)) = true := by simp; omega
          have E3 := Lib.hid (E2.out.trans (if_pos (.inr (.inr f3))))
          clear f1 f2 f3 E2
          go_wp2_with fail
          go_ret
          exact ⟨by rw [E3.out]; rfl, U7.below⟩
        have d3 : decide ((7 : Int) < (pr : Int)) = false := by simp; omega
        have E3 := Lib.hid (E2.out.trans (if_neg (by omega)))
        clear f1 f2 f3 E2
        go_wp2_with fail
        go_ret
        exact ⟨by rw [E3.out]; rfl, U7.below⟩
      · have zf : ((e3 : Int) == 0) = false := by simp; omega
        have E2 := Lib.hid (E.out.trans (show _ = e3 by simp [z3]))
        clear z3 E
        go_wp2_with fail
        go_ret
        exact ⟨by rw [E2.out]; rfl, U7.below⟩
    · have zf : ((e2 : Int) == 0) = false := by simp; omega
      have E2 := Lib.hid (E.out.trans (show _ = e2 by simp [z2]))
      clear z2 E
      go_wp2_with fail
      go_ret
      exact ⟨by rw [E2.out]; rfl, U6.below⟩
  · have zf : ((e1 : Int) == 0) = false := by simp; omega
    have E2 := Lib.hid (E.out.trans (show _ = e1 by simp [z1]))
    clear z1 E
    go_wp2_with fail
    go_ret
    exact ⟨by rw [E2.out]; rfl, U5.below⟩
end Go.Proofs.YtgpojkofegajeaaGreatDoor
