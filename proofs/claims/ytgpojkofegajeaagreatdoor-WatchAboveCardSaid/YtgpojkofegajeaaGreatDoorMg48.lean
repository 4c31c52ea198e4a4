/-
  Rules of small numbers as they are; whether a text is ASCII. A rule of small numbers, its values left open.
-/
import Derived.Test.YtgpojkofegajeaaGreatDoorRuX
import Derived.Test.YtgpojkofegajeaaGreatDoorRRule
import Derived.Test.YtgpojkofegajeaaGreatDoorRuY
import Derived.Test.YtgpojkofegajeaaGreatDoorLParse
import Derived.Test.YtgpojkofegajeaaGreatDoorLText
import Derived.Test.YtgpojkofegajeaaGreatDoorMg29
import Derived.Deep.AppendSrc
import Derived.Test.YtgpojkofegajeaaGreatDoorFreeS
import Derived.Test.YtgpojkofegajeaaGreatDoorRuC
import Derived.RegionTactic
import Derived.BigRegion
import Derived.Test.YtgpojkofegajeaaGreatDoorMg43
namespace Go.Proofs.YtgpojkofegajeaaGreatDoor
open Go.RowKit
set_option maxRecDepth 100000

theorem labF_small (n k : Nat) : ∀ p ∈ labF n k, p.1.size ≤ maxLen ∧ p.2.size ≤ maxLen := by
  intro p hp
  have h0 : ∀ q ∈ allLab, q.1.size ≤ maxLen ∧ q.2.size ≤ maxLen := by unfold maxLen; decide +kernel
  have h1 : otherB.size ≤ maxLen := by unfold maxLen; decide +kernel
  unfold labF at hp
  split at hp
  · rename_i q hq
    have hq2 := h0 q (List.mem_of_getElem? hq)
    repeat' split at hp
    all_goals first
      | (cases hp; done)
      | (rw [List.mem_singleton.1 hp]; exact ⟨hq2.1, h1⟩)
      | (rw [List.mem_singleton.1 hp]; exact hq2)
  · cases hp
theorem labL_small (n : Nat) : ∀ p ∈ labL n, p.1.size ≤ maxLen ∧ p.2.size ≤ maxLen := fun p hp => by
  obtain ⟨k, _, hk⟩ := List.mem_flatMap.1 hp
  exact labF_small n k p hk
structure SmR where
  nm : Nat
  me : Nat
  fi : Nat
  wi : Nat
  k : Nat
  t : Nat
  fo : Nat
  ke : Nat
  pr : Nat
  m : Int
def SmR.ok (s : SmR) : Prop := s.wi < 256 ∧ s.t < 256 ∧ (-32768 ≤ s.m ∧ s.m < 32768)
end Go.Proofs.YtgpojkofegajeaaGreatDoor
namespace Go.Proofs.YtgpojkofegajeaaGreatDoor
open Go.RowKit
set_option maxRecDepth 100000

/-- A rule of small numbers. -/
def smV (s : SmR) (v1 v2 : Value) : RuV := ⟨ruleNameB s.nm, ruleMetB s.me, v1, labL (s.fi % 4), 1 + s.k % 5, condLim s.k s.m, condTicks s.k s.t, s.fo % 6, s.ke % 6, s.pr % 8, v2, labL s.wi⟩
theorem nameB_five (k : Nat) : nameB (ruleNameB k) = true ∧ ownName (ruleNameB k) = false ∧ (ruleNameB k).size ≤ 4 := by
  unfold ruleNameB
  repeat' split
  all_goals decide +kernel
theorem nameB_met (k : Nat) : nameB (ruleMetB k) = true ∧ (ruleMetB k).size ≤ 4 := by
  unfold ruleMetB
  split
  all_goals decide +kernel
theorem smallRuleS (s : SmR) (hs : s.ok) (w : World) :
    Calls Tryz.prog 7 #[.agg #[.int .u8 s.nm, .int .u8 s.me, .int .u8 s.fi, .int .u8 s.wi, .int .u8 s.k, .int .i16 s.m, .int .u8 s.t, .int .u8 s.fo, .int .u8 s.ke, .int .u8 s.pr]] w fun e w' => ∃ (A1 : Option Addr) (q1 : Nat) (A2 : Option Addr) (q2 : Nat),
      e = .returned (smV s (.slice A1 (labL (s.fi % 4)).length q1) (.slice A2 (labL s.wi).length q2)).agg ∧ (smV s (.slice A1 (labL (s.fi % 4)).length q1) (.slice A2 (labL s.wi).length q2)).good w' w.heap.size ∧ Below w.heap.size w w' := by
  refine (smallRule s.nm s.me s.fi s.wi s.k s.t s.fo s.ke s.pr s.m hs.1 hs.2.1 hs.2.2 w).mono ?_
  rintro e w' ⟨v1, v2, rfl, o1, o2, hb⟩
  obtain ⟨A1, q1, rfl⟩ := owns_slice o1
  obtain ⟨A2, q2, rfl⟩ := owns_slice o2
  have n1 : (ruleNameB s.nm).size ≤ maxLen := by have := (nameB_five s.nm).2.2; unfold maxLen; omega
  have n2 : (ruleMetB s.me).size ≤ maxLen := by have := (nameB_met s.me).2; unfold maxLen; omega
  exact ⟨A1, q1, A2, q2, rfl, ⟨n1, n2, labL_small _, labL_small _, by show 1 + s.k % 5 < 256; omega, by show s.pr % 8 < 256; omega, o1, o2⟩, hb⟩
/-! ### ASCII -/
end Go.Proofs.YtgpojkofegajeaaGreatDoor
