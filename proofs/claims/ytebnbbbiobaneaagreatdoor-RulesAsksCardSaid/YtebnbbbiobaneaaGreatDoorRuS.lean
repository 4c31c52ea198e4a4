/-
  A rule of small numbers, its values left open.
-/
import Derived.Test.YtebnbbbiobaneaaGreatDoorRuX
import Derived.Test.YtebnbbbiobaneaaGreatDoorRRule
namespace Go.Proofs.YtebnbbbiobaneaaGreatDoor
open Go.RowKit
set_option maxRecDepth 100000

theorem labF_small (n k : Nat) : ∀ p ∈ labF n k, p.1.size ≤ maxLen ∧ p.2.size ≤ maxLen := by
  intro p hp
  have h0 : ∀ q ∈ allLab, q.1.size ≤ maxLen ∧ q.2.size ≤ maxLen := by unfold maxLen; decide +kernel
  have h1 : otherB.size ≤ maxLen := by unfold maxLen; decide +kernel
  unfold labF at hp
  split at hp
  · rename_i q hq
    have hq2 := h0 q (List.mem_of_getElem? hq)
    repeat' split at hp
    all_goals first
      | (cases hp; done)
      | (rw [List.mem_singleton.1 hp]; exact ⟨hq2.1, h1⟩)
      | (rw [List.mem_singleton.1 hp]; exact hq2)
  · cases hp
theorem labL_small (n : Nat) : ∀ p ∈ labL n, p.1.size ≤ maxLen ∧ p.2.size ≤ maxLen := fun p hp => by
  obtain ⟨k, _, hk⟩ := List.mem_flatMap.1 hp
  exact labF_small n k p hk
structure SmR where
  nm : Nat
  me : Nat
  fi : Nat
  wi : Nat
  k : Nat
  t : Nat
  fo : Nat
  ke : Nat
  pr : Nat
  m : Int
def SmR.ok (s : SmR) : Prop := s.wi < 256 ∧ s.t < 256 ∧ (-32768 ≤ s.m ∧ s.m < 32768)
def sm10 (s : SmR) : List Value := [.int .u8 s.nm, .int .u8 s.me, .int .u8 s.fi, .int .u8 s.wi, .int .u8 s.k, .int .i16 s.m, .int .u8 s.t, .int .u8 s.fo, .int .u8 s.ke, .int .u8 s.pr]
theorem smallRuleE (s : SmR) (hs : s.ok) (w : World) :
    Calls Tryz.prog 25 #[.agg #[.int .u8 s.nm, .int .u8 s.me, .int .u8 s.fi, .int .u8 s.wi, .int .u8 s.k, .int .i16 s.m, .int .u8 s.t, .int .u8 s.fo, .int .u8 s.ke, .int .u8 s.pr]] w fun e w' => ∃ (nm me : ByteArray) (A1 : Option Addr) (q1 : Nat) (ps1 : List Pr) (k : Nat) (lim : Int) (tk fo ke pr : Nat) (A2 : Option Addr) (q2 : Nat) (ps2 : List Pr),
      e = .returned (.agg #[.string nm, .string me, .slice A1 ps1.length q1, .int .u8 k, .int .i64 lim, .int .u64 tk, .int .u64 fo, .int .u64 ke, .int .u8 pr, .slice A2 ps2.length q2]) ∧ (RuV.mk nm me (.slice A1 ps1.length q1) ps1 k lim tk fo ke pr (.slice A2 ps2.length q2) ps2).good w' w.heap.size ∧ Below w.heap.size w w' := by
  refine (smallRule s.nm s.me s.fi s.wi s.k s.t s.fo s.ke s.pr s.m hs.1 hs.2.1 hs.2.2 w).mono ?_
  rintro e w' ⟨v1, v2, rfl, o1, o2, hb⟩
  obtain ⟨A1, q1, rfl⟩ := owns_slice o1
  obtain ⟨A2, q2, rfl⟩ := owns_slice o2
  have n1 : (ruleNameB s.nm).size ≤ maxLen := by unfold ruleNameB maxLen; (repeat' split) <;> decide
  have n2 : (ruleMetB s.me).size ≤ maxLen := by unfold ruleMetB maxLen; split <;> decide
  exact ⟨_, _, A1, q1, _, _, _, _, _, _, _, A2, q2, _, rfl, ⟨n1, n2, labL_small _, labL_small _, by show 1 + s.k % 5 < 256; omega, by show s.pr % 8 < 256; omega, o1, o2⟩, hb⟩
theorem smallRuleZ (w : World) :
    Calls Tryz.prog 25 #[.agg #[.int .u8 0, .int .u8 0, .int .u8 0, .int .u8 0, .int .u8 0, .int .i16 0, .int .u8 0, .int .u8 0, .int .u8 0, .int .u8 0]] w fun e w' => ∃ (nm me : ByteArray) (A1 : Option Addr) (q1 : Nat) (ps1 : List Pr) (k : Nat) (lim : Int) (tk fo ke pr : Nat) (A2 : Option Addr) (q2 : Nat) (ps2 : List Pr),
      e = .returned (.agg #[.string nm, .string me, .slice A1 ps1.length q1, .int .u8 k, .int .i64 lim, .int .u64 tk, .int .u64 fo, .int .u64 ke, .int .u8 pr, .slice A2 ps2.length q2]) ∧ (RuV.mk nm me (.slice A1 ps1.length q1) ps1 k lim tk fo ke pr (.slice A2 ps2.length q2) ps2).good w' w.heap.size ∧ Below w.heap.size w w' := smallRuleE ⟨0, 0, 0, 0, 0, 0, 0, 0, 0, 0⟩ ⟨by decide, by decide, by decide⟩ w
end Go.Proofs.YtebnbbbiobaneaaGreatDoor
