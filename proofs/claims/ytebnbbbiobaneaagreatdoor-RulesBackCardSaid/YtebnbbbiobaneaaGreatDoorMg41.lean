/-
  Rules of small numbers as they are; whether a text is ASCII. A rule of small numbers, its values left open.
-/
import Derived.Test.YtebnbbbiobaneaaGreatDoorRuX
import Derived.Test.YtebnbbbiobaneaaGreatDoorRRule
import Derived.Test.YtebnbbbiobaneaaGreatDoorRuB3
namespace Go.Proofs.YtebnbbbiobaneaaGreatDoor
open Go.RowKit
set_option maxRecDepth 100000

theorem labF_small (n k : Nat) : ∀ p ∈ labF n k, p.1.size ≤ maxLen ∧ p.2.size ≤ maxLen := by
  intro p hp
  have h0 : ∀ q ∈ allLab, q.1.size ≤ maxLen ∧ q.2.size ≤ maxLen := by unfold maxLen; decide +kernel
  have h1 : otherB.size ≤ maxLen := by unfold maxLen; decide +kernel
  unfold labF at hp
  split at hp
  · rename_i q hq
    have hq2 := h0 q (List.mem_of_getElem? hq)
    repeat' split at hp
    all_goals first
      | (cases hp; done)
      | (rw [List.mem_singleton.1 hp]; exact ⟨hq2.1, h1⟩)
      | (rw [List.mem_singleton.1 hp]; exact hq2)
  · cases hp
theorem labL_small (n : Nat) : ∀ p ∈ labL n, p.1.size ≤ maxLen ∧ p.2.size ≤ maxLen := fun p hp => by
  obtain ⟨k, _, hk⟩ := List.mem_flatMap.1 hp
  exact labF_small n k p hk
structure SmR where
  nm : Nat
  me : Nat
  fi : Nat
  wi : Nat
  k : Nat
  t : Nat
  fo : Nat
  ke : Nat
  pr : Nat
  m : Int
def SmR.ok (s : SmR) : Prop := s.wi < 256 ∧ s.t < 256 ∧ (-32768 ≤ s.m ∧ s.m < 32768)
def sm10 (s : SmR) : List Value := [.int .u8 s.nm, .int .u8 s.me, .int .u8 s.fi, .int .u8 s.wi, .int .u8 s.k, .int .i16 s.m, .int .u8 s.t, .int .u8 s.fo, .int .u8 s.ke, .int .u8 s.pr]
end Go.Proofs.YtebnbbbiobaneaaGreatDoor
namespace Go.Proofs.YtebnbbbiobaneaaGreatDoor
open Go.RowKit
set_option maxRecDepth 100000

/-- A rule of small numbers. -/
def smV (s : SmR) (v1 v2 : Value) : RuV := ⟨ruleNameB s.nm, ruleMetB s.me, v1, labL (s.fi % 4), 1 + s.k % 5, condLim s.k s.m, condTicks s.k s.t, s.fo % 6, s.ke % 6, s.pr % 8, v2, labL s.wi⟩
theorem lab_chk : ∀ n : Fin 256, chkL (labL n.val) = 0 := by decide +kernel
theorem lab_txt : ∀ n : Fin 256, (textL (labL n.val)).length ≤ 64 := by decide +kernel
theorem labL_chk (n : Nat) (h : n < 256) : chkL (labL n) = 0 := lab_chk ⟨n, h⟩
theorem labL_txt (n : Nat) (h : n < 256) : (textL (labL n)).length ≤ 64 := lab_txt ⟨n, h⟩
theorem nameB_five (k : Nat) : nameB (ruleNameB k) = true ∧ ownName (ruleNameB k) = false ∧ (ruleNameB k).size ≤ 4 := by
  unfold ruleNameB
  repeat' split
  all_goals decide +kernel
theorem nameB_met (k : Nat) : nameB (ruleMetB k) = true ∧ (ruleMetB k).size ≤ 4 := by
  unfold ruleMetB
  split
  all_goals decide +kernel
theorem condLim_bd (k : Nat) (m : Int) (hm : -32768 ≤ m ∧ m < 32768) : -32768 ≤ condLim k m ∧ condLim k m ≤ 32768 := by
  unfold condLim
  repeat' split
  · omega
  · rw [Int.max_def]; split <;> omega
  · omega
theorem cond_small (k t : Nat) (m : Int) : chkC (1 + k % 5) (condLim k m) (condTicks k t) = 0 := by
  have hk : k % 5 = 0 ∨ k % 5 = 1 ∨ k % 5 = 2 ∨ k % 5 = 3 ∨ k % 5 = 4 := by omega
  have hx : 0 ≤ max m (-m) := by rw [Int.max_def]; split <;> omega
  have ht : 1 ≤ 1 + t % 20 ∧ 1 + t % 20 ≤ 1048576 := by omega
  unfold chkC condLim condTicks
  rcases hk with h | h | h | h | h <;> rw [h] <;> simp [hx] <;> omega
theorem smV_err (s : SmR) (v1 v2 : Value) (h : s.ok) : (smV s v1 v2).err = 0 := by
  have n1 := nameB_five s.nm
  have n2 := nameB_met s.me
  have c := cond_small s.k s.t s.m
  have l1 := labL_chk (s.fi % 4) (by omega)
  have l2 := labL_chk s.wi h.1
  have w : chkW (s.fo % 6) (s.ke % 6) = 0 := by unfold chkW; rw [if_neg (by omega)]
  unfold RuV.err smV chkR
  dsimp only
  rw [n1.1, n2.1, n1.2.1, l1, l2, c, w, if_neg (by simp), if_neg (by simp), if_neg (by simp), if_neg (by simp), if_neg (by simp), if_neg (by simp), if_neg (by omega)]
theorem smV_bd (s : SmR) (v1 v2 : Value) (h : s.ok) : (smV s v1 v2).bd := by
  have n1 := (nameB_five s.nm).2.2
  have n2 := (nameB_met s.me).2
  have c := condLim_bd s.k s.m h.2.2
  have l1 := labL_txt (s.fi % 4) (by omega)
  have l2 := labL_txt s.wi h.1
  have ht : condTicks s.k s.t < 18446744073709551616 := by unfold condTicks; split <;> omega
  exact ⟨by show 1 ≤ 1 + s.k % 5 ∧ 1 + s.k % 5 ≤ 5; omega, by show _ ≤ condLim s.k s.m; omega, by show condLim s.k s.m ≤ _; omega, ht, by show s.fo % 6 < _; omega, by show s.ke % 6 < _; omega, by show (ruleNameB s.nm).size ≤ _; omega, by show (ruleMetB s.me).size ≤ _; omega, by show (textL (labL (s.fi % 4))).length ≤ _; omega, by show (textL (labL s.wi)).length ≤ _; omega⟩
theorem smV_fine (s : SmR) (v1 v2 : Value) (h : s.ok) : (smV s v1 v2).fine := ⟨smV_err s v1 v2 h, (smV_bd s v1 v2 h).h0, (smV_bd s v1 v2 h).h1⟩
/-- How long a rule's text may be. -/
theorem text_le (r : RuV) (h : r.bd) (hpr : r.pr < 256) (z : Nat) (h1 : r.nm.size ≤ z) (h2 : r.me.size ≤ z) (h3 : (textL r.ips).length ≤ z) (h4 : (textL r.wps).length ≤ z) : r.text.size ≤ 4 * z + 200 := by
  obtain ⟨nm, me, iv, ps, k, lim, tk, fo, ke, pr, wv, qs⟩ := r
  obtain ⟨b1, b2, b3, b4, b5, b6, _, _, _, _⟩ := h
  dsimp only at b1 b2 b3 b4 b5 b6 hpr h1 h2 h3 h4
  have e := congrArg List.length (text_eq nm me iv ps k lim tk fo ke pr wv qs b1)
  rw [text_szL, e]
  have zc := condB_size k lim tk b2 b3 b4
  have zf := decB_size fo b5
  have zk := decB_size ke b6
  have zp := decB_size pr (by omega)
  by_cases g1 : ps = [] <;> by_cases g2 : qs = [] <;> simp [g1, g2] <;> omega
theorem smV_text (s : SmR) (v1 v2 : Value) (h : s.ok) : (smV s v1 v2).text.size ≤ 456 := by
  have n1 := (nameB_five s.nm).2.2
  have n2 := (nameB_met s.me).2
  have l1 := labL_txt (s.fi % 4) (by omega)
  have l2 := labL_txt s.wi h.1
  have := text_le (smV s v1 v2) (smV_bd s v1 v2 h) (by show s.pr % 8 < 256; omega) 64 (by show (ruleNameB s.nm).size ≤ _; omega) (by show (ruleMetB s.me).size ≤ _; omega) l1 l2
  omega
/-! ### ASCII -/
end Go.Proofs.YtebnbbbiobaneaaGreatDoor
