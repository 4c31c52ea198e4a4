/-
  Rules of small numbers as they are; whether a text is ASCII. A rule of small numbers, its values left open.
-/
import Derived.Test.YtebnbbbiobaneaaGreatDoorRuX
import Derived.Test.YtebnbbbiobaneaaGreatDoorRRule
import Derived.Test.YtebnbbbiobaneaaGreatDoorRuB3
namespace Go.Proofs.YtebnbbbiobaneaaGreatDoor
open Go.RowKit
set_option maxRecDepth 100000

theorem labF_small (n k : Nat) : ∀ p ∈ labF n k, p.1.size ≤ maxLen ∧ p.2.size ≤ maxLen := by
  intro p hp
  have h0 : ∀ q ∈ allLab, q.1.size ≤ maxLen ∧ q.2.size ≤ maxLen := by unfold maxLen; decide +kernel
  have h1 : otherB.size ≤ maxLen := by unfold maxLen; decide +kernel
  unfold labF at hp
  split at hp
  · rename_i q hq
    have hq2 := h0 q (List.mem_of_getElem? hq)
    repeat' split at hp
    all_goals first
      | (cases hp; done)
      | (rw [List.mem_singleton.1 hp]; exact ⟨hq2.1, h1⟩)
      | (rw [List.mem_singleton.1 hp]; exact hq2)
  · cases hp
theorem labL_small (n : Nat) : ∀ p ∈ labL n, p.1.size ≤ maxLen ∧ p.2.size ≤ maxLen := fun p hp => by
  obtain ⟨k, _, hk⟩ := List.mem_flatMap.1 hp
  exact labF_small n k p hk
structure SmR where
  nm : Nat
  me : Nat
  fi : Nat
  wi : Nat
  k : Nat
  t : Nat
  fo : Nat
  ke : Nat
  pr : Nat
  m : Int
def SmR.ok (s : SmR) : Prop := s.wi < 256 ∧ s.t < 256 ∧ (-32768 ≤ s.m ∧ s.m < 32768)
def sm10 (s : SmR) : List Value := [.int .u8 s.nm, .int .u8 s.me, .int .u8 s.fi, .int .u8 s.wi, .int .u8 s.k, .int .i16 s.m, .int .u8 s.t, .int .u8 s.fo, .int .u8 s.ke, .int .u8 s.pr]
end Go.Proofs.YtebnbbbiobaneaaGreatDoor
namespace Go.Proofs.YtebnbbbiobaneaaGreatDoor
open Go.RowKit
set_option maxRecDepth 100000

/-- A rule of small numbers. -/
def smV (s : SmR) (v1 v2 : Value) : RuV := ⟨ruleNameB s.nm, ruleMetB s.me, v1, labL (s.fi % 4), 1 + s.k % 5, condLim s.k s.m, condTicks s.k s.t, s.fo % 6, s.ke % 6, s.pr % 8, v2, labL s.wi⟩
theorem lab_chk : ∀ n : Fin 256, chkL (labL n.val) = 0 := by decide +kernel
theorem lab_txt : ∀ n : Fin 256, (textL (labL n.val)).length ≤ 64 := by decide +kernel
theorem labL_chk (n : Nat) (h : n < 256) : chkL (labL n) = 0 := lab_chk ⟨n, h⟩
theorem labL_txt (n : Nat) (h : n < 256) : (textL (labL n)).length ≤ 64 := lab_txt ⟨n, h⟩
theorem nameB_five (k : Nat) : nameB (ruleNameB k) = true ∧ ownName (ruleNameB k) = false ∧ (ruleNameB k).size ≤ 4 := by
  unfold ruleNameB
  repeat' split
  all_goals decide +kernel
theorem nameB_met (k : Nat) : nameB (ruleMetB k) = true ∧ (ruleMetB k).size ≤ 4 := by
  unfold ruleMetB
  split
  all_goals decide +kernel
theorem condLim_bd (k : Nat) (m : Int) (hm : -32768 ≤ m ∧ m < 32768) : -32768 ≤ condLim k m ∧ condLim k m ≤ 32768 := by
  unfold condLim
  repeat' split
  · omega
  · rw [Int.max_def]; split <;> omega
  · omega
theorem cond_small (k t : Nat) (m : Int) : chkC (1 + k % 5) (condLim k m) (condTicks k t) = 0 := by
  have hk : k % 5 = 0 ∨ k % 5 = 1 ∨ k % 5 = 2 ∨ k % 5 = 3 ∨ k % 5 = 4 := by omega
  have hx : 0 ≤ max m (-m) := by rw [Int.max_def]; split <;> omega
  have ht : 1 ≤ 1 + t % 20 ∧ 1 + t % 20 ≤ 1048576 := by omega
  unfold chkC condLim condTicks
  rcases hk with h | h | h | h | h <;> rw [h] <;> simp [hx] <;> omega
theorem smV_err (s : SmR) (v1 v2 : Value) (h : s.ok) : (smV s v1 v2).err = 0 := by
  have n1 := nameB_five s.nm
  have n2 := nameB_met s.me
  have c := cond_small s.k s.t s.m
  have l1 := labL_chk (s.fi % 4) (by omega)
  have l2 := labL_chk s.wi h.1
  have w : chkW (s.fo % 6) (s.ke % 6) = 0 := by unfold chkW; rw [if_neg (by omega)]
  unfold RuV.err smV chkR
  dsimp only
  rw [n1.1, n2.1, n1.2.1, l1, l2, c, w, if_neg (by simp), if_neg (by simp), if_neg (by simp), if_neg (by simp), if_neg (by simp), if_neg (by simp), if_neg (by omega)]
theorem smV_bd (s : SmR) (v1 v2 : Value) (h : s.ok) : (smV s v1 v2).bd := by
  have n1 := (nameB_five s.nm).2.2
  have n2 := (nameB_met s.me).2
  have c := condLim_bd s.k s.m h.2.2
  have l1 := labL_txt (s.fi % 4) (by omega)
  have l2 := labL_txt s.wi h.1
  have ht : condTicks s.k s.t < 18446744073709551616 := by unfold condTicks; split <;> omega
  exact ⟨by show 1 ≤ 1 + s.k % 5 ∧ 1 + s.k % 5 ≤ 5; omega, by show _ ≤ condLim s.k s.m; omega, by show condLim s.k s.m ≤ _; omega, ht, by show s.fo % 6 < _; omega, by show s.ke % 6 < _; omega, by show (ruleNameB s.nm).size ≤ _; omega, by show (ruleMetB s.me).size ≤ _; omega, by show (textL (labL (s.fi % 4))).length ≤ _; omega, by show (textL (labL s.wi)).length ≤ _; omega⟩
/-- How long a rule's text may be. -/
theorem text_le (r : RuV) (h : r.bd) (hpr : r.pr < 256) (z : Nat) (h1 : r.nm.size ≤ z) (h2 : r.me.size ≤ z) (h3 : (textL r.ips).length ≤ z) (h4 : (textL r.wps).length ≤ z) : r.text.size ≤ 4 * z + 200 := by
  obtain ⟨nm, me, iv, ps, k, lim, tk, fo, ke, pr, wv, qs⟩ := r
  obtain ⟨b1, b2, b3, b4, b5, b6, _, _, _, _⟩ := h
  dsimp only at b1 b2 b3 b4 b5 b6 hpr h1 h2 h3 h4
  have e := congrArg List.length (text_eq nm me iv ps k lim tk fo ke pr wv qs b1)
  rw [text_szL, e]
  have zc := condB_size k lim tk b2 b3 b4
  have zf := decB_size fo b5
  have zk := decB_size ke b6
  have zp := decB_size pr (by omega)
  by_cases g1 : ps = [] <;> by_cases g2 : qs = [] <;> simp [g1, g2] <;> omega
theorem smV_text (s : SmR) (v1 v2 : Value) (h : s.ok) : (smV s v1 v2).text.size ≤ 456 := by
  have n1 := (nameB_five s.nm).2.2
  have n2 := (nameB_met s.me).2
  have l1 := labL_txt (s.fi % 4) (by omega)
  have l2 := labL_txt s.wi h.1
  have := text_le (smV s v1 v2) (smV_bd s v1 v2 h) (by show s.pr % 8 < 256; omega) 64 (by show (ruleNameB s.nm).size ≤ _; omega) (by show (ruleMetB s.me).size ≤ _; omega) l1 l2
  omega
theorem smV_asc (s : SmR) (v1 v2 : Value) (h : s.ok) : asc (smV s v1 v2).text := fun b hb => (text_bytes _ (smV_err s v1 v2 h) b hb).2
theorem smallRuleS (s : SmR) (hs : s.ok) (w : World) :
    Calls Tryz.prog 25 #[.agg #[.int .u8 s.nm, .int .u8 s.me, .int .u8 s.fi, .int .u8 s.wi, .int .u8 s.k, .int .i16 s.m, .int .u8 s.t, .int .u8 s.fo, .int .u8 s.ke, .int .u8 s.pr]] w fun e w' => ∃ (A1 : Option Addr) (q1 : Nat) (A2 : Option Addr) (q2 : Nat),
      e = .returned (smV s (.slice A1 (labL (s.fi % 4)).length q1) (.slice A2 (labL s.wi).length q2)).agg ∧ (smV s (.slice A1 (labL (s.fi % 4)).length q1) (.slice A2 (labL s.wi).length q2)).good w' w.heap.size ∧ Below w.heap.size w w' := by
  refine (smallRule s.nm s.me s.fi s.wi s.k s.t s.fo s.ke s.pr s.m hs.1 hs.2.1 hs.2.2 w).mono ?_
  rintro e w' ⟨v1, v2, rfl, o1, o2, hb⟩
  obtain ⟨A1, q1, rfl⟩ := owns_slice o1
  obtain ⟨A2, q2, rfl⟩ := owns_slice o2
  have n1 : (ruleNameB s.nm).size ≤ maxLen := by have := (nameB_five s.nm).2.2; unfold maxLen; omega
  have n2 : (ruleMetB s.me).size ≤ maxLen := by have := (nameB_met s.me).2; unfold maxLen; omega
  exact ⟨A1, q1, A2, q2, rfl, ⟨n1, n2, labL_small _, labL_small _, by show 1 + s.k % 5 < 256; omega, by show s.pr % 8 < 256; omega, o1, o2⟩, hb⟩
/-! ### ASCII -/
def ascB (s : ByteArray) : Bool := s.data.toList.all fun b => decide (b.toNat < 128)
theorem ascB_iff (s : ByteArray) : ascB s = true ↔ asc s := by
  unfold ascB asc
  rw [List.all_eq_true]
  constructor
  · intro h b hb; simpa using h b hb
  · intro h b hb; simpa using h b hb
theorem law15ascii (s : ByteArray) (w : World) (hs : s.size ≤ 1048576) :
    Calls Tryz.prog 33 #[.string s] w fun e w' => e = .returned (.bool (ascB s)) ∧ w' = w := by
  have hl : s.data.toList.length = s.size := (Lib.size_eq s).symm
  have E := Lib.hid (show ascB s = (s.data.toList.drop 0).all fun b => decide (b.toNat < 128) by rfl)
  go_enter Tryz.func33, Tryz.ntmps33
  go_wp2_with fail
  go_loopw [6] (fun i wr => ∃ k : Nat, k ≤ s.size ∧ i = .int .i64 k ∧ wr = w ∧ ascB s = (s.data.toList.drop k).all fun b => decide (b.toNat < 128)) (fun i _ => s.size - (intOf i).toNat)
  case atStart => exact ⟨0, Nat.zero_le _, rfl, rfl, E.out⟩
  case round =>
    obtain ⟨k, hk, rfl, rfl, hD⟩ := hrel
    by_cases hlt : k < s.size
    · obtain ⟨x, hx⟩ : ∃ x : UInt8, s[k]'hlt = x := ⟨_, rfl⟩
      have hg : s.data.toList[k]? = some x := by rw [Lib.data_getElem? s k hlt, hx]
      rw [Lib.drop_at hg, List.all_cons] at hD
      have i1 : (k : Int) < (s.size : Int) := by omega
      by_cases b1 : 127 < x.toNat
      · have e1 : decide ((127 : Int) < (x.toNat : Int)) = true := decide_eq_true (by omega)
        have E2 := Lib.hid (show ascB s = false by rw [hD, decide_eq_false (by omega)]; rfl)
        clear hD hg
        go_wp2_with fail
        go_ret
        exact ⟨by rw [E2.out]; rfl, rfl⟩
      · have e1 : decide ((127 : Int) < (x.toNat : Int)) = false := decide_eq_false (by omega)
        have E2 := Lib.hid (show ascB s = (s.data.toList.drop (k + 1)).all fun b => decide (b.toNat < 128) by rw [hD, decide_eq_true (by omega)]; rfl)
        clear hD hg
        go_wp2_with fail
        go_roundw
        case rel => exact ⟨k + 1, by omega, by go_num, by first | rfl | trivial, E2.out⟩
        case measure => simp [intOf]; omega
    · obtain rfl : k = s.size := by omega
      rw [← hl, List.drop_length] at hD
      have E2 := Lib.hid hD
      clear hD
      go_wp2_with fail
      go_ret
      exact ⟨by rw [E2.out]; rfl, rfl⟩
end Go.Proofs.YtebnbbbiobaneaaGreatDoor
