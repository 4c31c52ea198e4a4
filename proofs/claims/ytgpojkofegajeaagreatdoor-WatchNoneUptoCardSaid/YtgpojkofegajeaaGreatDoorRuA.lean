/-
  Rules: cells; item.Own, the conditions' and the waits' Check, the reference's, and how a rule stands for the reference.
-/
import Derived.Test.YtgpojkofegajeaaGreatDoorLChk
import Derived.Test.YtgpojkofegajeaaGreatDoorSt
import Derived.RegionTactic
import Derived.BigRegion
import Derived.OwnWalk
namespace Go.Proofs.YtgpojkofegajeaaGreatDoor
open Go.RowKit
set_option maxRecDepth 100000

/-- A rule. -/
structure RuV where
  nm : ByteArray
  me : ByteArray
  iv : Value
  ips : List Pr
  k : Nat
  lim : Int
  tk : Nat
  fo : Nat
  ke : Nat
  pr : Nat
  wv : Value
  wps : List Pr
def RuV.cells (r : RuV) : List Value := [.string r.nm, .string r.me, r.iv, .int .u8 r.k, .int .i64 r.lim, .int .u64 r.tk, .int .u64 r.fo, .int .u64 r.ke, .int .u8 r.pr, r.wv]
structure RuV.ok (r : RuV) (w : World) : Prop where
  nm : r.nm.size ≤ maxLen
  me : r.me.size ≤ maxLen
  ir : Rd w 2 r.iv r.ips.length (pairCells r.ips)
  iz : ∀ p ∈ r.ips, p.1.size ≤ maxLen ∧ p.2.size ≤ maxLen
  wr : Rd w 2 r.wv r.wps.length (pairCells r.wps)
  wz : ∀ p ∈ r.wps, p.1.size ≤ maxLen ∧ p.2.size ≤ maxLen
  k : r.k < 256
  pr : r.pr < 256
theorem RuV.ok.below {r : RuV} {w w' : World} (h : r.ok w) (hb : Below w.heap.size w w') : r.ok w' := ⟨h.nm, h.me, h.ir.below hb, h.iz, h.wr.below hb, h.wz, h.k, h.pr⟩

def ownName (s : ByteArray) : Bool := decide (4 ≤ s.size) && ((s.extract 0 4).toList == [111, 119, 110, 46])
/-- What is wrong with a condition. -/
def chkC (k : Nat) (lim : Int) (tk : Nat) : Nat :=
  if k = 1 ∨ k = 2 then (if tk = 0 then 0 else 6)
  else if k = 3 then (if lim = 0 ∧ 1 ≤ tk ∧ tk ≤ 1048576 then 0 else 6)
  else if k = 4 ∨ k = 5 then (if 0 ≤ lim ∧ 1 ≤ tk ∧ tk ≤ 1048576 then 0 else 6)
  else 12
def chkW (fo ke : Nat) : Nat := if 1048576 < fo ∨ 1048576 < ke then 6 else 0
theorem strHas (s : ByteArray) (w : World) (hs : s.size ≤ maxLen) : Calls Tryz.prog 120 #[.string s, .string ⟨#[111, 119, 110, 46]⟩] w fun e w' => e = .returned (.bool (ownName s)) ∧ w' = w := by
  unfold maxLen at hs
  by_cases h : 4 ≤ s.size
  · have d0 : decide ((4 : Int) ≤ (s.size : Int)) = true := by simp; omega
    have E := Lib.hid (show ownName s = ((s.extract 0 4).toList == [111, 119, 110, 46]) by unfold ownName; rw [decide_eq_true h]; rfl)
    go_enter Tryz.func120, Tryz.ntmps120
    go_wp2_with fail
    go_ret
    exact ⟨by rw [E.out]; rfl, rfl⟩
  · have d0 : decide ((4 : Int) ≤ (s.size : Int)) = false := by simp; omega
    rw [show ownName s = false by unfold ownName; rw [decide_eq_false h]; rfl]
    clear h
    go_enter Tryz.func120, Tryz.ntmps120
    go_wp2_with fail
    go_ret
    exact ⟨rfl, rfl⟩
theorem strHas2 (s : ByteArray) (w : World) (hs : s.size ≤ maxLen) : Calls Tryz.prog 95 #[.string s, .string ⟨#[111, 119, 110, 46]⟩] w fun e w' => e = .returned (.bool (ownName s)) ∧ w' = w := by
  have K := fun w' => strHas s w' hs
  go_enter Tryz.func95, Tryz.ntmps95
  go_wp2_with fail
  (with_reducible refine (K _).mono ?_)
  rintro e w1 ⟨rfl, rfl⟩
  go_wp2_with fail
  go_ret
  exact ⟨rfl, rfl⟩
theorem itOwn (s : ByteArray) (w : World) (hs : s.size ≤ maxLen) : Calls Tryz.prog 75 #[.string s] w fun e w' => e = .returned (.bool (ownName s)) ∧ w' = w := by
  have K := fun w' => strHas2 s w' hs
  go_enter Tryz.func75, Tryz.ntmps75
  go_wp2_with fail
  (with_reducible refine (K _).mono ?_)
  rintro e w1 ⟨rfl, rfl⟩
  go_wp2_with fail
  go_ret
  exact ⟨rfl, rfl⟩
theorem refOwn (s : ByteArray) (w : World) (hs : s.size ≤ maxLen) : Calls Tryz.prog 38 #[.string s] w fun e w' => e = .returned (.bool (ownName s)) ∧ w' = w := by
  unfold maxLen at hs
  by_cases h : 4 ≤ s.size
  · have d0 : decide ((4 : Int) ≤ (s.size : Int)) = true := by simp; omega
    have E := Lib.hid (show ownName s = ((s.extract 0 4).toList == [111, 119, 110, 46]) by unfold ownName; rw [decide_eq_true h]; rfl)
    have hi : (4 : Int) ≤ (s.size : Int) := by omega
    go_enter Tryz.func38, Tryz.ntmps38
    go_wp2_with fail
    go_ret
    exact ⟨by rw [E.out]; rfl, rfl⟩
  · have d0 : decide ((4 : Int) ≤ (s.size : Int)) = false := by simp; omega
    rw [show ownName s = false by unfold ownName; rw [decide_eq_false h]; rfl]
    clear h
    go_enter Tryz.func38, Tryz.ntmps38
    go_wp2_with fail
    go_ret
    exact ⟨rfl, rfl⟩
set_option maxHeartbeats 1000000 in
theorem condCheck (k : Nat) (lim : Int) (tk : Nat) (w : World) (hk : k < 256) : Calls Tryz.prog 76 #[.agg #[.int .u8 k, .int .i64 lim, .int .u64 tk]] w fun e w' => e = .returned (.int .i64 (chkC k lim tk : Nat)) ∧ Below w.heap.size w w' := by
  by_cases k1 : k = 1
  · subst k1
    by_cases t0 : tk = 0
    · subst t0
      rw [show chkC 1 lim 0 = 0 by simp [chkC]]
      go_enter Tryz.func76, Tryz.ntmps76
      go_wp2_with fail
      go_ret
      exact ⟨rfl, (Below.refl _ _).alloc (Nat.le_refl _) _⟩
    · have d0 : ((tk : Int) == 0) = false := by simp; omega
      rw [show chkC 1 lim tk = 6 by simp [chkC, t0]]
      clear t0
      go_enter Tryz.func76, Tryz.ntmps76
      go_wp2_with fail
      go_ret
      exact ⟨rfl, (Below.refl _ _).alloc (Nat.le_refl _) _⟩
  by_cases k2 : k = 2
  · subst k2
    by_cases t0 : tk = 0
    · subst t0
      rw [show chkC 2 lim 0 = 0 by simp [chkC]]
      go_enter Tryz.func76, Tryz.ntmps76
      go_wp2_with fail
      go_ret
      exact ⟨rfl, (Below.refl _ _).alloc (Nat.le_refl _) _⟩
    · have d0 : ((tk : Int) == 0) = false := by simp; omega
      rw [show chkC 2 lim tk = 6 by simp [chkC, t0]]
      clear t0
      go_enter Tryz.func76, Tryz.ntmps76
      go_wp2_with fail
      go_ret
      exact ⟨rfl, (Below.refl _ _).alloc (Nat.le_refl _) _⟩
  by_cases k3 : k = 3
  · subst k3
    by_cases l0 : lim = 0
    · subst l0
      by_cases t1 : tk < 1
      · have d1 : decide ((tk : Int) < 1) = true := by simp; omega
        rw [show chkC 3 0 tk = 6 by simp [chkC]; omega]
        clear t1
        go_enter Tryz.func76, Tryz.ntmps76
        go_wp2_with fail
        go_ret
        exact ⟨rfl, (Below.refl _ _).alloc (Nat.le_refl _) _⟩
      have d1 : decide ((tk : Int) < 1) = false := by simp; omega
      by_cases t2 : 1048576 < tk
      · have d2 : decide ((1048576 : Int) < tk) = true := by simp; omega
        have d3 : decide ((tk : Int) ≤ 1048576) = false := by simp; omega
        rw [show chkC 3 0 tk = 6 by simp [chkC]; omega]
        clear t1 t2
        go_enter Tryz.func76, Tryz.ntmps76
        go_wp2_with fail
        go_ret
        exact ⟨rfl, (Below.refl _ _).alloc (Nat.le_refl _) _⟩
      have d2 : decide ((1048576 : Int) < tk) = false := by simp; omega
      have d3 : decide ((tk : Int) ≤ 1048576) = true := by simp; omega
      rw [show chkC 3 0 tk = 0 by simp [chkC]; omega]
      clear t1 t2
      go_enter Tryz.func76, Tryz.ntmps76
      go_wp2_with fail
      go_ret
      exact ⟨rfl, (Below.refl _ _).alloc (Nat.le_refl _) _⟩
    · have d0 : (lim == 0) = false := by simpa using l0
      rw [show chkC 3 lim tk = 6 by simp [chkC, l0]]
      clear l0
      go_enter Tryz.func76, Tryz.ntmps76
      go_wp2_with fail
      go_ret
      exact ⟨rfl, (Below.refl _ _).alloc (Nat.le_refl _) _⟩
  by_cases k4 : k = 4
  · subst k4
    by_cases l0 : lim < 0
    · have d0 : decide (lim < 0) = true := by simp; omega
      have d9 : decide (0 ≤ lim) = false := by simp; omega
      rw [show chkC 4 lim tk = 6 by simp [chkC]; omega]
      clear l0
      go_enter Tryz.func76, Tryz.ntmps76
      go_wp2_with fail
      go_ret
      exact ⟨rfl, (Below.refl _ _).alloc (Nat.le_refl _) _⟩
    have d0 : decide (lim < 0) = false := by simp; omega
    have d9 : decide (0 ≤ lim) = true := by simp; omega
    by_cases t1 : tk < 1
    · have d1 : decide ((tk : Int) < 1) = true := by simp; omega
      rw [show chkC 4 lim tk = 6 by simp [chkC]; omega]
      clear t1
      go_enter Tryz.func76, Tryz.ntmps76
      go_wp2_with fail
      go_ret
      exact ⟨rfl, (Below.refl _ _).alloc (Nat.le_refl _) _⟩
    have d1 : decide ((tk : Int) < 1) = false := by simp; omega
    by_cases t2 : 1048576 < tk
    · have d2 : decide ((1048576 : Int) < tk) = true := by simp; omega
      have d3 : decide ((tk : Int) ≤ 1048576) = false := by simp; omega
      rw [show chkC 4 lim tk = 6 by simp [chkC]; omega]
      clear t1 t2
      go_enter Tryz.func76, Tryz.ntmps76
      go_wp2_with fail
      go_ret
      exact ⟨rfl, (Below.refl _ _).alloc (Nat.le_refl _) _⟩
    have d2 : decide ((1048576 : Int) < tk) = false := by simp; omega
    have d3 : decide ((tk : Int) ≤ 1048576) = true := by simp; omega
    rw [show chkC 4 lim tk = 0 by simp [chkC]; omega]
    clear t1 t2
    go_enter Tryz.func76, Tryz.ntmps76
    go_wp2_with fail
    go_ret
    exact ⟨rfl, (Below.refl _ _).alloc (Nat.le_refl _) _⟩
  by_cases k5 : k = 5
  · subst k5
    by_cases l0 : lim < 0
    · have d0 : decide (lim < 0) = true := by simp; omega
      have d9 : decide (0 ≤ lim) = false := by simp; omega
      rw [show chkC 5 lim tk = 6 by simp [chkC]; omega]
      clear l0
      go_enter Tryz.func76, Tryz.ntmps76
      go_wp2_with fail
      go_ret
      exact ⟨rfl, (Below.refl _ _).alloc (Nat.le_refl _) _⟩
    have d0 : decide (lim < 0) = false := by simp; omega
    have d9 : decide (0 ≤ lim) = true := by simp; omega
    by_cases t1 : tk < 1
    · have d1 : decide ((tk : Int) < 1) = true := by simp; omega
      rw [show chkC 5 lim tk = 6 by simp [chkC]; omega]
      clear t1
      go_enter Tryz.func76, Tryz.ntmps76
      go_wp2_with fail
      go_ret
      exact ⟨rfl, (Below.refl _ _).alloc (Nat.le_refl _) _⟩
    have d1 : decide ((tk : Int) < 1) = false := by simp; omega
    by_cases t2 : 1048576 < tk
    · have d2 : decide ((1048576 : Int) < tk) = true := by simp; omega
      have d3 : decide ((tk : Int) ≤ 1048576) = false := by simp; omega
      rw [show chkC 5 lim tk = 6 by simp [chkC]; omega]
      clear t1 t2
      go_enter Tryz.func76, Tryz.ntmps76
      go_wp2_with fail
      go_ret
      exact ⟨rfl, (Below.refl _ _).alloc (Nat.le_refl _) _⟩
    have d2 : decide ((1048576 : Int) < tk) = false := by simp; omega
    have d3 : decide ((tk : Int) ≤ 1048576) = true := by simp; omega
    rw [show chkC 5 lim tk = 0 by simp [chkC]; omega]
    clear t1 t2
    go_enter Tryz.func76, Tryz.ntmps76
    go_wp2_with fail
    go_ret
    exact ⟨rfl, (Below.refl _ _).alloc (Nat.le_refl _) _⟩
  have e1 : ((k : Int) == 1) = false := by simp; omega
  have e2 : ((k : Int) == 2) = false := by simp; omega
  have e3 : ((k : Int) == 3) = false := by simp; omega
  have e4 : ((k : Int) == 4) = false := by simp; omega
  have e5 : ((k : Int) == 5) = false := by simp; omega
  rw [show chkC k lim tk = 12 by simp [chkC, k1, k2, k3, k4, k5]]
  clear k1 k2 k3 k4 k5
  go_enter Tryz.func76, Tryz.ntmps76
  go_wp2_with fail
  go_ret
  exact ⟨rfl, (Below.refl _ _).alloc (Nat.le_refl _) _⟩
theorem waitsCheck (fo ke : Nat) (w : World) : Calls Tryz.prog 77 #[.agg #[.int .u64 fo, .int .u64 ke]] w fun e w' => e = .returned (.int .i64 (chkW fo ke : Nat)) ∧ Below w.heap.size w w' := by
  by_cases a : 1048576 < fo
  · have d : decide ((1048576 : Int) < fo) = true := by simp; omega
    rw [show chkW fo ke = 6 by unfold chkW; simp; omega]
    clear a
    go_enter Tryz.func77, Tryz.ntmps77
    go_wp2_with fail
    go_ret
    exact ⟨rfl, (Below.refl _ _).alloc (Nat.le_refl _) _⟩
  have d : decide ((1048576 : Int) < fo) = false := by simp; omega
  by_cases b : 1048576 < ke
  · have d1 : decide ((1048576 : Int) < ke) = true := by simp; omega
    rw [show chkW fo ke = 6 by unfold chkW; simp; omega]
    clear a b
    go_enter Tryz.func77, Tryz.ntmps77
    go_wp2_with fail
    go_ret
    exact ⟨rfl, (Below.refl _ _).alloc (Nat.le_refl _) _⟩
  have d1 : decide ((1048576 : Int) < ke) = false := by simp; omega
  rw [show chkW fo ke = 0 by unfold chkW; simp; omega]
  clear a b
  go_enter Tryz.func77, Tryz.ntmps77
  go_wp2_with fail
  go_ret
  exact ⟨rfl, (Below.refl _ _).alloc (Nat.le_refl _) _⟩
end Go.Proofs.YtgpojkofegajeaaGreatDoor
