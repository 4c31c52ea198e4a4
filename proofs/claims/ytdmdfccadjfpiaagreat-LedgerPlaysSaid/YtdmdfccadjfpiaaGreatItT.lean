/-
  Items: their cells; item.Check. Items: item.Check, item.Span, item.Trim, item.Gap, item.Of, the reference's Span. item.Gap, item.Of, item.Trim.
-/
import Derived.Test.YtdmdfccadjfpiaaGreatLabT
import Derived.Test.YtdmdfccadjfpiaaGreatSt2
import Derived.RegionTactic
import Derived.BigRegion
import Derived.OwnWalk
import Derived.BigQuiet
namespace Go.Proofs.YtdmdfccadjfpiaaGreat
open Go.RowKit
set_option maxRecDepth 100000

/-- An item: an event or a gap. -/
structure ItV where
  gap : Bool
  o : Nat
  sq : Nat
  tm : Nat
  ru : ByteArray
  lv : Value
  ps : List Pr
  st : Nat
  pr : Nat
  va : Int
  ow : Nat
  go : Nat
  gf : Nat
  gt : Nat
structure ItV.ok (a : ItV) (w : World) : Prop where
  o : a.o < 256
  sq : a.sq < 18446744073709551616
  tm : a.tm < 18446744073709551616
  ru : a.ru.size ≤ maxLen
  rd : Rd w 2 a.lv a.ps.length (pairCells a.ps)
  pz : ∀ p ∈ a.ps, p.1.size ≤ maxLen ∧ p.2.size ≤ maxLen
  st : a.st < 256
  pr : a.pr < 256
  va : -9223372036854775808 ≤ a.va ∧ a.va ≤ 9223372036854775807
  ow : a.ow < 256
  go : a.go < 256
  gf : a.gf < 18446744073709551616
  gt : a.gt < 18446744073709551616
theorem ItV.ok.below {a : ItV} {w w' : World} (h : a.ok w) (hb : Below w.heap.size w w') : a.ok w' := ⟨h.o, h.sq, h.tm, h.ru, h.rd.below hb, h.pz, h.st, h.pr, h.va, h.ow, h.go, h.gf, h.gt⟩
def evCells (a : ItV) : List Value := [.int .u8 a.o, .int .u64 a.sq, .int .u64 a.tm, .string a.ru, a.lv, .int .u8 a.st, .int .u8 a.pr, .int .i64 a.va, .int .u8 a.ow]
def gapCells (a : ItV) : List Value := [.int .u8 a.go, .int .u64 a.gf, .int .u64 a.gt]
def it13 (a : ItV) : List Value := .bool a.gap :: (evCells a ++ gapCells a)
def spanO (a : ItV) : Nat := if a.gap then a.go else a.o
def spanF (a : ItV) : Nat := if a.gap then a.gf else a.sq
def spanT (a : ItV) : Nat := if a.gap then a.gt else a.sq

def chkGap (o f t : Nat) : Nat := if 32 ≤ o ∨ f < 1 ∨ t < f ∨ 1099511627776 < t then 6 else 0
def ownName (s : ByteArray) : Bool := decide (4 ≤ s.size) && ((s.extract 0 4).toList == [111, 119, 110, 46])
def chkE (o sq tm : Nat) (ru : ByteArray) (ps : List Pr) (st pr ow : Nat) : Nat :=
  if 32 ≤ o ∨ sq < 1 ∨ 1099511627776 < sq ∨ 1099511627776 < tm ∨ 7 < pr then 6
  else if nameB ru = false then 8
  else if (st ≠ 0 ∧ st ≠ 2) ∨ 2 < ow then 12
  else if (decide (ow ≠ 0) != ownName ru) = true then 27
  else chkL ps
def chkEv (a : ItV) : Nat := chkE a.o a.sq a.tm a.ru a.ps a.st a.pr a.ow
def chkIt (a : ItV) : Nat := if a.gap then chkGap a.go a.gf a.gt else chkEv a

theorem below_drewN {w0 : Nat} (w : World) (n : Nat) : Below w0 w (w.drewN n) :=
  have h := Below.refl w0 w
  ⟨h.os, h.tape, h.output, h.size, h.block⟩

theorem itNumber (n : Nat) (w : World) : Calls Tryz.prog 86 #[.int .u64 n] w fun e w' => e = .returned (.bool (decide (n ≤ 1099511627776))) ∧ w' = w := by
  by_cases h : n ≤ 1099511627776
  · have d : decide ((n : Int) ≤ 1099511627776) = true := by simp; omega
    rw [decide_eq_true h]
    clear h
    go_enter Tryz.func86, Tryz.ntmps86
    go_wp2_with fail
    go_ret
    exact ⟨rfl, rfl⟩
  · have d : decide ((n : Int) ≤ 1099511627776) = false := by simp; omega
    rw [decide_eq_false h]
    clear h
    go_enter Tryz.func86, Tryz.ntmps86
    go_wp2_with fail
    go_ret
    exact ⟨rfl, rfl⟩
theorem itGap (o f t : Nat) (w : World) : Calls Tryz.prog 62 #[.agg #[.int .u8 o, .int .u64 f, .int .u64 t]] w fun e w' => e = .returned (.int .i64 (chkGap o f t : Nat)) ∧ Below w.heap.size w w' := by
  have N := fun w' => itNumber t w'
  by_cases c0 : 32 ≤ o
  · have d0 : decide ((32 : Int) ≤ (o : Int)) = true := by simp; omega
    rw [show chkGap o f t = 6 by unfold chkGap; rw [if_pos (by omega)]]
    clear c0 N
    go_enter Tryz.func62, Tryz.ntmps62
    go_wp2_with fail
    go_ret
    exact ⟨rfl, (Below.refl _ _).alloc (Nat.le_refl _) _⟩
  have d0 : decide ((32 : Int) ≤ (o : Int)) = false := by simp; omega
  by_cases c1 : f < 1
  · have d1 : decide ((f : Int) < 1) = true := by simp; omega
    rw [show chkGap o f t = 6 by unfold chkGap; rw [if_pos (by omega)]]
    clear c0 c1 N
    go_enter Tryz.func62, Tryz.ntmps62
    go_wp2_with fail
    go_ret
    exact ⟨rfl, (Below.refl _ _).alloc (Nat.le_refl _) _⟩
  have d1 : decide ((f : Int) < 1) = false := by simp; omega
  by_cases c2 : t < f
  · have d2 : decide (t < f) = true := by simp; omega
    rw [show chkGap o f t = 6 by unfold chkGap; rw [if_pos (by omega)]]
    clear c0 c1 c2 N
    go_enter Tryz.func62, Tryz.ntmps62
    go_wp2_with fail
    go_ret
    exact ⟨rfl, (Below.refl _ _).alloc (Nat.le_refl _) _⟩
  have d2 : decide (t < f) = false := by simp; omega
  by_cases c3 : 1099511627776 < t
  · rw [show chkGap o f t = 6 by unfold chkGap; rw [if_pos (by omega)]]
    rw [decide_eq_false (by omega : ¬ t ≤ 1099511627776)] at N
    clear c0 c1 c2 c3
    go_enter Tryz.func62, Tryz.ntmps62
    go_wp2_with fail
    (with_reducible refine (N _).mono ?_)
    rintro e w1 ⟨rfl, rfl⟩
    go_wp2_with fail
    go_ret
    exact ⟨rfl, (Below.refl _ _).alloc (Nat.le_refl _) _⟩
  
  · rw [show chkGap o f t = 0 by unfold chkGap; rw [if_neg (by omega)]]
    rw [decide_eq_true (by omega : t ≤ 1099511627776)] at N
    clear c0 c1 c2 c3
    go_enter Tryz.func62, Tryz.ntmps62
    go_wp2_with fail
    (with_reducible refine (N _).mono ?_)
    rintro e w1 ⟨rfl, rfl⟩
    go_wp2_with fail
    go_ret
    exact ⟨rfl, (Below.refl _ _).alloc (Nat.le_refl _) _⟩
theorem strHas (s : ByteArray) (w : World) (hs : s.size ≤ maxLen) : Calls Tryz.prog 120 #[.string s, .string ⟨#[111, 119, 110, 46]⟩] w fun e w' => e = .returned (.bool (ownName s)) ∧ w' = w := by
  unfold maxLen at hs
  by_cases h : 4 ≤ s.size
  · have d0 : decide ((4 : Int) ≤ (s.size : Int)) = true := by simp; omega
    have E := Lib.hid (show ownName s = ((s.extract 0 4).toList == [111, 119, 110, 46]) by unfold ownName; rw [decide_eq_true h]; rfl)
    go_enter Tryz.func120, Tryz.ntmps120
    go_wp2_with fail
    go_ret
    exact ⟨by rw [E.out]; rfl, rfl⟩
  · have d0 : decide ((4 : Int) ≤ (s.size : Int)) = false := by simp; omega
    rw [show ownName s = false by unfold ownName; rw [decide_eq_false h]; rfl]
    clear h
    go_enter Tryz.func120, Tryz.ntmps120
    go_wp2_with fail
    go_ret
    exact ⟨rfl, rfl⟩
theorem strHas2 (s : ByteArray) (w : World) (hs : s.size ≤ maxLen) : Calls Tryz.prog 102 #[.string s, .string ⟨#[111, 119, 110, 46]⟩] w fun e w' => e = .returned (.bool (ownName s)) ∧ w' = w := by
  have K := fun w' => strHas s w' hs
  go_enter Tryz.func102, Tryz.ntmps102
  go_wp2_with fail
  (with_reducible refine (K _).mono ?_)
  rintro e w1 ⟨rfl, rfl⟩
  go_wp2_with fail
  go_ret
  exact ⟨rfl, rfl⟩
theorem itOwn (s : ByteArray) (w : World) (hs : s.size ≤ maxLen) : Calls Tryz.prog 88 #[.string s] w fun e w' => e = .returned (.bool (ownName s)) ∧ w' = w := by
  have K := fun w' => strHas2 s w' hs
  go_enter Tryz.func88, Tryz.ntmps88
  go_wp2_with fail
  (with_reducible refine (K _).mono ?_)
  rintro e w1 ⟨rfl, rfl⟩
  go_wp2_with fail
  go_ret
  exact ⟨rfl, rfl⟩
set_option maxHeartbeats 4000000 in
theorem itEvent (o sq tm : Nat) (ru : ByteArray) (A : Option Addr) (n c : Nat) (ps : List Pr) (st pr : Nat) (va : Int) (ow : Nat) (w : World) (hru : ru.size ≤ maxLen) (hrd : Rd w 2 (.slice A n c) ps.length (pairCells ps)) (hpz : ∀ p ∈ ps, p.1.size ≤ maxLen ∧ p.2.size ≤ maxLen) :
    Calls Tryz.prog 63 #[.agg #[.int .u8 o, .int .u64 sq, .int .u64 tm, .string ru, .slice A n c, .int .u8 st, .int .u8 pr, .int .i64 va, .int .u8 ow]] w fun e w' => e = .returned (.int .i64 (chkE o sq tm ru ps st pr ow : Nat)) ∧ Below w.heap.size w w' := by
  have Nq := fun w' => itNumber sq w'
  have Nt := fun w' => itNumber tm w'
  by_cases c0 : 32 ≤ o
  · have d0 : decide ((32 : Int) ≤ (o : Int)) = true := by simp; omega
    rw [show chkE o sq tm ru ps st pr ow = 6 by unfold chkE; rw [if_pos (by omega)]]
    clear c0 Nq Nt hrd hpz hru
    go_enter Tryz.func63, Tryz.ntmps63
    go_wp2_with fail
    go_ret
    exact ⟨rfl, (Below.refl _ _).alloc (Nat.le_refl _) _⟩
  have d0 : decide ((32 : Int) ≤ (o : Int)) = false := by simp; omega
  by_cases c1 : sq < 1
  · have d1 : decide ((sq : Int) < 1) = true := by simp; omega
    rw [show chkE o sq tm ru ps st pr ow = 6 by unfold chkE; rw [if_pos (by omega)]]
    clear c0 c1 Nq Nt hrd hpz hru
    go_enter Tryz.func63, Tryz.ntmps63
    go_wp2_with fail
    go_ret
    exact ⟨rfl, (Below.refl _ _).alloc (Nat.le_refl _) _⟩
  have d1 : decide ((sq : Int) < 1) = false := by simp; omega
  by_cases c2 : 1099511627776 < sq
  · rw [decide_eq_false (by omega : ¬ sq ≤ 1099511627776)] at Nq
    rw [show chkE o sq tm ru ps st pr ow = 6 by unfold chkE; rw [if_pos (by omega)]]
    clear c0 c1 c2 Nt hrd hpz hru
    go_enter Tryz.func63, Tryz.ntmps63
    go_wp2_with fail
    (with_reducible refine (Nq _).mono ?_)
    rintro e w1 ⟨rfl, rfl⟩
    go_wp2_with fail
    go_ret
    exact ⟨rfl, (Below.refl _ _).alloc (Nat.le_refl _) _⟩
  rw [decide_eq_true (by omega : sq ≤ 1099511627776)] at Nq
  by_cases c3 : 1099511627776 < tm
  · rw [decide_eq_false (by omega : ¬ tm ≤ 1099511627776)] at Nt
    rw [show chkE o sq tm ru ps st pr ow = 6 by unfold chkE; rw [if_pos (by omega)]]
    clear c0 c1 c2 c3 hrd hpz hru
    go_enter Tryz.func63, Tryz.ntmps63
    go_wp2_with fail
    (with_reducible refine (Nq _).mono ?_)
    rintro e w1 ⟨rfl, rfl⟩
    go_wp2_with fail
    (with_reducible refine (Nt _).mono ?_)
    rintro e w1 ⟨rfl, rfl⟩
    go_wp2_with fail
    go_ret
    exact ⟨rfl, (Below.refl _ _).alloc (Nat.le_refl _) _⟩
  rw [decide_eq_true (by omega : tm ≤ 1099511627776)] at Nt
  by_cases c4 : 7 < pr
  · have d4 : decide ((7 : Int) < (pr : Int)) = true := by simp; omega
    rw [show chkE o sq tm ru ps st pr ow = 6 by unfold chkE; rw [if_pos (by omega)]]
    clear c0 c1 c2 c3 c4 hrd hpz hru
    go_enter Tryz.func63, Tryz.ntmps63
    go_wp2_with fail
    (with_reducible refine (Nq _).mono ?_)
    rintro e w1 ⟨rfl, rfl⟩
    go_wp2_with fail
    (with_reducible refine (Nt _).mono ?_)
    rintro e w1 ⟨rfl, rfl⟩
    go_wp2_with fail
    go_ret
    exact ⟨rfl, (Below.refl _ _).alloc (Nat.le_refl _) _⟩
  have d4 : decide ((7 : Int) < (pr : Int)) = false := by simp; omega
  have hE : chkE o sq tm ru ps st pr ow = if nameB ru = false then 8 else if (st ≠ 0 ∧ st ≠ 2) ∨ 2 < ow then 12 else if (decide (ow ≠ 0) != ownName ru) = true then 27 else chkL ps := by unfold chkE; rw [if_neg (by omega)]
  rw [hE]
  clear hE c0 c1 c2 c3 c4
  have hN := fun w' => lName ru w' hru
  have hO := fun w' => itOwn ru w' hru
  obtain ⟨nb, hnb⟩ : ∃ nb, nb = nameB ru := ⟨_, rfl⟩
  obtain ⟨ob, hob⟩ : ∃ ob, ob = ownName ru := ⟨_, rfl⟩
  rw [← hnb] at hN ⊢
  rw [← hob] at hO ⊢
  clear hnb hob
  have hK : ∀ w', Below w.heap.size w w' → Calls Tryz.prog 89 #[.slice A n c] w' fun e w'' => e = .returned (.int .i64 (chkL ps : Nat)) ∧ Below w'.heap.size w' w'' := fun w' hb => lCheck _ ps w' (hrd.below hb) hpz
  clear hru hrd hpz
  obtain ⟨ck, hck⟩ : ∃ ck, ck = chkL ps := ⟨_, rfl⟩
  rw [← hck] at hK ⊢
  clear hck
  cases nb with
  | false =>
    rw [if_pos rfl]
    clear hO hK
    go_enter Tryz.func63, Tryz.ntmps63
    go_wp2_with fail
    (with_reducible refine (Nq _).mono ?_)
    rintro e w1 ⟨rfl, rfl⟩
    go_wp2_with fail
    (with_reducible refine (Nt _).mono ?_)
    rintro e w1 ⟨rfl, rfl⟩
    go_wp2_with fail
    refine calls_genP fun w2 hw2 => ?_
    have hb2 : Below w.heap.size w w2 := by rw [hw2]; exact (Below.refl _ _).alloc (Nat.le_refl _) _
    have hB2 : Blk w2 w.heap.size #[.int .u8 o, .int .u64 sq, .int .u64 tm, .string ru, .slice A n c, .int .u8 st, .int .u8 pr, .int .i64 va, .int .u8 ow] 32 := by rw [hw2]; exact Blk.new _ _ _
    clear hw2
    (with_reducible refine (hN w2).mono ?_)
    rintro e w3 ⟨rfl, hb3⟩
    have hB3 := hB2.below hb3 hB2.lt
    have hb23 := hb2.trans (hb3.mono hb2.size)
    clear hB2 hb2 hb3 hN
    go_wp2_with fail
    go_ret
    exact ⟨rfl, hb23⟩
  | true =>
    rw [if_neg (by simp)]
    by_cases s0 : st = 0
    · subst s0
      by_cases c2 : 2 < ow
      · rw [if_pos (.inr c2)]
        have d2 : decide ((2 : Int) < (ow : Int)) = true := by simp; omega
        clear c2 hO hK
        go_enter Tryz.func63, Tryz.ntmps63
        go_wp2_with fail
        (with_reducible refine (Nq _).mono ?_)
        rintro e w1 ⟨rfl, rfl⟩
        go_wp2_with fail
        (with_reducible refine (Nt _).mono ?_)
        rintro e w1 ⟨rfl, rfl⟩
        go_wp2_with fail
        refine calls_genP fun w2 hw2 => ?_
        have hb2 : Below w.heap.size w w2 := by rw [hw2]; exact (Below.refl _ _).alloc (Nat.le_refl _) _
        have hB2 : Blk w2 w.heap.size #[.int .u8 o, .int .u64 sq, .int .u64 tm, .string ru, .slice A n c, .int .u8 0, .int .u8 pr, .int .i64 va, .int .u8 ow] 32 := by rw [hw2]; exact Blk.new _ _ _
        clear hw2
        (with_reducible refine (hN w2).mono ?_)
        rintro e w3 ⟨rfl, hb3⟩
        have hB3 := hB2.below hb3 hB2.lt
        have hb23 := hb2.trans (hb3.mono hb2.size)
        clear hB2 hb2 hb3 hN
        have x3 : w3.cell? ⟨w.heap.size, 3, none⟩ = some (.string ru) := hB3.cell rfl
        have x4 : w3.cell? ⟨w.heap.size, 4, none⟩ = some (.slice A n c) := hB3.cell rfl
        have x5 : w3.cell? ⟨w.heap.size, 5, none⟩ = some (.int .u8 0) := hB3.cell rfl
        have x8 : w3.cell? ⟨w.heap.size, 8, none⟩ = some (.int .u8 ow) := hB3.cell rfl
        go_wp2_with fail
        go_ret
        exact ⟨rfl, hb23⟩
      rw [if_neg (by omega)]
      have d2 : decide ((2 : Int) < (ow : Int)) = false := by simp; omega
      clear c2
      obtain ⟨xo, hxo⟩ : ∃ xo, xo = ((ow : Int) != 0) := ⟨_, rfl⟩
      have hxo2 : decide (ow ≠ 0) = xo := by rw [hxo]; by_cases h : ow = 0 <;> simp [h]
      rw [hxo2]
      have d3 := hxo.symm
      clear hxo hxo2
      have Ffalsefalse : xo = false → ob = false → Calls Tryz.prog 63 #[.agg #[.int .u8 o, .int .u64 sq, .int .u64 tm, .string ru, .slice A n c, .int .u8 0, .int .u8 pr, .int .i64 va, .int .u8 ow]] w fun e w' => e = .returned (.int .i64 ((if (xo != ob) = true then 27 else ck : Nat) : Nat)) ∧ Below w.heap.size w w' := by
        intro hx ho
        subst hx ho
        rw [if_neg (by decide)]
        go_enter Tryz.func63, Tryz.ntmps63
        go_wp2_with fail
        (with_reducible refine (Nq _).mono ?_)
        rintro e w1 ⟨rfl, rfl⟩
        go_wp2_with fail
        (with_reducible refine (Nt _).mono ?_)
        rintro e w1 ⟨rfl, rfl⟩
        go_wp2_with fail
        refine calls_genP fun w2 hw2 => ?_
        have hb2 : Below w.heap.size w w2 := by rw [hw2]; exact (Below.refl _ _).alloc (Nat.le_refl _) _
        have hB2 : Blk w2 w.heap.size #[.int .u8 o, .int .u64 sq, .int .u64 tm, .string ru, .slice A n c, .int .u8 0, .int .u8 pr, .int .i64 va, .int .u8 ow] 32 := by rw [hw2]; exact Blk.new _ _ _
        clear hw2
        (with_reducible refine (hN w2).mono ?_)
        rintro e w3 ⟨rfl, hb3⟩
        have hB3 := hB2.below hb3 hB2.lt
        have hb23 := hb2.trans (hb3.mono hb2.size)
        clear hB2 hb2 hb3 hN
        have x3 : w3.cell? ⟨w.heap.size, 3, none⟩ = some (.string ru) := hB3.cell rfl
        have x4 : w3.cell? ⟨w.heap.size, 4, none⟩ = some (.slice A n c) := hB3.cell rfl
        have x5 : w3.cell? ⟨w.heap.size, 5, none⟩ = some (.int .u8 0) := hB3.cell rfl
        have x8 : w3.cell? ⟨w.heap.size, 8, none⟩ = some (.int .u8 ow) := hB3.cell rfl
        go_wp2_with fail
        go_quiet (with_reducible exact Calls.quiet_of_same (hO _))
        have hb4 := hb23.trans (below_drewN w3 nq)
        clear hb23
        go_wp2_with fail
        (with_reducible refine (hK _ hb4).mono ?_)
        rintro e w5 ⟨rfl, hb5⟩
        have hb6 := hb4.trans (hb5.mono hb4.size)
        clear hb4 hb5 hB3
        go_wp2_with fail
        go_ret
        exact ⟨rfl, hb6⟩
      have Ffalsetrue : xo = false → ob = true → Calls Tryz.prog 63 #[.agg #[.int .u8 o, .int .u64 sq, .int .u64 tm, .string ru, .slice A n c, .int .u8 0, .int .u8 pr, .int .i64 va, .int .u8 ow]] w fun e w' => e = .returned (.int .i64 ((if (xo != ob) = true then 27 else ck : Nat) : Nat)) ∧ Below w.heap.size w w' := by
        intro hx ho
        subst hx ho
        rw [if_pos (by decide)]
        clear hK
        go_enter Tryz.func63, Tryz.ntmps63
        go_wp2_with fail
        (with_reducible refine (Nq _).mono ?_)
        rintro e w1 ⟨rfl, rfl⟩
        go_wp2_with fail
        (with_reducible refine (Nt _).mono ?_)
        rintro e w1 ⟨rfl, rfl⟩
        go_wp2_with fail
        refine calls_genP fun w2 hw2 => ?_
        have hb2 : Below w.heap.size w w2 := by rw [hw2]; exact (Below.refl _ _).alloc (Nat.le_refl _) _
        have hB2 : Blk w2 w.heap.size #[.int .u8 o, .int .u64 sq, .int .u64 tm, .string ru, .slice A n c, .int .u8 0, .int .u8 pr, .int .i64 va, .int .u8 ow] 32 := by rw [hw2]; exact Blk.new _ _ _
        clear hw2
        (with_reducible refine (hN w2).mono ?_)
        rintro e w3 ⟨rfl, hb3⟩
        have hB3 := hB2.below hb3 hB2.lt
        have hb23 := hb2.trans (hb3.mono hb2.size)
        clear hB2 hb2 hb3 hN
        have x3 : w3.cell? ⟨w.heap.size, 3, none⟩ = some (.string ru) := hB3.cell rfl
        have x4 : w3.cell? ⟨w.heap.size, 4, none⟩ = some (.slice A n c) := hB3.cell rfl
        have x5 : w3.cell? ⟨w.heap.size, 5, none⟩ = some (.int .u8 0) := hB3.cell rfl
        have x8 : w3.cell? ⟨w.heap.size, 8, none⟩ = some (.int .u8 ow) := hB3.cell rfl
        go_wp2_with fail
        go_quiet (with_reducible exact Calls.quiet_of_same (hO _))
        have hb4 := hb23.trans (below_drewN w3 nq)
        clear hb23
        go_wp2_with fail
        go_ret
        exact ⟨rfl, hb4⟩
      have Ftruefalse : xo = true → ob = false → Calls Tryz.prog 63 #[.agg #[.int .u8 o, .int .u64 sq, .int .u64 tm, .string ru, .slice A n c, .int .u8 0, .int .u8 pr, .int .i64 va, .int .u8 ow]] w fun e w' => e = .returned (.int .i64 ((if (xo != ob) = true then 27 else ck : Nat) : Nat)) ∧ Below w.heap.size w w' := by
        intro hx ho
        subst hx ho
        rw [if_pos (by decide)]
        clear hK
        go_enter Tryz.func63, Tryz.ntmps63
        go_wp2_with fail
        (with_reducible refine (Nq _).mono ?_)
        rintro e w1 ⟨rfl, rfl⟩
        go_wp2_with fail
        (with_reducible refine (Nt _).mono ?_)
        rintro e w1 ⟨rfl, rfl⟩
        go_wp2_with fail
        refine calls_genP fun w2 hw2 => ?_
        have hb2 : Below w.heap.size w w2 := by rw [hw2]; exact (Below.refl _ _).alloc (Nat.le_refl _) _
        have hB2 : Blk w2 w.heap.size #[.int .u8 o, .int .u64 sq, .int .u64 tm, .string ru, .slice A n c, .int .u8 0, .int .u8 pr, .int .i64 va, .int .u8 ow] 32 := by rw [hw2]; exact Blk.new _ _ _
        clear hw2
        (with_reducible refine (hN w2).mono ?_)
        rintro e w3 ⟨rfl, hb3⟩
        have hB3 := hB2.below hb3 hB2.lt
        have hb23 := hb2.trans (hb3.mono hb2.size)
        clear hB2 hb2 hb3 hN
        have x3 : w3.cell? ⟨w.heap.size, 3, none⟩ = some (.string ru) := hB3.cell rfl
        have x4 : w3.cell? ⟨w.heap.size, 4, none⟩ = some (.slice A n c) := hB3.cell rfl
        have x5 : w3.cell? ⟨w.heap.size, 5, none⟩ = some (.int .u8 0) := hB3.cell rfl
        have x8 : w3.cell? ⟨w.heap.size, 8, none⟩ = some (.int .u8 ow) := hB3.cell rfl
        go_wp2_with fail
        go_quiet (with_reducible exact Calls.quiet_of_same (hO _))
        have hb4 := hb23.trans (below_drewN w3 nq)
        clear hb23
        go_wp2_with fail
        go_ret
        exact ⟨rfl, hb4⟩
      have Ftruetrue : xo = true → ob = true → Calls Tryz.prog 63 #[.agg #[.int .u8 o, .int .u64 sq, .int .u64 tm, .string ru, .slice A n c, .int .u8 0, .int .u8 pr, .int .i64 va, .int .u8 ow]] w fun e w' => e = .returned (.int .i64 ((if (xo != ob) = true then 27 else ck : Nat) : Nat)) ∧ Below w.heap.size w w' := by
        intro hx ho
        subst hx ho
        rw [if_neg (by decide)]
        go_enter Tryz.func63, Tryz.ntmps63
        go_wp2_with fail
        (with_reducible refine (Nq _).mono ?_)
        rintro e w1 ⟨rfl, rfl⟩
        go_wp2_with fail
        (with_reducible refine (Nt _).mono ?_)
        rintro e w1 ⟨rfl, rfl⟩
        go_wp2_with fail
        refine calls_genP fun w2 hw2 => ?_
        have hb2 : Below w.heap.size w w2 := by rw [hw2]; exact (Below.refl _ _).alloc (Nat.le_refl _) _
        have hB2 : Blk w2 w.heap.size #[.int .u8 o, .int .u64 sq, .int .u64 tm, .string ru, .slice A n c, .int .u8 0, .int .u8 pr, .int .i64 va, .int .u8 ow] 32 := by rw [hw2]; exact Blk.new _ _ _
        clear hw2
        (with_reducible refine (hN w2).mono ?_)
        rintro e w3 ⟨rfl, hb3⟩
        have hB3 := hB2.below hb3 hB2.lt
        have hb23 := hb2.trans (hb3.mono hb2.size)
        clear hB2 hb2 hb3 hN
        have x3 : w3.cell? ⟨w.heap.size, 3, none⟩ = some (.string ru) := hB3.cell rfl
        have x4 : w3.cell? ⟨w.heap.size, 4, none⟩ = some (.slice A n c) := hB3.cell rfl
        have x5 : w3.cell? ⟨w.heap.size, 5, none⟩ = some (.int .u8 0) := hB3.cell rfl
        have x8 : w3.cell? ⟨w.heap.size, 8, none⟩ = some (.int .u8 ow) := hB3.cell rfl
        go_wp2_with fail
        go_quiet (with_reducible exact Calls.quiet_of_same (hO _))
        have hb4 := hb23.trans (below_drewN w3 nq)
        clear hb23
        go_wp2_with fail
        (with_reducible refine (hK _ hb4).mono ?_)
        rintro e w5 ⟨rfl, hb5⟩
        have hb6 := hb4.trans (hb5.mono hb4.size)
        clear hb4 hb5 hB3
        go_wp2_with fail
        go_ret
        exact ⟨rfl, hb6⟩
      cases hx : xo <;> cases ho : ob
      · have := Ffalsefalse hx ho; rw [hx, ho] at this; exact this
      · have := Ffalsetrue hx ho; rw [hx, ho] at this; exact this
      · have := Ftruefalse hx ho; rw [hx, ho] at this; exact this
      · have := Ftruetrue hx ho; rw [hx, ho] at this; exact this
    · by_cases s2 : st = 2
      · subst s2
        by_cases c2 : 2 < ow
        · rw [if_pos (.inr c2)]
          have d2 : decide ((2 : Int) < (ow : Int)) = true := by simp; omega
          clear c2 hO hK
          go_enter Tryz.func63, Tryz.ntmps63
          go_wp2_with fail
          (with_reducible refine (Nq _).mono ?_)
          rintro e w1 ⟨rfl, rfl⟩
          go_wp2_with fail
          (with_reducible refine (Nt _).mono ?_)
          rintro e w1 ⟨rfl, rfl⟩
          go_wp2_with fail
          refine calls_genP fun w2 hw2 => ?_
          have hb2 : Below w.heap.size w w2 := by rw [hw2]; exact (Below.refl _ _).alloc (Nat.le_refl _) _
          have hB2 : Blk w2 w.heap.size #[.int .u8 o, .int .u64 sq, .int .u64 tm, .string ru, .slice A n c, .int .u8 2, .int .u8 pr, .int .i64 va, .int .u8 ow] 32 := by rw [hw2]; exact Blk.new _ _ _
          clear hw2
          (with_reducible refine (hN w2).mono ?_)
          rintro e w3 ⟨rfl, hb3⟩
          have hB3 := hB2.below hb3 hB2.lt
          have hb23 := hb2.trans (hb3.mono hb2.size)
          clear hB2 hb2 hb3 hN
          have x3 : w3.cell? ⟨w.heap.size, 3, none⟩ = some (.string ru) := hB3.cell rfl
          have x4 : w3.cell? ⟨w.heap.size, 4, none⟩ = some (.slice A n c) := hB3.cell rfl
          have x5 : w3.cell? ⟨w.heap.size, 5, none⟩ = some (.int .u8 2) := hB3.cell rfl
          have x8 : w3.cell? ⟨w.heap.size, 8, none⟩ = some (.int .u8 ow) := hB3.cell rfl
          go_wp2_with fail
          go_ret
          exact ⟨rfl, hb23⟩
        rw [if_neg (by omega)]
        have d2 : decide ((2 : Int) < (ow : Int)) = false := by simp; omega
        clear c2
        obtain ⟨xo, hxo⟩ : ∃ xo, xo = ((ow : Int) != 0) := ⟨_, rfl⟩
        have hxo2 : decide (ow ≠ 0) = xo := by rw [hxo]; by_cases h : ow = 0 <;> simp [h]
        rw [hxo2]
        have d3 := hxo.symm
        clear hxo hxo2
        have Ffalsefalse : xo = false → ob = false → Calls Tryz.prog 63 #[.agg #[.int .u8 o, .int .u64 sq, .int .u64 tm, .string ru, .slice A n c, .int .u8 2, .int .u8 pr, .int .i64 va, .int .u8 ow]] w fun e w' => e = .returned (.int .i64 ((if (xo != ob) = true then 27 else ck : Nat) : Nat)) ∧ Below w.heap.size w w' := by
          intro hx ho
          subst hx ho
          rw [if_neg (by decide)]
          go_enter Tryz.func63, Tryz.ntmps63
          go_wp2_with fail
          (with_reducible refine (Nq _).mono ?_)
          rintro e w1 ⟨rfl, rfl⟩
          go_wp2_with fail
          (with_reducible refine (Nt _).mono ?_)
          rintro e w1 ⟨rfl, rfl⟩
          go_wp2_with fail
          refine calls_genP fun w2 hw2 => ?_
          have hb2 : Below w.heap.size w w2 := by rw [hw2]; exact (Below.refl _ _).alloc (Nat.le_refl _) _
          have hB2 : Blk w2 w.heap.size #[.int .u8 o, .int .u64 sq, .int .u64 tm, .string ru, .slice A n c, .int .u8 2, .int .u8 pr, .int .i64 va, .int .u8 ow] 32 := by rw [hw2]; exact Blk.new _ _ _
          clear hw2
          (with_reducible refine (hN w2).mono ?_)
          rintro e w3 ⟨rfl, hb3⟩
          have hB3 := hB2.below hb3 hB2.lt
          have hb23 := hb2.trans (hb3.mono hb2.size)
          clear hB2 hb2 hb3 hN
          have x3 : w3.cell? ⟨w.heap.size, 3, none⟩ = some (.string ru) := hB3.cell rfl
          have x4 : w3.cell? ⟨w.heap.size, 4, none⟩ = some (.slice A n c) := hB3.cell rfl
          have x5 : w3.cell? ⟨w.heap.size, 5, none⟩ = some (.int .u8 2) := hB3.cell rfl
          have x8 : w3.cell? ⟨w.heap.size, 8, none⟩ = some (.int .u8 ow) := hB3.cell rfl
          go_wp2_with fail
          go_quiet (with_reducible exact Calls.quiet_of_same (hO _))
          have hb4 := hb23.trans (below_drewN w3 nq)
          clear hb23
          go_wp2_with fail
          (with_reducible refine (hK _ hb4).mono ?_)
          rintro e w5 ⟨rfl, hb5⟩
          have hb6 := hb4.trans (hb5.mono hb4.size)
          clear hb4 hb5 hB3
          go_wp2_with fail
          go_ret
          exact ⟨rfl, hb6⟩
        have Ffalsetrue : xo = false → ob = true → Calls Tryz.prog 63 #[.agg #[.int .u8 o, .int .u64 sq, .int .u64 tm, .string ru, .slice A n c, .int .u8 2, .int .u8 pr, .int .i64 va, .int .u8 ow]] w fun e w' => e = .returned (.int .i64 ((if (xo != ob) = true then 27 else ck : Nat) : Nat)) ∧ Below w.heap.size w w' := by
          intro hx ho
          subst hx ho
          rw [if_pos (by decide)]
          clear hK
          go_enter Tryz.func63, Tryz.ntmps63
          go_wp2_with fail
          (with_reducible refine (Nq _).mono ?_)
          rintro e w1 ⟨rfl, rfl⟩
          go_wp2_with fail
          (with_reducible refine (Nt _).mono ?_)
          rintro e w1 ⟨rfl, rfl⟩
          go_wp2_with fail
          refine calls_genP fun w2 hw2 => ?_
          have hb2 : Below w.heap.size w w2 := by rw [hw2]; exact (Below.refl _ _).alloc (Nat.le_refl _) _
          have hB2 : Blk w2 w.heap.size #[.int .u8 o, .int .u64 sq, .int .u64 tm, .string ru, .slice A n c, .int .u8 2, .int .u8 pr, .int .i64 va, .int .u8 ow] 32 := by rw [hw2]; exact Blk.new _ _ _
          clear hw2
          (with_reducible refine (hN w2).mono ?_)
          rintro e w3 ⟨rfl, hb3⟩
          have hB3 := hB2.below hb3 hB2.lt
          have hb23 := hb2.trans (hb3.mono hb2.size)
          clear hB2 hb2 hb3 hN
          have x3 : w3.cell? ⟨w.heap.size, 3, none⟩ = some (.string ru) := hB3.cell rfl
          have x4 : w3.cell? ⟨w.heap.size, 4, none⟩ = some (.slice A n c) := hB3.cell rfl
          have x5 : w3.cell? ⟨w.heap.size, 5, none⟩ = some (.int .u8 2) := hB3.cell rfl
          have x8 : w3.cell? ⟨w.heap.size, 8, none⟩ = some (.int .u8 ow) := hB3.cell rfl
          go_wp2_with fail
          go_quiet (with_reducible exact Calls.quiet_of_same (hO _))
          have hb4 := hb23.trans (below_drewN w3 nq)
          clear hb23
          go_wp2_with fail
          go_ret
          exact ⟨rfl, hb4⟩
        have Ftruefalse : xo = true → ob = false → Calls Tryz.prog 63 #[.agg #[.int .u8 o, .int .u64 sq, .int .u64 tm, .string ru, .slice A n c, .int .u8 2, .int .u8 pr, .int .i64 va, .int .u8 ow]] w fun e w' => e = .returned (.int .i64 ((if (xo != ob) = true then 27 else ck : Nat) : Nat)) ∧ Below w.heap.size w w' := by
          intro hx ho
          subst hx ho
          rw [if_pos (by decide)]
          clear hK
          go_enter Tryz.func63, Tryz.ntmps63
          go_wp2_with fail
          (with_reducible refine (Nq _).mono ?_)
          rintro e w1 ⟨rfl, rfl⟩
          go_wp2_with fail
          (with_reducible refine (Nt _).mono ?_)
          rintro e w1 ⟨rfl, rfl⟩
          go_wp2_with fail
          refine calls_genP fun w2 hw2 => ?_
          have hb2 : Below w.heap.size w w2 := by rw [hw2]; exact (Below.refl _ _).alloc (Nat.le_refl _) _
          have hB2 : Blk w2 w.heap.size #[.int .u8 o, .int .u64 sq, .int .u64 tm, .string ru, .slice A n c, .int .u8 2, .int .u8 pr, .int .i64 va, .int .u8 ow] 32 := by rw [hw2]; exact Blk.new _ _ _
          clear hw2
          (with_reducible refine (hN w2).mono ?_)
          rintro e w3 ⟨rfl, hb3⟩
          have hB3 := hB2.below hb3 hB2.lt
          have hb23 := hb2.trans (hb3.mono hb2.size)
          clear hB2 hb2 hb3 hN
          have x3 : w3.cell? ⟨w.heap.size, 3, none⟩ = some (.string ru) := hB3.cell rfl
          have x4 : w3.cell? ⟨w.heap.size, 4, none⟩ = some (.slice A n c) := hB3.cell rfl
          have x5 : w3.cell? ⟨w.heap.size, 5, none⟩ = some (.int .u8 2) := hB3.cell rfl
          have x8 : w3.cell? ⟨w.heap.size, 8, none⟩ = some (.int .u8 ow) := hB3.cell rfl
          go_wp2_with fail
          go_quiet (with_reducible exact Calls.quiet_of_same (hO _))
          have hb4 := hb23.trans (below_drewN w3 nq)
          clear hb23
          go_wp2_with fail
          go_ret
          exact ⟨rfl, hb4⟩
        have Ftruetrue : xo = true → ob = true → Calls Tryz.prog 63 #[.agg #[.int .u8 o, .int .u64 sq, .int .u64 tm, .string ru, .slice A n c, .int .u8 2, .int .u8 pr, .int .i64 va, .int .u8 ow]] w fun e w' => e = .returned (.int .i64 ((if (xo != ob) = true then 27 else ck : Nat) : Nat)) ∧ Below w.heap.size w w' := by
          intro hx ho
          subst hx ho
          rw [if_neg (by decide)]
          go_enter Tryz.func63, Tryz.ntmps63
          go_wp2_with fail
          (with_reducible refine (Nq _).mono ?_)
          rintro e w1 ⟨rfl, rfl⟩
          go_wp2_with fail
          (with_reducible refine (Nt _).mono ?_)
          rintro e w1 ⟨rfl, rfl⟩
          go_wp2_with fail
          refine calls_genP fun w2 hw2 => ?_
          have hb2 : Below w.heap.size w w2 := by rw [hw2]; exact (Below.refl _ _).alloc (Nat.le_refl _) _
          have hB2 : Blk w2 w.heap.size #[.int .u8 o, .int .u64 sq, .int .u64 tm, .string ru, .slice A n c, .int .u8 2, .int .u8 pr, .int .i64 va, .int .u8 ow] 32 := by rw [hw2]; exact Blk.new _ _ _
          clear hw2
          (with_reducible refine (hN w2).mono ?_)
          rintro e w3 ⟨rfl, hb3⟩
          have hB3 := hB2.below hb3 hB2.lt
          have hb23 := hb2.trans (hb3.mono hb2.size)
          clear hB2 hb2 hb3 hN
          have x3 : w3.cell? ⟨w.heap.size, 3, none⟩ = some (.string ru) := hB3.cell rfl
          have x4 : w3.cell? ⟨w.heap.size, 4, none⟩ = some (.slice A n c) := hB3.cell rfl
          have x5 : w3.cell? ⟨w.heap.size, 5, none⟩ = some (.int .u8 2) := hB3.cell rfl
          have x8 : w3.cell? ⟨w.heap.size, 8, none⟩ = some (.int .u8 ow) := hB3.cell rfl
          go_wp2_with fail
          go_quiet (with_reducible exact Calls.quiet_of_same (hO _))
          have hb4 := hb23.trans (below_drewN w3 nq)
          clear hb23
          go_wp2_with fail
          (with_reducible refine (hK _ hb4).mono ?_)
          rintro e w5 ⟨rfl, hb5⟩
          have hb6 := hb4.trans (hb5.mono hb4.size)
          clear hb4 hb5 hB3
          go_wp2_with fail
          go_ret
          exact ⟨rfl, hb6⟩
        cases hx : xo <;> cases ho : ob
        · have := Ffalsefalse hx ho; rw [hx, ho] at this; exact this
        · have := Ffalsetrue hx ho; rw [hx, ho] at this; exact this
        · have := Ftruefalse hx ho; rw [hx, ho] at this; exact this
        · have := Ftruetrue hx ho; rw [hx, ho] at this; exact this
      · rw [if_pos (.inl ⟨s0, s2⟩)]
        have e0 : ((st : Int) != 0) = true := by simp; omega
        have e2 : ((st : Int) != 2) = true := by simp; omega
        clear s0 s2 hO hK
        go_enter Tryz.func63, Tryz.ntmps63
        go_wp2_with fail
        (with_reducible refine (Nq _).mono ?_)
        rintro e w1 ⟨rfl, rfl⟩
        go_wp2_with fail
        (with_reducible refine (Nt _).mono ?_)
        rintro e w1 ⟨rfl, rfl⟩
        go_wp2_with fail
        refine calls_genP fun w2 hw2 => ?_
        have hb2 : Below w.heap.size w w2 := by rw [hw2]; exact (Below.refl _ _).alloc (Nat.le_refl _) _
        have hB2 : Blk w2 w.heap.size #[.int .u8 o, .int .u64 sq, .int .u64 tm, .string ru, .slice A n c, .int .u8 st, .int .u8 pr, .int .i64 va, .int .u8 ow] 32 := by rw [hw2]; exact Blk.new _ _ _
        clear hw2
        (with_reducible refine (hN w2).mono ?_)
        rintro e w3 ⟨rfl, hb3⟩
        have hB3 := hB2.below hb3 hB2.lt
        have hb23 := hb2.trans (hb3.mono hb2.size)
        clear hB2 hb2 hb3 hN
        have x3 : w3.cell? ⟨w.heap.size, 3, none⟩ = some (.string ru) := hB3.cell rfl
        have x4 : w3.cell? ⟨w.heap.size, 4, none⟩ = some (.slice A n c) := hB3.cell rfl
        have x5 : w3.cell? ⟨w.heap.size, 5, none⟩ = some (.int .u8 st) := hB3.cell rfl
        have x8 : w3.cell? ⟨w.heap.size, 8, none⟩ = some (.int .u8 ow) := hB3.cell rfl
        go_wp2_with fail
        go_ret
        exact ⟨rfl, hb23⟩
end Go.Proofs.YtdmdfccadjfpiaaGreat
namespace Go.Proofs.YtdmdfccadjfpiaaGreat
open Go.RowKit
set_option maxRecDepth 100000

/-- What an item is handed over as. -/
abbrev itV (a : ItV) : Value := .agg #[.bool a.gap, .int .u8 a.o, .int .u64 a.sq, .int .u64 a.tm, .string a.ru, a.lv, .int .u8 a.st, .int .u8 a.pr, .int .i64 a.va, .int .u8 a.ow, .int .u8 a.go, .int .u64 a.gf, .int .u64 a.gt]
theorem itCheck_true (o sq tm : Nat) (ru : ByteArray) (Al : Option Addr) (nl cl st pr : Nat) (va : Int) (ow go gf gt : Nat) (w : World) :
    Calls Tryz.prog 35 #[.agg #[.bool true, .int .u8 o, .int .u64 sq, .int .u64 tm, .string ru, .slice Al nl cl, .int .u8 st, .int .u8 pr, .int .i64 va, .int .u8 ow, .int .u8 go, .int .u64 gf, .int .u64 gt]] w fun e w' => e = .returned (.int .i64 (chkGap go gf gt : Nat)) ∧ Below w.heap.size w w' := by
  have K := fun w' => itGap go gf gt w'
  go_enter Tryz.func35, Tryz.ntmps35
  go_wp2_with fail
  refine calls_genP fun w2 hw2 => ?_
  have hb2 : Below w.heap.size w w2 := by rw [hw2]; exact (Below.refl _ _).alloc (Nat.le_refl _) _
  clear hw2
  (with_reducible refine (K w2).mono ?_)
  rintro e w3 ⟨rfl, hb3⟩
  have hb4 := hb2.trans (hb3.mono hb2.size)
  clear hb2 hb3 K
  go_wp2_with fail
  go_ret
  exact ⟨rfl, hb4⟩
theorem itCheck_false (o sq tm : Nat) (ru : ByteArray) (Al : Option Addr) (nl cl : Nat) (ps : List Pr) (st pr : Nat) (va : Int) (ow go gf gt : Nat) (w : World) (hru : ru.size ≤ maxLen) (hrd : Rd w 2 (.slice Al nl cl) ps.length (pairCells ps)) (hpz : ∀ p ∈ ps, p.1.size ≤ maxLen ∧ p.2.size ≤ maxLen) :
    Calls Tryz.prog 35 #[.agg #[.bool false, .int .u8 o, .int .u64 sq, .int .u64 tm, .string ru, .slice Al nl cl, .int .u8 st, .int .u8 pr, .int .i64 va, .int .u8 ow, .int .u8 go, .int .u64 gf, .int .u64 gt]] w fun e w' => e = .returned (.int .i64 (chkE o sq tm ru ps st pr ow : Nat)) ∧ Below w.heap.size w w' := by
  have K : ∀ w', Below w.heap.size w w' → Calls Tryz.prog 63 #[.agg #[.int .u8 o, .int .u64 sq, .int .u64 tm, .string ru, .slice Al nl cl, .int .u8 st, .int .u8 pr, .int .i64 va, .int .u8 ow]] w' fun e w'' => e = .returned (.int .i64 (chkE o sq tm ru ps st pr ow : Nat)) ∧ Below w'.heap.size w' w'' := fun w' hb => itEvent o sq tm ru Al nl cl ps st pr va ow w' hru (hrd.below hb) hpz
  clear hru hrd hpz
  go_enter Tryz.func35, Tryz.ntmps35
  go_wp2_with fail
  refine calls_genP fun w2 hw2 => ?_
  have hb2 : Below w.heap.size w w2 := by rw [hw2]; exact (Below.refl _ _).alloc (Nat.le_refl _) _
  clear hw2
  (with_reducible refine (K w2 hb2).mono ?_)
  rintro e w3 ⟨rfl, hb3⟩
  have hb4 := hb2.trans (hb3.mono hb2.size)
  clear hb2 hb3 K
  go_wp2_with fail
  go_ret
  exact ⟨rfl, hb4⟩
theorem itCheck (a : ItV) (w : World) (h : a.ok w) : Calls Tryz.prog 35 #[itV a] w fun e w' => e = .returned (.int .i64 (chkIt a : Nat)) ∧ Below w.heap.size w w' := by
  have hrd := h.rd
  obtain ⟨A, c, hlv, _⟩ := h.rd
  rw [hlv] at hrd
  unfold itV
  rw [hlv]
  unfold chkIt chkEv
  cases a.gap
  · rw [if_neg Bool.false_ne_true]; exact itCheck_false a.o a.sq a.tm a.ru A a.ps.length c a.ps a.st a.pr a.va a.ow a.go a.gf a.gt w h.ru hrd h.pz
  · rw [if_pos rfl]; exact itCheck_true a.o a.sq a.tm a.ru A a.ps.length c a.st a.pr a.va a.ow a.go a.gf a.gt w
theorem itSpan_true (o sq tm : Nat) (ru : ByteArray) (Al : Option Addr) (nl cl st pr : Nat) (va : Int) (ow go gf gt : Nat) (w : World) :
    Calls Tryz.prog 36 #[.agg #[.bool true, .int .u8 o, .int .u64 sq, .int .u64 tm, .string ru, .slice Al nl cl, .int .u8 st, .int .u8 pr, .int .i64 va, .int .u8 ow, .int .u8 go, .int .u64 gf, .int .u64 gt]] w fun e w' => e = .returned (.tuple #[.int .u8 go, .int .u64 gf, .int .u64 gt]) ∧ Below w.heap.size w w' := by
  go_enter Tryz.func36, Tryz.ntmps36
  go_wp2_with fail
  go_region
  go_wp2_with fail
  go_ret3
  exact ⟨rfl, ((Below.refl _ _).alloc (Nat.le_refl _) _).drew⟩
theorem itSpan_false (o sq tm : Nat) (ru : ByteArray) (Al : Option Addr) (nl cl st pr : Nat) (va : Int) (ow go gf gt : Nat) (w : World) :
    Calls Tryz.prog 36 #[.agg #[.bool false, .int .u8 o, .int .u64 sq, .int .u64 tm, .string ru, .slice Al nl cl, .int .u8 st, .int .u8 pr, .int .i64 va, .int .u8 ow, .int .u8 go, .int .u64 gf, .int .u64 gt]] w fun e w' => e = .returned (.tuple #[.int .u8 o, .int .u64 sq, .int .u64 sq]) ∧ Below w.heap.size w w' := by
  go_enter Tryz.func36, Tryz.ntmps36
  go_wp2_with fail
  go_region
  go_wp2_with fail
  go_ret3
  exact ⟨rfl, ((Below.refl _ _).alloc (Nat.le_refl _) _).drew⟩
theorem itSpan (a : ItV) (w : World) (h : a.ok w) : Calls Tryz.prog 36 #[itV a] w fun e w' => e = .returned (.tuple #[.int .u8 (spanO a), .int .u64 (spanF a), .int .u64 (spanT a)]) ∧ Below w.heap.size w w' := by
  obtain ⟨A, c, hlv, _⟩ := h.rd
  unfold itV
  rw [hlv]
  unfold spanO spanF spanT
  cases a.gap
  · rw [if_neg Bool.false_ne_true, if_neg Bool.false_ne_true, if_neg Bool.false_ne_true]; exact itSpan_false a.o a.sq a.tm a.ru A a.ps.length c a.st a.pr a.va a.ow a.go a.gf a.gt w
  · rw [if_pos rfl, if_pos rfl, if_pos rfl]; exact itSpan_true a.o a.sq a.tm a.ru A a.ps.length c a.st a.pr a.va a.ow a.go a.gf a.gt w
theorem refSpan_true (o sq tm : Nat) (ru : ByteArray) (Al : Option Addr) (nl cl st pr : Nat) (va : Int) (ow go gf gt : Nat) (w : World) :
    Calls Tryz.prog 12 #[.agg #[.bool true, .int .u8 o, .int .u64 sq, .int .u64 tm, .string ru, .slice Al nl cl, .int .u8 st, .int .u8 pr, .int .i64 va, .int .u8 ow, .int .u8 go, .int .u64 gf, .int .u64 gt]] w fun e w' => e = .returned (.tuple #[.int .u8 go, .int .u64 gf, .int .u64 gt]) ∧ Below w.heap.size w w' := by
  go_enter Tryz.func12, Tryz.ntmps12
  go_wp2_with fail
  go_region
  go_wp2_with fail
  go_ret3
  exact ⟨rfl, ((Below.refl _ _).alloc (Nat.le_refl _) _).drew⟩
theorem refSpan_false (o sq tm : Nat) (ru : ByteArray) (Al : Option Addr) (nl cl st pr : Nat) (va : Int) (ow go gf gt : Nat) (w : World) :
    Calls Tryz.prog 12 #[.agg #[.bool false, .int .u8 o, .int .u64 sq, .int .u64 tm, .string ru, .slice Al nl cl, .int .u8 st, .int .u8 pr, .int .i64 va, .int .u8 ow, .int .u8 go, .int .u64 gf, .int .u64 gt]] w fun e w' => e = .returned (.tuple #[.int .u8 o, .int .u64 sq, .int .u64 sq]) ∧ Below w.heap.size w w' := by
  go_enter Tryz.func12, Tryz.ntmps12
  go_wp2_with fail
  go_region
  go_wp2_with fail
  go_ret3
  exact ⟨rfl, ((Below.refl _ _).alloc (Nat.le_refl _) _).drew⟩
theorem refSpan (a : ItV) (w : World) (h : a.ok w) : Calls Tryz.prog 12 #[itV a] w fun e w' => e = .returned (.tuple #[.int .u8 (spanO a), .int .u64 (spanF a), .int .u64 (spanT a)]) ∧ Below w.heap.size w w' := by
  obtain ⟨A, c, hlv, _⟩ := h.rd
  unfold itV
  rw [hlv]
  unfold spanO spanF spanT
  cases a.gap
  · rw [if_neg Bool.false_ne_true, if_neg Bool.false_ne_true, if_neg Bool.false_ne_true]; exact refSpan_false a.o a.sq a.tm a.ru A a.ps.length c a.st a.pr a.va a.ow a.go a.gf a.gt w
  · rw [if_pos rfl, if_pos rfl, if_pos rfl]; exact refSpan_true a.o a.sq a.tm a.ru A a.ps.length c a.st a.pr a.va a.ow a.go a.gf a.gt w
end Go.Proofs.YtdmdfccadjfpiaaGreat
namespace Go.Proofs.YtdmdfccadjfpiaaGreat
open Go.RowKit
set_option maxRecDepth 100000

theorem itemGap (o : Nat) (f t : Int) (w : World) : Calls Tryz.prog 13 #[.int .u8 o, .int .u64 f, .int .u64 t] w fun e w' => e = .returned (.agg #[.bool true, .int .u8 0, .int .u64 0, .int .u64 0, .string ⟨#[]⟩, .slice none 0 0, .int .u8 0, .int .u8 0, .int .i64 0, .int .u8 0, .int .u8 o, .int .u64 f, .int .u64 t]) ∧ Below w.heap.size w w' := by
  go_enter Tryz.func13, Tryz.ntmps13
  go_wp2_with fail
  refine bodyPost_gen fun w6 hw6 => ?_
  have hBo : Blk w6 (w.heap.size) #[.bool true, .int .u8 0, .int .u64 0, .int .u64 0, .string ⟨#[]⟩, .slice none 0 0, .int .u8 0, .int .u8 0, .int .i64 0, .int .u8 0, .int .u8 o, .int .u64 f, .int .u64 t] 36 := by rw [hw6]; exact Blk.new _ _ _
  have hb6 : Below w.heap.size w w6 := by rw [hw6]; exact (Below.refl _ _).alloc (Nat.le_refl _) _
  clear hw6
  have a0 := hBo.cell (j := 0) (v := .bool true) rfl
  have a1 := hBo.cell (j := 1) (v := .int .u8 0) rfl
  have a2 := hBo.cell (j := 2) (v := .int .u64 0) rfl
  have a3 := hBo.cell (j := 3) (v := .int .u64 0) rfl
  have a4 := hBo.cell (j := 4) (v := .string ⟨#[]⟩) rfl
  have a5 := hBo.cell (j := 5) (v := .slice none 0 0) rfl
  have a6 := hBo.cell (j := 6) (v := .int .u8 0) rfl
  have a7 := hBo.cell (j := 7) (v := .int .u8 0) rfl
  have a8 := hBo.cell (j := 8) (v := .int .i64 0) rfl
  have a9 := hBo.cell (j := 9) (v := .int .u8 0) rfl
  have a10 := hBo.cell (j := 10) (v := .int .u8 o) rfl
  have a11 := hBo.cell (j := 11) (v := .int .u64 f) rfl
  have a12 := hBo.cell (j := 12) (v := .int .u64 t) rfl
  clear hBo
  refine bodyPost_ret (v := .agg #[.bool true, .int .u8 0, .int .u64 0, .int .u64 0, .string ⟨#[]⟩, .slice none 0 0, .int .u8 0, .int .u8 0, .int .i64 0, .int .u8 0, .int .u8 o, .int .u64 f, .int .u64 t]) ?_ rfl ⟨rfl, hb6⟩
  simp [results, Tryz.results13, go_sem, a0, a1, a2, a3, a4, a5, a6, a7, a8, a9, a10, a11, a12]
set_option maxHeartbeats 400000 in
theorem itemOf (o sq tm : Int) (ru : ByteArray) (Al : Option Addr) (nl cl : Nat) (st pr va ow : Int) (w : World) : Calls Tryz.prog 33 #[.agg #[.int .u8 o, .int .u64 sq, .int .u64 tm, .string ru, .slice Al nl cl, .int .u8 st, .int .u8 pr, .int .i64 va, .int .u8 ow]] w fun e w' => e = .returned (.agg #[.bool false, .int .u8 o, .int .u64 sq, .int .u64 tm, .string ru, .slice Al nl cl, .int .u8 st, .int .u8 pr, .int .i64 va, .int .u8 ow, .int .u8 0, .int .u64 0, .int .u64 0]) ∧ Below w.heap.size w w' := by
  go_enter Tryz.func33, Tryz.ntmps33
  go_wp2_with fail
  refine bodyPost_gen fun w6 hw6 => ?_
  have hBo : Blk w6 (w.heap.size + 1) #[.bool false, .int .u8 o, .int .u64 sq, .int .u64 tm, .string ru, .slice Al nl cl, .int .u8 st, .int .u8 pr, .int .i64 va, .int .u8 ow, .int .u8 0, .int .u64 0, .int .u64 0] 36 := by rw [hw6]; have := Blk.new (w.alloc (.cells #[.int .u8 o, .int .u64 sq, .int .u64 tm, .string ru, .slice Al nl cl, .int .u8 st, .int .u8 pr, .int .i64 va, .int .u8 ow] 32)) #[.bool false, .int .u8 o, .int .u64 sq, .int .u64 tm, .string ru, .slice Al nl cl, .int .u8 st, .int .u8 pr, .int .i64 va, .int .u8 ow, .int .u8 0, .int .u64 0, .int .u64 0] 36; rwa [World.size_alloc] at this
  have hb6 : Below w.heap.size w w6 := by rw [hw6]; exact ((Below.refl _ _).alloc (Nat.le_refl _) _).alloc (by simp) _
  clear hw6
  have a0 := hBo.cell (j := 0) (v := .bool false) rfl
  have a1 := hBo.cell (j := 1) (v := .int .u8 o) rfl
  have a2 := hBo.cell (j := 2) (v := .int .u64 sq) rfl
  have a3 := hBo.cell (j := 3) (v := .int .u64 tm) rfl
  have a4 := hBo.cell (j := 4) (v := .string ru) rfl
  have a5 := hBo.cell (j := 5) (v := .slice Al nl cl) rfl
  have a6 := hBo.cell (j := 6) (v := .int .u8 st) rfl
  have a7 := hBo.cell (j := 7) (v := .int .u8 pr) rfl
  have a8 := hBo.cell (j := 8) (v := .int .i64 va) rfl
  have a9 := hBo.cell (j := 9) (v := .int .u8 ow) rfl
  have a10 := hBo.cell (j := 10) (v := .int .u8 0) rfl
  have a11 := hBo.cell (j := 11) (v := .int .u64 0) rfl
  have a12 := hBo.cell (j := 12) (v := .int .u64 0) rfl
  clear hBo
  refine bodyPost_ret (v := .agg #[.bool false, .int .u8 o, .int .u64 sq, .int .u64 tm, .string ru, .slice Al nl cl, .int .u8 st, .int .u8 pr, .int .i64 va, .int .u8 ow, .int .u8 0, .int .u64 0, .int .u64 0]) ?_ rfl ⟨rfl, hb6⟩
  simp [results, Tryz.results33, go_sem, a0, a1, a2, a3, a4, a5, a6, a7, a8, a9, a10, a11, a12]
end Go.Proofs.YtdmdfccadjfpiaaGreat
