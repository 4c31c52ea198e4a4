/-
  Rules compared; whether a rule asks of a series; an alert's labels.
-/
import Derived.Test.YtgpojkofegajeaaGreatDoorRuC
import Derived.Test.YtgpojkofegajeaaGreatDoorMg28
import Derived.Test.YtgpojkofegajeaaGreatDoorLHas
import Derived.Test.YtgpojkofegajeaaGreatDoorLMrg
import Derived.RegionTactic
import Derived.BigRegion
import Derived.Laws.StructEq
import Derived.Deep.CutRange
namespace Go.Proofs.YtgpojkofegajeaaGreatDoor
open Go.RowKit
set_option maxRecDepth 100000

theorem ruAsks (nm me : ByteArray) (A1 : Option Addr) (q1 : Nat) (ps1 : List Pr) (k : Nat) (lim : Int) (tk fo ke pr : Nat) (A2 : Option Addr) (q2 : Nat) (ps2 : List Pr) (met : ByteArray) (vl : Value) (l : List Pr) (w : World) (hr1 : Rd w 2 (.slice A1 ps1.length q1) ps1.length (pairCells ps1)) (hl : Rd w 2 vl l.length (pairCells l)) :
    Calls Tryz.prog 29 #[.agg #[.string nm, .string me, .slice A1 ps1.length q1, .int .u8 k, .int .i64 lim, .int .u64 tk, .int .u64 fo, .int .u64 ke, .int .u8 pr, .slice A2 ps2.length q2], .string met, vl] w fun e w' => e = .returned (.bool (decide (me = met) && hasL l ps1)) ∧ Below w.heap.size w w' := by
  obtain ⟨Al, cl, rfl, _⟩ := id hl
  have U0 := (Upd.nil [] w).alloc #[.string nm, .string me, .slice A1 ps1.length q1, .int .u8 k, .int .i64 lim, .int .u64 tk, .int .u64 fo, .int .u64 ke, .int .u8 pr, .slice A2 ps2.length q2] 32
  have KH := fun w' (hb : Below w.heap.size w w') => lHas _ _ l ps1 w' (hl.below hb) (hr1.below hb)
  obtain ⟨b1, h1⟩ : ∃ b, b = decide (me = met) := ⟨_, rfl⟩
  obtain ⟨b2, h2⟩ : ∃ b, b = hasL l ps1 := ⟨_, rfl⟩
  rw [← h1, ← h2]
  rw [← h2] at KH
  have E1 : (me == met) = b1 := by rw [beqS, h1]
  have T1 : (me.toList == met.toList) = b1 := by rw [eqS_eq, h1]
  clear h1 h2 hr1 hl
  go_enter Tryz.func29, Tryz.ntmps29
  go_upto_region 1 with fail
  refine wp_gen fun W1 hW => ?_
  have U1 := U0.same hW
  clear hW U0
  have c1 := (U1.blk 0 rfl).cell (j := 1) (v := .string me) rfl
  have c2 := (U1.blk 0 rfl).cell (j := 2) (v := .slice A1 ps1.length q1) rfl
  cases b1 with
  | false =>
    go_wp2_with fail
    go_ret
    exact ⟨rfl, U1.below⟩
  | true =>
    have K := KH _ U1.below
    go_wp2_with fail
    (with_reducible refine K.mono ?_)
    rintro e w2 ⟨rfl, hb2⟩
    have U2 := U1.grow hb2
    go_wp2_with fail
    go_ret
    exact ⟨by simp, U2.below⟩
theorem ruLabels (nm me : ByteArray) (A1 : Option Addr) (q1 : Nat) (ps1 : List Pr) (k : Nat) (lim : Int) (tk fo ke pr : Nat) (A2 : Option Addr) (q2 : Nat) (ps2 : List Pr) (vl : Value) (l : List Pr) (w : World) (hr2 : Rd w 2 (.slice A2 ps2.length q2) ps2.length (pairCells ps2)) (hl : Rd w 2 vl l.length (pairCells l)) (hz : ∀ p ∈ l, p.1.size ≤ maxLen ∧ p.2.size ≤ maxLen) (hz2 : ∀ p ∈ ps2, p.1.size ≤ maxLen ∧ p.2.size ≤ maxLen) (hlen : ps2.length + l.length ≤ 1048576) :
    Calls Tryz.prog 30 #[.agg #[.string nm, .string me, .slice A1 ps1.length q1, .int .u8 k, .int .i64 lim, .int .u64 tk, .int .u64 fo, .int .u64 ke, .int .u8 pr, .slice A2 ps2.length q2], vl] w fun e w' => ∃ v', e = .returned (.tuple #[v', .int .i64 (chkL (sortL (mergeIn l ps2)) : Nat)]) ∧ w'.ownsRow w.heap.size 92 2 v' (makeL (mergeIn l ps2)).length (pairCells (makeL (mergeIn l ps2))) ∧ Below w.heap.size w w' := by
  obtain ⟨Al, cl, rfl, _⟩ := id hl
  have U0 := (Upd.nil [] w).alloc #[.string nm, .string me, .slice A1 ps1.length q1, .int .u8 k, .int .i64 lim, .int .u64 tk, .int .u64 fo, .int .u64 ke, .int .u8 pr, .slice A2 ps2.length q2] 32
  have KM := fun w' (hb : Below w.heap.size w w') => lMerge _ _ l ps2 w' (hl.below hb) (hr2.below hb) hz hz2 hlen
  obtain ⟨m, hm⟩ : ∃ m, m = makeL (mergeIn l ps2) := ⟨_, rfl⟩
  obtain ⟨c, hc⟩ : ∃ c, c = chkL (sortL (mergeIn l ps2)) := ⟨_, rfl⟩
  rw [← hm, ← hc]
  rw [← hm, ← hc] at KM
  clear hm hc hr2 hl hz hz2 hlen
  go_enter Tryz.func30, Tryz.ntmps30
  go_upto_region 1 with fail
  refine wp_gen fun W1 hW => ?_
  have U1 := U0.same hW
  clear hW U0
  have c9 := (U1.blk 0 rfl).cell (j := 9) (v := .slice A2 ps2.length q2) rfl
  have K := KM _ U1.below
  go_wp2_with fail
  (with_reducible refine K.mono ?_)
  rintro e w2 ⟨v, rfl, ho, hb2⟩
  have U2 := U1.grow hb2
  have ho2 := owns_mono ho U1.size
  clear K KM hb2 ho
  go_wp2_with fail
  go_ret2
  exact ⟨v, rfl, ho2, U2.below⟩
end Go.Proofs.YtgpojkofegajeaaGreatDoor
