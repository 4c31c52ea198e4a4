/-
  The reference's Find. No tree, no such node: Node, Find, Text, New of none.
-/
import Derived.Test.YteiocplfmjkbkaaGreatDoorRtZ
import Derived.Test.YteiocplfmjkbkaaGreatDoorRtR
namespace Go.Proofs.YteiocplfmjkbkaaGreatDoor
open Go.RowKit
set_option maxRecDepth 100000

set_option maxHeartbeats 4000000 in
/-- (*Tree).Node of a place that there isn't: p, a tree of so many nodes or none. -/
theorem tNodeNo (p : Value) (nl : Nat) (z : Int) (w : World) (hp : ∃ q, p = .pointer q) (hL : ∀ w', Below w.heap.size w w' → Calls Tryz.prog 18 #[p] w' fun e w2 => e = .returned (.int .i64 (nl : Nat)) ∧ w2 = w') (hz : z < 0 ∨ (nl : Int) ≤ z) :
    Calls Tryz.prog 13 #[p, .int .i64 z] w fun e w' => e = .returned (.tuple #[.agg #[.slice none 0 0, .string ⟨#[]⟩, .slice none 0 0, .int .u64 0, .int .u64 0, .int .u64 0, .bool false, .int .i64 0], .bool false]) ∧ Below w.heap.size w w' := by
  obtain ⟨q, rfl⟩ := hp
  have U0 := (Upd.nil [] w).alloc #[.slice none 0 0, .string ⟨#[]⟩, .slice none 0 0, .int .u64 0, .int .u64 0, .int .u64 0, .bool false, .int .i64 0] 50
  by_cases h0 : z < 0
  · have d0 : decide (z < 0) = true := decide_eq_true h0
    have z0 := (U0.blk 0 rfl).cell (j := 0) rfl
    have z1 := (U0.blk 0 rfl).cell (j := 1) rfl
    have z2 := (U0.blk 0 rfl).cell (j := 2) rfl
    have z3 := (U0.blk 0 rfl).cell (j := 3) rfl
    have z4 := (U0.blk 0 rfl).cell (j := 4) rfl
    have z5 := (U0.blk 0 rfl).cell (j := 5) rfl
    have z6 := (U0.blk 0 rfl).cell (j := 6) rfl
    have z7 := (U0.blk 0 rfl).cell (j := 7) rfl
    have zf := (U0.blk 0 rfl).frozen
    clear hL hz
    go_enter Tryz.func13, Tryz.ntmps13
    go_wp2_with fail
    refine bodyPost_gen fun w4 hw4 => ?_
    have V := U0.same hw4
    have a0 := (V.blk 0 rfl).cell (j := 0) rfl
    have a1 := (V.blk 0 rfl).cell (j := 1) rfl
    have a2 := (V.blk 0 rfl).cell (j := 2) rfl
    have a3 := (V.blk 0 rfl).cell (j := 3) rfl
    have a4 := (V.blk 0 rfl).cell (j := 4) rfl
    have a5 := (V.blk 0 rfl).cell (j := 5) rfl
    have a6 := (V.blk 0 rfl).cell (j := 6) rfl
    have a7 := (V.blk 0 rfl).cell (j := 7) rfl
    refine bodyPost_ret (v := .tuple #[.agg #[.slice none 0 0, .string ⟨#[]⟩, .slice none 0 0, .int .u64 0, .int .u64 0, .int .u64 0, .bool false, .int .i64 0], .bool false]) ?_ rfl ⟨rfl, V.below⟩
    simp [results, Tryz.results13, go_sem, a0, a1, a2, a3, a4, a5, a6, a7]
  · have d0 : decide (z < 0) = false := decide_eq_false h0
    have d1 : decide ((nl : Int) ≤ z) = true := decide_eq_true (by omega)
    clear hz
    go_enter Tryz.func13, Tryz.ntmps13
    go_wp2_with fail
    refine calls_genP fun w1 hw1 => ?_
    have U1 := U0.same hw1
    clear hw1 U0
    (with_reducible refine (hL _ U1.below).mono ?_)
    rintro e w2 ⟨rfl, rfl⟩
    have z0 := (U1.blk 0 rfl).cell (j := 0) rfl
    have z1 := (U1.blk 0 rfl).cell (j := 1) rfl
    have z2 := (U1.blk 0 rfl).cell (j := 2) rfl
    have z3 := (U1.blk 0 rfl).cell (j := 3) rfl
    have z4 := (U1.blk 0 rfl).cell (j := 4) rfl
    have z5 := (U1.blk 0 rfl).cell (j := 5) rfl
    have z6 := (U1.blk 0 rfl).cell (j := 6) rfl
    have z7 := (U1.blk 0 rfl).cell (j := 7) rfl
    have zf := (U1.blk 0 rfl).frozen
    go_wp2_with fail
    refine bodyPost_gen fun w4 hw4 => ?_
    have V := ((((((((U1.put 0 rfl 0 (.slice none 0 0)).put 0 rfl 1 (.string ⟨#[]⟩)).put 0 rfl 2 (.slice none 0 0)).put 0 rfl 3 (.int .u64 0)).put 0 rfl 4 (.int .u64 0)).put 0 rfl 5 (.int .u64 0)).put 0 rfl 6 (.bool false)).put 0 rfl 7 (.int .i64 0)).same hw4
    simp only [List.setIfInBounds_toArray, List.set_cons_succ, List.set_cons_zero, List.eraseIdx_cons_zero] at V
    have a0 := (V.blk 0 rfl).cell (j := 0) rfl
    have a1 := (V.blk 0 rfl).cell (j := 1) rfl
    have a2 := (V.blk 0 rfl).cell (j := 2) rfl
    have a3 := (V.blk 0 rfl).cell (j := 3) rfl
    have a4 := (V.blk 0 rfl).cell (j := 4) rfl
    have a5 := (V.blk 0 rfl).cell (j := 5) rfl
    have a6 := (V.blk 0 rfl).cell (j := 6) rfl
    have a7 := (V.blk 0 rfl).cell (j := 7) rfl
    refine bodyPost_ret (v := .tuple #[.agg #[.slice none 0 0, .string ⟨#[]⟩, .slice none 0 0, .int .u64 0, .int .u64 0, .int .u64 0, .bool false, .int .i64 0], .bool false]) ?_ rfl ⟨rfl, V.below⟩
    simp [results, Tryz.results13, go_sem, a0, a1, a2, a3, a4, a5, a6, a7]
/-- (*Tree).Text of a place that there isn't. -/
theorem tTextNo (p : Value) (nl : Nat) (z : Int) (w : World) (hp : ∃ q, p = .pointer q) (hL : ∀ w', Below w.heap.size w w' → Calls Tryz.prog 18 #[p] w' fun e w2 => e = .returned (.int .i64 (nl : Nat)) ∧ w2 = w') (hz : z < 0 ∨ (nl : Int) ≤ z) :
    Calls Tryz.prog 19 #[p, .int .i64 z] w fun e w' => e = .returned (.string ⟨#[]⟩) ∧ Below w.heap.size w w' := by
  have KN := tNodeNo p nl z w hp hL hz
  obtain ⟨q, rfl⟩ := hp
  clear hL hz
  go_enter Tryz.func19, Tryz.ntmps19
  go_wp2_with fail
  (with_reducible refine KN.mono ?_)
  rintro e w1 ⟨rfl, hb1⟩
  have U1 := ((Upd.nil [] w).grow hb1).alloc #[.slice none 0 0, .string ⟨#[]⟩, .slice none 0 0, .int .u64 0, .int .u64 0, .int .u64 0, .bool false, .int .i64 0] 50
  go_wp2_with fail
  go_ret
  exact ⟨rfl, U1.below⟩
end Go.Proofs.YteiocplfmjkbkaaGreatDoor
namespace Go.Proofs.YteiocplfmjkbkaaGreatDoor
open Go.RowKit
set_option maxRecDepth 100000
attribute [local go_sem] FreeSl.out

def AsksFit2 (ns : List RNV) : Prop := ∀ n ∈ ns, ∀ a ∈ n.p.asks, 1 ≤ a.2.1 ∧ a.2.1 ≤ 5
end Go.Proofs.YteiocplfmjkbkaaGreatDoor
