/-
  item.Trim.
-/
import Derived.Test.YtdmdfccadjfpiaaGreatItT
namespace Go.Proofs.YtdmdfccadjfpiaaGreat
open Go.RowKit
set_option maxRecDepth 100000

set_option maxHeartbeats 1000000 in
theorem itTrimAll (gap : Bool) (o sq tm : Nat) (ru : ByteArray) (Al : Option Addr) (nl cl st pr : Nat) (va : Int) (ow go gf gt : Nat) (above so sf sto : Nat) (w : World) (h1 : above < sto) (_h3 : sto < 18446744073709551616) (h2 : above < sf) (K : ∀ w', Below w.heap.size w w' → Calls Tryz.prog 36 #[.agg #[.bool gap, .int .u8 o, .int .u64 sq, .int .u64 tm, .string ru, .slice Al nl cl, .int .u8 st, .int .u8 pr, .int .i64 va, .int .u8 ow, .int .u8 go, .int .u64 gf, .int .u64 gt]] w' fun e w'' => e = .returned (.tuple #[.int .u8 so, .int .u64 sf, .int .u64 sto]) ∧ Below w'.heap.size w' w'') :
    Calls Tryz.prog 64 #[.agg #[.bool gap, .int .u8 o, .int .u64 sq, .int .u64 tm, .string ru, .slice Al nl cl, .int .u8 st, .int .u8 pr, .int .i64 va, .int .u8 ow, .int .u8 go, .int .u64 gf, .int .u64 gt], .int .u64 above] w fun e w' => e = .returned (.tuple #[.agg #[.bool gap, .int .u8 o, .int .u64 sq, .int .u64 tm, .string ru, .slice Al nl cl, .int .u8 st, .int .u8 pr, .int .i64 va, .int .u8 ow, .int .u8 go, .int .u64 gf, .int .u64 gt], .bool true]) ∧ Below w.heap.size w w' := by
  have d1 : decide (sto ≤ above) = false := by simp; omega
  have d2 : decide (above < sf) = true := by simp; omega
  clear h1 h2
  go_enter Tryz.func64, Tryz.ntmps64
  go_wp2_with fail
  refine calls_genP fun w2 hw2 => ?_
  have U2 := (((Upd.nil [] w).alloc #[.bool gap, .int .u8 o, .int .u64 sq, .int .u64 tm, .string ru, .slice Al nl cl, .int .u8 st, .int .u8 pr, .int .i64 va, .int .u8 ow, .int .u8 go, .int .u64 gf, .int .u64 gt] 36).alloc #[.bool false, .int .u8 0, .int .u64 0, .int .u64 0, .string ⟨#[]⟩, .slice none 0 0, .int .u8 0, .int .u8 0, .int .i64 0, .int .u8 0, .int .u8 0, .int .u64 0, .int .u64 0] 36).same hw2
  simp only [World.size_alloc] at U2
  clear hw2
  (with_reducible refine (K w2 U2.below).mono ?_)
  rintro e w3 ⟨rfl, hb3⟩
  have U3 := U2.grow hb3
  clear U2 hb3 K
  have e0 := (U3.blk 1 rfl).cell (j := 0) (v := .bool gap) rfl
  have e1 := (U3.blk 1 rfl).cell (j := 1) (v := .int .u8 o) rfl
  have e2 := (U3.blk 1 rfl).cell (j := 2) (v := .int .u64 sq) rfl
  have e3 := (U3.blk 1 rfl).cell (j := 3) (v := .int .u64 tm) rfl
  have e4 := (U3.blk 1 rfl).cell (j := 4) (v := .string ru) rfl
  have e5 := (U3.blk 1 rfl).cell (j := 5) (v := .slice Al nl cl) rfl
  have e6 := (U3.blk 1 rfl).cell (j := 6) (v := .int .u8 st) rfl
  have e7 := (U3.blk 1 rfl).cell (j := 7) (v := .int .u8 pr) rfl
  have e8 := (U3.blk 1 rfl).cell (j := 8) (v := .int .i64 va) rfl
  have e9 := (U3.blk 1 rfl).cell (j := 9) (v := .int .u8 ow) rfl
  have e10 := (U3.blk 1 rfl).cell (j := 10) (v := .int .u8 go) rfl
  have e11 := (U3.blk 1 rfl).cell (j := 11) (v := .int .u64 gf) rfl
  have e12 := (U3.blk 1 rfl).cell (j := 12) (v := .int .u64 gt) rfl
  have z0 := (U3.blk 0 rfl).cell (j := 0) (v := .bool false) rfl
  have z1 := (U3.blk 0 rfl).cell (j := 1) (v := .int .u8 0) rfl
  have z2 := (U3.blk 0 rfl).cell (j := 2) (v := .int .u64 0) rfl
  have z3 := (U3.blk 0 rfl).cell (j := 3) (v := .int .u64 0) rfl
  have z4 := (U3.blk 0 rfl).cell (j := 4) (v := .string ⟨#[]⟩) rfl
  have z5 := (U3.blk 0 rfl).cell (j := 5) (v := .slice none 0 0) rfl
  have z6 := (U3.blk 0 rfl).cell (j := 6) (v := .int .u8 0) rfl
  have z7 := (U3.blk 0 rfl).cell (j := 7) (v := .int .u8 0) rfl
  have z8 := (U3.blk 0 rfl).cell (j := 8) (v := .int .i64 0) rfl
  have z9 := (U3.blk 0 rfl).cell (j := 9) (v := .int .u8 0) rfl
  have z10 := (U3.blk 0 rfl).cell (j := 10) (v := .int .u8 0) rfl
  have z11 := (U3.blk 0 rfl).cell (j := 11) (v := .int .u64 0) rfl
  have z12 := (U3.blk 0 rfl).cell (j := 12) (v := .int .u64 0) rfl
  have zf := (U3.blk 0 rfl).frozen
  go_wp2_with fail
  refine bodyPost_gen fun w6 hw6 => ?_
  have U4 := ((((((((((((((U3.put 0 rfl 0 (.bool gap)).put 0 rfl 1 (.int .u8 o)).put 0 rfl 2 (.int .u64 sq)).put 0 rfl 3 (.int .u64 tm)).put 0 rfl 4 (.string ru)).put 0 rfl 5 (.slice Al nl cl)).put 0 rfl 6 (.int .u8 st)).put 0 rfl 7 (.int .u8 pr)).put 0 rfl 8 (.int .i64 va)).put 0 rfl 9 (.int .u8 ow)).put 0 rfl 10 (.int .u8 go)).put 0 rfl 11 (.int .u64 gf)).put 0 rfl 12 (.int .u64 gt))).same hw6
  simp only [List.setIfInBounds_toArray, List.set_cons_succ, List.set_cons_zero, List.eraseIdx_cons_zero] at U4
  clear hw6 U3
  have a0 := (U4.blk 0 rfl).cell (j := 0) (v := .bool gap) rfl
  have a1 := (U4.blk 0 rfl).cell (j := 1) (v := .int .u8 o) rfl
  have a2 := (U4.blk 0 rfl).cell (j := 2) (v := .int .u64 sq) rfl
  have a3 := (U4.blk 0 rfl).cell (j := 3) (v := .int .u64 tm) rfl
  have a4 := (U4.blk 0 rfl).cell (j := 4) (v := .string ru) rfl
  have a5 := (U4.blk 0 rfl).cell (j := 5) (v := .slice Al nl cl) rfl
  have a6 := (U4.blk 0 rfl).cell (j := 6) (v := .int .u8 st) rfl
  have a7 := (U4.blk 0 rfl).cell (j := 7) (v := .int .u8 pr) rfl
  have a8 := (U4.blk 0 rfl).cell (j := 8) (v := .int .i64 va) rfl
  have a9 := (U4.blk 0 rfl).cell (j := 9) (v := .int .u8 ow) rfl
  have a10 := (U4.blk 0 rfl).cell (j := 10) (v := .int .u8 go) rfl
  have a11 := (U4.blk 0 rfl).cell (j := 11) (v := .int .u64 gf) rfl
  have a12 := (U4.blk 0 rfl).cell (j := 12) (v := .int .u64 gt) rfl
  refine bodyPost_ret (v := .tuple #[.agg #[.bool gap, .int .u8 o, .int .u64 sq, .int .u64 tm, .string ru, .slice Al nl cl, .int .u8 st, .int .u8 pr, .int .i64 va, .int .u8 ow, .int .u8 go, .int .u64 gf, .int .u64 gt], .bool true]) ?_ rfl ⟨rfl, U4.below⟩
  simp [results, Tryz.results64, go_sem, a0, a1, a2, a3, a4, a5, a6, a7, a8, a9, a10, a11, a12]
set_option maxHeartbeats 1000000 in
theorem itTrimCut (gap : Bool) (o sq tm : Nat) (ru : ByteArray) (Al : Option Addr) (nl cl st pr : Nat) (va : Int) (ow go gf gt : Nat) (above so sf sto : Nat) (w : World) (h1 : above < sto) (h3 : sto < 18446744073709551616) (h2 : sf ≤ above) (K : ∀ w', Below w.heap.size w w' → Calls Tryz.prog 36 #[.agg #[.bool gap, .int .u8 o, .int .u64 sq, .int .u64 tm, .string ru, .slice Al nl cl, .int .u8 st, .int .u8 pr, .int .i64 va, .int .u8 ow, .int .u8 go, .int .u64 gf, .int .u64 gt]] w' fun e w'' => e = .returned (.tuple #[.int .u8 so, .int .u64 sf, .int .u64 sto]) ∧ Below w'.heap.size w' w'') :
    Calls Tryz.prog 64 #[.agg #[.bool gap, .int .u8 o, .int .u64 sq, .int .u64 tm, .string ru, .slice Al nl cl, .int .u8 st, .int .u8 pr, .int .i64 va, .int .u8 ow, .int .u8 go, .int .u64 gf, .int .u64 gt], .int .u64 above] w fun e w' => e = .returned (.tuple #[.agg #[.bool gap, .int .u8 o, .int .u64 sq, .int .u64 tm, .string ru, .slice Al nl cl, .int .u8 st, .int .u8 pr, .int .i64 va, .int .u8 ow, .int .u8 go, .int .u64 (above + 1 : Nat), .int .u64 gt], .bool true]) ∧ Below w.heap.size w w' := by
  have d1 : decide (sto ≤ above) = false := by simp; omega
  have d2 : decide (above < sf) = false := by simp; omega
  have d3 : IntKind.u64.wrap ((above : Int) + 1) = ((above + 1 : Nat) : Int) := by rw [IntKind.wrap_u64]; omega
  clear h1 h2 h3
  go_enter Tryz.func64, Tryz.ntmps64
  go_wp2_with fail
  refine calls_genP fun w2 hw2 => ?_
  have U2 := (((Upd.nil [] w).alloc #[.bool gap, .int .u8 o, .int .u64 sq, .int .u64 tm, .string ru, .slice Al nl cl, .int .u8 st, .int .u8 pr, .int .i64 va, .int .u8 ow, .int .u8 go, .int .u64 gf, .int .u64 gt] 36).alloc #[.bool false, .int .u8 0, .int .u64 0, .int .u64 0, .string ⟨#[]⟩, .slice none 0 0, .int .u8 0, .int .u8 0, .int .i64 0, .int .u8 0, .int .u8 0, .int .u64 0, .int .u64 0] 36).same hw2
  simp only [World.size_alloc] at U2
  clear hw2
  (with_reducible refine (K w2 U2.below).mono ?_)
  rintro e w3 ⟨rfl, hb3⟩
  have U3 := U2.grow hb3
  clear U2 hb3 K
  have e0 := (U3.blk 1 rfl).cell (j := 0) (v := .bool gap) rfl
  have e1 := (U3.blk 1 rfl).cell (j := 1) (v := .int .u8 o) rfl
  have e2 := (U3.blk 1 rfl).cell (j := 2) (v := .int .u64 sq) rfl
  have e3 := (U3.blk 1 rfl).cell (j := 3) (v := .int .u64 tm) rfl
  have e4 := (U3.blk 1 rfl).cell (j := 4) (v := .string ru) rfl
  have e5 := (U3.blk 1 rfl).cell (j := 5) (v := .slice Al nl cl) rfl
  have e6 := (U3.blk 1 rfl).cell (j := 6) (v := .int .u8 st) rfl
  have e7 := (U3.blk 1 rfl).cell (j := 7) (v := .int .u8 pr) rfl
  have e8 := (U3.blk 1 rfl).cell (j := 8) (v := .int .i64 va) rfl
  have e9 := (U3.blk 1 rfl).cell (j := 9) (v := .int .u8 ow) rfl
  have e10 := (U3.blk 1 rfl).cell (j := 10) (v := .int .u8 go) rfl
  have e11 := (U3.blk 1 rfl).cell (j := 11) (v := .int .u64 gf) rfl
  have e12 := (U3.blk 1 rfl).cell (j := 12) (v := .int .u64 gt) rfl
  have ef := (U3.blk 1 rfl).frozen
  have z0 := (U3.blk 0 rfl).cell (j := 0) (v := .bool false) rfl
  have z1 := (U3.blk 0 rfl).cell (j := 1) (v := .int .u8 0) rfl
  have z2 := (U3.blk 0 rfl).cell (j := 2) (v := .int .u64 0) rfl
  have z3 := (U3.blk 0 rfl).cell (j := 3) (v := .int .u64 0) rfl
  have z4 := (U3.blk 0 rfl).cell (j := 4) (v := .string ⟨#[]⟩) rfl
  have z5 := (U3.blk 0 rfl).cell (j := 5) (v := .slice none 0 0) rfl
  have z6 := (U3.blk 0 rfl).cell (j := 6) (v := .int .u8 0) rfl
  have z7 := (U3.blk 0 rfl).cell (j := 7) (v := .int .u8 0) rfl
  have z8 := (U3.blk 0 rfl).cell (j := 8) (v := .int .i64 0) rfl
  have z9 := (U3.blk 0 rfl).cell (j := 9) (v := .int .u8 0) rfl
  have z10 := (U3.blk 0 rfl).cell (j := 10) (v := .int .u8 0) rfl
  have z11 := (U3.blk 0 rfl).cell (j := 11) (v := .int .u64 0) rfl
  have z12 := (U3.blk 0 rfl).cell (j := 12) (v := .int .u64 0) rfl
  have zf := (U3.blk 0 rfl).frozen
  go_wp2_with fail
  refine bodyPost_gen fun w6 hw6 => ?_
  have U4 := (((((((((((((((U3.put 1 rfl 11 (.int .u64 (above + 1 : Nat))).put 1 rfl 0 (.bool gap)).put 0 rfl 1 (.int .u8 o)).put 0 rfl 2 (.int .u64 sq)).put 0 rfl 3 (.int .u64 tm)).put 0 rfl 4 (.string ru)).put 0 rfl 5 (.slice Al nl cl)).put 0 rfl 6 (.int .u8 st)).put 0 rfl 7 (.int .u8 pr)).put 0 rfl 8 (.int .i64 va)).put 0 rfl 9 (.int .u8 ow)).put 0 rfl 10 (.int .u8 go)).put 0 rfl 11 (.int .u64 (above + 1 : Nat))).put 0 rfl 12 (.int .u64 gt))).same hw6
  simp only [List.setIfInBounds_toArray, List.set_cons_succ, List.set_cons_zero, List.eraseIdx_cons_succ, List.eraseIdx_cons_zero] at U4
  clear hw6 U3
  have a0 := (U4.blk 0 rfl).cell (j := 0) (v := .bool gap) rfl
  have a1 := (U4.blk 0 rfl).cell (j := 1) (v := .int .u8 o) rfl
  have a2 := (U4.blk 0 rfl).cell (j := 2) (v := .int .u64 sq) rfl
  have a3 := (U4.blk 0 rfl).cell (j := 3) (v := .int .u64 tm) rfl
  have a4 := (U4.blk 0 rfl).cell (j := 4) (v := .string ru) rfl
  have a5 := (U4.blk 0 rfl).cell (j := 5) (v := .slice Al nl cl) rfl
  have a6 := (U4.blk 0 rfl).cell (j := 6) (v := .int .u8 st) rfl
  have a7 := (U4.blk 0 rfl).cell (j := 7) (v := .int .u8 pr) rfl
  have a8 := (U4.blk 0 rfl).cell (j := 8) (v := .int .i64 va) rfl
  have a9 := (U4.blk 0 rfl).cell (j := 9) (v := .int .u8 ow) rfl
  have a10 := (U4.blk 0 rfl).cell (j := 10) (v := .int .u8 go) rfl
  have a11 := (U4.blk 0 rfl).cell (j := 11) (v := .int .u64 (above + 1 : Nat)) rfl
  have a12 := (U4.blk 0 rfl).cell (j := 12) (v := .int .u64 gt) rfl
  refine bodyPost_ret (v := .tuple #[.agg #[.bool gap, .int .u8 o, .int .u64 sq, .int .u64 tm, .string ru, .slice Al nl cl, .int .u8 st, .int .u8 pr, .int .i64 va, .int .u8 ow, .int .u8 go, .int .u64 (above + 1 : Nat), .int .u64 gt], .bool true]) ?_ rfl ⟨rfl, U4.below⟩
  simp [results, Tryz.results64, go_sem, a0, a1, a2, a3, a4, a5, a6, a7, a8, a9, a10, a11, a12]
end Go.Proofs.YtdmdfccadjfpiaaGreat
