/-
  item.Gap, item.Of, item.Trim.
-/
import Derived.Test.YtdmdfccadjfpiaaGreatIt
namespace Go.Proofs.YtdmdfccadjfpiaaGreat
open Go.RowKit
set_option maxRecDepth 100000

theorem itemGap (o : Nat) (f t : Int) (w : World) : Calls Tryz.prog 13 #[.int .u8 o, .int .u64 f, .int .u64 t] w fun e w' => e = .returned (.agg #[.bool true, .int .u8 0, .int .u64 0, .int .u64 0, .string ⟨#[]⟩, .slice none 0 0, .int .u8 0, .int .u8 0, .int .i64 0, .int .u8 0, .int .u8 o, .int .u64 f, .int .u64 t]) ∧ Below w.heap.size w w' := by
  go_enter Tryz.func13, Tryz.ntmps13
  go_wp2_with fail
  refine bodyPost_gen fun w6 hw6 => ?_
  have hBo : Blk w6 (w.heap.size) #[.bool true, .int .u8 0, .int .u64 0, .int .u64 0, .string ⟨#[]⟩, .slice none 0 0, .int .u8 0, .int .u8 0, .int .i64 0, .int .u8 0, .int .u8 o, .int .u64 f, .int .u64 t] 36 := by rw [hw6]; exact Blk.new _ _ _
  have hb6 : Below w.heap.size w w6 := by rw [hw6]; exact (Below.refl _ _).alloc (Nat.le_refl _) _
  clear hw6
  have a0 := hBo.cell (j := 0) (v := .bool true) rfl
  have a1 := hBo.cell (j := 1) (v := .int .u8 0) rfl
  have a2 := hBo.cell (j := 2) (v := .int .u64 0) rfl
  have a3 := hBo.cell (j := 3) (v := .int .u64 0) rfl
  have a4 := hBo.cell (j := 4) (v := .string ⟨#[]⟩) rfl
  have a5 := hBo.cell (j := 5) (v := .slice none 0 0) rfl
  have a6 := hBo.cell (j := 6) (v := .int .u8 0) rfl
  have a7 := hBo.cell (j := 7) (v := .int .u8 0) rfl
  have a8 := hBo.cell (j := 8) (v := .int .i64 0) rfl
  have a9 := hBo.cell (j := 9) (v := .int .u8 0) rfl
  have a10 := hBo.cell (j := 10) (v := .int .u8 o) rfl
  have a11 := hBo.cell (j := 11) (v := .int .u64 f) rfl
  have a12 := hBo.cell (j := 12) (v := .int .u64 t) rfl
  clear hBo
  refine bodyPost_ret (v := .agg #[.bool true, .int .u8 0, .int .u64 0, .int .u64 0, .string ⟨#[]⟩, .slice none 0 0, .int .u8 0, .int .u8 0, .int .i64 0, .int .u8 0, .int .u8 o, .int .u64 f, .int .u64 t]) ?_ rfl ⟨rfl, hb6⟩
  simp [results, Tryz.results13, go_sem, a0, a1, a2, a3, a4, a5, a6, a7, a8, a9, a10, a11, a12]
set_option maxHeartbeats 400000 in
theorem itemOf (o sq tm : Int) (ru : ByteArray) (Al : Option Addr) (nl cl : Nat) (st pr va ow : Int) (w : World) : Calls Tryz.prog 33 #[.agg #[.int .u8 o, .int .u64 sq, .int .u64 tm, .string ru, .slice Al nl cl, .int .u8 st, .int .u8 pr, .int .i64 va, .int .u8 ow]] w fun e w' => e = .returned (.agg #[.bool false, .int .u8 o, .int .u64 sq, .int .u64 tm, .string ru, .slice Al nl cl, .int .u8 st, .int .u8 pr, .int .i64 va, .int .u8 ow, .int .u8 0, .int .u64 0, .int .u64 0]) ∧ Below w.heap.size w w' := by
  go_enter Tryz.func33, Tryz.ntmps33
  go_wp2_with fail
  refine bodyPost_gen fun w6 hw6 => ?_
  have hBo : Blk w6 (w.heap.size + 1) #[.bool false, .int .u8 o, .int .u64 sq, .int .u64 tm, .string ru, .slice Al nl cl, .int .u8 st, .int .u8 pr, .int .i64 va, .int .u8 ow, .int .u8 0, .int .u64 0, .int .u64 0] 36 := by rw [hw6]; have := Blk.new (w.alloc (.cells #[.int .u8 o, .int .u64 sq, .int .u64 tm, .string ru, .slice Al nl cl, .int .u8 st, .int .u8 pr, .int .i64 va, .int .u8 ow] 32)) #[.bool false, .int .u8 o, .int .u64 sq, .int .u64 tm, .string ru, .slice Al nl cl, .int .u8 st, .int .u8 pr, .int .i64 va, .int .u8 ow, .int .u8 0, .int .u64 0, .int .u64 0] 36; rwa [World.size_alloc] at this
  have hb6 : Below w.heap.size w w6 := by rw [hw6]; exact ((Below.refl _ _).alloc (Nat.le_refl _) _).alloc (by simp) _
  clear hw6
  have a0 := hBo.cell (j := 0) (v := .bool false) rfl
  have a1 := hBo.cell (j := 1) (v := .int .u8 o) rfl
  have a2 := hBo.cell (j := 2) (v := .int .u64 sq) rfl
  have a3 := hBo.cell (j := 3) (v := .int .u64 tm) rfl
  have a4 := hBo.cell (j := 4) (v := .string ru) rfl
  have a5 := hBo.cell (j := 5) (v := .slice Al nl cl) rfl
  have a6 := hBo.cell (j := 6) (v := .int .u8 st) rfl
  have a7 := hBo.cell (j := 7) (v := .int .u8 pr) rfl
  have a8 := hBo.cell (j := 8) (v := .int .i64 va) rfl
  have a9 := hBo.cell (j := 9) (v := .int .u8 ow) rfl
  have a10 := hBo.cell (j := 10) (v := .int .u8 0) rfl
  have a11 := hBo.cell (j := 11) (v := .int .u64 0) rfl
  have a12 := hBo.cell (j := 12) (v := .int .u64 0) rfl
  clear hBo
  refine bodyPost_ret (v := .agg #[.bool false, .int .u8 o, .int .u64 sq, .int .u64 tm, .string ru, .slice Al nl cl, .int .u8 st, .int .u8 pr, .int .i64 va, .int .u8 ow, .int .u8 0, .int .u64 0, .int .u64 0]) ?_ rfl ⟨rfl, hb6⟩
  simp [results, Tryz.results33, go_sem, a0, a1, a2, a3, a4, a5, a6, a7, a8, a9, a10, a11, a12]
end Go.Proofs.YtdmdfccadjfpiaaGreat
