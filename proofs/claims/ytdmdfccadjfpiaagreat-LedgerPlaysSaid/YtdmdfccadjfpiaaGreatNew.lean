/-
  crc.New: a table that hasn't been used. Two lists of records: whether they are the same. A fixed fact.
-/
import Derived.Test.YtdmdfccadjfpiaaGreatConv
import Derived.Test.YtdmdfccadjfpiaaGreatScan
import Derived.Test.YtdmdfccadjfpiaaGreatFreeN
namespace Go.Proofs.YtdmdfccadjfpiaaGreat
open Go.RowKit FreeNew
set_option maxRecDepth 100000
attribute [local go_sem] out

theorem crcZero : Tryz.zeroCells116 = ((List.range 261).map (tc 0 0 (fun _ => 0) 0 0)).toArray := by kernel_rfl
theorem crcNew (w : World) : Calls Tryz.prog 16 #[] w fun e w' => e = .returned (.pointer (some ⟨w.heap.size, 0, none⟩)) ∧ TabOk w' w.heap.size ∧ Below w.heap.size w w' := by
  go_enter Tryz.func16, Tryz.ntmps16
  go_wp2_with fail
  refine bodyPost_gen fun w1 hw1 => ?_
  have hB : Blk w1 w.heap.size Tryz.zeroCells116 116 := by rw [hw1]; exact Blk.new _ _ _
  have hb : Below w.heap.size w w1 := by rw [hw1]; exact (Below.refl _ _).alloc (Nat.le_refl _) _
  have hT : TabOk w1 w.heap.size := ⟨0, fun _ => 0, 0, 0, by decide, by decide, .inl rfl, _, hB, by rw [crcZero]; simp, fun j hj => by rw [crcZero]; simp [hj]⟩
  clear hw1 hB
  go_ret
  exact ⟨rfl, hT, hb⟩

/-- Whether two lists of records are the same. -/
def sameL (a b : List (List UInt8)) : Bool := decide (a = b)
end Go.Proofs.YtdmdfccadjfpiaaGreat
