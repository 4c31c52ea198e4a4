/-
  A condition of small numbers (watchfirelaw13.Small.Cond).
-/
import Derived.Test.YtgpojkofegajeaaGreatDoorRLabs
namespace Go.Proofs.YtgpojkofegajeaaGreatDoor
open Go.RowKit FreeOrd
set_option maxRecDepth 100000
attribute [local go_sem] out

def condLim (k : Nat) (m : Int) : Int := if k % 5 = 2 then 0 else if 3 ≤ k % 5 then max m (-m) else m
def condTicks (k t : Nat) : Nat := if k % 5 ≤ 1 then 0 else 1 + t % 20
theorem Blk.new1 (w : World) (a : Obj) (cs : Array Value) (t : TypeId) : Blk ((w.alloc a).alloc (.cells cs t)) (w.heap.size + 1) cs t := by simpa using Blk.new (w.alloc a) cs t
theorem smallCond (k t : Nat) (m : Int) (ht : t < 256) (hm : -32768 ≤ m ∧ m < 32768) (w : World) :
    Calls Tryz.prog 18 #[.agg #[.int .u8 k, .int .i16 m, .int .u8 t]] w fun e w' => e = .returned (.agg #[.int .u8 (1 + k % 5 : Nat), .int .i64 (condLim k m), .int .u64 (condTicks k t : Nat)]) ∧ Below w.heap.size w w' := by
  obtain ⟨k5, hk5⟩ : ∃ n, n = k % 5 := ⟨_, rfl⟩
  obtain ⟨t20, ht20⟩ : ∃ n, n = t % 20 := ⟨_, rfl⟩
  have t1 : (k : Int).tmod 5 = (k5 : Int) := by rw [hk5]; rfl
  have t2 : (t : Int).tmod 20 = (t20 : Int) := by rw [ht20]; rfl
  have w1 : IntKind.u8.wrap (1 + (k5 : Int)) = 1 + (k5 : Int) := by rw [IntKind.wrap_u8]; omega
  have w2 : IntKind.u64.wrap (1 + (t20 : Int)) = 1 + (t20 : Int) := by rw [IntKind.wrap_u64]; omega
  have w3 : IntKind.i64.wrap m = m := by rw [IntKind.wrap_i64]; omega
  have w4 : IntKind.u64.wrap (t : Int) = (t : Int) := by rw [IntKind.wrap_u64]; omega
  have w5 : IntKind.i64.wrap (-m) = -m := by rw [IntKind.wrap_i64]; omega
  have hc : condLim k m = (if k5 = 2 then 0 else if 3 ≤ k5 then max m (-m) else m) ∧ condTicks k t = (if k5 ≤ 1 then 0 else 1 + t20) := by unfold condLim condTicks; rw [← hk5, ← ht20]; exact ⟨rfl, rfl⟩
  rw [← hk5, hc.1, hc.2]
  have hk5lt : k5 < 5 := by omega
  clear hc hk5 ht20 ht hm
  go_enter Tryz.func18, Tryz.ntmps18
  obtain h | h | h | h : k5 = 0 ∨ k5 = 1 ∨ k5 = 2 ∨ 3 ≤ k5 := by omega
  · subst h
    go_wp2_with fail
    refine bodyPost_gen fun w6 hw6 => ?_
    have hb6 : Below w.heap.size w w6 := by rw [hw6]; exact (((Below.refl _ _).alloc (Nat.le_refl _) _).alloc (by simp) _).alloc (by simp; omega) _
    have hBo : Blk w6 (w.heap.size + 1) #[.int .u8 1, .int .i64 m, .int .u64 0] 28 := by rw [hw6]; exact (Blk.new1 _ _ _ _).alloc _
    clear hw6
    have a0 := hBo.cell (j := 0) (v := .int .u8 1) rfl
    have a1 := hBo.cell (j := 1) (v := .int .i64 m) rfl
    have a2 := hBo.cell (j := 2) (v := .int .u64 0) rfl
    refine bodyPost_ret (v := .agg #[.int .u8 1, .int .i64 m, .int .u64 0]) ?_ rfl ⟨rfl, hb6⟩
    simp [results, Tryz.results18, go_sem, a0, a1, a2]
  · subst h
    go_wp2_with fail
    refine bodyPost_gen fun w6 hw6 => ?_
    have hb6 : Below w.heap.size w w6 := by rw [hw6]; exact (((Below.refl _ _).alloc (Nat.le_refl _) _).alloc (by simp) _).alloc (by simp; omega) _
    have hBo : Blk w6 (w.heap.size + 1) #[.int .u8 2, .int .i64 m, .int .u64 0] 28 := by rw [hw6]; exact (Blk.new1 _ _ _ _).alloc _
    clear hw6
    have a0 := hBo.cell (j := 0) (v := .int .u8 2) rfl
    have a1 := hBo.cell (j := 1) (v := .int .i64 m) rfl
    have a2 := hBo.cell (j := 2) (v := .int .u64 0) rfl
    refine bodyPost_ret (v := .agg #[.int .u8 2, .int .i64 m, .int .u64 0]) ?_ rfl ⟨rfl, hb6⟩
    simp [results, Tryz.results18, go_sem, a0, a1, a2]
  · subst h
    go_wp2_with fail
    refine bodyPost_gen fun w6 hw6 => ?_
    have hb6 : Below w.heap.size w w6 := by rw [hw6]; exact (((Below.refl _ _).alloc (Nat.le_refl _) _).alloc (by simp) _).alloc (by simp; omega) _
    have hBo : Blk w6 (w.heap.size + 1) #[.int .u8 3, .int .i64 0, .int .u64 (1 + (t20 : Int))] 28 := by rw [hw6]; exact (Blk.new1 _ _ _ _).alloc _
    clear hw6
    have a0 := hBo.cell (j := 0) (v := .int .u8 3) rfl
    have a1 := hBo.cell (j := 1) (v := .int .i64 0) rfl
    have a2 := hBo.cell (j := 2) (v := .int .u64 (1 + (t20 : Int))) rfl
    refine bodyPost_ret (v := .agg #[.int .u8 3, .int .i64 0, .int .u64 (1 + (t20 : Int))]) ?_ rfl ⟨rfl, hb6⟩
    simp [results, Tryz.results18, go_sem, a0, a1, a2]
  · have n1 : ¬ (1 + (k5 : Int)) = 1 := by omega
    have n2 : ¬ (1 + (k5 : Int)) = 2 := by omega
    have n3 : ¬ (1 + (k5 : Int)) = 3 := by omega
    rw [if_neg (by omega : ¬ k5 = 2), if_pos h, if_neg (by omega : ¬ k5 ≤ 1)]
    go_wp2_with fail
    refine bodyPost_gen fun w6 hw6 => ?_
    have hb6 : Below w.heap.size w w6 := by rw [hw6]; exact (((Below.refl _ _).alloc (Nat.le_refl _) _).alloc (by simp) _).alloc (by simp; omega) _
    have hBo : Blk w6 (w.heap.size + 1) #[.int .u8 (1 + (k5 : Int)), .int .i64 (max m (-m)), .int .u64 (1 + (t20 : Int))] 28 := by rw [hw6]; exact (Blk.new1 _ _ _ _).alloc _
    clear hw6
    have a0 := hBo.cell (j := 0) (v := .int .u8 (1 + (k5 : Int))) rfl
    have a1 := hBo.cell (j := 1) (v := .int .i64 (max m (-m))) rfl
    have a2 := hBo.cell (j := 2) (v := .int .u64 (1 + (t20 : Int))) rfl
    refine bodyPost_ret (v := .agg #[.int .u8 (1 + (k5 : Int)), .int .i64 (max m (-m)), .int .u64 (1 + (t20 : Int))]) ?_ rfl ⟨rfl, hb6⟩
    simp [results, Tryz.results18, go_sem, a0, a1, a2]
end Go.Proofs.YtgpojkofegajeaaGreatDoor
