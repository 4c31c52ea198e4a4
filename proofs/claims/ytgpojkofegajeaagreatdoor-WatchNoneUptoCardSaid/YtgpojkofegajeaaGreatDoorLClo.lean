/-
  The closure by which lab.Make sorts.
-/
import Derived.Test.YtgpojkofegajeaaGreatDoorMg8
import Derived.Deep.Draws
namespace Go.Proofs.YtgpojkofegajeaaGreatDoor
open Go.RowKit FreeBy
set_option maxRecDepth 100000
attribute [local go_sem] out

def quietReach : FreeBy.Reach := ⟨fun w w' => ∃ n, w' = w.drewN n, fun _ => ⟨0, rfl⟩, fun w w' ⟨n, h⟩ => by rw [h]; exact Nat.le_refl _⟩
def cfP (p q : ByteArray × ByteArray) : Int := if cmpB p.1 q.1 = 0 then cmpB p.2 q.2 else cmpB p.1 q.1

set_option maxHeartbeats 1000000 in
theorem makeCmp (p q : ByteArray × ByteArray) (W : World) :
    Calls Tryz.prog 98 #[.agg #[.string p.1, .string p.2], .agg #[.string q.1, .string q.2]] W fun e w' => e = .returned (.int .i64 (cfP p q)) ∧ ∃ n os, w' = Sort.grow (W.drewN n) os := by
  obtain ⟨p1, p2⟩ := p
  obtain ⟨q1, q2⟩ := q
  unfold cfP
  simp only
  generalize h1 : cmpB p1 q1 = x1
  generalize h2 : cmpB p2 q2 = x2
  have K1 : ∀ w, Calls Tryz.prog 86 #[.string p1, .string q1] w fun e w' => e = .returned (.int .i64 x1) ∧ w' = w := fun w => by rw [← h1]; exact cmpStr _ _ _
  have K2 : ∀ w, Calls Tryz.prog 86 #[.string p2, .string q2] w fun e w' => e = .returned (.int .i64 x2) ∧ w' = w := fun w => by rw [← h2]; exact cmpStr _ _ _
  obtain ⟨r, hr⟩ : ∃ r, r = if x1 = 0 then x2 else x1 := ⟨_, rfl⟩
  have OR : ∀ (b : Nat) (w : World), w.cell? ⟨b, 0, none⟩ = some (.int .i64 x1) → w.cell? ⟨b, 1, none⟩ = some (.int .i64 x2) → Calls Tryz.prog 58 #[.slice (some ⟨b, 0, none⟩) 2 2] w fun e w' => e = .returned (.int .i64 r) ∧ w' = w := fun b w c0 c1 => by
    rw [hr]
    exact orTwo b x1 x2 w c0 c1
  rw [← hr]
  clear h1 h2 hr
  go_enter Tryz.func98, Tryz.ntmps98
  go_wp2_with fail
  refine wp_gen fun w1 hw1 => ?_
  have g1 : w1 = Sort.grow W #[.cells #[.string p1, .string p2] 92, .cells #[.string q1, .string q2] 92] := by
    rw [hw1, Sort.alloc_eq_grow, Sort.alloc_eq_grow, Sort.grow_grow]; rfl
  have B1 : Blk w1 W.heap.size #[.string p1, .string p2] 92 := by rw [hw1]; exact (Blk.new _ _ _).alloc _
  have B2 : Blk w1 (W.heap.size + 1) #[.string q1, .string q2] 92 := by
    have e : W.heap.size + 1 = (W.alloc (.cells #[.string p1, .string p2] 92)).heap.size := by simp
    rw [hw1, e]; exact Blk.new _ _ _
  have d0 : w1.cell? ⟨W.heap.size, 0, none⟩ = some (.string p1) := B1.cell rfl
  have d1 : w1.cell? ⟨W.heap.size, 1, none⟩ = some (.string p2) := B1.cell rfl
  have d2 : w1.cell? ⟨W.heap.size + 1, 0, none⟩ = some (.string q1) := B2.cell rfl
  have d3 : w1.cell? ⟨W.heap.size + 1, 1, none⟩ = some (.string q2) := B2.cell rfl
  have G1 := Lib.hid g1
  clear hw1 B1 B2 g1
  refine region_free (E := quietReach) (fun w' => ∃ n, w' = w1.drewN n) [4, 9] [10, 11, 12] (List.range 10) (by kernel_rfl) (by kernel_rfl) (by kernel_rfl) ⟨1, rfl⟩ ?_
  simp only [List.range, List.range.loop]
  have F : ∀ w', (∃ n, w' = w1.drewN n) → w'.cell? ⟨W.heap.size, 0, none⟩ = some (.string p1) ∧ w'.cell? ⟨W.heap.size, 1, none⟩ = some (.string p2) ∧ w'.cell? ⟨W.heap.size + 1, 0, none⟩ = some (.string q1) ∧ w'.cell? ⟨W.heap.size + 1, 1, none⟩ = some (.string q2) := by
    rintro w' ⟨n, rfl⟩
    exact ⟨d0, d1, d2, d3⟩
  clear d0 d1 d2 d3
  repeat (first
    | (refine RelSeq.pure_ (c := ?_) rfl rfl ?_ ?_; rotate_left; (focus (intro x w'; dsimp only; go_simp; (repeat' apply And.intro) <;> first | with_reducible rfl | assumption)); simp only [Act.put, List.setIfInBounds_toArray, List.set_cons_zero, List.set_cons_succ])
    | (refine RelSeq.grow_ (c := ?_) rfl rfl ?_ ?_; rotate_left; (focus (intro x w' hw _; dsimp only; obtain ⟨d0, d1, d2, d3⟩ := F w' hw; have hE1 := quietReach.refl w'; go_simp; (repeat' apply And.intro) <;> first | with_reducible rfl | assumption)); simp only [Act.put, List.setIfInBounds_toArray, List.set_cons_zero, List.set_cons_succ])
    | (refine RelSeq.grow_ (c := .int .i64 x1) rfl rfl ?_ ?_; (focus (intro x w' hw _; dsimp only; go_simp; (with_reducible refine (K1 _).mono ?_); rintro e w2 ⟨rfl, rfl⟩; exact ⟨rfl, hw, quietReach.refl _⟩)); simp only [Act.put, List.setIfInBounds_toArray, List.set_cons_zero, List.set_cons_succ])
    | (refine RelSeq.grow_ (c := .int .i64 x2) rfl rfl ?_ ?_; (focus (intro x w' hw _; dsimp only; go_simp; (with_reducible refine (K2 _).mono ?_); rintro e w2 ⟨rfl, rfl⟩; exact ⟨rfl, hw, quietReach.refl _⟩)); simp only [Act.put, List.setIfInBounds_toArray, List.set_cons_zero, List.set_cons_succ]))
  refine RelSeq.nil_ fun x w2 hw2 _ _ => ?_
  obtain ⟨n, rfl⟩ := hw2
  refine TailSeq.cons_ rfl ?_
  go_simp
  refine TailSeq.cons_ rfl ?_
  go_simp
  have hO := OR w1.heap.size _ ((Blk.new (w1.drewN n) #[.int .i64 x1, .int .i64 x2] 3).cell rfl) ((Blk.new (w1.drewN n) #[.int .i64 x1, .int .i64 x2] 3).cell rfl)
  (with_reducible refine hO.mono ?_)
  rintro e w3 ⟨rfl, rfl⟩
  clear hO
  go_simp
  refine TailSeq.cons_ rfl ?_
  go_simp
  refine TailSeq.nil_ ?_
  go_wp2_with fail
  go_ret
  refine ⟨?_, ?_⟩
  · rfl
  · rw [G1.out]
    exact ⟨n, _, by rw [Sort.alloc_eq_grow]; exact Sort.grow_grow (W.drewN n) _ _⟩
end Go.Proofs.YtgpojkofegajeaaGreatDoor
