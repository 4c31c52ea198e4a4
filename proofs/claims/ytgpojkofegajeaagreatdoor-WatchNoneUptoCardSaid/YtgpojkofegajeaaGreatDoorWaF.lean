/-
  (*Watch).Phase: of a nil one, and of one that knows no alerts.
-/
import Derived.Test.YtgpojkofegajeaaGreatDoorWa9
namespace Go.Proofs.YtgpojkofegajeaaGreatDoor
open Go.RowKit FreeSl
set_option maxRecDepth 100000
attribute [local go_sem] out

theorem wPhaseNil (nm : ByteArray) (A : Option Addr) (n c : Nat) (w : World) : Calls Tryz.prog 13 #[.pointer none, .string nm, .slice A n c] w fun e w' => e = .returned (.tuple #[.agg #[.int .u8 0, .int .u64 0, .int .u64 0, .int .i64 0], .bool false]) ∧ Below w.heap.size w w' := by
  go_enter Tryz.func13, Tryz.ntmps13
  go_wp2_with fail
  refine bodyPost_gen fun w3 hw3 => ?_
  have U := (((Upd.nil [] w).alloc #[.string nm] 9).alloc #[.int .u8 0, .int .u64 0, .int .u64 0, .int .i64 0] 58).same hw3
  clear hw3
  simp only [World.size_alloc] at U
  have a0 := (U.blk 0 rfl).cell (j := 0) (v := .int .u8 0) rfl
  have a1 := (U.blk 0 rfl).cell (j := 1) (v := .int .u64 0) rfl
  have a2 := (U.blk 0 rfl).cell (j := 2) (v := .int .u64 0) rfl
  have a3 := (U.blk 0 rfl).cell (j := 3) (v := .int .i64 0) rfl
  refine bodyPost_ret (v := .tuple #[.agg #[.int .u8 0, .int .u64 0, .int .u64 0, .int .i64 0], .bool false]) ?_ rfl ⟨rfl, U.below⟩
  simp [results, Tryz.results13, go_sem, a0, a1, a2, a3]
theorem idxNone (A : Option Addr) (c : Nat) (f : Value) (w : World) : Calls Tryz.prog 21 #[.slice A 0 c, f] w fun e w' => e = .returned (.int .i64 (-1)) ∧ w' = w := by
  go_enter Tryz.func21, Tryz.ntmps21
  go_wp2_with fail
  go_loopw [8] (fun i wr => i = .int .i64 0 ∧ wr = w) (fun _ _ => 0)
  case atStart => exact ⟨rfl, rfl⟩
  case round =>
    obtain ⟨rfl, rfl⟩ := hrel
    go_wp2_with fail
    go_ret
    exact ⟨rfl, rfl⟩
set_option maxHeartbeats 4000000 in
theorem wPhaseNone (b : Nat) (Ar : Option Addr) (rc : Nat) (ms : Nat) (ov : Value) (mp mk : Nat) (nm : ByteArray) (v : Value) (ps : List Pr) (w : World) (hB : Blk w b #[.slice Ar 0 rc, .map (some ms), ov, .map (some mp), .map (some mk)] 81) (hp : MapAt alertE w mp []) (hk : MapAt alertE w mk []) (hr : Rd w 2 v ps.length (pairCells ps)) (hz : (textL ps).length ≤ 140737488355328) :
    Calls Tryz.prog 13 #[.pointer (some ⟨b, 0, none⟩), .string nm, v] w fun e w' => e = .returned (.tuple #[.agg #[.int .u8 0, .int .u64 0, .int .u64 0, .int .i64 0], .bool false]) ∧ Below w.heap.size w w' := by
  have KT := fun w' (h : Below w.heap.size w w') => labText v ps w' (hr.below h) hz
  have hBb := fun w' (h : Below w.heap.size w w') => hB.below h hB.lt
  have hpb := fun w' (h : Below w.heap.size w w') => hp.below h
  have hkb := fun w' (h : Below w.heap.size w w') => hk.below h
  obtain ⟨A, c, rfl, _⟩ := hr
  have hok : alertE.ok (-1, txtS ps) := by
    refine ⟨(by decide : (Lit.int .i64 (-1)).wf = true), ?_⟩
    show (txtS ps).size ≤ maxLen
    rw [size_txt]
    unfold maxLen
    omega
  have U0 := ((Upd.nil [] w).alloc #[.string nm] 9).alloc #[.int .u8 0, .int .u64 0, .int .u64 0, .int .i64 0] 58
  simp only [World.size_alloc] at U0
  have c0 := (hBb _ U0.below).cell (j := 0) rfl
  clear hB hp hk
  go_enter Tryz.func13, Tryz.ntmps13
  go_wp2_with fail
  refine calls_genP fun w1 hw1 => ?_
  have U1 := U0.same hw1
  clear hw1 U0 c0
  (with_reducible refine (idxNone Ar rc _ w1).mono ?_)
  rintro e w2 ⟨rfl, rfl⟩
  go_wp2_with fail
  (with_reducible refine (KT _ U1.below).mono ?_)
  rintro e w3 ⟨rfl, hb3⟩
  have U3 := U1.grow hb3
  clear U1 hb3 KT
  go_upto_region 5 with fail
  refine wp_gen fun w4 hw4 => ?_
  have U4 := (U3.alloc #[.int .i64 (-1), .string ⟨(textL ps).toArray⟩] 88).same hw4
  clear hw4 U3
  have U5 := U4.drew
  have LK : (Instr.lookup 78 (.map (some mk)) (.agg #[.int .i64 (-1), .string ⟨(textL ps).toArray⟩]) true).run Tryz.prog w4.drew = .ok (.tuple #[.slice none 0 0, .bool false]) w4.drew := map_look (t := 78) Tryz.underlying78 (hkb _ U5.below) (zeroLabW _) (-1, txtS ps) hok false _ rfl rfl
  have b4 := (hBb _ U5.below).cell (j := 4) rfl
  have a0 := (U5.blk 0 rfl).cell (j := 0) (v := .int .i64 (-1)) rfl
  have a1 := (U5.blk 0 rfl).cell (j := 1) (v := .string ⟨(textL ps).toArray⟩) rfl
  go_region
  go_upto_region 6 with fail
  clear LK b4 a0 a1 U4
  generalize w4.drew = w5 at U5 ⊢
  have F : ∀ w', Below w5.heap.size w5 w' → w'.cell? ⟨w3.heap.size, 0, none⟩ = some (.int .i64 (-1)) ∧ w'.cell? ⟨w3.heap.size, 1, none⟩ = some (.string ⟨(textL ps).toArray⟩) ∧ w'.cell? ⟨b, 3, none⟩ = some (.map (some mp)) ∧ (Instr.lookup 77 (.map (some mp)) (.agg #[.int .i64 (-1), .string ⟨(textL ps).toArray⟩]) false).run Tryz.prog w' = .ok (.agg #[.int .u8 0, .int .u64 0, .int .u64 0, .int .i64 0]) w' := fun w' h => ⟨((U5.grow h).blk 0 rfl).cell (j := 0) rfl, ((U5.grow h).blk 0 rfl).cell (j := 1) rfl, (hBb _ (U5.grow h).below).cell (j := 3) rfl, map_look1 (t := 77) Tryz.underlying77 (hpb _ (U5.grow h).below) (zeroPhW _) (-1, txtS ps) hok _ rfl⟩
  refine region_free (fun w' => Below w5.heap.size w5 w') [] [7, 8] [0, 1, 2, 3, 4, 5, 6] (by kernel_rfl) (by kernel_rfl) (by kernel_rfl) (Below.refl _ _).drew ?_
  repeat (first
    | (refine RelSeq.pure_ (c := ?_) rfl rfl ?_ ?_; rotate_left; (focus (intro x w'; dsimp only; go_simp; (repeat' apply And.intro) <;> first | with_reducible rfl | assumption)); simp only [Act.put, List.setIfInBounds_toArray, List.set_cons_zero, List.set_cons_succ])
    | (refine RelSeq.grow_ (c := ?_) rfl rfl ?_ ?_; rotate_left; (focus (intro x w' hw _; dsimp only; obtain ⟨c0, c1, c2, l⟩ := F w' hw; have hbr := Below.refl w'.heap.size w'; go_simp; (repeat' apply And.intro) <;> first | with_reducible rfl | assumption)); simp only [Act.put, List.setIfInBounds_toArray, List.set_cons_zero, List.set_cons_succ]))
  refine RelSeq.nil_ fun xv w6 hw _ _ => ?_
  have U6 := U5.grow hw
  have z0 := (U6.blk 1 rfl).cell (j := 0) rfl
  have z1 := (U6.blk 1 rfl).cell (j := 1) rfl
  have z2 := (U6.blk 1 rfl).cell (j := 2) rfl
  have z3 := (U6.blk 1 rfl).cell (j := 3) rfl
  have zf := (U6.blk 1 rfl).frozen
  clear hw F U5
  refine TailSeq.cons_ rfl ?_
  go_simp
  refine TailSeq.cons_ rfl ?_
  go_simp
  refine TailSeq.nil_gen fun w7 hw7 => ?_
  have U7 := ((((U6.put 1 rfl 0 (.int .u8 0)).put 0 rfl 1 (.int .u64 0)).put 0 rfl 2 (.int .u64 0)).put 0 rfl 3 (.int .i64 0)).same hw7
  simp only [List.setIfInBounds_toArray, List.set_cons_succ, List.set_cons_zero, List.eraseIdx_cons_succ, List.eraseIdx_cons_zero] at U7
  clear hw7 U6 z0 z1 z2 z3 zf
  have a0 := (U7.blk 0 rfl).cell (j := 0) (v := .int .u8 0) rfl
  have a1 := (U7.blk 0 rfl).cell (j := 1) (v := .int .u64 0) rfl
  have a2 := (U7.blk 0 rfl).cell (j := 2) (v := .int .u64 0) rfl
  have a3 := (U7.blk 0 rfl).cell (j := 3) (v := .int .i64 0) rfl
  go_wp2_with fail
  refine bodyPost_ret (v := .tuple #[.agg #[.int .u8 0, .int .u64 0, .int .u64 0, .int .i64 0], .bool false]) ?_ rfl ⟨rfl, U7.below⟩
  simp [results, Tryz.results13, go_sem, a0, a1, a2, a3]
end Go.Proofs.YtgpojkofegajeaaGreatDoor
