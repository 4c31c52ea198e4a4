/-
  phase.Phase.Step and Fires.
-/
import Derived.Test.YtgpojkofegajeaaGreatDoorSt
namespace Go.Proofs.YtgpojkofegajeaaGreatDoor
open Go.RowKit
set_option maxRecDepth 100000

/-- An alert's phase. -/
structure PhV where
  st : Nat
  since : Nat
  held : Nat
  val : Int
def PhV.agg (p : PhV) : Value := .agg #[.int .u8 p.st, .int .u64 p.since, .int .u64 p.held, .int .i64 p.val]
def PhV.hold (p : PhV) (now : Nat) (h : Bool) (v : Int) : PhV := if h then ⟨p.st, p.since, now, v⟩ else p
def PhV.lift (p : PhV) (now : Nat) : PhV := if p.st = 1 then p else ⟨1, now, p.held, p.val⟩
def PhV.fire (p : PhV) (fo now : Nat) : PhV := if p.since ≤ now ∧ fo ≤ now - p.since then ⟨2, now, p.held, p.val⟩ else p
/-- What a step makes of it. -/
def stepP (fo ke now : Nat) (h : Bool) (v : Int) (p : PhV) : PhV :=
  if p.st = 2 then (if h = false ∧ (now < p.held ∨ ke ≤ now - p.held) then ⟨0, now, p.held, v⟩ else p.hold now h v)
  else if h = false then (if p.st = 0 then p else ⟨0, now, p.held, v⟩)
  else ((p.hold now h v).lift now).fire fo now
theorem phFires (p : PhV) (w : World) : Calls Tryz.prog 34 #[p.agg] w fun e w' => e = .returned (.bool (decide (p.st = 2))) ∧ Below w.heap.size w w' := by
  obtain ⟨b, hb⟩ : ∃ b, b = decide (p.st = 2) := ⟨_, rfl⟩
  have hq : ((p.st : Int) == 2) = b := by rw [hb]; by_cases h : p.st = 2 <;> simp [h] <;> omega
  rw [← hb]
  unfold PhV.agg
  clear hb
  go_enter Tryz.func34, Tryz.ntmps34
  go_wp2_with fail
  go_ret
  exact ⟨rfl, (Below.refl _ _).alloc (Nat.le_refl _) _⟩




theorem phStep_A (fo ke now : Nat) (v : Int) (st since held : Nat) (val : Int) (w : World) (h0 : st = 0) :
    Calls Tryz.prog 33 #[.agg #[.int .u8 st, .int .u64 since, .int .u64 held, .int .i64 val], .agg #[.int .u64 fo, .int .u64 ke], .int .u64 now, .bool false, .int .i64 v] w fun e w' => e = .returned (stepP fo ke now false v ⟨st, since, held, val⟩).agg ∧ Below w.heap.size w w' := by
  have e : stepP fo ke now false v ⟨st, since, held, val⟩ = ⟨0, since, held, val⟩ := by simp [stepP, h0]
  rw [e]
  unfold PhV.agg
  dsimp only
  subst h0
  clear e
  go_enter Tryz.func33, Tryz.ntmps33
  go_wp2_with fail
  refine bodyPost_gen fun w3 hw3 => ?_
  have U := ((((Upd.nil [] w).alloc #[.int .u8 (0 : Nat), .int .u64 (since : Nat), .int .u64 (held : Nat), .int .i64 val] 58).alloc #[.int .u64 (fo : Nat), .int .u64 (ke : Nat)] 30).alloc #[.int .u8 (0 : Nat), .int .u64 (since : Nat), .int .u64 (held : Nat), .int .i64 val] 58).same hw3
  clear hw3
  simp only [World.size_alloc] at U
  have a0 := (U.blk 0 rfl).cell (j := 0) (v := .int .u8 (0 : Nat)) rfl
  have a1 := (U.blk 0 rfl).cell (j := 1) (v := .int .u64 (since : Nat)) rfl
  have a2 := (U.blk 0 rfl).cell (j := 2) (v := .int .u64 (held : Nat)) rfl
  have a3 := (U.blk 0 rfl).cell (j := 3) (v := .int .i64 val) rfl
  refine bodyPost_ret (v := .agg #[.int .u8 (0 : Nat), .int .u64 (since : Nat), .int .u64 (held : Nat), .int .i64 val]) ?_ rfl ⟨rfl, U.below⟩
  simp [results, Tryz.results33, go_sem, a0, a1, a2, a3]
theorem phStep_B (fo ke now : Nat) (v : Int) (st since held : Nat) (val : Int) (w : World) (h0 : st = 2) (h1 : now < held) :
    Calls Tryz.prog 33 #[.agg #[.int .u8 st, .int .u64 since, .int .u64 held, .int .i64 val], .agg #[.int .u64 fo, .int .u64 ke], .int .u64 now, .bool false, .int .i64 v] w fun e w' => e = .returned (stepP fo ke now false v ⟨st, since, held, val⟩).agg ∧ Below w.heap.size w w' := by
  have e : stepP fo ke now false v ⟨st, since, held, val⟩ = ⟨0, now, held, v⟩ := by simp [stepP, h0, h1]
  rw [e]
  unfold PhV.agg
  dsimp only
  subst h0
  have d1 : decide (now < held) = true := by simp; omega
  clear h1
  clear e
  go_enter Tryz.func33, Tryz.ntmps33
  go_wp2_with fail
  refine bodyPost_gen fun w3 hw3 => ?_
  have U := ((((Upd.nil [] w).alloc #[.int .u8 (2 : Nat), .int .u64 (since : Nat), .int .u64 (held : Nat), .int .i64 val] 58).alloc #[.int .u64 (fo : Nat), .int .u64 (ke : Nat)] 30).alloc #[.int .u8 (0 : Nat), .int .u64 (now : Nat), .int .u64 (held : Nat), .int .i64 v] 58).same hw3
  clear hw3
  simp only [World.size_alloc] at U
  have a0 := (U.blk 0 rfl).cell (j := 0) (v := .int .u8 (0 : Nat)) rfl
  have a1 := (U.blk 0 rfl).cell (j := 1) (v := .int .u64 (now : Nat)) rfl
  have a2 := (U.blk 0 rfl).cell (j := 2) (v := .int .u64 (held : Nat)) rfl
  have a3 := (U.blk 0 rfl).cell (j := 3) (v := .int .i64 v) rfl
  refine bodyPost_ret (v := .agg #[.int .u8 (0 : Nat), .int .u64 (now : Nat), .int .u64 (held : Nat), .int .i64 v]) ?_ rfl ⟨rfl, U.below⟩
  simp [results, Tryz.results33, go_sem, a0, a1, a2, a3]
theorem phStep_C (fo ke now : Nat) (v : Int) (st since held : Nat) (val : Int) (w : World) (hn : now < 18446744073709551616) (h0 : st = 2) (h1 : held ≤ now) (h2 : ke ≤ now - held) :
    Calls Tryz.prog 33 #[.agg #[.int .u8 st, .int .u64 since, .int .u64 held, .int .i64 val], .agg #[.int .u64 fo, .int .u64 ke], .int .u64 now, .bool false, .int .i64 v] w fun e w' => e = .returned (stepP fo ke now false v ⟨st, since, held, val⟩).agg ∧ Below w.heap.size w w' := by
  have e : stepP fo ke now false v ⟨st, since, held, val⟩ = ⟨0, now, held, v⟩ := by simp [stepP, h0, h2]
  rw [e]
  unfold PhV.agg
  dsimp only
  subst h0
  have d1 : decide (now < held) = false := by simp; omega
  have d2 : IntKind.u64.wrap ((now : Int) - held) = ((now - held : Nat) : Int) := by rw [IntKind.wrap_u64]; omega
  have d3 : decide (ke ≤ now - held) = true := by simp; omega
  clear h1 h2 hn
  clear e
  go_enter Tryz.func33, Tryz.ntmps33
  go_wp2_with fail
  refine bodyPost_gen fun w3 hw3 => ?_
  have U := ((((Upd.nil [] w).alloc #[.int .u8 (2 : Nat), .int .u64 (since : Nat), .int .u64 (held : Nat), .int .i64 val] 58).alloc #[.int .u64 (fo : Nat), .int .u64 (ke : Nat)] 30).alloc #[.int .u8 (0 : Nat), .int .u64 (now : Nat), .int .u64 (held : Nat), .int .i64 v] 58).same hw3
  clear hw3
  simp only [World.size_alloc] at U
  have a0 := (U.blk 0 rfl).cell (j := 0) (v := .int .u8 (0 : Nat)) rfl
  have a1 := (U.blk 0 rfl).cell (j := 1) (v := .int .u64 (now : Nat)) rfl
  have a2 := (U.blk 0 rfl).cell (j := 2) (v := .int .u64 (held : Nat)) rfl
  have a3 := (U.blk 0 rfl).cell (j := 3) (v := .int .i64 v) rfl
  refine bodyPost_ret (v := .agg #[.int .u8 (0 : Nat), .int .u64 (now : Nat), .int .u64 (held : Nat), .int .i64 v]) ?_ rfl ⟨rfl, U.below⟩
  simp [results, Tryz.results33, go_sem, a0, a1, a2, a3]
theorem phStep_D (fo ke now : Nat) (v : Int) (st since held : Nat) (val : Int) (w : World) (hn : now < 18446744073709551616) (h0 : st = 2) (h1 : held ≤ now) (h2 : ¬ ke ≤ now - held) :
    Calls Tryz.prog 33 #[.agg #[.int .u8 st, .int .u64 since, .int .u64 held, .int .i64 val], .agg #[.int .u64 fo, .int .u64 ke], .int .u64 now, .bool false, .int .i64 v] w fun e w' => e = .returned (stepP fo ke now false v ⟨st, since, held, val⟩).agg ∧ Below w.heap.size w w' := by
  have e : stepP fo ke now false v ⟨st, since, held, val⟩ = ⟨2, since, held, val⟩ := by simp [stepP, h0, PhV.hold, show ¬ (now < held ∨ ke ≤ now - held) by omega]
  rw [e]
  unfold PhV.agg
  dsimp only
  subst h0
  have d1 : decide (now < held) = false := by simp; omega
  have d2 : IntKind.u64.wrap ((now : Int) - held) = ((now - held : Nat) : Int) := by rw [IntKind.wrap_u64]; omega
  have d3 : decide (ke ≤ now - held) = false := by simp; omega
  clear h1 h2 hn
  clear e
  go_enter Tryz.func33, Tryz.ntmps33
  go_wp2_with fail
  refine bodyPost_gen fun w3 hw3 => ?_
  have U := ((((Upd.nil [] w).alloc #[.int .u8 (2 : Nat), .int .u64 (since : Nat), .int .u64 (held : Nat), .int .i64 val] 58).alloc #[.int .u64 (fo : Nat), .int .u64 (ke : Nat)] 30).alloc #[.int .u8 (2 : Nat), .int .u64 (since : Nat), .int .u64 (held : Nat), .int .i64 val] 58).same hw3
  clear hw3
  simp only [World.size_alloc] at U
  have a0 := (U.blk 0 rfl).cell (j := 0) (v := .int .u8 (2 : Nat)) rfl
  have a1 := (U.blk 0 rfl).cell (j := 1) (v := .int .u64 (since : Nat)) rfl
  have a2 := (U.blk 0 rfl).cell (j := 2) (v := .int .u64 (held : Nat)) rfl
  have a3 := (U.blk 0 rfl).cell (j := 3) (v := .int .i64 val) rfl
  refine bodyPost_ret (v := .agg #[.int .u8 (2 : Nat), .int .u64 (since : Nat), .int .u64 (held : Nat), .int .i64 val]) ?_ rfl ⟨rfl, U.below⟩
  simp [results, Tryz.results33, go_sem, a0, a1, a2, a3]
theorem phStep_E (fo ke now : Nat) (v : Int) (st since held : Nat) (val : Int) (w : World) (h0 : st ≠ 0) (h2 : st ≠ 2) :
    Calls Tryz.prog 33 #[.agg #[.int .u8 st, .int .u64 since, .int .u64 held, .int .i64 val], .agg #[.int .u64 fo, .int .u64 ke], .int .u64 now, .bool false, .int .i64 v] w fun e w' => e = .returned (stepP fo ke now false v ⟨st, since, held, val⟩).agg ∧ Below w.heap.size w w' := by
  have e : stepP fo ke now false v ⟨st, since, held, val⟩ = ⟨0, now, held, v⟩ := by simp [stepP, h0, h2]
  rw [e]
  unfold PhV.agg
  dsimp only
  have q0 : ((st : Int) == 0) = false := by simp; omega
  have q2 : ((st : Int) == 2) = false := by simp; omega
  clear h0 h2
  clear e
  go_enter Tryz.func33, Tryz.ntmps33
  go_wp2_with fail
  refine bodyPost_gen fun w3 hw3 => ?_
  have U := ((((Upd.nil [] w).alloc #[.int .u8 (st : Nat), .int .u64 (since : Nat), .int .u64 (held : Nat), .int .i64 val] 58).alloc #[.int .u64 (fo : Nat), .int .u64 (ke : Nat)] 30).alloc #[.int .u8 (0 : Nat), .int .u64 (now : Nat), .int .u64 (held : Nat), .int .i64 v] 58).same hw3
  clear hw3
  simp only [World.size_alloc] at U
  have a0 := (U.blk 0 rfl).cell (j := 0) (v := .int .u8 (0 : Nat)) rfl
  have a1 := (U.blk 0 rfl).cell (j := 1) (v := .int .u64 (now : Nat)) rfl
  have a2 := (U.blk 0 rfl).cell (j := 2) (v := .int .u64 (held : Nat)) rfl
  have a3 := (U.blk 0 rfl).cell (j := 3) (v := .int .i64 v) rfl
  refine bodyPost_ret (v := .agg #[.int .u8 (0 : Nat), .int .u64 (now : Nat), .int .u64 (held : Nat), .int .i64 v]) ?_ rfl ⟨rfl, U.below⟩
  simp [results, Tryz.results33, go_sem, a0, a1, a2, a3]
theorem phStep_F (fo ke now : Nat) (v : Int) (st since held : Nat) (val : Int) (w : World) (h0 : st = 2) :
    Calls Tryz.prog 33 #[.agg #[.int .u8 st, .int .u64 since, .int .u64 held, .int .i64 val], .agg #[.int .u64 fo, .int .u64 ke], .int .u64 now, .bool true, .int .i64 v] w fun e w' => e = .returned (stepP fo ke now true v ⟨st, since, held, val⟩).agg ∧ Below w.heap.size w w' := by
  have e : stepP fo ke now true v ⟨st, since, held, val⟩ = ⟨2, since, now, v⟩ := by simp [stepP, h0, PhV.hold]
  rw [e]
  unfold PhV.agg
  dsimp only
  subst h0
  clear e
  go_enter Tryz.func33, Tryz.ntmps33
  go_wp2_with fail
  refine bodyPost_gen fun w3 hw3 => ?_
  have U := ((((Upd.nil [] w).alloc #[.int .u8 (2 : Nat), .int .u64 (since : Nat), .int .u64 (now : Nat), .int .i64 v] 58).alloc #[.int .u64 (fo : Nat), .int .u64 (ke : Nat)] 30).alloc #[.int .u8 (2 : Nat), .int .u64 (since : Nat), .int .u64 (now : Nat), .int .i64 v] 58).same hw3
  clear hw3
  simp only [World.size_alloc] at U
  have a0 := (U.blk 0 rfl).cell (j := 0) (v := .int .u8 (2 : Nat)) rfl
  have a1 := (U.blk 0 rfl).cell (j := 1) (v := .int .u64 (since : Nat)) rfl
  have a2 := (U.blk 0 rfl).cell (j := 2) (v := .int .u64 (now : Nat)) rfl
  have a3 := (U.blk 0 rfl).cell (j := 3) (v := .int .i64 v) rfl
  refine bodyPost_ret (v := .agg #[.int .u8 (2 : Nat), .int .u64 (since : Nat), .int .u64 (now : Nat), .int .i64 v]) ?_ rfl ⟨rfl, U.below⟩
  simp [results, Tryz.results33, go_sem, a0, a1, a2, a3]
theorem phStep_G (fo ke now : Nat) (v : Int) (st since held : Nat) (val : Int) (w : World) (hn : now < 18446744073709551616) (h0 : st = 1) (h1 : since ≤ now) (h2 : fo ≤ now - since) :
    Calls Tryz.prog 33 #[.agg #[.int .u8 st, .int .u64 since, .int .u64 held, .int .i64 val], .agg #[.int .u64 fo, .int .u64 ke], .int .u64 now, .bool true, .int .i64 v] w fun e w' => e = .returned (stepP fo ke now true v ⟨st, since, held, val⟩).agg ∧ Below w.heap.size w w' := by
  have e : stepP fo ke now true v ⟨st, since, held, val⟩ = ⟨2, now, now, v⟩ := by simp [stepP, h0, h1, h2, PhV.hold, PhV.lift, PhV.fire]
  rw [e]
  unfold PhV.agg
  dsimp only
  subst h0
  have d1 : decide (since ≤ now) = true := by simp; omega
  have d2 : IntKind.u64.wrap ((now : Int) - since) = ((now - since : Nat) : Int) := by rw [IntKind.wrap_u64]; omega
  have d3 : decide (fo ≤ now - since) = true := by simp; omega
  clear h1 h2 hn
  clear e
  go_enter Tryz.func33, Tryz.ntmps33
  go_wp2_with fail
  refine bodyPost_gen fun w3 hw3 => ?_
  have U := ((((Upd.nil [] w).alloc #[.int .u8 (2 : Nat), .int .u64 (now : Nat), .int .u64 (now : Nat), .int .i64 v] 58).alloc #[.int .u64 (fo : Nat), .int .u64 (ke : Nat)] 30).alloc #[.int .u8 (2 : Nat), .int .u64 (now : Nat), .int .u64 (now : Nat), .int .i64 v] 58).same hw3
  clear hw3
  simp only [World.size_alloc] at U
  have a0 := (U.blk 0 rfl).cell (j := 0) (v := .int .u8 (2 : Nat)) rfl
  have a1 := (U.blk 0 rfl).cell (j := 1) (v := .int .u64 (now : Nat)) rfl
  have a2 := (U.blk 0 rfl).cell (j := 2) (v := .int .u64 (now : Nat)) rfl
  have a3 := (U.blk 0 rfl).cell (j := 3) (v := .int .i64 v) rfl
  refine bodyPost_ret (v := .agg #[.int .u8 (2 : Nat), .int .u64 (now : Nat), .int .u64 (now : Nat), .int .i64 v]) ?_ rfl ⟨rfl, U.below⟩
  simp [results, Tryz.results33, go_sem, a0, a1, a2, a3]
theorem phStep_H (fo ke now : Nat) (v : Int) (st since held : Nat) (val : Int) (w : World) (hn : now < 18446744073709551616) (h0 : st = 1) (h1 : since ≤ now) (h2 : ¬ fo ≤ now - since) :
    Calls Tryz.prog 33 #[.agg #[.int .u8 st, .int .u64 since, .int .u64 held, .int .i64 val], .agg #[.int .u64 fo, .int .u64 ke], .int .u64 now, .bool true, .int .i64 v] w fun e w' => e = .returned (stepP fo ke now true v ⟨st, since, held, val⟩).agg ∧ Below w.heap.size w w' := by
  have e : stepP fo ke now true v ⟨st, since, held, val⟩ = ⟨1, since, now, v⟩ := by simp [stepP, h0, h1, h2, PhV.hold, PhV.lift, PhV.fire]
  rw [e]
  unfold PhV.agg
  dsimp only
  subst h0
  have d1 : decide (since ≤ now) = true := by simp; omega
  have d2 : IntKind.u64.wrap ((now : Int) - since) = ((now - since : Nat) : Int) := by rw [IntKind.wrap_u64]; omega
  have d3 : decide (fo ≤ now - since) = false := by simp; omega
  clear h1 h2 hn
  clear e
  go_enter Tryz.func33, Tryz.ntmps33
  go_wp2_with fail
  refine bodyPost_gen fun w3 hw3 => ?_
  have U := ((((Upd.nil [] w).alloc #[.int .u8 (1 : Nat), .int .u64 (since : Nat), .int .u64 (now : Nat), .int .i64 v] 58).alloc #[.int .u64 (fo : Nat), .int .u64 (ke : Nat)] 30).alloc #[.int .u8 (1 : Nat), .int .u64 (since : Nat), .int .u64 (now : Nat), .int .i64 v] 58).same hw3
  clear hw3
  simp only [World.size_alloc] at U
  have a0 := (U.blk 0 rfl).cell (j := 0) (v := .int .u8 (1 : Nat)) rfl
  have a1 := (U.blk 0 rfl).cell (j := 1) (v := .int .u64 (since : Nat)) rfl
  have a2 := (U.blk 0 rfl).cell (j := 2) (v := .int .u64 (now : Nat)) rfl
  have a3 := (U.blk 0 rfl).cell (j := 3) (v := .int .i64 v) rfl
  refine bodyPost_ret (v := .agg #[.int .u8 (1 : Nat), .int .u64 (since : Nat), .int .u64 (now : Nat), .int .i64 v]) ?_ rfl ⟨rfl, U.below⟩
  simp [results, Tryz.results33, go_sem, a0, a1, a2, a3]
theorem phStep_I (fo ke now : Nat) (v : Int) (st since held : Nat) (val : Int) (w : World) (h0 : st = 1) (h1 : now < since) :
    Calls Tryz.prog 33 #[.agg #[.int .u8 st, .int .u64 since, .int .u64 held, .int .i64 val], .agg #[.int .u64 fo, .int .u64 ke], .int .u64 now, .bool true, .int .i64 v] w fun e w' => e = .returned (stepP fo ke now true v ⟨st, since, held, val⟩).agg ∧ Below w.heap.size w w' := by
  have e : stepP fo ke now true v ⟨st, since, held, val⟩ = ⟨1, since, now, v⟩ := by simp [stepP, h0, show ¬ since ≤ now by omega, PhV.hold, PhV.lift, PhV.fire]
  rw [e]
  unfold PhV.agg
  dsimp only
  subst h0
  have d1 : decide (since ≤ now) = false := by simp; omega
  clear h1
  clear e
  go_enter Tryz.func33, Tryz.ntmps33
  go_wp2_with fail
  refine bodyPost_gen fun w3 hw3 => ?_
  have U := ((((Upd.nil [] w).alloc #[.int .u8 (1 : Nat), .int .u64 (since : Nat), .int .u64 (now : Nat), .int .i64 v] 58).alloc #[.int .u64 (fo : Nat), .int .u64 (ke : Nat)] 30).alloc #[.int .u8 (1 : Nat), .int .u64 (since : Nat), .int .u64 (now : Nat), .int .i64 v] 58).same hw3
  clear hw3
  simp only [World.size_alloc] at U
  have a0 := (U.blk 0 rfl).cell (j := 0) (v := .int .u8 (1 : Nat)) rfl
  have a1 := (U.blk 0 rfl).cell (j := 1) (v := .int .u64 (since : Nat)) rfl
  have a2 := (U.blk 0 rfl).cell (j := 2) (v := .int .u64 (now : Nat)) rfl
  have a3 := (U.blk 0 rfl).cell (j := 3) (v := .int .i64 v) rfl
  refine bodyPost_ret (v := .agg #[.int .u8 (1 : Nat), .int .u64 (since : Nat), .int .u64 (now : Nat), .int .i64 v]) ?_ rfl ⟨rfl, U.below⟩
  simp [results, Tryz.results33, go_sem, a0, a1, a2, a3]
theorem phStep_J (fo ke now : Nat) (v : Int) (st since held : Nat) (val : Int) (w : World) (h0 : st ≠ 1) (h2 : st ≠ 2) (h3 : fo = 0) :
    Calls Tryz.prog 33 #[.agg #[.int .u8 st, .int .u64 since, .int .u64 held, .int .i64 val], .agg #[.int .u64 fo, .int .u64 ke], .int .u64 now, .bool true, .int .i64 v] w fun e w' => e = .returned (stepP fo ke now true v ⟨st, since, held, val⟩).agg ∧ Below w.heap.size w w' := by
  have e : stepP fo ke now true v ⟨st, since, held, val⟩ = ⟨2, now, now, v⟩ := by simp [stepP, h0, h2, h3, PhV.hold, PhV.lift, PhV.fire]
  rw [e]
  unfold PhV.agg
  dsimp only
  have q1 : ((st : Int) == 1) = false := by simp; omega
  have q2 : ((st : Int) == 2) = false := by simp; omega
  have d3 : decide (fo = 0) = true := by simp; omega
  clear h0 h2 h3
  clear e
  go_enter Tryz.func33, Tryz.ntmps33
  go_wp2_with fail
  refine bodyPost_gen fun w3 hw3 => ?_
  have U := ((((Upd.nil [] w).alloc #[.int .u8 (2 : Nat), .int .u64 (now : Nat), .int .u64 (now : Nat), .int .i64 v] 58).alloc #[.int .u64 (fo : Nat), .int .u64 (ke : Nat)] 30).alloc #[.int .u8 (2 : Nat), .int .u64 (now : Nat), .int .u64 (now : Nat), .int .i64 v] 58).same hw3
  clear hw3
  simp only [World.size_alloc] at U
  have a0 := (U.blk 0 rfl).cell (j := 0) (v := .int .u8 (2 : Nat)) rfl
  have a1 := (U.blk 0 rfl).cell (j := 1) (v := .int .u64 (now : Nat)) rfl
  have a2 := (U.blk 0 rfl).cell (j := 2) (v := .int .u64 (now : Nat)) rfl
  have a3 := (U.blk 0 rfl).cell (j := 3) (v := .int .i64 v) rfl
  refine bodyPost_ret (v := .agg #[.int .u8 (2 : Nat), .int .u64 (now : Nat), .int .u64 (now : Nat), .int .i64 v]) ?_ rfl ⟨rfl, U.below⟩
  simp [results, Tryz.results33, go_sem, a0, a1, a2, a3]
theorem phStep_K (fo ke now : Nat) (v : Int) (st since held : Nat) (val : Int) (w : World) (h0 : st ≠ 1) (h2 : st ≠ 2) (h3 : fo ≠ 0) :
    Calls Tryz.prog 33 #[.agg #[.int .u8 st, .int .u64 since, .int .u64 held, .int .i64 val], .agg #[.int .u64 fo, .int .u64 ke], .int .u64 now, .bool true, .int .i64 v] w fun e w' => e = .returned (stepP fo ke now true v ⟨st, since, held, val⟩).agg ∧ Below w.heap.size w w' := by
  have e : stepP fo ke now true v ⟨st, since, held, val⟩ = ⟨1, now, now, v⟩ := by simp [stepP, h0, h2, h3, PhV.hold, PhV.lift, PhV.fire]
  rw [e]
  unfold PhV.agg
  dsimp only
  have q1 : ((st : Int) == 1) = false := by simp; omega
  have q2 : ((st : Int) == 2) = false := by simp; omega
  have d3 : decide (fo = 0) = false := by simp; omega
  clear h0 h2 h3
  clear e
  go_enter Tryz.func33, Tryz.ntmps33
  go_wp2_with fail
  refine bodyPost_gen fun w3 hw3 => ?_
  have U := ((((Upd.nil [] w).alloc #[.int .u8 (1 : Nat), .int .u64 (now : Nat), .int .u64 (now : Nat), .int .i64 v] 58).alloc #[.int .u64 (fo : Nat), .int .u64 (ke : Nat)] 30).alloc #[.int .u8 (1 : Nat), .int .u64 (now : Nat), .int .u64 (now : Nat), .int .i64 v] 58).same hw3
  clear hw3
  simp only [World.size_alloc] at U
  have a0 := (U.blk 0 rfl).cell (j := 0) (v := .int .u8 (1 : Nat)) rfl
  have a1 := (U.blk 0 rfl).cell (j := 1) (v := .int .u64 (now : Nat)) rfl
  have a2 := (U.blk 0 rfl).cell (j := 2) (v := .int .u64 (now : Nat)) rfl
  have a3 := (U.blk 0 rfl).cell (j := 3) (v := .int .i64 v) rfl
  refine bodyPost_ret (v := .agg #[.int .u8 (1 : Nat), .int .u64 (now : Nat), .int .u64 (now : Nat), .int .i64 v]) ?_ rfl ⟨rfl, U.below⟩
  simp [results, Tryz.results33, go_sem, a0, a1, a2, a3]
/-- Step. -/
theorem phStep (fo ke now : Nat) (h : Bool) (v : Int) (p : PhV) (w : World) (hn : now < 18446744073709551616) :
    Calls Tryz.prog 33 #[p.agg, .agg #[.int .u64 fo, .int .u64 ke], .int .u64 now, .bool h, .int .i64 v] w fun e w' => e = .returned (stepP fo ke now h v p).agg ∧ Below w.heap.size w w' := by
  obtain ⟨st, since, held, val⟩ := p
  cases h with
  | false =>
    by_cases h0 : st = 0
    · exact phStep_A fo ke now v st since held val w h0
    by_cases h2 : st = 2
    · by_cases h1 : now < held
      · exact phStep_B fo ke now v st since held val w h2 h1
      · by_cases h3 : ke ≤ now - held
        · exact phStep_C fo ke now v st since held val w hn h2 (by omega) h3
        · exact phStep_D fo ke now v st since held val w hn h2 (by omega) h3
    · exact phStep_E fo ke now v st since held val w h0 h2
  | true =>
    by_cases h2 : st = 2
    · exact phStep_F fo ke now v st since held val w h2
    by_cases h0 : st = 1
    · by_cases h1 : now < since
      · exact phStep_I fo ke now v st since held val w h0 h1
      · by_cases h3 : fo ≤ now - since
        · exact phStep_G fo ke now v st since held val w hn h0 (by omega) h3
        · exact phStep_H fo ke now v st since held val w hn h0 (by omega) h3
    · by_cases h3 : fo = 0
      · exact phStep_J fo ke now v st since held val w h0 h2 h3
      · exact phStep_K fo ke now v st since held val w h0 h2 h3
end Go.Proofs.YtgpojkofegajeaaGreatDoor
