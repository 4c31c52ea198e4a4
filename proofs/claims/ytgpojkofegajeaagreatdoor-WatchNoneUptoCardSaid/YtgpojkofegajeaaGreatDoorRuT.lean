/-
  How a rule stands for the reference.
-/
import Derived.Test.YtgpojkofegajeaaGreatDoorRuR
namespace Go.Proofs.YtgpojkofegajeaaGreatDoor
open Go.RowKit FreeNew
set_option maxRecDepth 100000
attribute [local go_sem] out

theorem allocSzT (w : World) (o : Obj) : (w.alloc o).heap.size = w.heap.size + 1 := by show (w.heap.push _).size = _; exact Array.size_push _
theorem law13Ref (k : Nat) (lim : Int) (tk : Nat) (w : World) (hk : k < 256) : Calls Tryz.prog 36 #[.agg #[.int .u8 k, .int .i64 lim, .int .u64 tk]] w fun e w' => e = .returned (.agg #[.int .i64 k, .int .i64 lim, .int .u64 tk]) ∧ Below w.heap.size w w' := by
  have wk : IntKind.i64.wrap (k : Int) = (k : Int) := by simp only [IntKind.wrap, IntKind.bits, IntKind.signed]; simp; omega
  have U0 := ((Upd.nil [] w).alloc #[.int .u8 k, .int .i64 lim, .int .u64 tk] 28).alloc #[.int .i64 k, .int .i64 lim, .int .u64 tk] 62
  rw [allocSzT] at U0
  clear hk
  go_enter Tryz.func36, Tryz.ntmps36
  go_wp2_with fail
  refine bodyPost_gen fun w6 hw6 => ?_
  have U6 := U0.same hw6
  clear hw6 U0
  have a0 := (U6.blk 0 rfl).cell (j := 0) (v := .int .i64 k) rfl
  have a1 := (U6.blk 0 rfl).cell (j := 1) (v := .int .i64 lim) rfl
  have a2 := (U6.blk 0 rfl).cell (j := 2) (v := .int .u64 tk) rfl
  refine bodyPost_ret (v := .agg #[.int .i64 k, .int .i64 lim, .int .u64 tk]) ?_ rfl ⟨rfl, U6.below⟩
  simp [results, Tryz.results36, go_sem, a0, a1, a2]
set_option maxHeartbeats 4000000 in
theorem law15Ref (nm me : ByteArray) (A1 : Option Addr) (m1 q1 k : Nat) (lim : Int) (tk fo ke pr : Nat) (A2 : Option Addr) (m2 q2 : Nat) (w : World) (hk : k < 256) :
    Calls Tryz.prog 14 #[.agg #[.string nm, .string me, .slice A1 m1 q1, .int .u8 k, .int .i64 lim, .int .u64 tk, .int .u64 fo, .int .u64 ke, .int .u8 pr, .slice A2 m2 q2]] w fun e w' => e = .returned (.agg #[.string nm, .string me, .slice A1 m1 q1, .slice A2 m2 q2, .int .i64 k, .int .i64 lim, .int .u64 tk, .int .u64 fo, .int .u64 ke, .int .u8 pr]) ∧ Below w.heap.size w w' := by
  have K13 := fun w' => law13Ref k lim tk w' hk
  have U0 := ((Upd.nil [] w).alloc #[.string nm, .string me, .slice A1 m1 q1, .int .u8 k, .int .i64 lim, .int .u64 tk, .int .u64 fo, .int .u64 ke, .int .u8 pr, .slice A2 m2 q2] 32).alloc #[.string ⟨#[]⟩, .string ⟨#[]⟩, .slice none 0 0, .slice none 0 0, .int .i64 0, .int .i64 0, .int .u64 0, .int .u64 0, .int .u64 0, .int .u8 0] 64
  rw [allocSzT] at U0
  clear hk
  go_enter Tryz.func14, Tryz.ntmps14
  go_wp2_with fail
  refine wp_gen fun W hW => ?_
  have UW := U0.same hW
  clear hW U0
  have F : ∀ w', Below W.heap.size W w' → Upd [] w [chBlk (w.heap.size + 1) #[.string ⟨#[]⟩, .string ⟨#[]⟩, .slice none 0 0, .slice none 0 0, .int .i64 0, .int .i64 0, .int .u64 0, .int .u64 0, .int .u64 0, .int .u8 0] 64, chBlk w.heap.size #[.string nm, .string me, .slice A1 m1 q1, .int .u8 k, .int .i64 lim, .int .u64 tk, .int .u64 fo, .int .u64 ke, .int .u8 pr, .slice A2 m2 q2] 32] w' := fun w' h => UW.grow h
  have FC : ∀ w', Below W.heap.size W w' → w'.cell? ⟨w.heap.size, 0, none⟩ = some (.string nm) ∧ w'.cell? ⟨w.heap.size, 1, none⟩ = some (.string me) ∧ w'.cell? ⟨w.heap.size, 2, none⟩ = some (.slice A1 m1 q1) ∧ w'.cell? ⟨w.heap.size, 3, none⟩ = some (.int .u8 k) ∧ w'.cell? ⟨w.heap.size, 4, none⟩ = some (.int .i64 lim) ∧ w'.cell? ⟨w.heap.size, 5, none⟩ = some (.int .u64 tk) ∧ w'.cell? ⟨w.heap.size, 6, none⟩ = some (.int .u64 fo) ∧ w'.cell? ⟨w.heap.size, 7, none⟩ = some (.int .u64 ke) ∧ w'.cell? ⟨w.heap.size, 8, none⟩ = some (.int .u8 pr) ∧ w'.cell? ⟨w.heap.size, 9, none⟩ = some (.slice A2 m2 q2) := fun w' h => ⟨((F w' h).blk 1 rfl).cell (j := 0) (v := .string nm) rfl, ((F w' h).blk 1 rfl).cell (j := 1) (v := .string me) rfl, ((F w' h).blk 1 rfl).cell (j := 2) (v := .slice A1 m1 q1) rfl, ((F w' h).blk 1 rfl).cell (j := 3) (v := .int .u8 k) rfl, ((F w' h).blk 1 rfl).cell (j := 4) (v := .int .i64 lim) rfl, ((F w' h).blk 1 rfl).cell (j := 5) (v := .int .u64 tk) rfl, ((F w' h).blk 1 rfl).cell (j := 6) (v := .int .u64 fo) rfl, ((F w' h).blk 1 rfl).cell (j := 7) (v := .int .u64 ke) rfl, ((F w' h).blk 1 rfl).cell (j := 8) (v := .int .u8 pr) rfl, ((F w' h).blk 1 rfl).cell (j := 9) (v := .slice A2 m2 q2) rfl⟩
  refine region_free (fun w' => Below W.heap.size W w') [] [20] (List.range 20) (by kernel_rfl) (by kernel_rfl) (by kernel_rfl) (Below.refl _ _).drew ?_
  simp only [List.range, List.range.loop]
  have ext : ∀ w' w'', Below W.heap.size W w' → Below w'.heap.size w' w'' → Below W.heap.size W w'' := fun w' w'' h h2 => h.trans (h2.mono h.size)
  repeat (first
    | (refine RelSeq.pure_ (c := ?_) rfl rfl ?_ ?_; rotate_left; (focus (intro x w'; dsimp only; go_simp; (repeat' apply And.intro) <;> first | with_reducible rfl | assumption)); simp only [Act.put, List.setIfInBounds_toArray, List.set_cons_zero, List.set_cons_succ])
    | (refine RelSeq.grow_ (c := ?_) rfl rfl ?_ ?_; rotate_left; (focus (intro x w' hw _; dsimp only; obtain ⟨c0, c1, c2, c3, c4, c5, c6, c7, c8, c9⟩ := FC w' hw; have hbr := Below.refl w'.heap.size w'; go_simp; (repeat' apply And.intro) <;> first | with_reducible rfl | assumption)); simp only [Act.put, List.setIfInBounds_toArray, List.set_cons_zero, List.set_cons_succ])
    | (refine RelSeq.grow_ (c := ?_) rfl rfl ?_ ?_; rotate_left; (focus (intro x w' hw _; dsimp only; go_simp; (with_reducible refine (K13 w').mono ?_); rintro e w2 ⟨rfl, hb2⟩; have hI := ext w' w2 hw hb2; go_simp; (repeat' apply And.intro) <;> first | with_reducible rfl | assumption)); simp only [Act.put, List.setIfInBounds_toArray, List.set_cons_zero, List.set_cons_succ]))
  refine RelSeq.nil_ fun x w1 hw _ _ => ?_
  have U1 := F w1 hw
  clear F FC ext K13 UW hw
  refine TailSeq.cons_ rfl ?_
  have d0 := (U1.blk 0 rfl).cell (j := 0) (v := .string ⟨#[]⟩) rfl
  have d1 := (U1.blk 0 rfl).cell (j := 1) (v := .string ⟨#[]⟩) rfl
  have d2 := (U1.blk 0 rfl).cell (j := 2) (v := .slice none 0 0) rfl
  have d3 := (U1.blk 0 rfl).cell (j := 3) (v := .slice none 0 0) rfl
  have d4 := (U1.blk 0 rfl).cell (j := 4) (v := .int .i64 0) rfl
  have d5 := (U1.blk 0 rfl).cell (j := 5) (v := .int .i64 0) rfl
  have d6 := (U1.blk 0 rfl).cell (j := 6) (v := .int .u64 0) rfl
  have d7 := (U1.blk 0 rfl).cell (j := 7) (v := .int .u64 0) rfl
  have d8 := (U1.blk 0 rfl).cell (j := 8) (v := .int .u64 0) rfl
  have d9 := (U1.blk 0 rfl).cell (j := 9) (v := .int .u8 0) rfl
  have f0 := (U1.blk 0 rfl).frozen
  dsimp only at f0 ⊢
  go_simp
  refine TailSeq.nil_gen fun w2 hw2 => ?_
  have U2 := ((((((((((U1.put 0 rfl 0 (.string nm)).put 0 rfl 1 (.string me)).put 0 rfl 2 (.slice A1 m1 q1)).put 0 rfl 3 (.slice A2 m2 q2)).put 0 rfl 4 (.int .i64 k)).put 0 rfl 5 (.int .i64 lim)).put 0 rfl 6 (.int .u64 tk)).put 0 rfl 7 (.int .u64 fo)).put 0 rfl 8 (.int .u64 ke)).put 0 rfl 9 (.int .u8 pr)).same hw2
  simp only [List.setIfInBounds_toArray, List.set_cons_zero, List.set_cons_succ, List.eraseIdx_cons_zero] at U2
  clear hw2 U1 f0 d0 d1 d2 d3 d4 d5 d6 d7 d8 d9
  go_wp2_with fail
  have a0 := (U2.blk 0 rfl).cell (j := 0) (v := .string nm) rfl
  have a1 := (U2.blk 0 rfl).cell (j := 1) (v := .string me) rfl
  have a2 := (U2.blk 0 rfl).cell (j := 2) (v := .slice A1 m1 q1) rfl
  have a3 := (U2.blk 0 rfl).cell (j := 3) (v := .slice A2 m2 q2) rfl
  have a4 := (U2.blk 0 rfl).cell (j := 4) (v := .int .i64 k) rfl
  have a5 := (U2.blk 0 rfl).cell (j := 5) (v := .int .i64 lim) rfl
  have a6 := (U2.blk 0 rfl).cell (j := 6) (v := .int .u64 tk) rfl
  have a7 := (U2.blk 0 rfl).cell (j := 7) (v := .int .u64 fo) rfl
  have a8 := (U2.blk 0 rfl).cell (j := 8) (v := .int .u64 ke) rfl
  have a9 := (U2.blk 0 rfl).cell (j := 9) (v := .int .u8 pr) rfl
  refine bodyPost_ret (v := .agg #[.string nm, .string me, .slice A1 m1 q1, .slice A2 m2 q2, .int .i64 k, .int .i64 lim, .int .u64 tk, .int .u64 fo, .int .u64 ke, .int .u8 pr]) ?_ rfl ⟨rfl, U2.below⟩
  simp [results, Tryz.results14, go_sem, a0, a1, a2, a3, a4, a5, a6, a7, a8, a9]
end Go.Proofs.YtgpojkofegajeaaGreatDoor
