/-
  ViewUnlike: the walk.
-/
import Derived.Test.YtdghpjkjhlankaaAwake
import Derived.Test.YtdghpjkjhlankaaLaw
import Derived.Test.YtdghpjkjhlankaaFreeN
namespace Go.Proofs.Ytdghpjkjhlankaa
open Go.RowKit FreeNew
set_option maxRecDepth 100000
attribute [local go_sem] out

theorem tail_gen {P : Program} {ops : Array Oper} {Q : Exit → Act → World → Prop} {l : List Nat} {a : Act} {w : World} (h : ∀ w', w' = w → TailSeq P ops Q l a w') : TailSeq P ops Q l a w := h w rfl
theorem heap_set_other (w : World) (g i : Nat) (u : Value) {b : Nat} (h : b ≠ g) : (w.setCell ⟨g, i, none⟩ u).heap[b]? = w.heap[b]? := Below.heap_setCell w _ u b h
/-- Pairs do not lie in an alert's block that is new: what is written there leaves them. -/
theorem rd_far {w w' : World} {v : Value} {ps : List (ByteArray × ByteArray)} {g : Nat} {a0 a3 a4 a5 a6 : Int} {a1 : ByteArray} {aA : Option Addr} {an ac : Nat} (h : Rd w 2 v ps.length (pairCells ps)) (hB : Blk w g #[.int .u8 a0, .string a1, .slice aA an ac, .int .u8 a3, .int .u64 a4, .int .u8 a5, .int .i64 a6] 45) (hw : ∀ b, b ≠ g → w'.heap[b]? = w.heap[b]?) : Rd w' 2 v ps.length (pairCells ps) := by
  obtain ⟨A, c, rfl, h1, h2, h3, h4⟩ := h
  refine ⟨A, c, rfl, h1, h2, h3, fun hn => ?_⟩
  obtain ⟨b, o, rfl, hr⟩ := h4 hn
  refine ⟨b, o, rfl, fun j u hj => ?_⟩
  have hbg : b ≠ g := by
    rintro rfl
    cases ps with
    | nil => simp at hn
    | cons p r =>
      have c0 := hr 0 (.string p.1) (by simp [pairCells])
      have c1 := hr 1 (.string p.2) (by simp [pairCells])
      rw [Lib.cell_of_heap hB] at c0 c1
      match o, c0, c1 with
      | 0, c0, _ => simp at c0
      | 1, _, c1 => simp at c1
      | 2, c0, _ => simp at c0
      | 3, c0, _ => simp at c0
      | 4, c0, _ => simp at c0
      | 5, c0, _ => simp at c0
      | 6, c0, _ => simp at c0
      | o + 7, c0, _ => simp at c0
  have := hr j u hj
  simp only [World.cell?, hw b hbg] at this ⊢
  exact this

theorem eqB (a b : ByteArray) : (a.toList == b.toList) = decide (a = b) := by
  rw [Bool.eq_iff_iff, beq_iff_eq, decide_eq_true_iff, ba_toList_inj]
theorem unlike_size : ∀ s ∈ unlikeNames, s.size ≤ 1000000000 := by
  intro s hs
  have : s = mainB ∨ s = hubB 0 ∨ s = hubB 1 ∨ s = hubB 2 ∨ s = edgeB 0 := by simpa [unlikeNames, List.range, List.range.loop] using hs
  rcases this with rfl | rfl | rfl | rfl | rfl
  · decide
  · unfold hubB; rw [dec0]; decide
  · unfold hubB; rw [dec1]; decide
  · unfold hubB; rw [dec2]; decide
  · unfold edgeB; rw [dec0]; decide
theorem rule_size (r : Nat) : (ruleB r).size ≤ 1000000000 := by
  unfold ruleB
  split
  · decide
  · split <;> decide
set_option maxHeartbeats 4000000 in
theorem unlike (o r A B N s o' r' A' B' N' s' x y : Nat) (ho : o < 256) (hr : r < 256) (hA : A < 256) (hB : B < 256) (hN : N < 256) (hs : s < 256) (ho' : o' < 256) (hr' : r' < 256) (hA' : A' < 256) (hB' : B' < 256) (hN' : N' < 256) (hs' : s' < 256) (w : World) :
    Calls Try.prog 3 #[.agg #[.int .u8 o, .int .u8 r, .int .u8 A, .int .u8 B, .int .u8 N, .int .u8 s], .agg #[.int .u8 o', .int .u8 r', .int .u8 A', .int .u8 B', .int .u8 N', .int .u8 s'], .int .u16 x, .int .u16 y] w fun e w' => e = .returned (.bool true) ∧ Below w.heap.size w w' := by
  go_enter Try.func3, Try.ntmps3
  go_wp2_with fail
  (with_reducible refine (awake _).mono ?_)
  generalize hW0 : (w.alloc (.cells #[.int .u8 o, .int .u8 r, .int .u8 A, .int .u8 B, .int .u8 N, .int .u8 s] 23)).alloc (.cells #[.int .u8 o', .int .u8 r', .int .u8 A', .int .u8 B', .int .u8 N', .int .u8 s'] 23) = W0
  have hH : Holds w [(w.heap.size + 1, #[.int .u8 o', .int .u8 r', .int .u8 A', .int .u8 B', .int .u8 N', .int .u8 s'], 23), (w.heap.size, #[.int .u8 o, .int .u8 r, .int .u8 A, .int .u8 B, .int .u8 N, .int .u8 s], 23)] W0 := by
    rw [← hW0]
    exact ((Holds.nil w).new w.heap.size _ _ rfl).new (w.heap.size + 1) _ _ (by simp)
  have hBp : Blk W0 w.heap.size #[.int .u8 o, .int .u8 r, .int .u8 A, .int .u8 B, .int .u8 N, .int .u8 s] 23 := hH.2 _ (.tail _ (.head _))
  have hBq : Blk W0 (w.heap.size + 1) #[.int .u8 o', .int .u8 r', .int .u8 A', .int .u8 B', .int .u8 N', .int .u8 s'] 23 := hH.2 _ (.head _)
  have hb0 := hH.1
  clear hH hW0
  rintro e w1 ⟨rfl, hb1⟩
  have hBp1 := hBp.below hb1 hBp.lt
  have hBq1 := hBq.below hb1 hBq.lt
  have hbe1 : Below w.heap.size w w1 := hb0.trans (hb1.mono hb0.size)
  clear hBp hBq hb0 hb1
  go_wp2_with fail
  have hH2 : Holds w1 [(w1.heap.size, #[.int .u8 0, .int .u8 0], 5)] (w1.alloc (.cells #[.int .u8 0, .int .u8 0] 5)) := (Holds.nil w1).new w1.heap.size _ _ rfl
  have hR2 : Rd (w1.alloc (.cells #[.int .u8 0, .int .u8 0] 5)) 1 (.slice (some ⟨w1.heap.size, 0, none⟩) 2 2) 2 (u8s [0, 0]) := by
    refine ⟨_, _, rfl, rfl, Nat.le_refl _, by unfold maxLen; omega, fun _ => ⟨_, _, rfl, fun j u hj => ?_⟩⟩
    have hB := hH2.2 _ (.head _)
    match j, hj with
    | 0, hj => simp [u8s] at hj; subst hj; exact hB.cell rfl
    | 1, hj => simp [u8s] at hj; subst hj; exact hB.cell rfl
    | j + 2, hj => simp [u8s] at hj
  (with_reducible refine (topoNil _ [0, 0] _ hR2 (by simp)).mono ?_)
  have hb2 := hH2.1
  generalize w1.alloc (.cells #[.int .u8 0, .int .u8 0] 5) = w2 at hb2
  clear hH2 hR2
  rintro e w3 ⟨A0, n0, c0, RA, rn, rc, rfl, hNm, hb3⟩
  have hb13 : Below w1.heap.size w1 w3 := hb2.trans (hb3.mono hb2.size)
  have hBp3 := hBp1.below hb13 hBp1.lt
  have hBq3 := hBq1.below hb13 hBq1.lt
  have hbe3 : Below w.heap.size w w3 := hbe1.trans (hb13.mono hbe1.size)
  clear hBp1 hBq1 hbe1 hb2 hb3 hb13
  go_wp2_with fail
  refine wp_gen fun w4 hw4 => ?_
  have hba4 : Below w3.heap.size w3 w4 := by rw [hw4]; exact (Below.refl _ _).alloc (Nat.le_refl _) _
  have hBt4 : Blk w4 w3.heap.size #[.slice A0 n0 c0, .int .i64 1, .int .u64 1, .int .u64 1, .int .u64 1, .int .u64 2, .slice RA rn rc, .slice none 0 0] 33 := by rw [hw4]; exact Blk.new _ _ _
  have hBp4 := hBp3.below hba4 hBp3.lt
  have hBq4 := hBq3.below hba4 hBq3.lt
  have hbe4 : Below w.heap.size w w4 := hbe3.trans (hba4.mono hbe3.size)
  have hNm4 := hNm.below hba4
  clear hw4 hBp3 hBq3 hbe3 hNm
  have F : ∀ w', Below w4.heap.size w4 w' → w'.cell? ⟨w.heap.size, 0, none⟩ = some (.int .u8 o) ∧ w'.cell? ⟨w.heap.size, 1, none⟩ = some (.int .u8 r) ∧ w'.cell? ⟨w.heap.size, 2, none⟩ = some (.int .u8 A) ∧ w'.cell? ⟨w.heap.size, 3, none⟩ = some (.int .u8 B) ∧ w'.cell? ⟨w.heap.size, 4, none⟩ = some (.int .u8 N) ∧ w'.cell? ⟨w.heap.size, 5, none⟩ = some (.int .u8 s) ∧ w'.cell? ⟨w.heap.size + 1, 0, none⟩ = some (.int .u8 o') ∧ w'.cell? ⟨w.heap.size + 1, 1, none⟩ = some (.int .u8 r') ∧ w'.cell? ⟨w.heap.size + 1, 2, none⟩ = some (.int .u8 A') ∧ w'.cell? ⟨w.heap.size + 1, 3, none⟩ = some (.int .u8 B') ∧ w'.cell? ⟨w.heap.size + 1, 4, none⟩ = some (.int .u8 N') ∧ w'.cell? ⟨w.heap.size + 1, 5, none⟩ = some (.int .u8 s') := by
    intro w' h
    have h1 := hBp4.below h hBp4.lt
    have h2 := hBq4.below h hBq4.lt
    exact ⟨h1.cell rfl, h1.cell rfl, h1.cell rfl, h1.cell rfl, h1.cell rfl, h1.cell rfl, h2.cell rfl, h2.cell rfl, h2.cell rfl, h2.cell rfl, h2.cell rfl, h2.cell rfl⟩
  have S : ∀ w' w'', Below w4.heap.size w4 w' → Below w'.heap.size w' w'' → Below w4.heap.size w4 w'' := fun w' w'' h h2 => h.trans (h2.mono h.size)
  refine region_free (fun w' => Below w4.heap.size w4 w') [1, 3, 4, 5, 1000004, 1000005] [6, 7] [0, 1, 2, 3, 4, 5] (by kernel_rfl) (by kernel_rfl) (by kernel_rfl) (Below.refl _ _).drew ?_
  repeat (first
    | (refine RelSeq.pure_ (c := ?_) rfl rfl ?_ ?_; rotate_left; (focus (intro x w'; dsimp only; go_simp; (repeat' apply And.intro) <;> first | with_reducible rfl | assumption)); simp only [Act.put, List.setIfInBounds_toArray, List.set_cons_zero, List.set_cons_succ])
    | (refine RelSeq.grow_ (c := ?_) rfl rfl ?_ ?_; rotate_left; (focus (intro x w' hw _; dsimp only; obtain ⟨p0, p1, p2, p3, p4, p5, q0, q1, q2, q3, q4, q5⟩ := F w' hw; have hbr := Below.refl w'.heap.size w'; go_simp; (repeat' apply And.intro) <;> first | with_reducible rfl | assumption)); simp only [Act.put, List.setIfInBounds_toArray, List.set_cons_zero, List.set_cons_succ]))
  refine RelSeq.rel_ (fun v u => ∃ lv, v = .agg #[.int .u8 (o % 3 : Nat), .string (ruleB r), lv, .int .u8 (stOf s), .int .u64 0, .int .u8 (s / 4 % 8 : Nat), .int .i64 A] ∧ Rd u 2 lv (smallL [A, B, N]).length (pairCells (smallL [A, B, N]))) rfl rfl (fun v u u' h hb => let ⟨lv, h1, h2⟩ := h; ⟨lv, h1, h2.below hb⟩) ?_ ?_
  focus
    intro x w' hw _; dsimp only
    go_simp
    (with_reducible refine (smallAlert o r A B N s ho hr hA hB hN hs w').mono ?_)
    rintro e w3 ⟨lv, rfl, hrd, hb3⟩
    have hI := S w' w3 hw hb3
    go_simp
    (repeat' apply And.intro) <;> first | exact ⟨lv, rfl, hrd⟩ | assumption | (with_unfolding_all rfl)
  simp only [Act.put, List.setIfInBounds_toArray, List.set_cons_zero, List.set_cons_succ, List.nil_append]
  repeat (first
    | (refine RelSeq.pure_ (c := ?_) rfl rfl ?_ ?_; rotate_left; (focus (intro x w'; dsimp only; go_simp; (repeat' apply And.intro) <;> first | with_reducible rfl | assumption)); simp only [Act.put, List.setIfInBounds_toArray, List.set_cons_zero, List.set_cons_succ])
    | (refine RelSeq.grow_ (c := ?_) rfl rfl ?_ ?_; rotate_left; (focus (intro x w' hw _; dsimp only; obtain ⟨p0, p1, p2, p3, p4, p5, q0, q1, q2, q3, q4, q5⟩ := F w' hw; have hbr := Below.refl w'.heap.size w'; go_simp; (repeat' apply And.intro) <;> first | with_reducible rfl | assumption)); simp only [Act.put, List.setIfInBounds_toArray, List.set_cons_zero, List.set_cons_succ]))
  refine RelSeq.rel_ (fun v u => ∃ lv, v = .agg #[.int .u8 (o' % 3 : Nat), .string (ruleB r'), lv, .int .u8 (stOf s'), .int .u64 0, .int .u8 (s' / 4 % 8 : Nat), .int .i64 A'] ∧ Rd u 2 lv (smallL [A', B', N']).length (pairCells (smallL [A', B', N']))) rfl rfl (fun v u u' h hb => let ⟨lv, h1, h2⟩ := h; ⟨lv, h1, h2.below hb⟩) ?_ ?_
  focus
    intro x w' hw _; dsimp only
    go_simp
    (with_reducible refine (smallAlert o' r' A' B' N' s' ho' hr' hA' hB' hN' hs' w').mono ?_)
    rintro e w3 ⟨lv, rfl, hrd, hb3⟩
    have hI := S w' w3 hw hb3
    go_simp
    (repeat' apply And.intro) <;> first | exact ⟨lv, rfl, hrd⟩ | assumption | (with_unfolding_all rfl)
  simp only [Act.put, List.setIfInBounds_toArray, List.set_cons_zero, List.set_cons_succ, List.nil_append, List.cons_append]
  repeat (first
    | (refine RelSeq.pure_ (c := ?_) rfl rfl ?_ ?_; rotate_left; (focus (intro x w'; dsimp only; go_simp; (repeat' apply And.intro) <;> first | with_reducible rfl | assumption)); simp only [Act.put, List.setIfInBounds_toArray, List.set_cons_zero, List.set_cons_succ])
    | (refine RelSeq.grow_ (c := ?_) rfl rfl ?_ ?_; rotate_left; (focus (intro x w' hw _; dsimp only; obtain ⟨p0, p1, p2, p3, p4, p5, q0, q1, q2, q3, q4, q5⟩ := F w' hw; have hbr := Below.refl w'.heap.size w'; go_simp; (repeat' apply And.intro) <;> first | with_reducible rfl | assumption)); simp only [Act.put, List.setIfInBounds_toArray, List.set_cons_zero, List.set_cons_succ]))
  refine RelSeq.rel_ (NewPt w4.heap.size 0 #[.int .u8 0, .string ⟨#[]⟩, .slice none 0 0, .int .u8 0, .int .u64 0, .int .u8 0, .int .i64 0] 45) rfl rfl NewPt.stable ?_ ?_
  focus
    intro x w' hw _; dsimp only
    have hba : Below w'.heap.size w' (w'.alloc (.cells #[.int .u8 0, .string ⟨#[]⟩, .slice none 0 0, .int .u8 0, .int .u64 0, .int .u8 0, .int .i64 0] 45)) := (Below.refl _ _).alloc (Nat.le_refl _) _
    have hI := S w' _ hw hba
    have hsz := hw.size
    go_simp
    (repeat' apply And.intro) <;> first | assumption | exact ⟨_, rfl, hsz, Blk.new _ _ _⟩ | exact fun _ => ⟨_, rfl, Nat.le_refl _, by simp⟩
  simp only [Act.put, List.setIfInBounds_toArray, List.set_cons_zero, List.set_cons_succ, List.nil_append, List.cons_append]
  refine RelSeq.rel_ (NewPt w4.heap.size 0 #[.int .u8 0, .string ⟨#[]⟩, .slice none 0 0, .int .u8 0, .int .u64 0, .int .u8 0, .int .i64 0] 45) rfl rfl NewPt.stable ?_ ?_
  focus
    intro x w' hw _; dsimp only
    have hba : Below w'.heap.size w' (w'.alloc (.cells #[.int .u8 0, .string ⟨#[]⟩, .slice none 0 0, .int .u8 0, .int .u64 0, .int .u8 0, .int .i64 0] 45)) := (Below.refl _ _).alloc (Nat.le_refl _) _
    have hI := S w' _ hw hba
    have hsz := hw.size
    go_simp
    (repeat' apply And.intro) <;> first | assumption | exact ⟨_, rfl, hsz, Blk.new _ _ _⟩ | exact fun _ => ⟨_, rfl, Nat.le_refl _, by simp⟩
  simp only [Act.put, List.setIfInBounds_toArray, List.set_cons_zero, List.set_cons_succ, List.nil_append, List.cons_append]
  refine RelSeq.nil_ fun z w5 hw5 hf hap => ?_
  obtain ⟨lv, e1, hl1⟩ := hf _ (.head _)
  obtain ⟨lw, e3, hl3⟩ := hf _ (.tail _ (.head _))
  obtain ⟨b4, e4, hb4, hB4⟩ := hf _ (.tail _ (.tail _ (.head _)))
  obtain ⟨b5, e5, hb5, hB5⟩ := hf _ (.tail _ (.tail _ (.tail _ (.head _))))
  have hne : b4 ≠ b5 := hap 4 5 (by decide) (by with_unfolding_all rfl) (by with_unfolding_all rfl) (by simp) (by simp) b4 b5 e4 e5
  have hne2 : b5 ≠ b4 := fun e => hne e.symm
  have sh1 := hl1
  obtain ⟨Av, cv, rfl, _⟩ := sh1
  have sh3 := hl3
  obtain ⟨Aw, cw, rfl, _⟩ := sh3
  clear hf hap F S
  simp only [e1, e3, e4, e5]
  refine TailSeq.cons_ rfl ?_
  have f4 := hB4.frozen
  have p0 := hB4.cell (j := 0) (v := .int .u8 0) rfl
  have p1 := hB4.cell (j := 1) (v := .string ⟨#[]⟩) rfl
  have p2 := hB4.cell (j := 2) (v := .slice none 0 0) rfl
  have p3 := hB4.cell (j := 3) (v := .int .u8 0) rfl
  have p4 := hB4.cell (j := 4) (v := .int .u64 0) rfl
  have p5 := hB4.cell (j := 5) (v := .int .u8 0) rfl
  have p6 := hB4.cell (j := 6) (v := .int .i64 0) rfl
  go_simp
  refine tail_gen fun w6 hw6 => ?_
  have hB46 : Blk w6 b4 #[.int .u8 (o % 3 : Nat), .string (ruleB r), .slice Av (smallL [A, B, N]).length cv, .int .u8 (stOf s), .int .u64 0, .int .u8 (s / 4 % 8 : Nat), .int .i64 A] 45 := by rw [hw6]; have := (((((((hB4.set_ 0 (.int .u8 (o % 3 : Nat))).set_ 1 (.string (ruleB r))).set_ 2 (.slice Av (smallL [A, B, N]).length cv)).set_ 3 (.int .u8 (stOf s))).set_ 4 (.int .u64 0)).set_ 5 (.int .u8 (s / 4 % 8 : Nat))).set_ 6 (.int .i64 A)); simpa using this
  have hB56 : Blk w6 b5 #[.int .u8 0, .string ⟨#[]⟩, .slice none 0 0, .int .u8 0, .int .u64 0, .int .u8 0, .int .i64 0] 45 := by rw [hw6]; exact (((((((hB5.far (p := ⟨b4, 0, none⟩) hne2 _).far (p := ⟨b4, 1, none⟩) hne2 _).far (p := ⟨b4, 2, none⟩) hne2 _).far (p := ⟨b4, 3, none⟩) hne2 _).far (p := ⟨b4, 4, none⟩) hne2 _).far (p := ⟨b4, 5, none⟩) hne2 _).far (p := ⟨b4, 6, none⟩) hne2 _)
  have hw66 : Below w4.heap.size w4 w6 := by rw [hw6]; exact (((((((hw5.setCell (p := ⟨b4, 0, none⟩) hb4 _).setCell (p := ⟨b4, 1, none⟩) hb4 _).setCell (p := ⟨b4, 2, none⟩) hb4 _).setCell (p := ⟨b4, 3, none⟩) hb4 _).setCell (p := ⟨b4, 4, none⟩) hb4 _).setCell (p := ⟨b4, 5, none⟩) hb4 _).setCell (p := ⟨b4, 6, none⟩) hb4 _)
  have ho6 : ∀ b, b ≠ b4 → w6.heap[b]? = w5.heap[b]? := by intro b hb; rw [hw6]; simp only [heap_set_other _ _ _ _ hb]
  have hl16 := rd_far hl1 hB4 ho6
  have hl36 := rd_far hl3 hB4 ho6
  clear hw6 f4 p0 p1 p2 p3 p4 p5 p6 hB4 hB5 hl1 hl3 hw5 ho6
  refine TailSeq.cons_ rfl ?_
  have f5 := hB56.frozen
  have p0 := hB56.cell (j := 0) (v := .int .u8 0) rfl
  have p1 := hB56.cell (j := 1) (v := .string ⟨#[]⟩) rfl
  have p2 := hB56.cell (j := 2) (v := .slice none 0 0) rfl
  have p3 := hB56.cell (j := 3) (v := .int .u8 0) rfl
  have p4 := hB56.cell (j := 4) (v := .int .u64 0) rfl
  have p5 := hB56.cell (j := 5) (v := .int .u8 0) rfl
  have p6 := hB56.cell (j := 6) (v := .int .i64 0) rfl
  go_simp
  refine TailSeq.nil_gen fun w7 hw7 => ?_
  have hB57 : Blk w7 b5 #[.int .u8 (o' % 3 : Nat), .string (ruleB r'), .slice Aw (smallL [A', B', N']).length cw, .int .u8 (stOf s'), .int .u64 0, .int .u8 (s' / 4 % 8 : Nat), .int .i64 A'] 45 := by rw [hw7]; have := (((((((hB56.set_ 0 (.int .u8 (o' % 3 : Nat))).set_ 1 (.string (ruleB r'))).set_ 2 (.slice Aw (smallL [A', B', N']).length cw)).set_ 3 (.int .u8 (stOf s'))).set_ 4 (.int .u64 0)).set_ 5 (.int .u8 (s' / 4 % 8 : Nat))).set_ 6 (.int .i64 A')); simpa using this
  have hB47 : Blk w7 b4 #[.int .u8 (o % 3 : Nat), .string (ruleB r), .slice Av (smallL [A, B, N]).length cv, .int .u8 (stOf s), .int .u64 0, .int .u8 (s / 4 % 8 : Nat), .int .i64 A] 45 := by rw [hw7]; exact (((((((hB46.far (p := ⟨b5, 0, none⟩) hne _).far (p := ⟨b5, 1, none⟩) hne _).far (p := ⟨b5, 2, none⟩) hne _).far (p := ⟨b5, 3, none⟩) hne _).far (p := ⟨b5, 4, none⟩) hne _).far (p := ⟨b5, 5, none⟩) hne _).far (p := ⟨b5, 6, none⟩) hne _)
  have hw77 : Below w4.heap.size w4 w7 := by rw [hw7]; exact (((((((hw66.setCell (p := ⟨b5, 0, none⟩) hb5 _).setCell (p := ⟨b5, 1, none⟩) hb5 _).setCell (p := ⟨b5, 2, none⟩) hb5 _).setCell (p := ⟨b5, 3, none⟩) hb5 _).setCell (p := ⟨b5, 4, none⟩) hb5 _).setCell (p := ⟨b5, 5, none⟩) hb5 _).setCell (p := ⟨b5, 6, none⟩) hb5 _)
  have ho7 : ∀ b, b ≠ b5 → w7.heap[b]? = w6.heap[b]? := by intro b hb; rw [hw7]; simp only [heap_set_other _ _ _ _ hb]
  have hl17 := rd_far hl16 hB56 ho7
  have hl37 := rd_far hl36 hB56 ho7
  have hBt7 := hBt4.below hw77 hBt4.lt
  have hbe7 : Below w.heap.size w w7 := hbe4.trans (hw77.mono hbe4.size)
  have hsz7 : w.heap.size ≤ b4 ∧ w.heap.size ≤ b5 := ⟨Nat.le_trans hbe4.size hb4, Nat.le_trans hbe4.size hb5⟩
  have hbt : w3.heap.size < w4.heap.size := hBt4.lt
  have hT4 : w3.heap.size ≠ b4 ∧ w3.heap.size ≠ b5 := by omega
  clear hw7 f5 p0 p1 p2 p3 p4 p5 p6 hB46 hB56 hl16 hl36 hw66 ho7 hBt4 hbe4 hBp4 hBq4 e1 e3 e4 e5 hba4 hbt
  obtain ⟨o3, ho3⟩ : ∃ n, n = o % 3 := ⟨_, rfl⟩
  obtain ⟨q8, hq8⟩ : ∃ n, n = s / 4 % 8 := ⟨_, rfl⟩
  obtain ⟨o3', ho3'⟩ : ∃ n, n = o' % 3 := ⟨_, rfl⟩
  obtain ⟨q8', hq8'⟩ : ∃ n, n = s' / 4 % 8 := ⟨_, rfl⟩
  obtain ⟨x9, hx9⟩ : ∃ n, n = x % 9 := ⟨_, rfl⟩
  obtain ⟨y9, hy9⟩ : ∃ n, n = y % 9 := ⟨_, rfl⟩
  rw [← ho3, ← hq8] at hB47
  rw [← ho3', ← hq8'] at hB57
  have tx : (x : Int).tmod 9 = (x9 : Int) := by rw [hx9]; rfl
  have ty : (y : Int).tmod 9 = (y9 : Int) := by rw [hy9]; rfl
  have lo3 : o3 < 3 := by omega
  have lo3' : o3' < 3 := by omega
  have lx9 : x9 < 9 := by omega
  have ly9 : y9 < 9 := by omega
  clear ho3 ho3' hq8 hq8' hx9 hy9
  have p0 := hB47.cell (j := 0) (v := .int .u8 o3) rfl
  have p1 := hB47.cell (j := 1) (v := .string (ruleB r)) rfl
  have p2 := hB47.cell (j := 2) (v := .slice Av (smallL [A, B, N]).length cv) rfl
  have p3 := hB47.cell (j := 3) (v := .int .u8 (stOf s)) rfl
  have p4 := hB47.cell (j := 4) (v := .int .u64 0) rfl
  have p5 := hB47.cell (j := 5) (v := .int .u8 q8) rfl
  have p6 := hB47.cell (j := 6) (v := .int .i64 A) rfl
  have q0 := hB57.cell (j := 0) (v := .int .u8 o3') rfl
  have q1 := hB57.cell (j := 1) (v := .string (ruleB r')) rfl
  have q2 := hB57.cell (j := 2) (v := .slice Aw (smallL [A', B', N']).length cw) rfl
  have q3 := hB57.cell (j := 3) (v := .int .u8 (stOf s')) rfl
  have q4 := hB57.cell (j := 4) (v := .int .u64 0) rfl
  have q5 := hB57.cell (j := 5) (v := .int .u8 q8') rfl
  have q6 := hB57.cell (j := 6) (v := .int .i64 A') rfl
  have f4 := hB47.frozen
  have f5 := hB57.frozen
  go_wp2_with fail
  generalize hw8 : (w7.setCell ⟨b4, 4, none⟩ (.int .u64 x9)).setCell ⟨b5, 4, none⟩ (.int .u64 y9) = w8
  have hBa : Blk (w7.setCell ⟨b4, 4, none⟩ (.int .u64 x9)) b4 #[.int .u8 o3, .string (ruleB r), .slice Av (smallL [A, B, N]).length cv, .int .u8 (stOf s), .int .u64 x9, .int .u8 q8, .int .i64 A] 45 := by have := hB47.set_ 4 (.int .u64 x9); simpa using this
  have hBb : Blk (w7.setCell ⟨b4, 4, none⟩ (.int .u64 x9)) b5 #[.int .u8 o3', .string (ruleB r'), .slice Aw (smallL [A', B', N']).length cw, .int .u8 (stOf s'), .int .u64 0, .int .u8 q8', .int .i64 A'] 45 := hB57.far (p := ⟨b4, 4, none⟩) hne2 _
  have hB48 : Blk w8 b4 #[.int .u8 o3, .string (ruleB r), .slice Av (smallL [A, B, N]).length cv, .int .u8 (stOf s), .int .u64 x9, .int .u8 q8, .int .i64 A] 45 := by rw [← hw8]; exact hBa.far (p := ⟨b5, 4, none⟩) hne _
  have hB58 : Blk w8 b5 #[.int .u8 o3', .string (ruleB r'), .slice Aw (smallL [A', B', N']).length cw, .int .u8 (stOf s'), .int .u64 y9, .int .u8 q8', .int .i64 A'] 45 := by rw [← hw8]; have := hBb.set_ 4 (.int .u64 y9); simpa using this
  have hl18 : Rd w8 2 (.slice Av (smallL [A, B, N]).length cv) (smallL [A, B, N]).length (pairCells (smallL [A, B, N])) := by
    rw [← hw8]
    exact rd_far (rd_far hl17 hB47 fun b hb => heap_set_other _ _ _ _ hb) hBb fun b hb => heap_set_other _ _ _ _ hb
  have hl38 : Rd w8 2 (.slice Aw (smallL [A', B', N']).length cw) (smallL [A', B', N']).length (pairCells (smallL [A', B', N'])) := by
    rw [← hw8]
    exact rd_far (rd_far hl37 hB47 fun b hb => heap_set_other _ _ _ _ hb) hBb fun b hb => heap_set_other _ _ _ _ hb
  have hBt8 : Blk w8 w3.heap.size #[.slice A0 n0 c0, .int .i64 1, .int .u64 1, .int .u64 1, .int .u64 1, .int .u64 2, .slice RA rn rc, .slice none 0 0] 33 := by rw [← hw8]; exact (hBt7.far (p := ⟨b4, 4, none⟩) hT4.1 _).far (p := ⟨b5, 4, none⟩) hT4.2 _
  have hNm8 : Named w8 (.slice A0 n0 c0) unlikeNames := by
    rw [← hw8]
    exact hNm4.below ((hw77.setCell (p := ⟨b4, 4, none⟩) hb4 _).setCell (p := ⟨b5, 4, none⟩) hb5 _)
  have hbe8 : Below w.heap.size w w8 := by rw [← hw8]; exact (hbe7.setCell (p := ⟨b4, 4, none⟩) hsz7.1 _).setCell (p := ⟨b5, 4, none⟩) hsz7.2 _
  clear hw8 hBa hBb hB47 hB57 hl17 hl37 hBt7 hNm4 hw77 hb4 hb5 hbe7 f4 f5 p0 q0 p1 q1 p2 q2 p3 q3 p4 q4 p5 q5 p6 q6
  (with_reducible refine (refOne o3 o3' (ruleB r) (ruleB r') _ _ _ _ _ _ _ _ _ _ _ _ _ hl18 hl38).mono ?_)
  rintro e w9 ⟨rfl, hb9⟩
  have hB49 := hB48.below hb9 hB48.lt
  have hB59 := hB58.below hb9 hB58.lt
  have hBt9 := hBt8.below hb9 hBt8.lt
  have hl19 := hl18.below hb9
  have hl39 := hl38.below hb9
  have hNm9 := hNm8.below hb9
  have hbe9 : Below w.heap.size w w9 := hbe8.trans (hb9.mono hbe8.size)
  have HL := Lib.hid (law o3 r A B N s x9 o3' r' A' B' N' s' y9 lo3 lo3' lx9 ly9 hA hA')
  clear hB48 hB58 hBt8 hl18 hl38 hNm8 hbe8 hb9
  have p0 := hB49.cell (j := 0) (v := .int .u8 o3) rfl
  have p1 := hB49.cell (j := 1) (v := .string (ruleB r)) rfl
  have p2 := hB49.cell (j := 2) (v := .slice Av (smallL [A, B, N]).length cv) rfl
  have p3 := hB49.cell (j := 3) (v := .int .u8 (stOf s)) rfl
  have p4 := hB49.cell (j := 4) (v := .int .u64 x9) rfl
  have p5 := hB49.cell (j := 5) (v := .int .u8 q8) rfl
  have p6 := hB49.cell (j := 6) (v := .int .i64 A) rfl
  have q0 := hB59.cell (j := 0) (v := .int .u8 o3') rfl
  have q1 := hB59.cell (j := 1) (v := .string (ruleB r')) rfl
  have q2 := hB59.cell (j := 2) (v := .slice Aw (smallL [A', B', N']).length cw) rfl
  have q3 := hB59.cell (j := 3) (v := .int .u8 (stOf s')) rfl
  have q4 := hB59.cell (j := 4) (v := .int .u64 y9) rfl
  have q5 := hB59.cell (j := 5) (v := .int .u8 q8') rfl
  have q6 := hB59.cell (j := 6) (v := .int .i64 A') rfl
  have F : ∀ w', Below w9.heap.size w9 w' → w'.cell? ⟨w3.heap.size, 0, none⟩ = some (.slice A0 n0 c0) ∧ w'.cell? ⟨w3.heap.size, 1, none⟩ = some (.int .i64 1) ∧ w'.cell? ⟨w3.heap.size, 2, none⟩ = some (.int .u64 1) ∧ w'.cell? ⟨w3.heap.size, 3, none⟩ = some (.int .u64 1) ∧ w'.cell? ⟨w3.heap.size, 4, none⟩ = some (.int .u64 1) ∧ w'.cell? ⟨w3.heap.size, 5, none⟩ = some (.int .u64 2) ∧ w'.cell? ⟨w3.heap.size, 6, none⟩ = some (.slice RA rn rc) ∧ w'.cell? ⟨w3.heap.size, 7, none⟩ = some (.slice none 0 0) ∧ w'.cell? ⟨b4, 0, none⟩ = some (.int .u8 o3) ∧ w'.cell? ⟨b4, 1, none⟩ = some (.string (ruleB r)) ∧ w'.cell? ⟨b4, 2, none⟩ = some (.slice Av (smallL [A, B, N]).length cv) ∧ w'.cell? ⟨b4, 3, none⟩ = some (.int .u8 (stOf s)) ∧ w'.cell? ⟨b4, 4, none⟩ = some (.int .u64 x9) ∧ w'.cell? ⟨b4, 5, none⟩ = some (.int .u8 q8) ∧ w'.cell? ⟨b4, 6, none⟩ = some (.int .i64 A) ∧ w'.cell? ⟨b5, 0, none⟩ = some (.int .u8 o3') ∧ w'.cell? ⟨b5, 1, none⟩ = some (.string (ruleB r')) ∧ w'.cell? ⟨b5, 2, none⟩ = some (.slice Aw (smallL [A', B', N']).length cw) ∧ w'.cell? ⟨b5, 3, none⟩ = some (.int .u8 (stOf s')) ∧ w'.cell? ⟨b5, 4, none⟩ = some (.int .u64 y9) ∧ w'.cell? ⟨b5, 5, none⟩ = some (.int .u8 q8') ∧ w'.cell? ⟨b5, 6, none⟩ = some (.int .i64 A') := by
    intro w' h
    have h1 := hBt9.below h hBt9.lt
    have h2 := hB49.below h hB49.lt
    have h3 := hB59.below h hB59.lt
    exact ⟨h1.cell rfl, h1.cell rfl, h1.cell rfl, h1.cell rfl, h1.cell rfl, h1.cell rfl, h1.cell rfl, h1.cell rfl, h2.cell rfl, h2.cell rfl, h2.cell rfl, h2.cell rfl, h2.cell rfl, h2.cell rfl, h2.cell rfl, h3.cell rfl, h3.cell rfl, h3.cell rfl, h3.cell rfl, h3.cell rfl, h3.cell rfl, h3.cell rfl⟩
  have S : ∀ w' w'', Below w9.heap.size w9 w' → Below w'.heap.size w' w'' → Below w9.heap.size w9 w'' := fun w' w'' h h2 => h.trans (h2.mono h.size)
  cases hone : oneB o3 (ruleB r) (smallL [A, B, N]) o3' (ruleB r') (smallL [A', B', N'])
  · have H1 := Lib.hid hone; clear hone
    go_wp2_with fail
    refine region_free (fun w' => Below w9.heap.size w9 w') [] [] (List.range 10) (by kernel_rfl) (by kernel_rfl) (by kernel_rfl) (Below.refl _ _).drew ?_
    simp only [List.range, List.range.loop]
    repeat (first
      | (refine RelSeq.pure_ (c := ?_) rfl rfl ?_ ?_; rotate_left; (focus (intro x w'; dsimp only; go_simp; (repeat' apply And.intro) <;> first | with_reducible rfl | assumption)); simp only [Act.put, List.setIfInBounds_toArray, List.set_cons_zero, List.set_cons_succ])
      | (refine RelSeq.grow_ (c := ?_) rfl rfl ?_ ?_; rotate_left; (focus (intro x w' hw _; dsimp only; obtain ⟨t0, t1, t2, t3, t4, t5, t6, t7, p0, p1, p2, p3, p4, p5, p6, q0, q1, q2, q3, q4, q5, q6⟩ := F w' hw; have hbr := Below.refl w'.heap.size w'; go_simp; (repeat' apply And.intro) <;> first | with_reducible rfl | assumption)); simp only [Act.put, List.setIfInBounds_toArray, List.set_cons_zero, List.set_cons_succ]))
    refine RelSeq.grow_ (c := ?_) rfl rfl ?_ ?_; rotate_left
    focus
      intro x w' hw _; dsimp only
      go_simp
      (with_reducible refine (viewAlert _ _ _ _ _ _ _ _ unlikeNames o3 (ruleB r) (.slice Av (smallL [A, B, N]).length cv) (smallL [A, B, N]) _ x9 _ A w' (hNm9.below hw) (by omega) (hl19.below hw) (by omega) (by omega) (by omega) unlike_size (rule_size r) (Nat.le_trans (text_len A B N) (by decide))).mono ?_)
      rintro e w3 ⟨rfl, hb3⟩
      have hI := S w' w3 hw hb3
      go_simp
      (repeat' apply And.intro) <;> first | with_reducible rfl | assumption
    simp only [Act.put, List.setIfInBounds_toArray, List.set_cons_zero, List.set_cons_succ]
    repeat (first
      | (refine RelSeq.pure_ (c := ?_) rfl rfl ?_ ?_; rotate_left; (focus (intro x w'; dsimp only; go_simp; (repeat' apply And.intro) <;> first | with_reducible rfl | assumption)); simp only [Act.put, List.setIfInBounds_toArray, List.set_cons_zero, List.set_cons_succ])
      | (refine RelSeq.grow_ (c := ?_) rfl rfl ?_ ?_; rotate_left; (focus (intro x w' hw _; dsimp only; obtain ⟨t0, t1, t2, t3, t4, t5, t6, t7, p0, p1, p2, p3, p4, p5, p6, q0, q1, q2, q3, q4, q5, q6⟩ := F w' hw; have hbr := Below.refl w'.heap.size w'; go_simp; (repeat' apply And.intro) <;> first | with_reducible rfl | assumption)); simp only [Act.put, List.setIfInBounds_toArray, List.set_cons_zero, List.set_cons_succ]))
    refine RelSeq.grow_ (c := ?_) rfl rfl ?_ ?_; rotate_left
    focus
      intro x w' hw _; dsimp only
      go_simp
      (with_reducible refine (viewAlert _ _ _ _ _ _ _ _ unlikeNames o3' (ruleB r') (.slice Aw (smallL [A', B', N']).length cw) (smallL [A', B', N']) _ y9 _ A' w' (hNm9.below hw) (by omega) (hl39.below hw) (by omega) (by omega) (by omega) unlike_size (rule_size r') (Nat.le_trans (text_len A' B' N') (by decide))).mono ?_)
      rintro e w3 ⟨rfl, hb3⟩
      have hI := S w' w3 hw hb3
      go_simp
      (repeat' apply And.intro) <;> first | with_reducible rfl | assumption
    simp only [Act.put, List.setIfInBounds_toArray, List.set_cons_zero, List.set_cons_succ]
    repeat (first
      | (refine RelSeq.pure_ (c := ?_) rfl rfl ?_ ?_; rotate_left; (focus (intro x w'; dsimp only; go_simp; (repeat' apply And.intro) <;> first | with_reducible rfl | assumption)); simp only [Act.put, List.setIfInBounds_toArray, List.set_cons_zero, List.set_cons_succ])
      | (refine RelSeq.grow_ (c := ?_) rfl rfl ?_ ?_; rotate_left; (focus (intro x w' hw _; dsimp only; obtain ⟨t0, t1, t2, t3, t4, t5, t6, t7, p0, p1, p2, p3, p4, p5, p6, q0, q1, q2, q3, q4, q5, q6⟩ := F w' hw; have hbr := Below.refl w'.heap.size w'; go_simp; (repeat' apply And.intro) <;> first | with_reducible rfl | assumption)); simp only [Act.put, List.setIfInBounds_toArray, List.set_cons_zero, List.set_cons_succ]))
    refine RelSeq.nil_ fun x w' hw _ _ => TailSeq.nil_ ?_
    have hbw := hbe9.trans (hw.mono hbe9.size)
    go_wp2
    go_ret
    have hfin : ((alertB unlikeNames o3 (ruleB r) (smallL [A, B, N]) (stOf s) x9 A).toList == (alertB unlikeNames o3' (ruleB r') (smallL [A', B', N']) (stOf s') y9 A').toList) = false := by
      rw [eqB, HL.out]
      simp [H1.out]
    exact ⟨congrArg (fun b => Ending.returned (Value.bool (!b))) hfin, hbw⟩
  · have H1 := Lib.hid hone; clear hone
    by_cases hst : stOf s = stOf s'
    · have t1 : ((stOf s : Int) == (stOf s' : Int)) = true := by rw [beq_iff_eq]; omega
      have H2 := Lib.hid hst; clear hst
      by_cases hsi : x9 = y9
      · have t2 : ((x9 : Int) == (y9 : Int)) = true := by rw [beq_iff_eq]; omega
        have H3 := Lib.hid hsi; clear hsi
        by_cases hv : A = A'
        · have t3 : ((A : Int) == (A' : Int)) = true := by rw [beq_iff_eq]; omega
          have H4 := Lib.hid hv; clear hv
          go_wp2_with fail
          refine region_free (fun w' => Below w9.heap.size w9 w') [] [] (List.range 10) (by kernel_rfl) (by kernel_rfl) (by kernel_rfl) (Below.refl _ _).drew ?_
          simp only [List.range, List.range.loop]
          repeat (first
            | (refine RelSeq.pure_ (c := ?_) rfl rfl ?_ ?_; rotate_left; (focus (intro x w'; dsimp only; go_simp; (repeat' apply And.intro) <;> first | with_reducible rfl | assumption)); simp only [Act.put, List.setIfInBounds_toArray, List.set_cons_zero, List.set_cons_succ])
            | (refine RelSeq.grow_ (c := ?_) rfl rfl ?_ ?_; rotate_left; (focus (intro x w' hw _; dsimp only; obtain ⟨t0, t1, t2, t3, t4, t5, t6, t7, p0, p1, p2, p3, p4, p5, p6, q0, q1, q2, q3, q4, q5, q6⟩ := F w' hw; have hbr := Below.refl w'.heap.size w'; go_simp; (repeat' apply And.intro) <;> first | with_reducible rfl | assumption)); simp only [Act.put, List.setIfInBounds_toArray, List.set_cons_zero, List.set_cons_succ]))
          refine RelSeq.grow_ (c := ?_) rfl rfl ?_ ?_; rotate_left
          focus
            intro x w' hw _; dsimp only
            go_simp
            (with_reducible refine (viewAlert _ _ _ _ _ _ _ _ unlikeNames o3 (ruleB r) (.slice Av (smallL [A, B, N]).length cv) (smallL [A, B, N]) _ x9 _ A w' (hNm9.below hw) (by omega) (hl19.below hw) (by omega) (by omega) (by omega) unlike_size (rule_size r) (Nat.le_trans (text_len A B N) (by decide))).mono ?_)
            rintro e w3 ⟨rfl, hb3⟩
            have hI := S w' w3 hw hb3
            go_simp
            (repeat' apply And.intro) <;> first | with_reducible rfl | assumption
          simp only [Act.put, List.setIfInBounds_toArray, List.set_cons_zero, List.set_cons_succ]
          repeat (first
            | (refine RelSeq.pure_ (c := ?_) rfl rfl ?_ ?_; rotate_left; (focus (intro x w'; dsimp only; go_simp; (repeat' apply And.intro) <;> first | with_reducible rfl | assumption)); simp only [Act.put, List.setIfInBounds_toArray, List.set_cons_zero, List.set_cons_succ])
            | (refine RelSeq.grow_ (c := ?_) rfl rfl ?_ ?_; rotate_left; (focus (intro x w' hw _; dsimp only; obtain ⟨t0, t1, t2, t3, t4, t5, t6, t7, p0, p1, p2, p3, p4, p5, p6, q0, q1, q2, q3, q4, q5, q6⟩ := F w' hw; have hbr := Below.refl w'.heap.size w'; go_simp; (repeat' apply And.intro) <;> first | with_reducible rfl | assumption)); simp only [Act.put, List.setIfInBounds_toArray, List.set_cons_zero, List.set_cons_succ]))
          refine RelSeq.grow_ (c := ?_) rfl rfl ?_ ?_; rotate_left
          focus
            intro x w' hw _; dsimp only
            go_simp
            (with_reducible refine (viewAlert _ _ _ _ _ _ _ _ unlikeNames o3' (ruleB r') (.slice Aw (smallL [A', B', N']).length cw) (smallL [A', B', N']) _ y9 _ A' w' (hNm9.below hw) (by omega) (hl39.below hw) (by omega) (by omega) (by omega) unlike_size (rule_size r') (Nat.le_trans (text_len A' B' N') (by decide))).mono ?_)
            rintro e w3 ⟨rfl, hb3⟩
            have hI := S w' w3 hw hb3
            go_simp
            (repeat' apply And.intro) <;> first | with_reducible rfl | assumption
          simp only [Act.put, List.setIfInBounds_toArray, List.set_cons_zero, List.set_cons_succ]
          repeat (first
            | (refine RelSeq.pure_ (c := ?_) rfl rfl ?_ ?_; rotate_left; (focus (intro x w'; dsimp only; go_simp; (repeat' apply And.intro) <;> first | with_reducible rfl | assumption)); simp only [Act.put, List.setIfInBounds_toArray, List.set_cons_zero, List.set_cons_succ])
            | (refine RelSeq.grow_ (c := ?_) rfl rfl ?_ ?_; rotate_left; (focus (intro x w' hw _; dsimp only; obtain ⟨t0, t1, t2, t3, t4, t5, t6, t7, p0, p1, p2, p3, p4, p5, p6, q0, q1, q2, q3, q4, q5, q6⟩ := F w' hw; have hbr := Below.refl w'.heap.size w'; go_simp; (repeat' apply And.intro) <;> first | with_reducible rfl | assumption)); simp only [Act.put, List.setIfInBounds_toArray, List.set_cons_zero, List.set_cons_succ]))
          refine RelSeq.nil_ fun x w' hw _ _ => TailSeq.nil_ ?_
          have hbw := hbe9.trans (hw.mono hbe9.size)
          go_wp2
          go_ret
          have hfin : ((alertB unlikeNames o3 (ruleB r) (smallL [A, B, N]) (stOf s) x9 A).toList == (alertB unlikeNames o3' (ruleB r') (smallL [A', B', N']) (stOf s') y9 A').toList) = true := by
            rw [eqB, HL.out, H1.out, decide_eq_true H2.out, decide_eq_true H3.out, decide_eq_true H4.out]
            rfl
          exact ⟨congrArg (fun b => Ending.returned (Value.bool b)) hfin, hbw⟩
        · have t3 : ((A : Int) == (A' : Int)) = false := by rw [beq_eq_false_iff_ne]; omega
          have H4 := Lib.hid hv; clear hv
          go_wp2_with fail
          refine region_free (fun w' => Below w9.heap.size w9 w') [] [] (List.range 10) (by kernel_rfl) (by kernel_rfl) (by kernel_rfl) (Below.refl _ _).drew ?_
          simp only [List.range, List.range.loop]
          repeat (first
            | (refine RelSeq.pure_ (c := ?_) rfl rfl ?_ ?_; rotate_left; (focus (intro x w'; dsimp only; go_simp; (repeat' apply And.intro) <;> first | with_reducible rfl | assumption)); simp only [Act.put, List.setIfInBounds_toArray, List.set_cons_zero, List.set_cons_succ])
            | (refine RelSeq.grow_ (c := ?_) rfl rfl ?_ ?_; rotate_left; (focus (intro x w' hw _; dsimp only; obtain ⟨t0, t1, t2, t3, t4, t5, t6, t7, p0, p1, p2, p3, p4, p5, p6, q0, q1, q2, q3, q4, q5, q6⟩ := F w' hw; have hbr := Below.refl w'.heap.size w'; go_simp; (repeat' apply And.intro) <;> first | with_reducible rfl | assumption)); simp only [Act.put, List.setIfInBounds_toArray, List.set_cons_zero, List.set_cons_succ]))
          refine RelSeq.grow_ (c := ?_) rfl rfl ?_ ?_; rotate_left
          focus
            intro x w' hw _; dsimp only
            go_simp
            (with_reducible refine (viewAlert _ _ _ _ _ _ _ _ unlikeNames o3 (ruleB r) (.slice Av (smallL [A, B, N]).length cv) (smallL [A, B, N]) _ x9 _ A w' (hNm9.below hw) (by omega) (hl19.below hw) (by omega) (by omega) (by omega) unlike_size (rule_size r) (Nat.le_trans (text_len A B N) (by decide))).mono ?_)
            rintro e w3 ⟨rfl, hb3⟩
            have hI := S w' w3 hw hb3
            go_simp
            (repeat' apply And.intro) <;> first | with_reducible rfl | assumption
          simp only [Act.put, List.setIfInBounds_toArray, List.set_cons_zero, List.set_cons_succ]
          repeat (first
            | (refine RelSeq.pure_ (c := ?_) rfl rfl ?_ ?_; rotate_left; (focus (intro x w'; dsimp only; go_simp; (repeat' apply And.intro) <;> first | with_reducible rfl | assumption)); simp only [Act.put, List.setIfInBounds_toArray, List.set_cons_zero, List.set_cons_succ])
            | (refine RelSeq.grow_ (c := ?_) rfl rfl ?_ ?_; rotate_left; (focus (intro x w' hw _; dsimp only; obtain ⟨t0, t1, t2, t3, t4, t5, t6, t7, p0, p1, p2, p3, p4, p5, p6, q0, q1, q2, q3, q4, q5, q6⟩ := F w' hw; have hbr := Below.refl w'.heap.size w'; go_simp; (repeat' apply And.intro) <;> first | with_reducible rfl | assumption)); simp only [Act.put, List.setIfInBounds_toArray, List.set_cons_zero, List.set_cons_succ]))
          refine RelSeq.grow_ (c := ?_) rfl rfl ?_ ?_; rotate_left
          focus
            intro x w' hw _; dsimp only
            go_simp
            (with_reducible refine (viewAlert _ _ _ _ _ _ _ _ unlikeNames o3' (ruleB r') (.slice Aw (smallL [A', B', N']).length cw) (smallL [A', B', N']) _ y9 _ A' w' (hNm9.below hw) (by omega) (hl39.below hw) (by omega) (by omega) (by omega) unlike_size (rule_size r') (Nat.le_trans (text_len A' B' N') (by decide))).mono ?_)
            rintro e w3 ⟨rfl, hb3⟩
            have hI := S w' w3 hw hb3
            go_simp
            (repeat' apply And.intro) <;> first | with_reducible rfl | assumption
          simp only [Act.put, List.setIfInBounds_toArray, List.set_cons_zero, List.set_cons_succ]
          repeat (first
            | (refine RelSeq.pure_ (c := ?_) rfl rfl ?_ ?_; rotate_left; (focus (intro x w'; dsimp only; go_simp; (repeat' apply And.intro) <;> first | with_reducible rfl | assumption)); simp only [Act.put, List.setIfInBounds_toArray, List.set_cons_zero, List.set_cons_succ])
            | (refine RelSeq.grow_ (c := ?_) rfl rfl ?_ ?_; rotate_left; (focus (intro x w' hw _; dsimp only; obtain ⟨t0, t1, t2, t3, t4, t5, t6, t7, p0, p1, p2, p3, p4, p5, p6, q0, q1, q2, q3, q4, q5, q6⟩ := F w' hw; have hbr := Below.refl w'.heap.size w'; go_simp; (repeat' apply And.intro) <;> first | with_reducible rfl | assumption)); simp only [Act.put, List.setIfInBounds_toArray, List.set_cons_zero, List.set_cons_succ]))
          refine RelSeq.nil_ fun x w' hw _ _ => TailSeq.nil_ ?_
          have hbw := hbe9.trans (hw.mono hbe9.size)
          go_wp2
          go_ret
          have hfin : ((alertB unlikeNames o3 (ruleB r) (smallL [A, B, N]) (stOf s) x9 A).toList == (alertB unlikeNames o3' (ruleB r') (smallL [A', B', N']) (stOf s') y9 A').toList) = false := by
            rw [eqB, HL.out]
            simp [H1.out, H4.out]
          exact ⟨congrArg (fun b => Ending.returned (Value.bool (!b))) hfin, hbw⟩
      · have t2 : ((x9 : Int) == (y9 : Int)) = false := by rw [beq_eq_false_iff_ne]; omega
        have H3 := Lib.hid hsi; clear hsi
        go_wp2_with fail
        refine region_free (fun w' => Below w9.heap.size w9 w') [] [] (List.range 10) (by kernel_rfl) (by kernel_rfl) (by kernel_rfl) (Below.refl _ _).drew ?_
        simp only [List.range, List.range.loop]
        repeat (first
          | (refine RelSeq.pure_ (c := ?_) rfl rfl ?_ ?_; rotate_left; (focus (intro x w'; dsimp only; go_simp; (repeat' apply And.intro) <;> first | with_reducible rfl | assumption)); simp only [Act.put, List.setIfInBounds_toArray, List.set_cons_zero, List.set_cons_succ])
          | (refine RelSeq.grow_ (c := ?_) rfl rfl ?_ ?_; rotate_left; (focus (intro x w' hw _; dsimp only; obtain ⟨t0, t1, t2, t3, t4, t5, t6, t7, p0, p1, p2, p3, p4, p5, p6, q0, q1, q2, q3, q4, q5, q6⟩ := F w' hw; have hbr := Below.refl w'.heap.size w'; go_simp; (repeat' apply And.intro) <;> first | with_reducible rfl | assumption)); simp only [Act.put, List.setIfInBounds_toArray, List.set_cons_zero, List.set_cons_succ]))
        refine RelSeq.grow_ (c := ?_) rfl rfl ?_ ?_; rotate_left
        focus
          intro x w' hw _; dsimp only
          go_simp
          (with_reducible refine (viewAlert _ _ _ _ _ _ _ _ unlikeNames o3 (ruleB r) (.slice Av (smallL [A, B, N]).length cv) (smallL [A, B, N]) _ x9 _ A w' (hNm9.below hw) (by omega) (hl19.below hw) (by omega) (by omega) (by omega) unlike_size (rule_size r) (Nat.le_trans (text_len A B N) (by decide))).mono ?_)
          rintro e w3 ⟨rfl, hb3⟩
          have hI := S w' w3 hw hb3
          go_simp
          (repeat' apply And.intro) <;> first | with_reducible rfl | assumption
        simp only [Act.put, List.setIfInBounds_toArray, List.set_cons_zero, List.set_cons_succ]
        repeat (first
          | (refine RelSeq.pure_ (c := ?_) rfl rfl ?_ ?_; rotate_left; (focus (intro x w'; dsimp only; go_simp; (repeat' apply And.intro) <;> first | with_reducible rfl | assumption)); simp only [Act.put, List.setIfInBounds_toArray, List.set_cons_zero, List.set_cons_succ])
          | (refine RelSeq.grow_ (c := ?_) rfl rfl ?_ ?_; rotate_left; (focus (intro x w' hw _; dsimp only; obtain ⟨t0, t1, t2, t3, t4, t5, t6, t7, p0, p1, p2, p3, p4, p5, p6, q0, q1, q2, q3, q4, q5, q6⟩ := F w' hw; have hbr := Below.refl w'.heap.size w'; go_simp; (repeat' apply And.intro) <;> first | with_reducible rfl | assumption)); simp only [Act.put, List.setIfInBounds_toArray, List.set_cons_zero, List.set_cons_succ]))
        refine RelSeq.grow_ (c := ?_) rfl rfl ?_ ?_; rotate_left
        focus
          intro x w' hw _; dsimp only
          go_simp
          (with_reducible refine (viewAlert _ _ _ _ _ _ _ _ unlikeNames o3' (ruleB r') (.slice Aw (smallL [A', B', N']).length cw) (smallL [A', B', N']) _ y9 _ A' w' (hNm9.below hw) (by omega) (hl39.below hw) (by omega) (by omega) (by omega) unlike_size (rule_size r') (Nat.le_trans (text_len A' B' N') (by decide))).mono ?_)
          rintro e w3 ⟨rfl, hb3⟩
          have hI := S w' w3 hw hb3
          go_simp
          (repeat' apply And.intro) <;> first | with_reducible rfl | assumption
        simp only [Act.put, List.setIfInBounds_toArray, List.set_cons_zero, List.set_cons_succ]
        repeat (first
          | (refine RelSeq.pure_ (c := ?_) rfl rfl ?_ ?_; rotate_left; (focus (intro x w'; dsimp only; go_simp; (repeat' apply And.intro) <;> first | with_reducible rfl | assumption)); simp only [Act.put, List.setIfInBounds_toArray, List.set_cons_zero, List.set_cons_succ])
          | (refine RelSeq.grow_ (c := ?_) rfl rfl ?_ ?_; rotate_left; (focus (intro x w' hw _; dsimp only; obtain ⟨t0, t1, t2, t3, t4, t5, t6, t7, p0, p1, p2, p3, p4, p5, p6, q0, q1, q2, q3, q4, q5, q6⟩ := F w' hw; have hbr := Below.refl w'.heap.size w'; go_simp; (repeat' apply And.intro) <;> first | with_reducible rfl | assumption)); simp only [Act.put, List.setIfInBounds_toArray, List.set_cons_zero, List.set_cons_succ]))
        refine RelSeq.nil_ fun x w' hw _ _ => TailSeq.nil_ ?_
        have hbw := hbe9.trans (hw.mono hbe9.size)
        go_wp2
        go_ret
        have hfin : ((alertB unlikeNames o3 (ruleB r) (smallL [A, B, N]) (stOf s) x9 A).toList == (alertB unlikeNames o3' (ruleB r') (smallL [A', B', N']) (stOf s') y9 A').toList) = false := by
          rw [eqB, HL.out]
          simp [H1.out, H3.out]
        exact ⟨congrArg (fun b => Ending.returned (Value.bool (!b))) hfin, hbw⟩
    · have t1 : ((stOf s : Int) == (stOf s' : Int)) = false := by rw [beq_eq_false_iff_ne]; omega
      have H2 := Lib.hid hst; clear hst
      go_wp2_with fail
      refine region_free (fun w' => Below w9.heap.size w9 w') [] [] (List.range 10) (by kernel_rfl) (by kernel_rfl) (by kernel_rfl) (Below.refl _ _).drew ?_
      simp only [List.range, List.range.loop]
      repeat (first
        | (refine RelSeq.pure_ (c := ?_) rfl rfl ?_ ?_; rotate_left; (focus (intro x w'; dsimp only; go_simp; (repeat' apply And.intro) <;> first | with_reducible rfl | assumption)); simp only [Act.put, List.setIfInBounds_toArray, List.set_cons_zero, List.set_cons_succ])
        | (refine RelSeq.grow_ (c := ?_) rfl rfl ?_ ?_; rotate_left; (focus (intro x w' hw _; dsimp only; obtain ⟨t0, t1, t2, t3, t4, t5, t6, t7, p0, p1, p2, p3, p4, p5, p6, q0, q1, q2, q3, q4, q5, q6⟩ := F w' hw; have hbr := Below.refl w'.heap.size w'; go_simp; (repeat' apply And.intro) <;> first | with_reducible rfl | assumption)); simp only [Act.put, List.setIfInBounds_toArray, List.set_cons_zero, List.set_cons_succ]))
      refine RelSeq.grow_ (c := ?_) rfl rfl ?_ ?_; rotate_left
      focus
        intro x w' hw _; dsimp only
        go_simp
        (with_reducible refine (viewAlert _ _ _ _ _ _ _ _ unlikeNames o3 (ruleB r) (.slice Av (smallL [A, B, N]).length cv) (smallL [A, B, N]) _ x9 _ A w' (hNm9.below hw) (by omega) (hl19.below hw) (by omega) (by omega) (by omega) unlike_size (rule_size r) (Nat.le_trans (text_len A B N) (by decide))).mono ?_)
        rintro e w3 ⟨rfl, hb3⟩
        have hI := S w' w3 hw hb3
        go_simp
        (repeat' apply And.intro) <;> first | with_reducible rfl | assumption
      simp only [Act.put, List.setIfInBounds_toArray, List.set_cons_zero, List.set_cons_succ]
      repeat (first
        | (refine RelSeq.pure_ (c := ?_) rfl rfl ?_ ?_; rotate_left; (focus (intro x w'; dsimp only; go_simp; (repeat' apply And.intro) <;> first | with_reducible rfl | assumption)); simp only [Act.put, List.setIfInBounds_toArray, List.set_cons_zero, List.set_cons_succ])
        | (refine RelSeq.grow_ (c := ?_) rfl rfl ?_ ?_; rotate_left; (focus (intro x w' hw _; dsimp only; obtain ⟨t0, t1, t2, t3, t4, t5, t6, t7, p0, p1, p2, p3, p4, p5, p6, q0, q1, q2, q3, q4, q5, q6⟩ := F w' hw; have hbr := Below.refl w'.heap.size w'; go_simp; (repeat' apply And.intro) <;> first | with_reducible rfl | assumption)); simp only [Act.put, List.setIfInBounds_toArray, List.set_cons_zero, List.set_cons_succ]))
      refine RelSeq.grow_ (c := ?_) rfl rfl ?_ ?_; rotate_left
      focus
        intro x w' hw _; dsimp only
        go_simp
        (with_reducible refine (viewAlert _ _ _ _ _ _ _ _ unlikeNames o3' (ruleB r') (.slice Aw (smallL [A', B', N']).length cw) (smallL [A', B', N']) _ y9 _ A' w' (hNm9.below hw) (by omega) (hl39.below hw) (by omega) (by omega) (by omega) unlike_size (rule_size r') (Nat.le_trans (text_len A' B' N') (by decide))).mono ?_)
        rintro e w3 ⟨rfl, hb3⟩
        have hI := S w' w3 hw hb3
        go_simp
        (repeat' apply And.intro) <;> first | with_reducible rfl | assumption
      simp only [Act.put, List.setIfInBounds_toArray, List.set_cons_zero, List.set_cons_succ]
      repeat (first
        | (refine RelSeq.pure_ (c := ?_) rfl rfl ?_ ?_; rotate_left; (focus (intro x w'; dsimp only; go_simp; (repeat' apply And.intro) <;> first | with_reducible rfl | assumption)); simp only [Act.put, List.setIfInBounds_toArray, List.set_cons_zero, List.set_cons_succ])
        | (refine RelSeq.grow_ (c := ?_) rfl rfl ?_ ?_; rotate_left; (focus (intro x w' hw _; dsimp only; obtain ⟨t0, t1, t2, t3, t4, t5, t6, t7, p0, p1, p2, p3, p4, p5, p6, q0, q1, q2, q3, q4, q5, q6⟩ := F w' hw; have hbr := Below.refl w'.heap.size w'; go_simp; (repeat' apply And.intro) <;> first | with_reducible rfl | assumption)); simp only [Act.put, List.setIfInBounds_toArray, List.set_cons_zero, List.set_cons_succ]))
      refine RelSeq.nil_ fun x w' hw _ _ => TailSeq.nil_ ?_
      have hbw := hbe9.trans (hw.mono hbe9.size)
      go_wp2
      go_ret
      have hfin : ((alertB unlikeNames o3 (ruleB r) (smallL [A, B, N]) (stOf s) x9 A).toList == (alertB unlikeNames o3' (ruleB r') (smallL [A', B', N']) (stOf s') y9 A').toList) = false := by
        rw [eqB, HL.out]
        simp [H1.out, H2.out]
      exact ⟨congrArg (fun b => Ending.returned (Value.bool (!b))) hfin, hbw⟩
end Go.Proofs.Ytdghpjkjhlankaa
