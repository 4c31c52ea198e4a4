/-
  A journal: the nil ones; a name that may not be.
-/
import Derived.Test.YtdmdfccadjfpiaaGreatJour
import Derived.Test.YtdmdfccadjfpiaaGreatWord
namespace Go.Proofs.YtdmdfccadjfpiaaGreat
open Go.RowKit FreeNew
set_option maxRecDepth 100000
attribute [local go_sem] out

theorem jLayNil (v : Value) (w : World) : Calls Tryz.prog 68 #[.pointer none, v] w fun e w' => e = .returned (.tuple #[.slice none 0 0, .int .i64 1]) ∧ w' = w := by
  go_enter Tryz.func68, Tryz.ntmps68
  go_wp2_with fail
  go_ret2
  exact ⟨rfl, rfl⟩
theorem jTakeNil (v : Value) (w : World) : Calls Tryz.prog 92 #[.pointer none, v] w fun e w' => e = .returned (.tuple #[.slice none 0 0, .int .i64 0, .bool false]) ∧ w' = w := by
  go_enter Tryz.func92, Tryz.ntmps92
  go_wp2_with fail
  go_ret3
  exact ⟨rfl, rfl⟩
theorem jOpenNilDisk (t s : Value) (w : World) : Calls Tryz.prog 44 #[.pointer none, t, s] w fun e w' => e = .returned (.tuple #[.pointer none, .slice none 0 0, .int .i64 1]) ∧ w' = w := by
  go_enter Tryz.func44, Tryz.ntmps44
  go_wp2_with fail
  go_ret3
  exact ⟨rfl, rfl⟩
theorem jOpenNilTab (a : Addr) (s : Value) (w : World) : Calls Tryz.prog 44 #[.pointer (some a), .pointer none, s] w fun e w' => e = .returned (.tuple #[.pointer none, .slice none 0 0, .int .i64 1]) ∧ w' = w := by
  go_enter Tryz.func44, Tryz.ntmps44
  go_wp2_with fail
  go_ret3
  exact ⟨rfl, rfl⟩
theorem jAppendNil (v : Value) (w : World) : Calls Tryz.prog 41 #[.pointer none, v] w fun e w' => e = .returned (.int .i64 1) ∧ w' = w := by
  go_enter Tryz.func41, Tryz.ntmps41
  go_wp2_with fail
  go_ret
  exact ⟨rfl, rfl⟩
theorem jSyncNil (w : World) : Calls Tryz.prog 46 #[.pointer none] w fun e w' => e = .returned (.int .i64 1) ∧ w' = w := by
  go_enter Tryz.func46, Tryz.ntmps46
  go_wp2_with fail
  go_ret
  exact ⟨rfl, rfl⟩
theorem jScanNil (A : Option Addr) (n c : Nat) (w : World) : Calls Tryz.prog 70 #[.pointer none, .slice A n c] w fun e w' => e = .returned (.tuple #[.slice none 0 0, .int .i64 0]) ∧ w' = w := by
  go_enter Tryz.func70, Tryz.ntmps70
  go_wp2_with fail
  go_loopw [6, 7] (fun v i wr => v = .slice none 0 0 ∧ i = .int .i64 0 ∧ wr = w) (fun _ _ _ => 0)
  case atStart => exact ⟨rfl, rfl, rfl⟩
  case round =>
    obtain ⟨rfl, rfl, rfl⟩ := hrel
    by_cases hc0 : c = 0
    all_goals
      go_wp2_with fail
      (with_reducible refine (jTakeNil _ _).mono ?_)
      rintro e w1 ⟨rfl, rfl⟩
      go_wp2_with fail
      go_ret2
      exact ⟨rfl, rfl⟩
theorem labValue (s : ByteArray) (w : World) (hs : s.size ≤ maxLen) : Calls Tryz.prog 47 #[.string s] w fun e w' => e = .returned (.bool (wordB s 16 true)) ∧ Below w.heap.size w w' := by
  have hW : Calls Tryz.prog 79 #[.string s, .int .i64 16, .bool true] w fun e w' => e = .returned (.bool (wordB s 16 true)) ∧ Below w.heap.size w w' := labWord s 16 true w hs
  go_enter Tryz.func47, Tryz.ntmps47
  go_wp2_with fail
  (with_reducible refine hW.mono ?_)
  rintro e w1 ⟨rfl, hb⟩
  go_wp2_with fail
  go_ret
  exact ⟨rfl, hb⟩
theorem diskAppendName (a : Addr) (s : ByteArray) (v : Value) (w : World) (hs : s.size ≤ maxLen) (hf : wordB s 16 true = false) :
    Calls Tryz.prog 18 #[.pointer (some a), .string s, v] w fun e w' => e = .returned (.int .i64 8) ∧ Below w.heap.size w w' := by
  have hV := labValue s w hs
  rw [hf] at hV
  clear hf
  go_enter Tryz.func18, Tryz.ntmps18
  go_wp2_with fail
  (with_reducible refine hV.mono ?_)
  rintro e w1 ⟨rfl, hb⟩
  go_wp2_with fail
  go_ret
  exact ⟨rfl, hb⟩

theorem jAppendName (j d b : Nat) (s : ByteArray) (k : Int) (v : Value) (l : List UInt8) (w : World) (hj : Blk w j #[.pointer (some ⟨d, 0, none⟩), .pointer (some ⟨b, 0, none⟩), .string s, .int .i64 k] 147) (hT : TabOk w b) (hl : Rd w 1 v l.length (u8L l)) (hlen : l.length ≤ 524288)
    (hs : s.size ≤ maxLen) (hf : wordB s 16 true = false) :
    Calls Tryz.prog 41 #[.pointer (some ⟨j, 0, none⟩), v] w fun e w' => e = .returned (.int .i64 8) ∧ TabOk w' b ∧ But b w w' := by
  have c1 : w.cell? ⟨j, 1, none⟩ = some (.pointer (some ⟨b, 0, none⟩)) := hj.cell rfl
  have hL := jLay b v l w hT hl hlen
  obtain ⟨A, c, rfl, _⟩ := hl
  go_enter Tryz.func41, Tryz.ntmps41
  go_wp2_with fail
  (with_reducible refine hL.mono ?_)
  rintro e w1 ⟨v1, rfl, hv1, hT1, hB1⟩
  have hj1 := hj.but_ hT hB1 (by decide)
  obtain ⟨A1, c9, rfl⟩ := owns_slice hv1
  have F : ∀ w', Below w1.heap.size w1 w' → w'.cell? ⟨j, 0, none⟩ = some (.pointer (some ⟨d, 0, none⟩)) ∧ w'.cell? ⟨j, 2, none⟩ = some (.string s) := fun w' h => ⟨(hj1.below h hj1.lt).cell rfl, (hj1.below h hj1.lt).cell rfl⟩
  clear hL c1 hj hT hv1
  go_wp2_with fail
  refine region_free (fun w' => Below w1.heap.size w1 w') [] [] (List.range 11) (by kernel_rfl) (by kernel_rfl) (by kernel_rfl) (Below.refl _ _).drew ?_
  simp only [List.range, List.range.loop]
  repeat (first
    | (refine RelSeq.pure_ (c := ?_) rfl rfl ?_ ?_; rotate_left; (focus (intro x w'; dsimp only; go_simp; (repeat' apply And.intro) <;> first | with_reducible rfl | assumption)); simp only [Act.put, List.setIfInBounds_toArray, List.set_cons_zero, List.set_cons_succ])
    | (refine RelSeq.skip_ rfl (fun _ => rfl) ?_; simp only [Act.put, List.setIfInBounds_toArray, List.set_cons_zero, List.set_cons_succ])
    | (refine RelSeq.pureG_ (c := ?_) rfl (fun _ => rfl) rfl ?_ ?_; rotate_left; (focus (intro x w'; dsimp only; go_simp; (repeat' apply And.intro) <;> first | with_reducible rfl | assumption)); simp only [Act.put, List.setIfInBounds_toArray, List.set_cons_zero, List.set_cons_succ])
    | (refine RelSeq.grow_ (c := ?_) rfl rfl ?_ ?_; rotate_left; (focus (intro x w' hw _; dsimp only; obtain ⟨d0, d1⟩ := F w' hw; have hbr := Below.refl w'.heap.size w'; go_simp; (repeat' apply And.intro) <;> first | with_reducible rfl | assumption)); simp only [Act.put, List.setIfInBounds_toArray, List.set_cons_zero, List.set_cons_succ])
    | (refine RelSeq.growG_ (c := ?_) rfl (fun _ => rfl) rfl ?_ ?_; rotate_left; (focus (intro x w' hw _; dsimp only; obtain ⟨d0, d1⟩ := F w' hw; have hbr := Below.refl w'.heap.size w'; go_simp; (repeat' apply And.intro) <;> first | with_reducible rfl | assumption)); simp only [Act.put, List.setIfInBounds_toArray, List.set_cons_zero, List.set_cons_succ]))
  refine RelSeq.grow_ (c := .int .i64 8) rfl rfl ?_ ?_
  focus
    intro x w' hw _; dsimp only
    have hA := diskAppendName ⟨d, 0, none⟩ s (.slice A1 (layL l).length c9) w' hs hf
    clear F
    go_simp
    (with_reducible refine hA.mono ?_)
    rintro e w3 ⟨rfl, hb3⟩
    have hw3 := hw.trans (hb3.mono hw.size)
    go_simp
    all_goals ((repeat' apply And.intro) <;> first | assumption | with_reducible rfl)
  simp only [Act.put, List.setIfInBounds_toArray, List.set_cons_zero, List.set_cons_succ]
  repeat (first
    | (refine RelSeq.pure_ (c := ?_) rfl rfl ?_ ?_; rotate_left; (focus (intro x w'; dsimp only; go_simp; (repeat' apply And.intro) <;> first | with_reducible rfl | assumption)); simp only [Act.put, List.setIfInBounds_toArray, List.set_cons_zero, List.set_cons_succ])
    | (refine RelSeq.skip_ rfl (fun _ => rfl) ?_; simp only [Act.put, List.setIfInBounds_toArray, List.set_cons_zero, List.set_cons_succ])
    | (refine RelSeq.pureG_ (c := ?_) rfl (fun _ => rfl) rfl ?_ ?_; rotate_left; (focus (intro x w'; dsimp only; go_simp; (repeat' apply And.intro) <;> first | with_reducible rfl | assumption)); simp only [Act.put, List.setIfInBounds_toArray, List.set_cons_zero, List.set_cons_succ])
    | (refine RelSeq.grow_ (c := ?_) rfl rfl ?_ ?_; rotate_left; (focus (intro x w' hw _; dsimp only; obtain ⟨d0, d1⟩ := F w' hw; have hbr := Below.refl w'.heap.size w'; go_simp; (repeat' apply And.intro) <;> first | with_reducible rfl | assumption)); simp only [Act.put, List.setIfInBounds_toArray, List.set_cons_zero, List.set_cons_succ])
    | (refine RelSeq.growG_ (c := ?_) rfl (fun _ => rfl) rfl ?_ ?_; rotate_left; (focus (intro x w' hw _; dsimp only; obtain ⟨d0, d1⟩ := F w' hw; have hbr := Below.refl w'.heap.size w'; go_simp; (repeat' apply And.intro) <;> first | with_reducible rfl | assumption)); simp only [Act.put, List.setIfInBounds_toArray, List.set_cons_zero, List.set_cons_succ]))
  refine RelSeq.nil_ fun x w4 hw4 _ _ => TailSeq.nil_ ?_
  have hT4 := hT1.below hw4
  have hB4 := hB1.trans (But.of_below hw4)
  clear F hT1 hB1 hw4
  go_wp2_with fail
  go_ret
  exact ⟨rfl, hT4, hB4⟩

theorem jSyncNone (j d m : Nat) (fs : List FileV) (c1 c3 : Value) (s : ByteArray) (w : World) (hj : Blk w j #[.pointer (some ⟨d, 0, none⟩), c1, .string s, c3] 147) (hD : DiskAt w d m fs) (hf : findF fs s = none) :
    Calls Tryz.prog 46 #[.pointer (some ⟨j, 0, none⟩)] w fun e w' => e = .returned (.int .i64 0) ∧ Below w.heap.size w w' := by
  have F : ∀ w', Below w.heap.size w w' → w'.cell? ⟨j, 0, none⟩ = some (.pointer (some ⟨d, 0, none⟩)) ∧ w'.cell? ⟨j, 2, none⟩ = some (.string s) := fun w' h => ⟨(hj.below h hj.lt).cell rfl, (hj.below h hj.lt).cell rfl⟩
  go_enter Tryz.func46, Tryz.ntmps46
  go_wp2_with fail
  refine region_free (fun w' => Below w.heap.size w w') [] [] (List.range 10) (by kernel_rfl) (by kernel_rfl) (by kernel_rfl) (Below.refl _ _).drew ?_
  simp only [List.range, List.range.loop]
  repeat (first
    | (refine RelSeq.pure_ (c := ?_) rfl rfl ?_ ?_; rotate_left; (focus (intro x w'; dsimp only; go_simp; (repeat' apply And.intro) <;> first | with_reducible rfl | assumption)); simp only [Act.put, List.setIfInBounds_toArray, List.set_cons_zero, List.set_cons_succ])
    | (refine RelSeq.skip_ rfl (fun _ => rfl) ?_; simp only [Act.put, List.setIfInBounds_toArray, List.set_cons_zero, List.set_cons_succ])
    | (refine RelSeq.pureG_ (c := ?_) rfl (fun _ => rfl) rfl ?_ ?_; rotate_left; (focus (intro x w'; dsimp only; go_simp; (repeat' apply And.intro) <;> first | with_reducible rfl | assumption)); simp only [Act.put, List.setIfInBounds_toArray, List.set_cons_zero, List.set_cons_succ])
    | (refine RelSeq.grow_ (c := ?_) rfl rfl ?_ ?_; rotate_left; (focus (intro x w' hw _; dsimp only; obtain ⟨d0, d1⟩ := F w' hw; have hbr := Below.refl w'.heap.size w'; go_simp; (repeat' apply And.intro) <;> first | with_reducible rfl | assumption)); simp only [Act.put, List.setIfInBounds_toArray, List.set_cons_zero, List.set_cons_succ])
    | (refine RelSeq.growG_ (c := ?_) rfl (fun _ => rfl) rfl ?_ ?_; rotate_left; (focus (intro x w' hw _; dsimp only; obtain ⟨d0, d1⟩ := F w' hw; have hbr := Below.refl w'.heap.size w'; go_simp; (repeat' apply And.intro) <;> first | with_reducible rfl | assumption)); simp only [Act.put, List.setIfInBounds_toArray, List.set_cons_zero, List.set_cons_succ]))
  refine RelSeq.grow_ (c := .int .i64 0) rfl rfl ?_ ?_
  focus
    intro x w' hw _; dsimp only
    have hA := diskLooseNone d m fs s w' (hD.below hw) hf
    clear F
    go_simp
    (with_reducible refine hA.mono ?_)
    rintro e w3 ⟨rfl, hb3⟩
    have hw3 := hw.trans (hb3.mono hw.size)
    go_simp
    all_goals ((repeat' apply And.intro) <;> first | assumption | with_reducible rfl)
  simp only [Act.put, List.setIfInBounds_toArray, List.set_cons_zero, List.set_cons_succ]
  repeat (first
    | (refine RelSeq.pure_ (c := ?_) rfl rfl ?_ ?_; rotate_left; (focus (intro x w'; dsimp only; go_simp; (repeat' apply And.intro) <;> first | with_reducible rfl | assumption)); simp only [Act.put, List.setIfInBounds_toArray, List.set_cons_zero, List.set_cons_succ])
    | (refine RelSeq.skip_ rfl (fun _ => rfl) ?_; simp only [Act.put, List.setIfInBounds_toArray, List.set_cons_zero, List.set_cons_succ])
    | (refine RelSeq.pureG_ (c := ?_) rfl (fun _ => rfl) rfl ?_ ?_; rotate_left; (focus (intro x w'; dsimp only; go_simp; (repeat' apply And.intro) <;> first | with_reducible rfl | assumption)); simp only [Act.put, List.setIfInBounds_toArray, List.set_cons_zero, List.set_cons_succ])
    | (refine RelSeq.grow_ (c := ?_) rfl rfl ?_ ?_; rotate_left; (focus (intro x w' hw _; dsimp only; obtain ⟨d0, d1⟩ := F w' hw; have hbr := Below.refl w'.heap.size w'; go_simp; (repeat' apply And.intro) <;> first | with_reducible rfl | assumption)); simp only [Act.put, List.setIfInBounds_toArray, List.set_cons_zero, List.set_cons_succ])
    | (refine RelSeq.growG_ (c := ?_) rfl (fun _ => rfl) rfl ?_ ?_; rotate_left; (focus (intro x w' hw _; dsimp only; obtain ⟨d0, d1⟩ := F w' hw; have hbr := Below.refl w'.heap.size w'; go_simp; (repeat' apply And.intro) <;> first | with_reducible rfl | assumption)); simp only [Act.put, List.setIfInBounds_toArray, List.set_cons_zero, List.set_cons_succ]))
  refine RelSeq.nil_ fun x w4 hw4 _ _ => TailSeq.nil_ ?_
  clear F
  go_wp2_with fail
  go_ret
  exact ⟨rfl, hw4⟩
end Go.Proofs.YtdmdfccadjfpiaaGreat
