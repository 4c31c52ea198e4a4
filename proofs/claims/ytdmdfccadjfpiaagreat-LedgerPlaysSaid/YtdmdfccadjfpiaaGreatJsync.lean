/-
  A journal's Sync where its file is there.
-/
import Derived.Test.YtdmdfccadjfpiaaGreatJapp
namespace Go.Proofs.YtdmdfccadjfpiaaGreat
open Go.RowKit FreeNew
set_option maxRecDepth 100000
attribute [local go_sem] out

set_option maxHeartbeats 2000000 in
theorem jSyncOne (j d m : Nat) (f : FileV) (c1 c3 : Value) (w : World) (hj : Blk w j #[.pointer (some ⟨d, 0, none⟩), c1, .string f.name, c3] 147) (hD : DiskAt w d m [f]) :
    Calls Tryz.prog 46 #[.pointer (some ⟨j, 0, none⟩)] w fun e w' => e = .returned (.int .i64 0) ∧ DiskAt w' d m [⟨f.name, f.val, f.bytes, f.bytes.length⟩] ∧ Mod [d, m] w w' := by
  have F : ∀ w', Below w.heap.size w w' → w'.cell? ⟨j, 0, none⟩ = some (.pointer (some ⟨d, 0, none⟩)) ∧ w'.cell? ⟨j, 2, none⟩ = some (.string f.name) := fun w' h => ⟨(hj.below h hj.lt).cell rfl, (hj.below h hj.lt).cell rfl⟩
  have hff : findF [f] f.name = some f := by simp [findF]
  have hsl := (hD.good f (.head _)).2.1
  obtain ⟨L, hL⟩ : ∃ L, L = f.bytes.length - f.synced := ⟨_, rfl⟩
  have HL := Lib.hid hL
  have HF := Lib.hid hff
  go_enter Tryz.func46, Tryz.ntmps46
  have hLo := fun w' (h : DiskAt w' d m [f]) => diskLooseSome d m [f] f.name f w' h HF.out
  rw [← hL] at hLo
  have HLo := Lib.hid hLo
  clear hL hff hLo
  go_wp2_with fail
  refine region_free (fun w' => Below w.heap.size w w') [] [] (List.range 10) (by kernel_rfl) (by kernel_rfl) (by kernel_rfl) (Below.refl _ _).drew ?_
  simp only [List.range, List.range.loop]
  repeat (first
    | (refine RelSeq.pure_ (c := ?_) rfl rfl ?_ ?_; rotate_left; (focus (intro x w'; dsimp only; go_simp; (repeat' apply And.intro) <;> first | with_reducible rfl | assumption)); simp only [Act.put, List.setIfInBounds_toArray, List.set_cons_zero, List.set_cons_succ])
    | (refine RelSeq.skip_ rfl (fun _ => rfl) ?_; simp only [Act.put, List.setIfInBounds_toArray, List.set_cons_zero, List.set_cons_succ])
    | (refine RelSeq.pureG_ (c := ?_) rfl (fun _ => rfl) rfl ?_ ?_; rotate_left; (focus (intro x w'; dsimp only; go_simp; (repeat' apply And.intro) <;> first | with_reducible rfl | assumption)); simp only [Act.put, List.setIfInBounds_toArray, List.set_cons_zero, List.set_cons_succ])
    | (refine RelSeq.grow_ (c := ?_) rfl rfl ?_ ?_; rotate_left; (focus (intro x w' hw _; dsimp only; obtain ⟨d0, d1⟩ := F w' hw; have hbr := Below.refl w'.heap.size w'; go_simp; (repeat' apply And.intro) <;> first | with_reducible rfl | assumption)); simp only [Act.put, List.setIfInBounds_toArray, List.set_cons_zero, List.set_cons_succ])
    | (refine RelSeq.growG_ (c := ?_) rfl (fun _ => rfl) rfl ?_ ?_; rotate_left; (focus (intro x w' hw _; dsimp only; obtain ⟨d0, d1⟩ := F w' hw; have hbr := Below.refl w'.heap.size w'; go_simp; (repeat' apply And.intro) <;> first | with_reducible rfl | assumption)); simp only [Act.put, List.setIfInBounds_toArray, List.set_cons_zero, List.set_cons_succ]))
  refine RelSeq.grow_ (c := .int .i64 L) rfl rfl ?_ ?_
  focus
    intro x w' hw _; dsimp only
    have hA := HLo.out w' (hD.below hw)
    clear F
    go_simp
    (with_reducible refine hA.mono ?_)
    rintro e w3 ⟨rfl, hb3⟩
    have hw3 := hw.trans (hb3.mono hw.size)
    go_simp
    all_goals ((repeat' apply And.intro) <;> first | assumption | with_reducible rfl)
  simp only [Act.put, List.setIfInBounds_toArray, List.set_cons_zero, List.set_cons_succ]
  repeat (first
    | (refine RelSeq.pure_ (c := ?_) rfl rfl ?_ ?_; rotate_left; (focus (intro x w'; dsimp only; go_simp; (repeat' apply And.intro) <;> first | with_reducible rfl | assumption)); simp only [Act.put, List.setIfInBounds_toArray, List.set_cons_zero, List.set_cons_succ])
    | (refine RelSeq.skip_ rfl (fun _ => rfl) ?_; simp only [Act.put, List.setIfInBounds_toArray, List.set_cons_zero, List.set_cons_succ])
    | (refine RelSeq.pureG_ (c := ?_) rfl (fun _ => rfl) rfl ?_ ?_; rotate_left; (focus (intro x w'; dsimp only; go_simp; (repeat' apply And.intro) <;> first | with_reducible rfl | assumption)); simp only [Act.put, List.setIfInBounds_toArray, List.set_cons_zero, List.set_cons_succ])
    | (refine RelSeq.grow_ (c := ?_) rfl rfl ?_ ?_; rotate_left; (focus (intro x w' hw _; dsimp only; obtain ⟨d0, d1⟩ := F w' hw; have hbr := Below.refl w'.heap.size w'; go_simp; (repeat' apply And.intro) <;> first | with_reducible rfl | assumption)); simp only [Act.put, List.setIfInBounds_toArray, List.set_cons_zero, List.set_cons_succ])
    | (refine RelSeq.growG_ (c := ?_) rfl (fun _ => rfl) rfl ?_ ?_; rotate_left; (focus (intro x w' hw _; dsimp only; obtain ⟨d0, d1⟩ := F w' hw; have hbr := Below.refl w'.heap.size w'; go_simp; (repeat' apply And.intro) <;> first | with_reducible rfl | assumption)); simp only [Act.put, List.setIfInBounds_toArray, List.set_cons_zero, List.set_cons_succ]))
  refine RelSeq.nil_ fun x w4 hw4 _ _ => TailSeq.nil_ ?_
  have hD4 := hD.below hw4
  have hj4 := hj.below hw4 hj.lt
  have hM4 : Mod [d, m] w w4 := Mod.of_below hw4
  clear F hj hD hw4
  by_cases hL0 : L = 0
  · subst hL0
    have hf0 : f = ⟨f.name, f.val, f.bytes, f.bytes.length⟩ := by
      have := HL.out
      have : f.synced = f.bytes.length := by omega
      rw [← this]
    have hD5 : DiskAt w4 d m [⟨f.name, f.val, f.bytes, f.bytes.length⟩] := by rw [← hf0]; exact hD4
    clear hf0 hD4 hj4
    go_wp2_with fail
    go_ret
    exact ⟨rfl, hD5, hM4⟩
  · have hl0 : ((L : Int) == 0) = false := by rw [beq_eq_false_iff_ne]; omega
    have F : ∀ w', Below w4.heap.size w4 w' → w'.cell? ⟨j, 0, none⟩ = some (.pointer (some ⟨d, 0, none⟩)) ∧ w'.cell? ⟨j, 2, none⟩ = some (.string f.name) := fun w' h => ⟨(hj4.below h hj4.lt).cell rfl, (hj4.below h hj4.lt).cell rfl⟩
    go_wp2_with fail
    refine region_free (fun w' => Below w4.heap.size w4 w') [] [8, 9] [0, 1, 2, 3, 4, 5, 6, 7] (by kernel_rfl) (by kernel_rfl) (by kernel_rfl) (Below.refl _ _).drew ?_
    repeat (first
      | (refine RelSeq.pure_ (c := ?_) rfl rfl ?_ ?_; rotate_left; (focus (intro x w'; dsimp only; go_simp; (repeat' apply And.intro) <;> first | with_reducible rfl | assumption)); simp only [Act.put, List.setIfInBounds_toArray, List.set_cons_zero, List.set_cons_succ])
      | (refine RelSeq.skip_ rfl (fun _ => rfl) ?_; simp only [Act.put, List.setIfInBounds_toArray, List.set_cons_zero, List.set_cons_succ])
      | (refine RelSeq.pureG_ (c := ?_) rfl (fun _ => rfl) rfl ?_ ?_; rotate_left; (focus (intro x w'; dsimp only; go_simp; (repeat' apply And.intro) <;> first | with_reducible rfl | assumption)); simp only [Act.put, List.setIfInBounds_toArray, List.set_cons_zero, List.set_cons_succ])
      | (refine RelSeq.grow_ (c := ?_) rfl rfl ?_ ?_; rotate_left; (focus (intro x w' hw _; dsimp only; obtain ⟨d0, d1⟩ := F w' hw; have hbr := Below.refl w'.heap.size w'; go_simp; (repeat' apply And.intro) <;> first | with_reducible rfl | assumption)); simp only [Act.put, List.setIfInBounds_toArray, List.set_cons_zero, List.set_cons_succ])
      | (refine RelSeq.growG_ (c := ?_) rfl (fun _ => rfl) rfl ?_ ?_; rotate_left; (focus (intro x w' hw _; dsimp only; obtain ⟨d0, d1⟩ := F w' hw; have hbr := Below.refl w'.heap.size w'; go_simp; (repeat' apply And.intro) <;> first | with_reducible rfl | assumption)); simp only [Act.put, List.setIfInBounds_toArray, List.set_cons_zero, List.set_cons_succ]))
    refine RelSeq.nil_ fun x w5 hw5 _ _ => ?_
    have hD5 := hD4.below hw5
    have hM5 := hM4.trans (Mod.of_below hw5)
    have hS := diskSync d m [f] f.name f w5 hD5 HF.out
    have hpf : putF [f] { f with synced := f.bytes.length } = [⟨f.name, f.val, f.bytes, f.bytes.length⟩] := by simp [putF]
    rw [hpf] at hS
    clear F hj4 hD4 hM4 hw5 hD5 hpf
    refine TailSeq.cons_ rfl ?_
    go_simp
    (with_reducible refine hS.mono ?_)
    rintro e w6 ⟨rfl, hD6, hM6⟩
    have hM7 := hM5.trans hM6
    clear hS hM5 hM6
    refine TailSeq.cons_ rfl ?_
    go_simp
    refine TailSeq.nil_ ?_
    go_wp2_with fail
    go_ret
    exact ⟨rfl, hD6, hM7⟩
end Go.Proofs.YtdmdfccadjfpiaaGreat
