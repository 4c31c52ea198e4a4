/-
  The reference's Text.
-/
import Derived.Test.YtfmehjdlpfijbaaDoorLSplit
import Derived.Test.YtfmehjdlpfijbaaDoorLText
import Derived.Test.YtfmehjdlpfijbaaDoorLOwn
namespace Go.Proofs.YtfmehjdlpfijbaaDoor
open Go.RowKit FreeSl
set_option maxRecDepth 100000
attribute [local go_sem] out

theorem refText (v : Value) (ps : List Pr) (w : World) (hr : Rd w 2 v ps.length (pairCells ps)) (hz : (textL ps).length ≤ 140737488355328) :
    Calls Tryd.prog 23 #[v] w fun e w' => e = .returned (.string ⟨(textL ps).toArray⟩) ∧ Below w.heap.size w w' := by
  obtain ⟨A, c, rfl, h1, h2, h3, h4⟩ := hr
  unfold maxLen at h3
  go_enter Tryd.func23, Tryd.ntmps23
  go_wp2_with fail
  go_loopw [3, 4] (fun s i wr => ∃ (k : Nat) (x : ByteArray), k ≤ ps.length ∧ i = .int .i64 k ∧ s = .string x ∧ x.data.toList = textL (ps.take k) ∧ Below w.heap.size w wr) (fun _ i _ => ps.length - (intOf i).toNat)
  case atStart => exact ⟨0, ⟨#[]⟩, Nat.zero_le _, rfl, rfl, by simp [textL], Below.refl _ _⟩
  case round =>
    obtain ⟨k, x, hk, rfl, rfl, hx, hB⟩ := hrel
    by_cases hlt : k < ps.length
    · obtain ⟨p, hp⟩ : ∃ p, ps[k]? = some p := ⟨_, List.getElem?_eq_getElem hlt⟩
      obtain ⟨b, o, rfl, hat⟩ := h4 (by omega)
      have F : ∀ w', Below wr.heap.size wr w' → w'.cell? ⟨b, o + k * 2, none⟩ = some (.string p.1) ∧ w'.cell? ⟨b, o + k * 2 + 1, none⟩ = some (.string p.2) := fun w' h => by
        have hb2 := hB.trans (h.mono hB.size)
        obtain ⟨e1, e2⟩ := pairCells_at ps k p hp
        exact ⟨hat.nth0 hb2 (k * 2) _ e1, hat.nth hb2 (k * 2) 1 _ e2⟩
      have hxs : x.size = (textL (ps.take k)).length := by rw [← hx]; rfl
      have hts := textL_take_succ ps k p hp
      have htl := textL_take ps (k + 1)
      rw [hts, List.length_append, pairL_len] at htl
      have hpz : p.1.size + p.2.size + 1 ≤ 140737488355328 := by omega
      have hx9 : x.size ≤ 140737488355328 := by have := textL_take ps k; omega
      have c0 : ¬ 9223372036854775807 < x.size + 1 := by omega
      clear h4 h1 hat hts htl hxs
      by_cases hk0 : k = 0
      · have hx2 : textL (ps.take k) = [] := by subst hk0; simp [textL]
        have hkp : ¬ 0 < k := by omega
        rw [hx2] at hx
        have HK0 := Lib.hid hk0
        clear hx2 hk0
        go_wp2_with fail
        have c1 : ¬ 9223372036854775807 < x.size + p.1.size := by omega
        have c2 : ¬ 9223372036854775807 < x.size + p.1.size + 1 := by omega
        have c3 : ¬ 9223372036854775807 < x.size + p.1.size + 1 + p.2.size := by omega
        refine region_free (fun w' => Below wr.heap.size wr w') [] [] (List.range 15) (by kernel_rfl) (by kernel_rfl) (by kernel_rfl) (Below.refl _ _).drew ?_
        simp only [List.range, List.range.loop]
        repeat (first
          | (refine RelSeq.pure_ (c := ?_) rfl rfl ?_ ?_; rotate_left; (focus (intro x w'; dsimp only; go_simp; (repeat' apply And.intro) <;> first | with_reducible rfl | assumption)); simp only [Act.put, List.setIfInBounds_toArray, List.set_cons_zero, List.set_cons_succ])
          | (refine RelSeq.grow_ (c := ?_) rfl rfl ?_ ?_; rotate_left; (focus (intro x w' hw _; dsimp only; obtain ⟨d0, d1⟩ := F w' hw; have hbr := Below.refl w'.heap.size w'; go_simp; (repeat' apply And.intro) <;> first | with_reducible rfl | assumption)); simp only [Act.put, List.setIfInBounds_toArray, List.set_cons_zero, List.set_cons_succ]))
        refine RelSeq.nil_ fun x2 w6 hw6 _ _ => ?_
        refine TailSeq.nil_ ?_
        go_wp2_with fail
        go_roundw
        case rel => exact ⟨k + 1, _, by omega, by go_num, rfl, by rw [textL_take_succ ps k p hp]; rw [if_pos HK0.out]; simp [hx, ByteArray.data_append, pairL], hB.trans (hw6.mono hB.size)⟩
        case measure => simp [intOf]; omega
      · have hkp : 0 < k := Nat.pos_of_ne_zero hk0
        have HK0 := Lib.hid hk0
        clear hk0
        go_wp2_with fail
        generalize hX : x ++ ⟨#[44]⟩ = X
        have hX9 : X.size ≤ 140737488355329 := by rw [← hX, ByteArray.size_append]; show x.size + 1 ≤ _; omega
        have hXd : X.data.toList = textL (ps.take k) ++ [44] := by rw [← hX, ByteArray.data_append, Array.toList_append, hx]
        clear hX c0 hx hx9
        have c1 : ¬ 9223372036854775807 < X.size + p.1.size := by omega
        have c2 : ¬ 9223372036854775807 < X.size + p.1.size + 1 := by omega
        have c3 : ¬ 9223372036854775807 < X.size + p.1.size + 1 + p.2.size := by omega
        refine region_free (fun w' => Below wr.heap.size wr w') [] [] (List.range 15) (by kernel_rfl) (by kernel_rfl) (by kernel_rfl) (Below.refl _ _).drew ?_
        simp only [List.range, List.range.loop]
        repeat (first
          | (refine RelSeq.pure_ (c := ?_) rfl rfl ?_ ?_; rotate_left; (focus (intro x w'; dsimp only; go_simp; (repeat' apply And.intro) <;> first | with_reducible rfl | assumption)); simp only [Act.put, List.setIfInBounds_toArray, List.set_cons_zero, List.set_cons_succ])
          | (refine RelSeq.grow_ (c := ?_) rfl rfl ?_ ?_; rotate_left; (focus (intro x w' hw _; dsimp only; obtain ⟨d0, d1⟩ := F w' hw; have hbr := Below.refl w'.heap.size w'; go_simp; (repeat' apply And.intro) <;> first | with_reducible rfl | assumption)); simp only [Act.put, List.setIfInBounds_toArray, List.set_cons_zero, List.set_cons_succ]))
        refine RelSeq.nil_ fun x2 w6 hw6 _ _ => ?_
        refine TailSeq.nil_ ?_
        go_wp2_with fail
        go_roundw
        case rel => exact ⟨k + 1, _, by omega, by go_num, rfl, by rw [textL_take_succ ps k p hp]; rw [if_neg HK0.out]; simp [hXd, ByteArray.data_append, pairL], hB.trans (hw6.mono hB.size)⟩
        case measure => simp [intOf]; omega
    · obtain rfl : k = ps.length := by omega
      rw [List.take_length] at hx
      go_wp2_with fail
      go_ret
      refine ⟨?_, hB⟩
      have hx3 := ba_inj (b := ⟨(textL ps).toArray⟩) hx
      subst hx3
      rfl
end Go.Proofs.YtfmehjdlpfijbaaDoor
