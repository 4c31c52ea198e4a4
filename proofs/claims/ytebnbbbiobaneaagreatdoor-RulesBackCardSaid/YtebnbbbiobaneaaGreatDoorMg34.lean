/-
  The reference's Text. The walk of LabOwn.
-/
import Derived.Test.YtebnbbbiobaneaaGreatDoorLRef
import Derived.Test.YtebnbbbiobaneaaGreatDoorLParse
import Derived.Deep.AppendSrc
import Derived.Test.YtebnbbbiobaneaaGreatDoorFreeS
import Derived.Test.YtebnbbbiobaneaaGreatDoorLText
import Derived.Test.YtebnbbbiobaneaaGreatDoorLSplit
namespace Go.Proofs.YtebnbbbiobaneaaGreatDoor
open Go.RowKit FreeSl
set_option maxRecDepth 100000
attribute [local go_sem] out

/-- A row of the call's own, whatever it holds. -/
def RowAny (base : Nat) (v : Value) (n : Nat) (w : World) : Prop := ∃ xs, w.ownsRow base 138 2 v n xs
theorem RowAny.below {base n : Nat} {v : Value} {w w' : World} (h : RowAny base v n w) (hb : Below w.heap.size w w') : RowAny base v n w' := let ⟨xs, h⟩ := h; ⟨xs, owns_below h hb⟩
theorem RowAny.set {base n : Nat} {v : Value} {w : World} (h : RowAny base v n w) (g i : Nat) (u : Value) : RowAny base v n (w.setCell ⟨g, i, none⟩ u) := by
  obtain ⟨xs, hl, h⟩ := h
  rcases h with ⟨rfl, h0⟩ | ⟨g', cap, cur, rfl, hb, hg, hn, hc, hs, ht⟩
  · exact ⟨xs, hl, .inl ⟨rfl, h0⟩⟩
  · by_cases e : g' = g
    · subst e
      refine ⟨(cur.setIfInBounds i u).toList.take (n * 2), ?_, .inr ⟨g', cap, cur.setIfInBounds i u, rfl, hb, ?_, hn, hc, by simpa using hs, rfl⟩⟩
      · rw [List.length_take, Array.length_toList, Array.size_setIfInBounds, hs]; omega
      · simp [World.setCell, Array.getElem?_modify, hg]
    · exact ⟨xs, hl, .inr ⟨g', cap, cur, rfl, hb, (Below.heap_setCell w _ u g' e).trans hg, hn, hc, hs, ht⟩⟩
/-- Its cells can be written. -/
theorem RowAny.at_ {base n : Nat} {A : Option Addr} {c : Nat} {w : World} (h : RowAny base (.slice A n c) n w) {j : Nat} (hj : j < n) : ∃ g u0 u1, A = some ⟨g, 0, none⟩ ∧ base ≤ g ∧ w.cell? ⟨g, j * 2, none⟩ = some u0 ∧ w.cell? ⟨g, j * 2 + 1, none⟩ = some u1 ∧ w.frozen? ⟨g, j * 2, none⟩ = false ∧ w.frozen? ⟨g, j * 2 + 1, none⟩ = false ∧ ∀ g' cs t, Blk w g' cs t → 138 ≠ t → g' ≠ g := by
  obtain ⟨xs, hl, h⟩ := h
  rcases h with ⟨h, h0⟩ | ⟨g', cap, cur, h, hb, hg, hn, hc, hs, ht⟩
  · omega
  · cases h
    have h1 : j * 2 < cur.size := by rw [hs]; omega
    have h2 : j * 2 + 1 < cur.size := by rw [hs]; omega
    refine ⟨g', cur[j * 2], cur[j * 2 + 1], rfl, hb, ?_, ?_, Lib.frozen_of_heap hg _, Lib.frozen_of_heap hg _, fun g2 cs t h2 hne e => ?_⟩
    · rw [Lib.cell_of_heap hg]; exact Array.getElem?_eq_getElem h1
    · rw [Lib.cell_of_heap hg]; exact Array.getElem?_eq_getElem h2
    · subst e
      unfold Blk at h2
      rw [hg] at h2
      injection h2 with h2
      injection h2 with _ h3
      exact hne h3

end Go.Proofs.YtebnbbbiobaneaaGreatDoor
namespace Go.Proofs.YtebnbbbiobaneaaGreatDoor
open Go.RowKit FreeSl
set_option maxRecDepth 100000
attribute [local go_sem] out

theorem refText (v : Value) (ps : List Pr) (w : World) (hr : Rd w 2 v ps.length (pairCells ps)) (hz : (textL ps).length ≤ 140737488355328) :
    Calls Tryz.prog 93 #[v] w fun e w' => e = .returned (.string ⟨(textL ps).toArray⟩) ∧ Below w.heap.size w w' := by
  obtain ⟨A, c, rfl, h1, h2, h3, h4⟩ := hr
  unfold maxLen at h3
  go_enter Tryz.func93, Tryz.ntmps93
  go_wp2_with fail
  go_loopw [3, 4] (fun s i wr => ∃ (k : Nat) (x : ByteArray), k ≤ ps.length ∧ i = .int .i64 k ∧ s = .string x ∧ x.data.toList = textL (ps.take k) ∧ Below w.heap.size w wr) (fun _ i _ => ps.length - (intOf i).toNat)
  case atStart => exact ⟨0, ⟨#[]⟩, Nat.zero_le _, rfl, rfl, by simp [textL], Below.refl _ _⟩
  case round =>
    obtain ⟨k, x, hk, rfl, rfl, hx, hB⟩ := hrel
    by_cases hlt : k < ps.length
    · obtain ⟨p, hp⟩ : ∃ p, ps[k]? = some p := ⟨_, List.getElem?_eq_getElem hlt⟩
      obtain ⟨b, o, rfl, hat⟩ := h4 (by omega)
      have F : ∀ w', Below wr.heap.size wr w' → w'.cell? ⟨b, o + k * 2, none⟩ = some (.string p.1) ∧ w'.cell? ⟨b, o + k * 2 + 1, none⟩ = some (.string p.2) := fun w' h => by
        have hb2 := hB.trans (h.mono hB.size)
        obtain ⟨e1, e2⟩ := pairCells_at ps k p hp
        exact ⟨hat.nth0 hb2 (k * 2) _ e1, hat.nth hb2 (k * 2) 1 _ e2⟩
      have hxs : x.size = (textL (ps.take k)).length := by rw [← hx]; rfl
      have hts := textL_take_succ ps k p hp
      have htl := textL_take ps (k + 1)
      rw [hts, List.length_append, pairL_len] at htl
      have hpz : p.1.size + p.2.size + 1 ≤ 140737488355328 := by omega
      have hx9 : x.size ≤ 140737488355328 := by have := textL_take ps k; omega
      have c0 : ¬ 9223372036854775807 < x.size + 1 := by omega
      clear h4 h1 hat hts htl hxs
      by_cases hk0 : k = 0
      · have hx2 : textL (ps.take k) = [] := by subst hk0; simp [textL]
        have hkp : ¬ 0 < k := by omega
        rw [hx2] at hx
        have HK0 := Lib.hid hk0
        clear hx2 hk0
        go_wp2_with fail
        have c1 : ¬ 9223372036854775807 < x.size + p.1.size := by omega
        have c2 : ¬ 9223372036854775807 < x.size + p.1.size + 1 := by omega
        have c3 : ¬ 9223372036854775807 < x.size + p.1.size + 1 + p.2.size := by omega
        refine region_free (fun w' => Below wr.heap.size wr w') [] [] (List.range 15) (by kernel_rfl) (by kernel_rfl) (by kernel_rfl) (Below.refl _ _).drew ?_
        simp only [List.range, List.range.loop]
        repeat (first
          | (refine RelSeq.pure_ (c := ?_) rfl rfl ?_ ?_; rotate_left; (focus (intro x w'; dsimp only; go_simp; (repeat' apply And.intro) <;> first | with_reducible rfl | assumption)); simp only [Act.put, List.setIfInBounds_toArray, List.set_cons_zero, List.set_cons_succ])
          | (refine RelSeq.grow_ (c := ?_) rfl rfl ?_ ?_; rotate_left; (focus (intro x w' hw _; dsimp only; obtain ⟨d0, d1⟩ := F w' hw; have hbr := Below.refl w'.heap.size w'; go_simp; (repeat' apply And.intro) <;> first | with_reducible rfl | assumption)); simp only [Act.put, List.setIfInBounds_toArray, List.set_cons_zero, List.set_cons_succ]))
        refine RelSeq.nil_ fun x2 w6 hw6 _ _ => ?_
        refine TailSeq.nil_ ?_
        go_wp2_with fail
        go_roundw
        case rel => exact ⟨k + 1, _, by omega, by go_num, rfl, by rw [textL_take_succ ps k p hp]; rw [if_pos HK0.out]; simp [hx, ByteArray.data_append, pairL], hB.trans (hw6.mono hB.size)⟩
        case measure => simp [intOf]; omega
      · have hkp : 0 < k := Nat.pos_of_ne_zero hk0
        have HK0 := Lib.hid hk0
        clear hk0
        go_wp2_with fail
        generalize hX : x ++ ⟨#[44]⟩ = X
        have hX9 : X.size ≤ 140737488355329 := by rw [← hX, ByteArray.size_append]; show x.size + 1 ≤ _; omega
        have hXd : X.data.toList = textL (ps.take k) ++ [44] := by rw [← hX, ByteArray.data_append, Array.toList_append, hx]
        clear hX c0 hx hx9
        have c1 : ¬ 9223372036854775807 < X.size + p.1.size := by omega
        have c2 : ¬ 9223372036854775807 < X.size + p.1.size + 1 := by omega
        have c3 : ¬ 9223372036854775807 < X.size + p.1.size + 1 + p.2.size := by omega
        refine region_free (fun w' => Below wr.heap.size wr w') [] [] (List.range 15) (by kernel_rfl) (by kernel_rfl) (by kernel_rfl) (Below.refl _ _).drew ?_
        simp only [List.range, List.range.loop]
        repeat (first
          | (refine RelSeq.pure_ (c := ?_) rfl rfl ?_ ?_; rotate_left; (focus (intro x w'; dsimp only; go_simp; (repeat' apply And.intro) <;> first | with_reducible rfl | assumption)); simp only [Act.put, List.setIfInBounds_toArray, List.set_cons_zero, List.set_cons_succ])
          | (refine RelSeq.grow_ (c := ?_) rfl rfl ?_ ?_; rotate_left; (focus (intro x w' hw _; dsimp only; obtain ⟨d0, d1⟩ := F w' hw; have hbr := Below.refl w'.heap.size w'; go_simp; (repeat' apply And.intro) <;> first | with_reducible rfl | assumption)); simp only [Act.put, List.setIfInBounds_toArray, List.set_cons_zero, List.set_cons_succ]))
        refine RelSeq.nil_ fun x2 w6 hw6 _ _ => ?_
        refine TailSeq.nil_ ?_
        go_wp2_with fail
        go_roundw
        case rel => exact ⟨k + 1, _, by omega, by go_num, rfl, by rw [textL_take_succ ps k p hp]; rw [if_neg HK0.out]; simp [hXd, ByteArray.data_append, pairL], hB.trans (hw6.mono hB.size)⟩
        case measure => simp [intOf]; omega
    · obtain rfl : k = ps.length := by omega
      rw [List.take_length] at hx
      go_wp2_with fail
      go_ret
      refine ⟨?_, hB⟩
      have hx3 := ba_inj (b := ⟨(textL ps).toArray⟩) hx
      subst hx3
      rfl
end Go.Proofs.YtebnbbbiobaneaaGreatDoor
