/-
  slices.Clone of questions and of texts.
-/
import Derived.Test.YteiocplfmjkbkaaGreatDoorRtN
import Derived.Test.YteiocplfmjkbkaaGreatDoorMg19
namespace Go.Proofs.YteiocplfmjkbkaaGreatDoor
open Go.RowKit
set_option maxRecDepth 100000

theorem infoStrC : (Tryz.prog.info? 9).map (fun i => (i.zero, i.size, i.bytes)) = some (some (.string ⟨#[]⟩), 1, 16) := by kernel_rfl
set_option maxHeartbeats 4000000 in
/-- slices.Clone of questions. -/
theorem cloneAsks (v : Value) (n : Nat) (xs : List Value) (w : World) (hl : Rd w 3 v n xs) (hlen : n ≤ 1048576) (h1 : ∀ u ∈ xs, u.oneCell' = true) :
    Calls Tryz.prog 25 #[v] w fun e w' => ∃ v', e = .returned v' ∧ w'.ownsRow w.heap.size 68 3 v' n xs ∧ Below w.heap.size w w' := by
  have hl0 := hl
  obtain ⟨A, c, rfl, h2, h3, h4, h5⟩ := hl
  obtain ⟨i1, hi1, hz3, hz4, hz5⟩ := info_parts infoAskT
  cases A with
  | none =>
    have h0 : n = 0 := by
      rcases Nat.eq_zero_or_pos n with h | h
      · exact h
      · obtain ⟨_, _, h, _⟩ := h5 h
        cases h
    subst h0
    obtain rfl : xs = [] := List.eq_nil_of_length_eq_zero (by omega)
    have hq := fun (W : World) => Lib.run_eql_slice_nil (P := Tryz.prog) W 45 68 none 0 c 0 0 Tryz.underlying45
    go_enter Tryz.func25, Tryz.ntmps25
    go_wp2_with fail
    go_ret
    exact ⟨_, rfl, World.ownsRow_nil _ _ _ _, Below.refl _ _⟩
  | some a =>
    have hq := fun (W : World) => Lib.run_eql_slice_nil (P := Tryz.prog) W 45 68 (some a) n c 0 0 Tryz.underlying45
    unfold maxLen at h4
    have H1 := Lib.hid h1
    clear h1
    go_enter Tryz.func25, Tryz.ntmps25
    go_wp2_with (at_builtin; refine wpl_stop fun W hW => ?_)
    refine Stopped.mk ?_
    have hBe : Blk W w.heap.size #[] 68 := by rw [hW]; exact Blk.new _ _ _
    have hbW : Below w.heap.size w W := by rw [hW]; exact (Below.refl _ _).alloc (Nat.le_refl _) _
    clear hW
    refine wpl_append_copy rfl (.tmp 5) (.tmp 6) 45 rfl w.heap.size 68 i1 _ 3 40 Tryz.underlying45 hi1 hz3 hz4 hz5 rfl (by decide) w.heap.size hBe (Nat.le_refl _) rfl _ n xs rfl (hl0.below hbW) (by unfold maxLen; omega) (by omega) fun v9 w9 hown9 hb9' => ?_
    have hb9 : Below w.heap.size w w9 := hbW.trans (hb9'.mono hbW.size)
    obtain ⟨A9, c9, rfl⟩ := owns_slice hown9
    clear hBe hb9'
    go_wp2_with fail
    go_ret
    exact ⟨_, rfl, hown9, hb9⟩
set_option maxHeartbeats 4000000 in
/-- slices.Clone of texts. -/
theorem cloneStrs (v : Value) (n : Nat) (xs : List Value) (w : World) (hl : Rd w 1 v n xs) (hlen : n ≤ 1048576) (h1 : ∀ u ∈ xs, u.oneCell' = true) :
    Calls Tryz.prog 26 #[v] w fun e w' => ∃ v', e = .returned v' ∧ w'.ownsRow w.heap.size 9 1 v' n xs ∧ Below w.heap.size w w' := by
  have hl0 := hl
  obtain ⟨A, c, rfl, h2, h3, h4, h5⟩ := hl
  obtain ⟨i1, hi1, hz3, hz4, hz5⟩ := info_parts infoStrC
  cases A with
  | none =>
    have h0 : n = 0 := by
      rcases Nat.eq_zero_or_pos n with h | h
      · exact h
      · obtain ⟨_, _, h, _⟩ := h5 h
        cases h
    subst h0
    obtain rfl : xs = [] := List.eq_nil_of_length_eq_zero (by omega)
    have hq := fun (W : World) => Lib.run_eql_slice_nil (P := Tryz.prog) W 46 9 none 0 c 0 0 Tryz.underlying46
    go_enter Tryz.func26, Tryz.ntmps26
    go_wp2_with fail
    go_ret
    exact ⟨_, rfl, World.ownsRow_nil _ _ _ _, Below.refl _ _⟩
  | some a =>
    have hq := fun (W : World) => Lib.run_eql_slice_nil (P := Tryz.prog) W 46 9 (some a) n c 0 0 Tryz.underlying46
    unfold maxLen at h4
    have H1 := Lib.hid h1
    clear h1
    go_enter Tryz.func26, Tryz.ntmps26
    go_wp2_with (at_builtin; refine wpl_stop fun W hW => ?_)
    refine Stopped.mk ?_
    have hBe : Blk W w.heap.size #[] 9 := by rw [hW]; exact Blk.new _ _ _
    have hbW : Below w.heap.size w W := by rw [hW]; exact (Below.refl _ _).alloc (Nat.le_refl _) _
    clear hW
    refine wpl_append_copy rfl (.tmp 5) (.tmp 6) 46 rfl w.heap.size 9 i1 _ 1 16 Tryz.underlying46 hi1 hz3 hz4 hz5 rfl (by decide) w.heap.size hBe (Nat.le_refl _) rfl _ n xs rfl (hl0.below hbW) (by unfold maxLen; omega) (by omega) fun v9 w9 hown9 hb9' => ?_
    have hb9 : Below w.heap.size w w9 := hbW.trans (hb9'.mono hbW.size)
    obtain ⟨A9, c9, rfl⟩ := owns_slice hown9
    clear hBe hb9'
    go_wp2_with fail
    go_ret
    exact ⟨_, rfl, hown9, hb9⟩
end Go.Proofs.YteiocplfmjkbkaaGreatDoor
