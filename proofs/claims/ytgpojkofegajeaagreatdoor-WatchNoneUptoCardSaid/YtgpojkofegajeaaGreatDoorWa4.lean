/-
  watch.New, Counts; what a nil Watch answers.
-/
import Derived.Test.YtgpojkofegajeaaGreatDoorWa1
import Derived.Test.YtgpojkofegajeaaGreatDoorWa2
import Derived.Test.YtgpojkofegajeaaGreatDoorWa3
import Derived.Test.YtgpojkofegajeaaGreatDoorRuK
namespace Go.Proofs.YtgpojkofegajeaaGreatDoor
open Go.RowKit
set_option maxRecDepth 100000

theorem infoRuleW : (Tryz.prog.info? 32).map (fun i => (i.zero, i.size, i.bytes)) = some (some (.agg #[.string ⟨#[]⟩, .string ⟨#[]⟩, .slice none 0 0, .int .u8 0, .int .i64 0, .int .u64 0, .int .u64 0, .int .u64 0, .int .u8 0, .slice none 0 0]), 10, 128) := by kernel_rfl
theorem cloneRules (v : Value) (n : Nat) (xs : List Value) (w : World) (hl : Rd w 10 v n xs) (hlen : n ≤ 1048576) :
    Calls Tryz.prog 20 #[v] w fun e w' => ∃ v', e = .returned v' ∧ w'.ownsRow w.heap.size 32 10 v' n xs ∧ Below w.heap.size w w' := by
  have hl0 := hl
  obtain ⟨A, c, rfl, h1, h2, h3, h4⟩ := hl
  obtain ⟨i1, hi1, hz3, hz4, hz5⟩ := info_parts infoRuleW
  cases A with
  | none =>
    have h0 : n = 0 := by
      rcases Nat.eq_zero_or_pos n with h | h
      · exact h
      · obtain ⟨_, _, h, _⟩ := h4 h
        cases h
    subst h0
    obtain rfl : xs = [] := List.eq_nil_of_length_eq_zero (by omega)
    have hq := fun (W : World) => Lib.run_eql_slice_nil (P := Tryz.prog) W 43 32 none 0 c 0 0 Tryz.underlying43
    clear h1 hl0
    go_enter Tryz.func20, Tryz.ntmps20
    go_wp2_with fail
    go_ret
    exact ⟨_, rfl, World.ownsRow_nil _ _ _ _, Below.refl _ _⟩
  | some a =>
    have hq := fun (W : World) => Lib.run_eql_slice_nil (P := Tryz.prog) W 43 32 (some a) n c 0 0 Tryz.underlying43
    unfold maxLen at h3
    have HR := Lib.hid hl0
    clear h1 hl0
    go_enter Tryz.func20, Tryz.ntmps20
    go_wp2_with (at_builtin; refine wpl_stop fun W hW => ?_)
    refine Stopped.mk ?_
    have hBe : Blk W w.heap.size #[] 32 := by rw [hW]; exact Blk.new _ _ _
    have hbW : Below w.heap.size w W := by rw [hW]; exact (Below.refl _ _).alloc (Nat.le_refl _) _
    clear hW
    refine wpl_copyW rfl (.tmp 5) (.tmp 6) 43 rfl w.heap.size 32 i1 _ 10 128 Tryz.underlying43 hi1 hz3 hz4 hz5 rfl (by decide) w.heap.size hBe (Nat.le_refl _) rfl _ n xs rfl (HR.out.below hbW) (by unfold maxLen; omega) (by omega) fun v9 w9 hown9 hb9' => ?_
    have hb9 : Below w.heap.size w w9 := hbW.trans (hb9'.mono hbW.size)
    obtain ⟨A9, c9, rfl⟩ := owns_slice hown9
    clear hBe hb9' HR
    go_wp2_with fail
    go_ret
    exact ⟨_, rfl, hown9, hb9⟩
/-- The parts of a Watch. -/
def wParts (b : Nat) (rv : Value) (rs : List RuV) (ms : Nat) (sm : List ((ByteArray × ByteArray) × Value)) (ov : Value) (os : List (ByteArray × ByteArray)) (mp : Nat) (ph : List ((Int × ByteArray) × Value)) (mk : Nat) (kn : List ((Int × ByteArray) × Value)) : List Chunk :=
  [chBlk b #[rv, .map (some ms), ov, .map (some mp), .map (some mk)] 81, chRow 32 10 rv rs.length (rs.flatMap RuV.cells), chMap keyE ms sm, chRow 96 2 ov os.length (pairCells os), chMap alertE mp ph, chMap alertE mk kn]
theorem wNew_bad (v : Value) (rs : List RuV) (w : World) (hr : Rd w 10 v rs.length (rs.flatMap RuV.cells)) (hok : ∀ r ∈ rs, r.ok w) (hc : chkRs rs ≠ 0) :
    Calls Tryz.prog 8 #[v, .slice none 0 0] w fun e w' => e = .returned (.tuple #[.pointer none, .int .i64 (chkRs rs : Nat)]) ∧ Below w.heap.size w w' := by
  have K := ruList v rs w hr hok
  generalize chkRs rs = c at K hc ⊢
  have h1 : ((c : Int) == 0) = false := by simpa using hc
  have h2 : ((c : Int) != 0) = true := by simp [bne, h1]
  clear hr hok hc
  go_enter Tryz.func8, Tryz.ntmps8
  go_wp2_with fail
  (with_reducible refine K.mono ?_)
  rintro e w1 ⟨rfl, hb1⟩
  go_wp2_with fail
  go_ret2
  exact ⟨rfl, hb1⟩
set_option maxHeartbeats 1000000 in
theorem wNew_ok (v : Value) (rs : List RuV) (w : World) (hr : Rd w 10 v rs.length (rs.flatMap RuV.cells)) (hok : ∀ r ∈ rs, r.ok w) (hc : chkRs rs = 0) (hlen : rs.length ≤ 1048576) :
    Calls Tryz.prog 8 #[v, .slice none 0 0] w fun e w' => ∃ b rv ms mp mk, e = .returned (.tuple #[.pointer (some ⟨b, 0, none⟩), .int .i64 0]) ∧ Upd [] w (wParts b rv rs ms [] (.slice none 0 0) [] mp [] mk []) w' := by
  have hmm := @run_makeMap Tryz.prog
  have K := ruList v rs w hr hok
  rw [hc] at K
  have K2 := fun w' (h : Below w.heap.size w w') => cloneRules v rs.length (rs.flatMap RuV.cells) w' (hr.below h) hlen
  obtain ⟨A, c, rfl, _⟩ := hr
  clear hok
  go_enter Tryz.func8, Tryz.ntmps8
  go_wp2_with fail
  (with_reducible refine K.mono ?_)
  rintro e w1 ⟨rfl, hb1⟩
  go_wp2_with fail
  (with_reducible refine (K2 w1 hb1).mono ?_)
  rintro e w2 ⟨rv, rfl, hrv, hb2⟩
  have U2 := ((Upd.nil [] w).grow hb1).addRow hb2 hrv (Nat.le_refl _)
  obtain ⟨A2, c2, rfl⟩ := owns_slice hrv
  clear K K2 hrv hb2 hb1
  go_wp2_with fail
  refine wp_gen fun w3 hw3 => ?_
  have U3 := ((((U2.allocMap keyE).allocMap alertE).allocMap alertE).alloc #[.slice A2 rs.length c2, .map (some w2.heap.size), .slice none 0 0, .map (some (w2.heap.size + 1)), .map (some (w2.heap.size + 1 + 1))] 81).nilRow 96 2
  rw [World.size_alloc, World.size_alloc, World.size_alloc] at U3
  have U4 := (U3.pick [1, 5, 4, 0, 3, 2] (by decide)).same hw3
  simp only [List.filterMap_cons, List.filterMap_nil, List.getElem?_cons_zero, List.getElem?_cons_succ] at U4
  clear hw3 U3 U2 hmm
  go_loopw [26] (fun i wr => i = .int .i64 0 ∧ wr = w3) (fun _ _ => 0)
  case atStart => exact ⟨rfl, rfl⟩
  case round =>
    obtain ⟨rfl, rfl⟩ := hrel
    go_wp2_with fail
    go_ret2
    exact ⟨_, _, _, _, _, rfl, U4⟩
theorem wCountsNil (w : World) : Calls Tryz.prog 12 #[.pointer none] w fun e w' => e = .returned (.tuple #[.int .i64 0, .int .i64 0]) ∧ w' = w := by
  go_enter Tryz.func12, Tryz.ntmps12
  go_wp2_with fail
  go_ret2
  exact ⟨rfl, rfl⟩
theorem wTickNil (now : Int) (w : World) : Calls Tryz.prog 10 #[.pointer none, .int .u64 now] w fun e w' => e = .returned (.slice none 0 0) ∧ w' = w := by
  go_enter Tryz.func10, Tryz.ntmps10
  go_wp2_with fail
  go_ret
  exact ⟨rfl, rfl⟩
theorem wAddNil (now : Int) (m : ByteArray) (lv : Value) (x : Int) (w : World) : Calls Tryz.prog 9 #[.pointer none, .int .u64 now, .agg #[.string m, lv, .int .i64 x]] w fun e w' => e = .returned (.int .i64 1) ∧ Below w.heap.size w w' := by
  go_enter Tryz.func9, Tryz.ntmps9
  go_wp2_with fail
  go_ret
  exact ⟨rfl, (Below.refl _ _).alloc (Nat.le_refl _) _⟩
end Go.Proofs.YtgpojkofegajeaaGreatDoor
