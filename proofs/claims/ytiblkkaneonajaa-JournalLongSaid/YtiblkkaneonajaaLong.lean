/-
  The walk of JournalLong.
-/
import Derived.Test.YtiblkkaneonajaaJour
import Derived.Laws.OwnMore
namespace Go.Proofs.Ytiblkkaneonajaa
open Go.RowKit
set_option maxRecDepth 100000

theorem rd_made {W : World} {g n : Nat} (hB : Blk W g (madeCells #[.int .u8 0] n) 5) (hn : n ≤ maxLen) : Rd W 1 (.slice (some ⟨g, 0, none⟩) n n) (List.replicate n (0 : UInt8)).length (u8L (List.replicate n 0)) := by
  have := rd_of_owns (owns_of_blk hB (base := 0) (Nat.zero_le _) (by rw [size_madeCells]; exact hn))
  rw [size_madeCells, ← u8L_rep] at this
  rw [List.length_replicate]
  exact this
theorem take_big (bs : List UInt8) : takeL ([1, 0, 8, 0, 0, 0, 0, 0] ++ bs) = none := by
  show takeL (1 :: 0 :: 8 :: 0 :: 0 :: 0 :: 0 :: 0 :: bs) = none
  simp only [takeL]
  rw [if_pos (.inl (by decide))]
set_option maxHeartbeats 1000000 in
theorem longWalk (v1 : Value) (bs : List UInt8) (over : Nat) (w : World) (h1 : Rd w 1 v1 bs.length (u8L bs)) (hov : over < 256) :
    Calls Try.prog 5 #[.int .u8 over, v1] w fun e w' => e = .returned (.bool true) ∧ Below w.heap.size w w' := by
  have h1' := h1
  obtain ⟨A1, c1, rfl, s1, s2, s3, s4⟩ := h1
  obtain ⟨i1, hi1, hz3, hz4, hz5⟩ := info_parts infoByte
  unfold maxLen at s3
  obtain ⟨n, hn⟩ : ∃ n, n = 524289 + over := ⟨_, rfl⟩
  have wn : IntKind.i64.wrap ((524289 : Int) + (over : Int)) = (n : Int) := by rw [IntWalk.i64_in _ (by omega)]; omega
  have wo : IntKind.i64.wrap (over : Int) = (over : Int) := IntWalk.i64_in _ (by omega)
  have hmk := run_make_row' (P := Try.prog) 23 5 _ 1 Try.underlying23 infoByte rfl .i64 .i64 n (by omega) (by omega)
  have hnb : 524288 < n := by omega
  have hnb2 : n ≤ 524544 := by omega
  clear hn
  go_enter Try.func5, Try.ntmps5
  go_wp2_with fail
  (with_reducible refine (jAwake w).mono ?_)
  rintro e w1 ⟨rfl, hb1⟩
  by_cases hl100 : 100 < bs.length
  · go_wp2_with fail
    go_ret
    exact ⟨rfl, hb1⟩
  go_wp2_with fail
  (with_reducible refine (crcNew w1).mono ?_)
  rintro e w2 ⟨rfl, hT2, hb2⟩
  have hbe2 : Below w.heap.size w w2 := hb1.trans (hb2.mono hb1.size)
  have htb : w.heap.size ≤ w1.heap.size := hb1.size
  generalize w1.heap.size = tb at hT2 htb hb2 ⊢
  clear hb1 hb2
  go_wp2_with fail
  refine calls_gen fun w3 hw3 => ?_
  have hB3 : Blk w3 w2.heap.size (madeCells #[.int .u8 0] n) 5 := by rw [hw3]; exact Blk.new _ _ _
  have hb3 : Below w2.heap.size w2 w3 := by rw [hw3]; exact (Below.refl _ _).alloc (Nat.le_refl _) _
  have hT3 := hT2.below hb3
  have hbe3 := hbe2.trans (hb3.mono hbe2.size)
  have hL := jLayLong tb _ _ w3 (rd_made hB3 (by unfold maxLen; omega)) (by rw [List.length_replicate]; omega)
  clear hw3 hB3 hb3 hT2 hbe2
  (with_reducible refine hL.mono ?_)
  rintro e w4 ⟨rfl, rfl⟩
  clear hL
  go_wp2_with (at_builtin; refine wpl_stop fun W hW => ?_)
  refine Stopped.mk ?_
  subst hW
  refine wpl_gen fun W hW => ?_
  have hBe : Blk W w4.heap.size #[.int .u8 1, .int .u8 0, .int .u8 8, .int .u8 0, .int .u8 0, .int .u8 0, .int .u8 0, .int .u8 0] 5 := by rw [hW]; exact Blk.new _ _ _
  have hbW : Below w4.heap.size w4 W := by rw [hW]; exact (Below.refl _ _).alloc (Nat.le_refl _) _
  clear hW
  have hoe := owns_of_blk hBe (base := w4.heap.size) (Nat.le_refl _) (by unfold maxLen; simp)
  refine wpl_append_rd rfl (.tmp 31) (.tmp 32) 23 rfl w4.heap.size 5 i1 _ 1 1 Try.underlying23 hi1 hz3 hz4 hz5 rfl (by decide) _ 8 _ rfl hoe _ bs.length (u8L bs) rfl (h1'.below (hbe3.trans (hbW.mono hbe3.size))) (u8L_one _) (by unfold maxLen; omega) (by omega) hbW.size fun v5 w5 hown5 hgr5 _ => ?_
  have hb5 : Below w4.heap.size w4 w5 := hbW.grown hgr5 hbW.size (fun q hq => Nat.le_of_eq (Option.some.inj hq))
  have hT5 := hT3.below hb5
  have hbe5 := hbe3.trans (hb5.mono hbe3.size)
  obtain ⟨L, hL, hLn, hown⟩ : ∃ L : List UInt8, takeL L = none ∧ L.length = 8 + bs.length ∧ w5.ownsRow w4.heap.size 5 1 v5 L.length (u8L L) := by
    refine ⟨[1, 0, 8, 0, 0, 0, 0, 0] ++ bs, take_big bs, by simp; omega, ?_⟩
    have e : ([1, 0, 8, 0, 0, 0, 0, 0] ++ bs : List UInt8).length = 8 + bs.length := by simp; omega
    rw [e]
    exact hown5
  have hrd := rd_of_owns hown
  obtain ⟨A5, c5, rfl⟩ := owns_slice hown
  have hTk := jTakeNone tb _ L w5 hT5 hrd hL
  clear hoe hBe hbW hgr5 hown5 hown hT3 hbe3 hL hb5 hLn
  go_wp2_with fail
  (with_reducible refine hTk.mono ?_)
  rintro e w6 ⟨rfl, hT6, hB6⟩
  have hbe6 := hB6.below hbe5 (Nat.le_refl _) htb
  clear hTk hT5 hbe5 hB6 hrd
  go_wp2_with fail
  (with_reducible refine (diskNew w6).mono ?_)
  rintro e w7 ⟨d, m, rfl, _, _, hD7, hb7⟩
  have hT7 := hT6.below hb7
  have hbe7 := hbe6.trans (hb7.mono hbe6.size)
  clear hT6 hbe6 hb7
  go_wp2_with fail
  (with_reducible refine (jOpenNew d m tb [] _ w7 hD7 rfl hT7).mono ?_)
  rintro e w8 ⟨j, A8, c8, rfl, _, hj8, hD8, hT8, hB8⟩
  have hbe8 := hB8.below hbe7 (Nat.le_refl _) htb
  clear hT7 hbe7 hB8 hD7 hD8 hT8
  go_wp2_with fail
  refine calls_gen fun w9 hw9 => ?_
  have hB9 : Blk w9 w8.heap.size (madeCells #[.int .u8 0] n) 5 := by rw [hw9]; exact Blk.new _ _ _
  have hb9 : Below w8.heap.size w8 w9 := by rw [hw9]; exact (Below.refl _ _).alloc (Nat.le_refl _) _
  have hj9 := hj8.below hb9 hj8.lt
  have hbe9 := hbe8.trans (hb9.mono hbe8.size)
  have hAp := jAppendLong j tb n _ _ _ _ n (List.replicate n 0) w9 hj9 (rd_made hB9 (by unfold maxLen; omega)) (by rw [List.length_replicate]; omega)
  clear hw9 hB9 hb9 hbe8 hj8
  (with_reducible refine hAp.mono ?_)
  rintro e w10 ⟨rfl, rfl⟩
  have hS := jSize j _ _ _ _ w10 hj9
  clear hAp hj9
  go_wp2_with fail
  (with_reducible refine hS.mono ?_)
  rintro e w11 ⟨rfl, rfl⟩
  go_wp2_with fail
  go_ret
  exact ⟨rfl, hbe9⟩
end Go.Proofs.Ytiblkkaneonajaa
