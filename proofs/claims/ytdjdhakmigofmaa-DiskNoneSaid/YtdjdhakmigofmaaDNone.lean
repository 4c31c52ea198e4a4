/-
  The walk of DiskNone.
-/
import Derived.Test.YtdjdhakmigofmaaDNil
namespace Go.Proofs.Ytdjdhakmigofmaa
open Go.RowKit FreeNew
set_option maxRecDepth 100000
attribute [local go_sem] out

set_option maxHeartbeats 4000000 in
theorem dNoneWalk (y : ByteArray) (v0 : Value) (bs : List UInt8) (n : Int) (w : World) (h0 : Rd w 1 v0 bs.length (u8L bs)) (hy : y.size ≤ maxLen) :
    Calls Try.prog 6 #[.string y, v0, .int .i64 n] w fun e w' => e = .returned (.bool true) ∧ Below w.heap.size w w' := by
  have h0' := h0
  obtain ⟨A0, c0, rfl, s1, s2, s3, s4⟩ := h0
  unfold maxLen at s3 hy
  go_enter Try.func6, Try.ntmps6
  go_wp2_with fail
  (with_reducible refine (dAwake w).mono ?_)
  rintro e w1 ⟨rfl, hb1⟩
  by_cases hl1 : 100 < bs.length
  · go_wp2_with fail
    go_ret
    exact ⟨rfl, hb1⟩
  by_cases hl2 : 50 < y.size
  · go_wp2_with fail
    go_ret
    exact ⟨rfl, hb1⟩
  go_wp2_with fail
  refine calls_gen fun w2 hw2 => ?_
  have hb2 : Below w1.heap.size w1 w2 := by rw [hw2]; exact (Below.refl _ _).alloc (Nat.le_refl _) _
  have hbe2 : Below w.heap.size w w2 := hb1.trans (hb2.mono hb1.size)
  clear hw2 hb1 hb2
  (with_reducible refine (diskCrashNil _ _).mono ?_)
  rintro e w3 ⟨rfl, rfl⟩
  go_wp2_with fail
  (with_reducible refine (diskReadNil _ _).mono ?_)
  rintro e w4 ⟨rfl, rfl⟩
  go_wp2_with fail
  (with_reducible refine (diskCountsNil _).mono ?_)
  rintro e w5 ⟨rfl, rfl⟩
  go_wp2_with fail
  (with_reducible refine (diskNew _).mono ?_)
  rintro e w6 ⟨d, m, rfl, _, _, hD6, hb6⟩
  have hbe6 : Below w.heap.size w w6 := hbe2.trans (hb6.mono hbe2.size)
  clear hbe2 hb6
  go_wp2_with fail
  (with_reducible refine (diskAppendNil _ _ _).mono ?_)
  rintro e w7 ⟨rfl, rfl⟩
  go_wp2_with fail
  (with_reducible refine (diskSyncNil _ _).mono ?_)
  rintro e w8 ⟨rfl, rfl⟩
  go_wp2_with fail
  (with_reducible refine (diskCutNil _ _ _).mono ?_)
  rintro e w9 ⟨rfl, rfl⟩
  go_wp2_with fail
  (with_reducible refine (diskRenameNil _ _ _).mono ?_)
  rintro e w10 ⟨rfl, rfl⟩
  go_wp2_with fail
  (with_reducible refine (diskRemoveNil _ _).mono ?_)
  rintro e w11 ⟨rfl, rfl⟩
  go_wp2_with fail
  (with_reducible refine (diskNamesNil _).mono ?_)
  rintro e w12 ⟨rfl, rfl⟩
  go_wp2_with fail
  (with_reducible refine (diskLooseNil _ _).mono ?_)
  rintro e w13 ⟨rfl, rfl⟩
  go_wp2_with fail
  (with_reducible refine (diskCopyNil _).mono ?_)
  rintro e w14 ⟨d2, m2, rfl, hD14, hb14⟩
  have hD6' := hD6.below hb14
  have hbe14 : Below w.heap.size w w14 := hbe6.trans (hb14.mono hbe6.size)
  have hN := diskNames d2 m2 [] w14 hD14 (by decide)
  clear hbe6 hb14 hD6 hD14
  go_wp2_with fail
  (with_reducible refine (hN).mono ?_)
  rintro e w15 ⟨v15, rfl, hv15, hb15⟩
  obtain ⟨A15, c15, rfl⟩ := owns_slice hv15
  have hD15 := hD6'.below hb15
  have hbe15 := hbe14.trans (hb15.mono hbe14.size)
  have hrd := h0'.below hbe15
  have el : (namesF []).length = 0 := by simp [namesF]
  clear hN hbe14 hb15 hv15 hD6'
  have hwf := wordB_bang y
  have hsz : (y ++ ⟨#[33]⟩ : ByteArray).size ≤ maxLen := by
    have e : (y ++ ⟨#[33]⟩ : ByteArray).size = y.size + 1 := by rw [ByteArray.size_append]; rfl
    rw [e]; unfold maxLen; omega
  obtain ⟨s, hs⟩ : ∃ s, s = (y ++ ⟨#[33]⟩ : ByteArray) := ⟨_, rfl⟩
  rw [← hs] at hwf hsz
  have HWF := Lib.hid hwf
  have HS := Lib.hid hs
  have hAp := diskAppendName ⟨d, 0, none⟩ s (.slice A0 bs.length c0) w15 hsz hwf
  rw [hs] at hAp
  clear hwf hs
  go_wp2_with fail
  (with_reducible refine hAp.mono ?_)
  rintro e w16 ⟨rfl, hb16⟩
  have hD16 := hD15.below hb16
  have hbe16 := hbe15.trans (hb16.mono hbe15.size)
  clear hAp hD15 hbe15 hb16 hrd
  have hSy := diskSyncNone d m [] y w16 hD16 rfl
  go_wp2_with fail
  (with_reducible refine hSy.mono ?_)
  rintro e w17 ⟨rfl, hb17⟩
  have hD17 := hD16.below hb17
  have hbe17 := hbe16.trans (hb17.mono hbe16.size)
  clear hSy hD16 hbe16 hb17
  have hN := diskNames d m [] w17 hD17 (by decide)
  rw [el] at hN
  go_wp2_with fail
  (with_reducible refine hN.mono ?_)
  rintro e w18 ⟨v18, rfl, hv18, hb18⟩
  obtain ⟨A18, c18, rfl⟩ := owns_slice hv18
  have hbe18 := hbe17.trans (hb18.mono hbe17.size)
  clear hN hD17 hbe17 hb18 hv18
  go_wp2_with fail
  go_ret
  exact ⟨rfl, hbe18⟩
end Go.Proofs.Ytdjdhakmigofmaa
