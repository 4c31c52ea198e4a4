/-
  The walk of JournalNone.
-/
import Derived.Test.YtiblkkaneonajaaJnil
namespace Go.Proofs.Ytiblkkaneonajaa
open Go.RowKit
set_option maxRecDepth 100000

theorem wordB_bang (y : ByteArray) : wordB (y ++ ⟨#[33]⟩) 16 true = false := by
  have h : (y ++ ⟨#[33]⟩ : ByteArray).data.toList.all (fun c => okB true c.toNat) = false := by
    rw [List.all_eq_false]
    refine ⟨33, ?_, by decide⟩
    simp [ByteArray.data_append]
  simp only [wordB, h, Bool.and_false]
set_option maxHeartbeats 1000000 in
theorem noneWalk (v0 : Value) (bs : List UInt8) (y : ByteArray) (w : World) (h0 : Rd w 1 v0 bs.length (u8L bs)) (hy : y.size ≤ maxLen) :
    Calls Try.prog 6 #[v0, .string y] w fun e w' => e = .returned (.bool true) ∧ Below w.heap.size w w' := by
  have h0' := h0
  obtain ⟨A0, c0, rfl, s1, s2, s3, s4⟩ := h0
  unfold maxLen at s3 hy
  go_enter Try.func6, Try.ntmps6
  go_wp2_with fail
  (with_reducible refine (jAwake w).mono ?_)
  rintro e w1 ⟨rfl, hb1⟩
  by_cases hl1 : 100 < bs.length
  · go_wp2_with fail
    go_ret
    exact ⟨rfl, hb1⟩
  by_cases hl2 : 50 < y.size
  · go_wp2_with fail
    go_ret
    exact ⟨rfl, hb1⟩
  go_wp2_with fail
  (with_reducible refine (jLayNil _ _).mono ?_)
  rintro e w2 ⟨rfl, rfl⟩
  go_wp2_with fail
  (with_reducible refine (jTakeNil _ _).mono ?_)
  rintro e w3 ⟨rfl, rfl⟩
  go_wp2_with fail
  (with_reducible refine (jScanNil _ _ _ _).mono ?_)
  rintro e w4 ⟨rfl, rfl⟩
  go_wp2_with fail
  (with_reducible refine (crcNew _).mono ?_)
  rintro e w5 ⟨rfl, hT5, hb5⟩
  go_wp2_with fail
  (with_reducible refine (jOpenNilDisk _ _ _).mono ?_)
  rintro e w6 ⟨rfl, rfl⟩
  have hbe6 : Below w.heap.size w w6 := hb1.trans (hb5.mono hb1.size)
  clear hb1 hb5 hT5
  go_wp2_with fail
  (with_reducible refine (diskNew _).mono ?_)
  rintro e w7 ⟨d7, m7, rfl, _, _, hD7, hb7⟩
  have hbe7 : Below w.heap.size w w7 := hbe6.trans (hb7.mono hbe6.size)
  clear hbe6 hb7 hD7
  go_wp2_with fail
  (with_reducible refine (jOpenNilTab _ _ _).mono ?_)
  rintro e w8 ⟨rfl, rfl⟩
  go_wp2_with fail
  (with_reducible refine (diskNew _).mono ?_)
  rintro e w9 ⟨d, m, rfl, _, _, hD9, hb9⟩
  have hbe9 : Below w.heap.size w w9 := hbe7.trans (hb9.mono hbe7.size)
  clear hbe7 hb9
  go_wp2_with fail
  (with_reducible refine (crcNew _).mono ?_)
  rintro e w10 ⟨rfl, hT10, hb10⟩
  have hD10 := hD9.below hb10
  have hbe10 : Below w.heap.size w w10 := hbe9.trans (hb10.mono hbe9.size)
  have htb := hbe9.size
  generalize w9.heap.size = tb at hT10 htb hb10 ⊢
  clear hbe9 hb10 hD9
  go_wp2_with fail
  have hwf := wordB_bang y
  have hsz : (y ++ ⟨#[33]⟩ : ByteArray).size ≤ maxLen := by
    have e : (y ++ ⟨#[33]⟩ : ByteArray).size = y.size + 1 := by rw [ByteArray.size_append]; rfl
    rw [e]; unfold maxLen; omega
  generalize hs : (y ++ ⟨#[33]⟩ : ByteArray) = s at hwf hsz ⊢
  clear hs
  have HWF := Lib.hid hwf
  clear hwf
  (with_reducible refine (jOpenNew d m tb [] s w10 hD10 rfl hT10).mono ?_)
  rintro e w11 ⟨j, A8, c8, rfl, _, hj8, hD8, hT8, hB8⟩
  have hbe11 := hB8.below hbe10 (Nat.le_refl _) htb
  have hrd := h0'.below hbe11
  clear hT10 hbe10 hB8 hD10
  go_wp2_with fail
  (with_reducible refine (jAppendNil _ _).mono ?_)
  rintro e w12 ⟨rfl, rfl⟩
  go_wp2_with fail
  (with_reducible refine (jSyncNil _).mono ?_)
  rintro e w13 ⟨rfl, rfl⟩
  go_wp2_with fail
  (with_reducible refine (jSizeNil _).mono ?_)
  rintro e w14 ⟨rfl, rfl⟩
  go_wp2_with fail
  (with_reducible refine (jNameNil _).mono ?_)
  rintro e w15 ⟨rfl, rfl⟩
  have hAp := jAppendName j d tb s 0 _ bs w15 hj8 hT8 hrd (by omega) hsz HWF.out
  go_wp2_with fail
  (with_reducible refine hAp.mono ?_)
  rintro e w16 ⟨rfl, hT16, hB16⟩
  have hj16 := hj8.but_ hT8 hB16 (by decide)
  have hD16 := hD8.but hT8 hB16
  have hbe16 := hB16.below hbe11 (Nat.le_refl _) htb
  have hSy := jSyncNone j d m [] _ _ s w16 hj16 hD16 rfl
  clear hAp hj8 hD8 hT8 hbe11 hrd
  go_wp2_with fail
  (with_reducible refine hSy.mono ?_)
  rintro e w17 ⟨rfl, hb17⟩
  have hbe17 := hbe16.trans (hb17.mono hbe16.size)
  clear hSy hj16 hD16 hbe16 hb17
  go_wp2_with fail
  go_ret
  exact ⟨rfl, hbe17⟩
end Go.Proofs.Ytiblkkaneonajaa
