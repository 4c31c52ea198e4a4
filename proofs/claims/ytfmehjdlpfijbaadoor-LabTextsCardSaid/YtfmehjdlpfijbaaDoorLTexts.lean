/-
  The walk of LabTexts.
-/
import Derived.Test.YtfmehjdlpfijbaaDoorLSplit
import Derived.Test.YtfmehjdlpfijbaaDoorLRefQ
import Derived.Test.YtfmehjdlpfijbaaDoorLText
import Derived.Test.YtfmehjdlpfijbaaDoorLEq
import Derived.Test.YtfmehjdlpfijbaaDoorLLists
namespace Go.Proofs.YtfmehjdlpfijbaaDoor
open Go.RowKit
set_option maxRecDepth 100000

theorem textz_size {ps : List Pr} (h : chkL (sortL ps) = 0) : (textL (sortL ps)).length ≤ 208 := by
  obtain ⟨h8, hw⟩ := chkL_words h
  have := text_size (sortL ps) 25 fun p hp => by
    have h1 := word_size (hw p hp).1
    have h2 := word_size (hw p hp).2
    rw [pairL_len]
    omega
  omega
set_option maxHeartbeats 4000000 in
theorem labTextsWalk (s : ByteArray) (va : Value) (a : List Pr) (mx : Int) (w : World) (hss : s.size ≤ maxLen) (ha : Rd w 2 va a.length (pairCells a))
    (hsa : ∀ p ∈ a, p.1.size ≤ maxLen ∧ p.2.size ≤ maxLen) (hm : w.cell? ⟨0, 0, none⟩ = some (.int .i64 mx)) :
    Calls Tryd.prog 5 #[.string s, va] w fun e w' => e = .returned (.bool true) ∧ Below w.heap.size w w' := by
  have ha0 := ha
  obtain ⟨A, ca, rfl, _, qa, ra, _⟩ := ha
  unfold maxLen at ra
  have hA := lAwake mx w hm
  have HM : ∀ w', Below w.heap.size w w' → w'.cell? ⟨0, 0, none⟩ = some (.int .i64 mx) := fun w' hb => by
    rw [hb.cell (World.block_lt_of_cell? w _ hm)]; exact hm
  have RA := fun w' (h : Below w.heap.size w w') => ha0.below h
  clear hm ha0
  have hsz : s.size ≤ 9223372036854775807 := hss
  go_enter Tryd.func5, Tryd.ntmps5
  go_wp2_with fail
  (with_reducible refine hA.mono ?_)
  rintro e w0 ⟨rfl, hB0⟩
  clear hA
  by_cases h1 : 300 < s.size
  · go_wp2_with fail
    go_ret
    exact ⟨rfl, hB0⟩
  by_cases h2 : 12 < a.length
  · go_wp2_with fail
    go_ret
    exact ⟨rfl, hB0⟩
  have hK := lParse s mx w0 hss (HM _ hB0)
  have hQ := fun w' => refParse s w' hss
  generalize parseC s = T at hK hQ
  go_wp2_with fail
  (with_reducible refine hK.mono ?_)
  rintro e w1 ⟨v1, rfl, hv, hb⟩
  have hB1 := hB0.trans (hb.mono hB0.size)
  clear hK
  have hr1 := rd_of_owns hv
  obtain ⟨A1, c1, rfl⟩ := owns_slice hv
  clear hv hb hB0
  have hK := hQ w1
  go_wp2_with fail
  (with_reducible refine hK.mono ?_)
  rintro e w2 ⟨v2, rfl, hv, hb⟩
  have hB2 := hB1.trans (hb.mono hB1.size)
  clear hK hQ
  have hr2 := rd_of_owns hv
  obtain ⟨A2, c2, rfl⟩ := owns_slice hv
  have hr1b := hr1.below hb
  clear hv hr1 hb hB1
  have hK := (by have := refSame _ _ _ _ w2 hr1b hr2; rw [same_self] at this; exact this : Calls _ _ _ w2 fun e w' => e = .returned (.bool true) ∧ Below _ w2 w')
  have hbn : ((T.1 : Int) != (T.1 : Int)) = false := bne_self_eq_false' _
  go_wp2_with fail
  (with_reducible refine hK.mono ?_)
  rintro e w3 ⟨rfl, hb⟩
  have hB3 := hB2.trans (hb.mono hB2.size)
  clear hK hr1b hr2 hb hB2
  have hK := lMake (.slice A a.length ca) a w3 (RA _ hB3) hsa (by omega)
  cases hc : chkL (sortL a) with
  | succ n =>
    rw [hc] at hK
    have hne : ((n + 1 : Nat) : Int) ≠ 0 := by omega
    have hne2 : (((n + 1 : Nat) : Int) != 0) = true := by rw [bne_iff_ne]; exact hne
    clear hc
    generalize ((n + 1 : Nat) : Int) = N at *
    go_wp2_with fail
    (with_reducible refine hK.mono ?_)
    rintro e w4 ⟨v1, rfl, hv, hb⟩
    have hB4 := hB3.trans (hb.mono hB3.size)
    obtain ⟨A3, c3, rfl⟩ := owns_slice hv
    clear hK hv hb hB3
    go_wp2_with fail
    go_ret
    exact ⟨rfl, hB4⟩
  | zero =>
    have hmk : makeL a = sortL a := by simp [makeL, hc]
    have hpt := parse_text a hc
    have hz := textz_size hc
    rw [hc, hmk] at hK
    clear hc hmk
    generalize sortL a = z at hK hpt hz
    obtain ⟨tx, htx⟩ : ∃ tx : ByteArray, tx = ⟨(textL z).toArray⟩ := ⟨_, rfl⟩
    have htl : tx.size = (textL z).length := by rw [htx]; simp [ByteArray.size]
    rw [← htx] at hpt
    have HT := Lib.hid htx
    clear htx
    go_wp2_with fail
    (with_reducible refine hK.mono ?_)
    rintro e w4 ⟨v1, rfl, hv, hb⟩
    have hB4 := hB3.trans (hb.mono hB3.size)
    have hr1 := rd_of_owns hv
    obtain ⟨A3, c3, rfl⟩ := owns_slice hv
    clear hK hv hb hB3
    have hK := labText (.slice A3 z.length c3) z w4 hr1 (by omega)
    rw [← HT.out] at hK
    go_wp2_with fail
    (with_reducible refine hK.mono ?_)
    rintro e w5 ⟨rfl, hb⟩
    have hB5 := hB4.trans (hb.mono hB4.size)
    have hr1b := hr1.below hb
    clear hK hr1 hb hB4
    have hK := lParse tx mx w5 (by unfold maxLen; omega) (HM _ hB5)
    rw [hpt] at hK
    clear hpt
    go_wp2_with fail
    (with_reducible refine hK.mono ?_)
    rintro e w6 ⟨v2, rfl, hv, hb⟩
    have hB6 := hB5.trans (hb.mono hB5.size)
    have hr1 := hr1b.below hb
    have hr2 := rd_of_owns hv
    obtain ⟨A4, c4, rfl⟩ := owns_slice hv
    clear hK hr1b hb hv hB5
    have hK := (by have := lSame _ _ _ _ w6 hr2 hr1; rw [same_self] at this; exact this : Calls _ _ _ w6 fun e w' => e = .returned (.bool true) ∧ Below _ w6 w')
    go_wp2_with fail
    (with_reducible refine hK.mono ?_)
    rintro e w7 ⟨rfl, hb⟩
    have hB7 := hB6.trans (hb.mono hB6.size)
    clear hK hr1 hr2 hb hB6
    go_wp2_with fail
    go_ret
    exact ⟨rfl, hB7⟩
end Go.Proofs.YtfmehjdlpfijbaaDoor
