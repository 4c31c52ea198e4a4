/-
  Keys, values, names: lab's and the reference's.
-/
import Derived.Test.YtgpojkofegajeaaGreatDoorWord
namespace Go.Proofs.YtgpojkofegajeaaGreatDoor
open Go.RowKit
set_option maxRecDepth 100000

/-- What a name is. -/
def nameB (s : ByteArray) : Bool := wordB s 12 true && okB false (s.data.toList.getD 0 0).toNat
theorem nm_word {s : ByteArray} {m : Nat} {a : Bool} (h : wordB s m a = true) : 0 < s.size := by
  simp only [wordB, Bool.and_eq_true, decide_eq_true_eq] at h
  omega
theorem lKey (s : ByteArray) (w : World) (hs : s.size ≤ maxLen) : Calls Tryz.prog 50 #[.string s] w fun e w' => e = .returned (.bool (wordB s 8 false)) ∧ Below w.heap.size w w' := by
  have hW : Calls Tryz.prog 49 #[.string s, .int .i64 8, .bool false] w fun e w' => e = .returned (.bool (wordB s 8 false)) ∧ Below w.heap.size w w' := labWord s 8 false w hs
  go_enter Tryz.func50, Tryz.ntmps50
  go_wp2_with fail
  (with_reducible refine hW.mono ?_)
  rintro e w1 ⟨rfl, hb⟩
  go_wp2_with fail
  go_ret
  exact ⟨rfl, hb⟩
theorem lValue (s : ByteArray) (w : World) (hs : s.size ≤ maxLen) : Calls Tryz.prog 51 #[.string s] w fun e w' => e = .returned (.bool (wordB s 16 true)) ∧ Below w.heap.size w w' := by
  have hW : Calls Tryz.prog 49 #[.string s, .int .i64 16, .bool true] w fun e w' => e = .returned (.bool (wordB s 16 true)) ∧ Below w.heap.size w w' := labWord s 16 true w hs
  go_enter Tryz.func51, Tryz.ntmps51
  go_wp2_with fail
  (with_reducible refine hW.mono ?_)
  rintro e w1 ⟨rfl, hb⟩
  go_wp2_with fail
  go_ret
  exact ⟨rfl, hb⟩
theorem nm_get (s : ByteArray) (h : 0 < s.size) : s.data.toList.getD 0 0 = s[0]'h := by
  have hl : 0 < s.data.toList.length := h
  rw [List.getD_eq_getElem?_getD, List.getElem?_eq_getElem hl]
  rfl
theorem lName (s : ByteArray) (w : World) (hs : s.size ≤ maxLen) : Calls Tryz.prog 26 #[.string s] w fun e w' => e = .returned (.bool (nameB s)) ∧ Below w.heap.size w w' := by
  have hW : Calls Tryz.prog 49 #[.string s, .int .i64 12, .bool true] w fun e w' => e = .returned (.bool (wordB s 12 true)) ∧ Below w.heap.size w w' := labWord s 12 true w hs
  cases hw : wordB s 12 true with
  | false =>
    rw [hw] at hW
    have E := Lib.hid (show nameB s = false by simp [nameB, hw])
    clear hw
    go_enter Tryz.func26, Tryz.ntmps26
    go_wp2_with fail
    (with_reducible refine hW.mono ?_)
    rintro e w1 ⟨rfl, hb⟩
    go_wp2_with fail
    go_ret
    exact ⟨by rw [E.out]; rfl, hb⟩
  | true =>
    rw [hw] at hW
    have h0 := nm_word hw
    have E := Lib.hid (show nameB s = okB false (s[0]'h0).toNat by rw [nameB, hw, nm_get s h0, Bool.true_and])
    clear hw
    by_cases g1 : 97 ≤ (s[0]'h0).toNat
    · by_cases g2 : (s[0]'h0).toNat ≤ 122
      all_goals
        go_enter Tryz.func26, Tryz.ntmps26
        go_wp2_with fail
        (with_reducible refine hW.mono ?_)
        rintro e w1 ⟨rfl, hb⟩
        go_wp2_with fail
        go_ret
        exact ⟨by rw [E.out, okB_false]; simp [g1, g2] <;> omega, hb⟩
    · go_enter Tryz.func26, Tryz.ntmps26
      go_wp2_with fail
      (with_reducible refine hW.mono ?_)
      rintro e w1 ⟨rfl, hb⟩
      go_wp2_with fail
      go_ret
      exact ⟨by rw [E.out, okB_false]; simp [g1], hb⟩

/-! ### The reference's -/
theorem refSmall (c : UInt8) (w : World) : Calls Tryz.prog 62 #[.int .u8 c.toNat] w fun e w' => e = .returned (.bool (okB false c.toNat)) ∧ w' = w := by
  have E := Lib.hid (okB_false c.toNat)
  by_cases g1 : 97 ≤ c.toNat
  · by_cases g2 : c.toNat ≤ 122
    all_goals
      go_enter Tryz.func62, Tryz.ntmps62
      go_wp2_with fail
      go_ret
      exact ⟨by rw [E.out]; simp [g1, g2] <;> omega, rfl⟩
  · go_enter Tryz.func62, Tryz.ntmps62
    go_wp2_with fail
    go_ret
    exact ⟨by rw [E.out]; simp [g1], rfl⟩
theorem all_step {s : ByteArray} {k : Nat} (p : UInt8 → Bool) (hk : k < s.size) (h : (s.data.toList.take k).all p = true) (hp : p (s[k]'hk) = true) : (s.data.toList.take (k + 1)).all p = true := by
  have hl : k < s.data.toList.length := hk
  rw [List.take_succ_eq_append_getElem hl, List.all_append, h]
  simp only [List.all_cons, List.all_nil, Bool.and_true, Bool.true_and]
  exact hp
theorem all_bad {s : ByteArray} {k : Nat} (p : UInt8 → Bool) (hk : k < s.size) (hp : p (s[k]'hk) = false) : s.data.toList.all p = false := by
  have hl : k < s.data.toList.length := hk
  rw [List.all_eq_false]
  exact ⟨_, List.getElem_mem hl, fun hc => Bool.false_ne_true (hp.symm.trans hc)⟩
theorem refKey (s : ByteArray) (w : World) (hs : s.size ≤ maxLen) : Calls Tryz.prog 63 #[.string s] w fun e w' => e = .returned (.bool (wordB s 8 false)) ∧ w' = w := by
  unfold maxLen at hs
  go_enter Tryz.func63, Tryz.ntmps63
  go_wp2_with fail
  go_loop [3] (fun i => ∃ k : Nat, k ≤ s.size ∧ i = .int .i64 k ∧ (s.data.toList.take k).all (fun c => okB false c.toNat) = true) (fun i => s.size - (intOf i).toNat)
  case atStart => exact ⟨0, Nat.zero_le _, rfl, rfl⟩
  case round =>
    obtain ⟨k, hk, rfl, hall⟩ := hrel
    by_cases hlt : k < s.size
    · have hS := refSmall (s[k]'hlt) w
      cases hok : okB false (s[k]'hlt).toNat with
      | true =>
        rw [hok] at hS
        have HA := Lib.hid (all_step (fun c => okB false c.toNat) hlt hall hok)
        clear hall hok
        go_wp2_with fail
        (with_reducible refine hS.mono ?_)
        rintro e w1 ⟨rfl, rfl⟩
        go_wp2_with fail
        go_round
        case rel => exact ⟨k + 1, by omega, by go_num, HA.out⟩
        case measure => simp [intOf]; omega
      | false =>
        rw [hok] at hS
        have HB := Lib.hid (show wordB s 8 false = false by simp only [wordB, all_bad (fun c => okB false c.toNat) hlt hok, Bool.and_false])
        clear hall hok
        go_wp2_with fail
        (with_reducible refine hS.mono ?_)
        rintro e w1 ⟨rfl, rfl⟩
        go_wp2_with fail
        go_ret
        exact ⟨by rw [HB.out]; rfl, rfl⟩
    · have hl : s.data.toList.take k = s.data.toList := List.take_of_length_le (by have : s.data.toList.length = s.size := rfl; omega)
      rw [hl] at hall
      have E := Lib.hid (show wordB s 8 false = (decide (1 ≤ s.size) && decide (s.size ≤ 8)) by simp only [wordB, hall, Bool.and_true])
      clear hall hl
      by_cases g1 : 1 ≤ s.size
      · by_cases g2 : s.size ≤ 8
        all_goals
          go_wp2_with fail
          go_ret
          exact ⟨by rw [E.out]; simp [g1, g2] <;> omega, rfl⟩
      · go_wp2_with fail
        go_ret
        exact ⟨by rw [E.out]; simp [g1], rfl⟩
set_option maxHeartbeats 1000000 in
theorem refValue (s : ByteArray) (w : World) (hs : s.size ≤ maxLen) : Calls Tryz.prog 61 #[.string s] w fun e w' => e = .returned (.bool (wordB s 16 true)) ∧ w' = w := by
  unfold maxLen at hs
  go_enter Tryz.func61, Tryz.ntmps61
  go_wp2_with fail
  go_loop [3] (fun i => ∃ k : Nat, k ≤ s.size ∧ i = .int .i64 k ∧ (s.data.toList.take k).all (fun c => okB true c.toNat) = true) (fun i => s.size - (intOf i).toNat)
  case atStart => exact ⟨0, Nat.zero_le _, rfl, rfl⟩
  case round =>
    obtain ⟨k, hk, rfl, hall⟩ := hrel
    by_cases hlt : k < s.size
    · have hS := refSmall (s[k]'hlt) w
      have HAll := fun h => all_step (fun c => okB true c.toNat) hlt hall h
      have HBad : okB true (s[k]'hlt).toNat = false → wordB s 16 true = false := fun h => by simp only [wordB, all_bad (fun c => okB true c.toNat) hlt h, Bool.and_false]
      clear hall
      obtain ⟨r, hr⟩ : ∃ r, r = (s[k]'hlt).toNat := ⟨_, rfl⟩
      have hget : ((s[k]'hlt).toNat : Int) = (r : Int) := by rw [hr]
      rw [← hr] at hS HBad
      have HAll' : okB true r = true → (s.data.toList.take (k + 1)).all (fun c => okB true c.toNat) = true := fun h => HAll (by rw [← hr]; exact h)
      have H8 : r ≤ 255 := by rw [hr]; have := (s[k]'hlt).toNat_lt; omega
      clear HAll hr
      cases hsm : okB false r with
      | true =>
        rw [hsm] at hS
        have HA := Lib.hid (HAll' (by rw [okB_false] at hsm; rw [okB, hsm]; rfl))
        clear HAll' HBad hsm
        go_wp2_with fail
        (with_reducible refine hS.mono ?_)
        rintro e w1 ⟨rfl, rfl⟩
        go_wp2_with fail
        go_round
        case rel => exact ⟨k + 1, by omega, by go_num, HA.out⟩
        case measure => simp [intOf]; omega
      | false =>
        rw [hsm] at hS
        cases hok : okB true r with
        | true =>
          have HA := Lib.hid (HAll' hok)
          have hor : (48 ≤ r ∧ r ≤ 57) ∨ r = 46 ∨ r = 95 ∨ r = 45 := by
            rw [okB_false] at hsm
            rw [okB, hsm] at hok
            simp only [Bool.or_eq_true, Bool.and_eq_true, decide_eq_true_eq, Bool.true_and, Bool.false_or] at hok
            omega
          clear HAll' HBad hsm hok
          rcases hor with ⟨x1, x2⟩ | rfl | rfl | rfl
          all_goals
            go_wp2_with fail
            first | (with_reducible refine hS.mono ?_) | (refine hS.mono ?_)
            rintro e w1 ⟨rfl, rfl⟩
            go_wp2_with fail
            go_round
            case rel => exact ⟨k + 1, by omega, by go_num, HA.out⟩
            case measure => simp [intOf]; omega
        | false =>
          have HB := Lib.hid (HBad hok)
          have hno : ¬ ((48 ≤ r ∧ r ≤ 57) ∨ r = 46 ∨ r = 95 ∨ r = 45) := by
            intro h
            have : okB true r = true := by
              simp only [okB, Bool.or_eq_true, Bool.and_eq_true, decide_eq_true_eq, Bool.true_and]
              omega
            rw [this] at hok; cases hok
          have e46 : ((r : Int) == 46) = false := by rw [beq_eq_false_iff_ne]; omega
          have e95 : ((r : Int) == 95) = false := by rw [beq_eq_false_iff_ne]; omega
          have e45 : ((r : Int) == 45) = false := by rw [beq_eq_false_iff_ne]; omega
          have n46 : ((r : Int) != 46) = true := by rw [bne, e46]; rfl
          have n95 : ((r : Int) != 95) = true := by rw [bne, e95]; rfl
          have n45 : ((r : Int) != 45) = true := by rw [bne, e45]; rfl
          by_cases x1 : 48 ≤ r
          · have x2 : ¬ r ≤ 57 := by omega
            have x3 : decide ((r : Int) ≤ 57) = false := by rw [decide_eq_false_iff_not]; omega
            clear HAll' HBad hsm hok hno
            go_wp2_with fail
            (with_reducible refine hS.mono ?_)
            rintro e w1 ⟨rfl, rfl⟩
            go_wp2_with fail
            go_ret
            exact ⟨by rw [HB.out]; rfl, rfl⟩
          · clear HAll' HBad hsm hok hno
            go_wp2_with fail
            (with_reducible refine hS.mono ?_)
            rintro e w1 ⟨rfl, rfl⟩
            go_wp2_with fail
            go_ret
            exact ⟨by rw [HB.out]; rfl, rfl⟩
    · have hl : s.data.toList.take k = s.data.toList := List.take_of_length_le (by have : s.data.toList.length = s.size := rfl; omega)
      rw [hl] at hall
      have E := Lib.hid (show wordB s 16 true = (decide (1 ≤ s.size) && decide (s.size ≤ 16)) by simp only [wordB, hall, Bool.and_true])
      clear hall hl
      by_cases g1 : 1 ≤ s.size
      · by_cases g2 : s.size ≤ 16
        all_goals
          go_wp2_with fail
          go_ret
          exact ⟨by rw [E.out]; simp [g1, g2] <;> omega, rfl⟩
      · go_wp2_with fail
        go_ret
        exact ⟨by rw [E.out]; simp [g1], rfl⟩
theorem word_12 (s : ByteArray) : wordB s 12 true = (wordB s 16 true && decide (s.size ≤ 12)) := by
  unfold wordB
  by_cases h : s.size ≤ 12
  · have h2 : s.size ≤ 16 := by omega
    simp [h, h2]
  · simp [h]
theorem refName (s : ByteArray) (w : World) (hs : s.size ≤ maxLen) : Calls Tryz.prog 37 #[.string s] w fun e w' => e = .returned (.bool (nameB s)) ∧ w' = w := by
  have hV := refValue s w hs
  unfold maxLen at hs
  cases hw : wordB s 16 true with
  | false =>
    rw [hw] at hV
    have E := Lib.hid (show nameB s = false by simp [nameB, word_12, hw])
    clear hw
    go_enter Tryz.func37, Tryz.ntmps37
    go_wp2_with fail
    (with_reducible refine hV.mono ?_)
    rintro e w1 ⟨rfl, rfl⟩
    go_wp2_with fail
    go_ret
    exact ⟨by rw [E.out]; rfl, rfl⟩
  | true =>
    rw [hw] at hV
    have h0 := nm_word hw
    by_cases g1 : s.size ≤ 12
    · have E := Lib.hid (show nameB s = okB false (s[0]'h0).toNat by rw [nameB, word_12, hw, nm_get s h0]; simp [g1])
      have hS := refSmall (s[0]'h0) w
      clear hw
      go_enter Tryz.func37, Tryz.ntmps37
      go_wp2_with fail
      (with_reducible refine hV.mono ?_)
      rintro e w1 ⟨rfl, rfl⟩
      go_wp2_with fail
      (with_reducible refine hS.mono ?_)
      rintro e w1 ⟨rfl, rfl⟩
      go_wp2_with fail
      go_ret
      exact ⟨by rw [E.out]; simp, rfl⟩
    · have E := Lib.hid (show nameB s = false by rw [nameB, word_12, hw]; simp [g1])
      clear hw
      go_enter Tryz.func37, Tryz.ntmps37
      go_wp2_with fail
      (with_reducible refine hV.mono ?_)
      rintro e w1 ⟨rfl, rfl⟩
      go_wp2_with fail
      go_ret
      exact ⟨by rw [E.out]; simp, rfl⟩
end Go.Proofs.YtgpojkofegajeaaGreatDoor
