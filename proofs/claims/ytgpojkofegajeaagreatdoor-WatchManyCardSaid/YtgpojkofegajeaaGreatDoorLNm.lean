/-
  Keys, values, names: lab's and the reference's.
-/
import Derived.Test.YtgpojkofegajeaaGreatDoorWord
namespace Go.Proofs.YtgpojkofegajeaaGreatDoor
open Go.RowKit
set_option maxRecDepth 100000

/-- What a name is. -/
def nameB (s : ByteArray) : Bool := wordB s 12 true && okB false (s.data.toList.getD 0 0).toNat
theorem nm_word {s : ByteArray} {m : Nat} {a : Bool} (h : wordB s m a = true) : 0 < s.size := by
  simp only [wordB, Bool.and_eq_true, decide_eq_true_eq] at h
  omega
theorem lKey (s : ByteArray) (w : World) (hs : s.size ≤ maxLen) : Calls Tryz.prog 50 #[.string s] w fun e w' => e = .returned (.bool (wordB s 8 false)) ∧ Below w.heap.size w w' := by
  have hW : Calls Tryz.prog 49 #[.string s, .int .i64 8, .bool false] w fun e w' => e = .returned (.bool (wordB s 8 false)) ∧ Below w.heap.size w w' := labWord s 8 false w hs
  go_enter Tryz.func50, Tryz.ntmps50
  go_wp2_with fail
  (with_reducible refine hW.mono ?_)
  rintro e w1 ⟨rfl, hb⟩
  go_wp2_with fail
  go_ret
  exact ⟨rfl, hb⟩
theorem lValue (s : ByteArray) (w : World) (hs : s.size ≤ maxLen) : Calls Tryz.prog 51 #[.string s] w fun e w' => e = .returned (.bool (wordB s 16 true)) ∧ Below w.heap.size w w' := by
  have hW : Calls Tryz.prog 49 #[.string s, .int .i64 16, .bool true] w fun e w' => e = .returned (.bool (wordB s 16 true)) ∧ Below w.heap.size w w' := labWord s 16 true w hs
  go_enter Tryz.func51, Tryz.ntmps51
  go_wp2_with fail
  (with_reducible refine hW.mono ?_)
  rintro e w1 ⟨rfl, hb⟩
  go_wp2_with fail
  go_ret
  exact ⟨rfl, hb⟩
theorem nm_get (s : ByteArray) (h : 0 < s.size) : s.data.toList.getD 0 0 = s[0]'h := by
  have hl : 0 < s.data.toList.length := h
  rw [List.getD_eq_getElem?_getD, List.getElem?_eq_getElem hl]
  rfl
theorem lName (s : ByteArray) (w : World) (hs : s.size ≤ maxLen) : Calls Tryz.prog 26 #[.string s] w fun e w' => e = .returned (.bool (nameB s)) ∧ Below w.heap.size w w' := by
  have hW : Calls Tryz.prog 49 #[.string s, .int .i64 12, .bool true] w fun e w' => e = .returned (.bool (wordB s 12 true)) ∧ Below w.heap.size w w' := labWord s 12 true w hs
  cases hw : wordB s 12 true with
  | false =>
    rw [hw] at hW
    have E := Lib.hid (show nameB s = false by simp [nameB, hw])
    clear hw
    go_enter Tryz.func26, Tryz.ntmps26
    go_wp2_with fail
    (with_reducible refine hW.mono ?_)
    rintro e w1 ⟨rfl, hb⟩
    go_wp2_with fail
    go_ret
    exact ⟨by rw [E.out]; rfl, hb⟩
  | true =>
    rw [hw] at hW
    have h0 := nm_word hw
    have E := Lib.hid (show nameB s = okB false (s[0]'h0).toNat by rw [nameB, hw, nm_get s h0, Bool.true_and])
    clear hw
    by_cases g1 : 97 ≤ (s[0]'h0).toNat
    · by_cases g2 : (s[0]'h0).toNat ≤ 122
      all_goals
        go_enter Tryz.func26, Tryz.ntmps26
        go_wp2_with fail
        (with_reducible refine hW.mono ?_)
        rintro e w1 ⟨rfl, hb⟩
        go_wp2_with fail
        go_ret
        exact ⟨by rw [E.out, okB_false]; simp [g1, g2] <;> omega, hb⟩
    · go_enter Tryz.func26, Tryz.ntmps26
      go_wp2_with fail
      (with_reducible refine hW.mono ?_)
      rintro e w1 ⟨rfl, hb⟩
      go_wp2_with fail
      go_ret
      exact ⟨by rw [E.out, okB_false]; simp [g1], hb⟩

/-! ### The reference's -/
end Go.Proofs.YtgpojkofegajeaaGreatDoor
