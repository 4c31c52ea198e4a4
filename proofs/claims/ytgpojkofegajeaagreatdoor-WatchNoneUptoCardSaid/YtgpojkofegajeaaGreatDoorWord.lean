/-
  lab.word: whether a text has from one to so many bytes, small letters (or, if it may, also digits and . _ -).
-/
import Derived.Test.YtgpojkofegajeaaGreatDoorMem
import Derived.Laws.RangeAny
import Derived.Lib.Hide
namespace Go.Proofs.YtgpojkofegajeaaGreatDoor
open Go.RowKit
set_option maxRecDepth 100000

def okB (also : Bool) (n : Nat) : Bool := (decide (97 ≤ n) && decide (n ≤ 122)) || (also && ((decide (48 ≤ n) && decide (n ≤ 57)) || decide (n = 46) || decide (n = 95) || decide (n = 45)))
def wordB (s : ByteArray) (most : Nat) (also : Bool) : Bool := decide (1 ≤ s.size) && decide (s.size ≤ most) && s.data.toList.all (fun c => okB also c.toNat)
theorem okB_high (also : Bool) (n : Nat) (h : 128 ≤ n) : okB also n = false := by
  have a : ¬ n ≤ 122 := by omega
  have b : ¬ n ≤ 57 := by omega
  have c : ¬ n = 46 := by omega
  have d : ¬ n = 95 := by omega
  have e : ¬ n = 45 := by omega
  simp [okB, a, b, c, d, e]
theorem okB_false (n : Nat) : okB false n = (decide (97 ≤ n) && decide (n ≤ 122)) := by simp [okB]
theorem iter_below (w : World) (s : ByteArray) (p : Nat) : Below w.heap.size w (w.iter s p) := (Below.refl _ _).alloc (Nat.le_refl _) _

set_option maxHeartbeats 1000000 in
theorem labWord (s : ByteArray) (most : Nat) (also : Bool) (w : World) (hs : s.size ≤ maxLen) :
    Calls Tryz.prog 49 #[.string s, .int .i64 most, .bool also] w fun e w' => e = .returned (.bool (wordB s most also)) ∧ Below w.heap.size w w' := by
  unfold maxLen at hs
  by_cases h1 : s.size < 1
  · have E := Lib.hid (show wordB s most also = false by simp [wordB]; omega)
    go_enter Tryz.func49, Tryz.ntmps49
    go_wp2_with fail
    go_ret
    exact ⟨by rw [E.out]; rfl, Below.refl _ _⟩
  by_cases h2 : most < s.size
  · have E := Lib.hid (show wordB s most also = false by simp [wordB]; omega)
    go_enter Tryz.func49, Tryz.ntmps49
    go_wp2_with fail
    go_ret
    exact ⟨by rw [E.out]; rfl, Below.refl _ _⟩
  go_enter Tryz.func49, Tryz.ntmps49
  go_wp2_with fail
  go_loopw [20] (fun _ wr => ∃ pos : Nat, pos ≤ s.size ∧ wr = w.iter s pos ∧ (s.data.toList.take pos).all (fun c => okB also c.toNat) = true) (fun _ wr => s.size - wr.iterPos w.heap.size)
  case atStart => exact ⟨0, Nat.zero_le _, rfl, rfl⟩
  case round =>
    obtain ⟨pos, hpos, rfl, hall⟩ := hrel
    by_cases hp : pos < s.size
    · obtain ⟨r, wd, hd, hr1, hr2⟩ : ∃ r wd : Nat, Utf8.decode s pos = (r, wd) ∧ okB also r = okB also (s[pos]'hp).toNat ∧ (okB also r = true → wd = 1) := by
        by_cases ha : (s[pos]'hp).toNat < 128
        · exact ⟨_, _, decode_ascii s pos hp ha, rfl, fun _ => rfl⟩
        · have := decode_high s pos hp (by omega)
          refine ⟨(Utf8.decode s pos).1, (Utf8.decode s pos).2, rfl, ?_, fun h => ?_⟩
          · rw [okB_high _ _ this.1, okB_high _ _ (by omega)]
          · rw [okB_high _ _ this.1] at h; cases h
      have hrl : r ≤ 2147483647 := by have := decode_le s pos; rw [hd] at this; exact this
      have hnx : ∀ ty, (Instr.next (.pointer (some ⟨w.heap.size, 0, none⟩)) true ty).run Tryz.prog (w.iter s pos) = .ok (.tuple #[.bool true, .int .i64 pos, .int .i32 r]) (w.iter s (pos + wd)) := fun ty => by
        have := run_next_any (P := Tryz.prog) w s pos ty hp
        rw [hd] at this
        exact this
      have step : okB also r = true → (s.data.toList.take (pos + 1)).all (fun c => okB also c.toNat) = true := by
        intro h
        have hl : pos < s.data.toList.length := hp
        rw [List.take_succ_eq_append_getElem hl, List.all_append, hall]
        simp only [List.all_cons, List.all_nil, Bool.and_true, Bool.true_and]
        rw [hr1] at h
        exact h
      have bad : okB also r = false → wordB s most also = false := by
        intro h
        have hl : pos < s.data.toList.length := hp
        have : s.data.toList.all (fun c => okB also c.toNat) = false := by
          rw [List.all_eq_false]
          rw [hr1] at h
          exact ⟨_, List.getElem_mem hl, fun hc => Bool.false_ne_true (h.symm.trans hc)⟩
        simp [wordB, this]
      clear hd hall hr1
      have hms : s.size - (pos + 1) < s.size - pos := by omega
      by_cases hlow : 97 ≤ r ∧ r ≤ 122
      · obtain ⟨g1, g2⟩ := hlow
        have hok : okB also r = true := by simp [okB, g1, g2]
        obtain rfl := hr2 hok
        have HS := Lib.hid (step hok)
        clear step bad hr2 hok
        go_wp2_with fail
        go_roundw
        case rel => exact ⟨pos + 1, by omega, rfl, HS.out⟩
        case measure => simp; omega
      · cases also with
        | false =>
          have HB := Lib.hid (bad (by rw [okB_false]; simp only [Bool.and_eq_false_iff, decide_eq_false_iff_not]; omega))
          clear step bad hr2
          by_cases g1 : 97 ≤ r
          · have g2 : ¬ r ≤ 122 := by omega
            clear hlow
            go_wp2_with fail
            go_ret
            exact ⟨by rw [HB.out]; rfl, iter_below _ _ _⟩
          · clear hlow
            go_wp2_with fail
            go_ret
            exact ⟨by rw [HB.out]; rfl, iter_below _ _ _⟩
        | true =>
          cases hok : okB true r with
          | true =>
            obtain rfl := hr2 hok
            have HS := Lib.hid (step hok)
            have hor : (48 ≤ r ∧ r ≤ 57) ∨ r = 46 ∨ r = 95 ∨ r = 45 := by
              simp only [okB, Bool.or_eq_true, Bool.and_eq_true, decide_eq_true_eq, Bool.true_and] at hok
              omega
            clear step bad hr2 hok hlow
            rcases hor with ⟨x1, x2⟩ | rfl | rfl | rfl
            · have h97 : ¬ 97 ≤ r := by omega
              go_wp2_with fail
              go_roundw
              case rel => exact ⟨pos + 1, by omega, rfl, HS.out⟩
              case measure => simp; omega
            · go_wp2_with fail
              go_roundw
              case rel => exact ⟨pos + 1, by omega, rfl, HS.out⟩
              case measure => simp; omega
            · go_wp2_with fail
              go_roundw
              case rel => exact ⟨pos + 1, by omega, rfl, HS.out⟩
              case measure => simp; omega
            · go_wp2_with fail
              go_roundw
              case rel => exact ⟨pos + 1, by omega, rfl, HS.out⟩
              case measure => simp; omega
          | false =>
            have HB := Lib.hid (bad hok)
            have hno : ¬ ((48 ≤ r ∧ r ≤ 57) ∨ r = 46 ∨ r = 95 ∨ r = 45) := by
              intro h
              have : okB true r = true := by
                simp only [okB, Bool.or_eq_true, Bool.and_eq_true, decide_eq_true_eq, Bool.true_and]
                omega
              rw [this] at hok; cases hok
            have e46 : ((r : Int) == 46) = false := by rw [beq_eq_false_iff_ne]; omega
            have e95 : ((r : Int) == 95) = false := by rw [beq_eq_false_iff_ne]; omega
            have e45 : ((r : Int) == 45) = false := by rw [beq_eq_false_iff_ne]; omega
            have cs : r ≤ 44 ∨ r = 47 ∨ (58 ≤ r ∧ r ≤ 94) ∨ r = 96 ∨ 123 ≤ r := by omega
            clear step bad hr2 hok hlow hno
            rcases cs with x1 | rfl | ⟨x1, x2⟩ | rfl | x1
            · have h97 : ¬ 97 ≤ r := by omega
              have h48 : ¬ 48 ≤ r := by omega
              go_wp2_with fail
              go_ret
              exact ⟨by rw [HB.out]; rfl, iter_below _ _ _⟩
            · go_wp2_with fail
              go_ret
              exact ⟨by rw [HB.out]; rfl, iter_below _ _ _⟩
            · have h97 : ¬ 97 ≤ r := by omega
              have h48 : 48 ≤ r := by omega
              have h57 : ¬ r ≤ 57 := by omega
              go_wp2_with fail
              go_ret
              exact ⟨by rw [HB.out]; rfl, iter_below _ _ _⟩
            · go_wp2_with fail
              go_ret
              exact ⟨by rw [HB.out]; rfl, iter_below _ _ _⟩
            · have h97 : 97 ≤ r := by omega
              have h122 : ¬ r ≤ 122 := by omega
              have h48 : 48 ≤ r := by omega
              have h57 : ¬ r ≤ 57 := by omega
              go_wp2_with fail
              go_ret
              exact ⟨by rw [HB.out]; rfl, iter_below _ _ _⟩
    · have hnx : ∀ ty, (Instr.next (.pointer (some ⟨w.heap.size, 0, none⟩)) true ty).run Tryz.prog (w.iter s pos) = _ := fun ty => run_next_end w s pos ty hp
      have E := Lib.hid (show wordB s most also = true by
        have hl : s.data.toList.take pos = s.data.toList := List.take_of_length_le (by have : s.data.toList.length = s.size := rfl; omega)
        rw [hl] at hall
        simp [wordB, hall]
        omega)
      clear hall
      go_wp2_with fail
      go_ret
      exact ⟨by rw [E.out]; rfl, iter_below _ _ _⟩
end Go.Proofs.YtgpojkofegajeaaGreatDoor
