/-
  A question as a text, and back: match.parse.
-/
import Derived.Test.YteiocplfmjkbkaaGreatDoorRt1
import Derived.Test.YteiocplfmjkbkaaGreatDoorLSplit
import Derived.Lib.CutLaws
namespace Go.Proofs.YteiocplfmjkbkaaGreatDoor
open Go.RowKit
set_option maxRecDepth 100000

def begB (v p : ByteArray) : Bool := decide (p.size ≤ v.size) && ((v.extract 0 p.size).toList == p.toList)
theorem slHasPre (s p : ByteArray) (w : World) (_ : s.size ≤ maxLen) (_ : p.size ≤ maxLen) : Calls Tryz.prog 71 #[.string s, .string p] w fun e w' => e = .returned (.bool (begB s p)) ∧ w' = w := by
  by_cases h : p.size ≤ s.size
  · have E := Lib.hid (show begB s p = ((s.extract 0 p.size).toList == p.toList) by unfold begB; rw [decide_eq_true h]; rfl)
    have d0 : decide ((p.size : Int) ≤ (s.size : Int)) = true := decide_eq_true (by omega)
    have i0 : (p.size : Int) ≤ (s.size : Int) := by omega
    go_enter Tryz.func71, Tryz.ntmps71
    go_wp2_with fail
    go_ret
    exact ⟨by rw [E.out]; rfl, rfl⟩
  · have E := Lib.hid (show begB s p = false by unfold begB; rw [decide_eq_false h]; rfl)
    have d0 : decide ((p.size : Int) ≤ (s.size : Int)) = false := decide_eq_false (by omega)
    go_enter Tryz.func71, Tryz.ntmps71
    go_wp2_with fail
    go_ret
    exact ⟨by rw [E.out]; rfl, rfl⟩
theorem begB_size {s p : ByteArray} (h : begB s p = true) : p.size ≤ s.size := by
  unfold begB at h
  rw [Bool.and_eq_true] at h
  simpa using h.1
theorem slCutPre (s p : ByteArray) (w : World) (hs : s.size ≤ maxLen) (hp : p.size ≤ maxLen) : Calls Tryz.prog 92 #[.string s, .string p] w fun e w' => e = .returned (.tuple #[.string (if begB s p = true then s.extract p.size s.size else s), .bool (begB s p)]) ∧ w' = w := by
  have K := fun w' => slHasPre s p w' hs hp
  have hz := @begB_size s p
  obtain ⟨b, hb⟩ : ∃ b, b = begB s p := ⟨_, rfl⟩
  rw [← hb] at K hz ⊢
  clear hb
  unfold maxLen at hs hp
  cases b with
  | false =>
    rw [if_neg (by decide)]
    clear hz
    go_enter Tryz.func92, Tryz.ntmps92
    go_wp2_with fail
    (with_reducible refine (K _).mono ?_)
    rintro e w1 ⟨rfl, rfl⟩
    go_wp2_with fail
    go_ret2
    exact ⟨rfl, rfl⟩
  | true =>
    have h1 := hz rfl
    have i0 : (p.size : Int) ≤ (s.size : Int) := by omega
    rw [if_pos rfl]
    go_enter Tryz.func92, Tryz.ntmps92
    go_wp2_with fail
    (with_reducible refine (K _).mono ?_)
    rintro e w1 ⟨rfl, rfl⟩
    go_wp2_with fail
    go_ret2
    exact ⟨rfl, rfl⟩
theorem cutPre (s p : ByteArray) (w : World) (hs : s.size ≤ maxLen) (hp : p.size ≤ maxLen) : Calls Tryz.prog 82 #[.string s, .string p] w fun e w' => e = .returned (.tuple #[.string (if begB s p = true then s.extract p.size s.size else s), .bool (begB s p)]) ∧ w' = w := by
  have K := fun w' => slCutPre s p w' hs hp
  obtain ⟨r, hr⟩ : ∃ r, r = (if begB s p = true then s.extract p.size s.size else s) := ⟨_, rfl⟩
  obtain ⟨b, hb⟩ : ∃ b, b = begB s p := ⟨_, rfl⟩
  rw [← hr, ← hb] at K ⊢
  clear hr hb hs hp
  go_enter Tryz.func82, Tryz.ntmps82
  go_wp2_with fail
  (with_reducible refine (K _).mono ?_)
  rintro e w1 ⟨rfl, rfl⟩
  go_wp2_with fail
  go_ret2
  exact ⟨rfl, rfl⟩

/-! ### Texts -/
def aqL (a : Aq) : List UInt8 :=
  if a.2.1 = 1 then a.1.data.toList ++ 61 :: a.2.2.data.toList else if a.2.1 = 2 then a.1.data.toList ++ 33 :: 61 :: a.2.2.data.toList
  else if a.2.1 = 3 then a.1.data.toList ++ 94 :: 61 :: a.2.2.data.toList else if a.2.1 = 4 then a.1.data.toList else 33 :: a.1.data.toList
def aqT (a : Aq) : ByteArray := ⟨(aqL a).toArray⟩
theorem aqT_list (a : Aq) : (aqT a).data.toList = aqL a := by unfold aqT; simp
theorem chkA_parts {a : Aq} (h : chkA a = 0) : wordB a.1 8 false = true ∧ 1 ≤ a.2.1 ∧ a.2.1 ≤ 5 ∧ (a.2.1 < 4 → wordB a.2.2 16 true = true) ∧ (4 ≤ a.2.1 → a.2.2 = ⟨#[]⟩) := by
  unfold chkA chkG at h
  by_cases h1 : wordB a.1 8 false = false
  · rw [if_pos h1] at h; cases h
  rw [if_neg h1] at h
  by_cases h2 : a.2.1 < 1 ∨ 5 < a.2.1
  · rw [if_pos h2] at h; cases h
  rw [if_neg h2] at h
  by_cases h3 : (4 ≤ a.2.1 ∧ a.2.2.size ≠ 0) ∨ (a.2.1 < 4 ∧ wordB a.2.2 16 true = false)
  · rw [if_pos h3] at h; cases h
  refine ⟨by simpa using h1, by omega, by omega, fun h4 => ?_, fun h4 => ?_⟩
  · cases hw : wordB a.2.2 16 true with
    | true => rfl
    | false => exact absurd (.inr ⟨h4, hw⟩) h3
  · exact ba_inj0 (Decidable.byContradiction fun hn => h3 (.inl ⟨h4, hn⟩))
theorem key_ch {s : ByteArray} {m : Nat} (h : wordB s m false = true) : ∀ b ∈ s.data.toList, 97 ≤ b.toNat ∧ b.toNat ≤ 122 := by
  unfold wordB at h
  rw [Bool.and_eq_true] at h
  intro b hb
  have h2 := List.all_eq_true.1 h.2 b hb
  unfold okB at h2
  simpa using h2
theorem val_ch {s : ByteArray} {m : Nat} (h : wordB s m true = true) : ∀ b ∈ s.data.toList, (97 ≤ b.toNat ∧ b.toNat ≤ 122) ∨ (48 ≤ b.toNat ∧ b.toNat ≤ 57) ∨ b.toNat = 46 ∨ b.toNat = 95 ∨ b.toNat = 45 := by
  unfold wordB at h
  rw [Bool.and_eq_true] at h
  intro b hb
  have h2 := List.all_eq_true.1 h.2 b hb
  unfold okB at h2
  simp only [Bool.or_eq_true, Bool.and_eq_true, decide_eq_true_eq] at h2
  omega
theorem occ_no (c : UInt8) (t s : List UInt8) (i : Nat) (h : c ∉ s) : Lib.occAt s (c :: t) i = false := by
  unfold Lib.occAt
  cases hd : s.drop i with
  | nil => rfl
  | cons b r =>
    have hb : b ∈ s := List.mem_of_mem_drop (by rw [hd]; exact .head _)
    have hne : (c == b) = false := by rw [beq_eq_false_iff_ne]; rintro rfl; exact h hb
    simp [List.isPrefixOf, hne]
theorem index_no (c : UInt8) (t s : List UInt8) (h : c ∉ s) : Lib.index s (c :: t) = -1 := Lib.index_none fun j _ => occ_no c t s j h
theorem cut_no (c : UInt8) (t s : List UInt8) (h : c ∉ s) : Lib.cut s (c :: t) = (s, [], false) := by
  unfold Lib.cut
  rw [index_no c t s h]
  rfl
theorem index_mid (c : UInt8) (t l r : List UInt8) (h : c ∉ l) : Lib.index (l ++ (c :: t) ++ r) (c :: t) = l.length := by
  refine Lib.index_first (by simp) ?_ fun j hj => ?_
  · unfold Lib.occAt
    rw [List.append_assoc, List.drop_left]
    simp [List.isPrefixOf_iff_prefix]
  · unfold Lib.occAt
    have hl : j < l.length := hj
    have hd : (l ++ (c :: t) ++ r).drop j = l[j] :: (l.drop (j + 1) ++ ((c :: t) ++ r)) := by
      rw [List.append_assoc, List.drop_append_of_le_length (by omega), List.drop_eq_getElem_cons hl]
      rfl
    have hne : (c == l[j]) = false := by rw [beq_eq_false_iff_ne]; intro e; exact h (by rw [e]; exact List.getElem_mem hl)
    rw [hd]
    simp only [List.isPrefixOf, hne, Bool.false_and]
theorem cut_mid (c : UInt8) (t l r : List UInt8) (h : c ∉ l) : Lib.cut (l ++ (c :: t) ++ r) (c :: t) = (l, r, true) := by
  unfold Lib.cut
  rw [index_mid c t l r h, if_pos (by omega)]
  have h1 : (l ++ (c :: t) ++ r).take l.length = l := by rw [List.append_assoc]; exact List.take_left
  have h2 : (l ++ (c :: t) ++ r).drop (l.length + (c :: t).length) = r := List.drop_left' (by rw [List.length_append])
  rw [show ((l.length : Int)).toNat = l.length from rfl, h1, h2]
end Go.Proofs.YteiocplfmjkbkaaGreatDoor
