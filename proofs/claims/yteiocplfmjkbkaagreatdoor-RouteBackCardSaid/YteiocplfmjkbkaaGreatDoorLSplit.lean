/-
  Texts cut at a sign: plain law.
-/
import Derived.Test.YteiocplfmjkbkaaGreatDoorMg6
import Derived.Shelf.Strings.Builder1
import Derived.Shelf.Strings.BuilderF
import Derived.Shelf.Strings.BuilderK
import Derived.Test.YteiocplfmjkbkaaGreatDoorRows
import Derived.Test.YteiocplfmjkbkaaGreatDoorMg3
import Derived.WalkKit
import Derived.Lib.Hide
import Derived.Laws.BytesString
namespace Go.Proofs.YteiocplfmjkbkaaGreatDoor
open Go.RowKit
set_option maxRecDepth 100000

/-- Cut at each sign c. -/
def splitC (c : UInt8) : List UInt8 → List (List UInt8)
  | [] => [[]]
  | b :: l => if b = c then [] :: splitC c l else (match splitC c l with | h :: t => (b :: h) :: t | [] => [[b]])
theorem index_one_cons (b c : UInt8) (l : List UInt8) : Lib.index (b :: l) [c] = if b = c then 0 else if Lib.index l [c] = -1 then -1 else Lib.index l [c] + 1 := by
  rw [Lib.index]
  have h : ([c].isPrefixOf (b :: l)) = (c == b) := by simp [List.isPrefixOf]
  rw [h]
  by_cases e : b = c
  · subst e; simp
  · have e2 : (c == b) = false := by simpa using fun h => e h.symm
    simp [e, e2]
theorem index_count (c : UInt8) (l : List UInt8) : Lib.index l [c] = -1 ↔ l.count c = 0 := by
  induction l with
  | nil => simp [Lib.index]
  | cons b l ih =>
    rw [index_one_cons]
    by_cases e : b = c
    · subst e; simp
    · have hge := Lib.index_ge l [c]
      rw [if_neg e, List.count_cons_of_ne e]
      by_cases h : Lib.index l [c] = -1
      · simp [h, ih.1 h]
      · rw [if_neg h]
        constructor
        · intro h2; omega
        · intro h2; exact absurd (ih.2 h2) h
theorem splitK_eq (c : UInt8) : ∀ l : List UInt8, Lib.splitK [c] 0 (l.count c) l = splitC c l := by
  intro l
  induction l with
  | nil => rfl
  | cons b l ih =>
    by_cases e : b = c
    · subst e
      rw [List.count_cons_self, Lib.splitK, index_one_cons, if_pos rfl]
      simp only [splitC, if_true]
      rw [if_neg (by decide)]
      simp only [Int.toNat_zero, Nat.zero_add, List.take_zero, List.length_singleton, List.drop_succ_cons, List.drop_zero]
      rw [ih]
    · rw [List.count_cons_of_ne e]
      simp only [splitC, if_neg e]
      cases hk : l.count c with
      | zero =>
        rw [hk] at ih
        rw [Lib.splitK] at ih ⊢
        rw [← ih]
      | succ k =>
        rw [hk] at ih
        have hi : Lib.index l [c] ≠ -1 := fun h => by rw [index_count] at h; omega
        have hge := Lib.index_ge l [c]
        obtain ⟨i, hi2⟩ : ∃ i : Nat, Lib.index l [c] = i := ⟨(Lib.index l [c]).toNat, by omega⟩
        rw [Lib.splitK, hi2] at ih
        rw [Lib.splitK, index_one_cons, if_neg e, if_neg hi, hi2]
        have q1 : ¬ (((i : Int) == -1) = true) := by
          intro h
          have := beq_iff_eq.1 h
          omega
        have q2 : ¬ ((((i : Int) + 1) == -1) = true) := by
          intro h
          have := beq_iff_eq.1 h
          omega
        have q3 : ((i : Int) + 1).toNat = i + 1 := by omega
        rw [if_neg q1] at ih
        rw [if_neg q2, q3, ← ih]
        simp
theorem ba_inj {a b : ByteArray} (h : a.data.toList = b.data.toList) : a = b := ba_ext h
theorem partsL_split (s : ByteArray) : (partsL s).map (·.data.toList) = splitC 44 s.data.toList := by
  unfold partsL
  rw [Lib.splitB_data]
  have h : Lib.countB s ⟨#[44]⟩ = s.data.toList.count 44 := Lib.count_one 44 s.data.toList
  rw [h]
  exact splitK_eq 44 _
theorem splitC_free (c : UInt8) (l : List UInt8) (h : c ∉ l) : splitC c l = [l] := by
  induction l with
  | nil => rfl
  | cons b l ih =>
    have h1 : b ≠ c := fun e => h (by rw [e]; exact .head _)
    simp only [splitC, if_neg h1, ih (fun hh => h (.tail _ hh))]
theorem splitC_app (c : UInt8) (l r : List UInt8) (h : c ∉ l) : splitC c (l ++ c :: r) = l :: splitC c r := by
  induction l with
  | nil => simp [splitC]
  | cons b l ih =>
    have h1 : b ≠ c := fun e => h (by rw [e]; exact .head _)
    simp only [List.cons_append, splitC, if_neg h1, ih (fun hh => h (.tail _ hh))]

/-! ### A text of labels, parsed -/
theorem word_size {s : ByteArray} {m : Nat} {a : Bool} (h : wordB s m a = true) : s.size ≤ m := by
  simp only [wordB, Bool.and_eq_true, decide_eq_true_eq] at h
  exact h.1.2
end Go.Proofs.YteiocplfmjkbkaaGreatDoor
