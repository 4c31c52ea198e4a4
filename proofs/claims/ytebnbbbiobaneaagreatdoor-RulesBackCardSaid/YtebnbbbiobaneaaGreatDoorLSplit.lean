/-
  Texts cut at a sign: plain law.
-/
import Derived.Test.YtebnbbbiobaneaaGreatDoorLParse
import Derived.Test.YtebnbbbiobaneaaGreatDoorLText
namespace Go.Proofs.YtebnbbbiobaneaaGreatDoor
open Go.RowKit
set_option maxRecDepth 100000

/-- Cut at each sign c. -/
def splitC (c : UInt8) : List UInt8 → List (List UInt8)
  | [] => [[]]
  | b :: l => if b = c then [] :: splitC c l else (match splitC c l with | h :: t => (b :: h) :: t | [] => [[b]])
theorem index_one_cons (b c : UInt8) (l : List UInt8) : Lib.index (b :: l) [c] = if b = c then 0 else if Lib.index l [c] = -1 then -1 else Lib.index l [c] + 1 := by
  rw [Lib.index]
  have h : ([c].isPrefixOf (b :: l)) = (c == b) := by simp [List.isPrefixOf]
  rw [h]
  by_cases e : b = c
  · subst e; simp
  · have e2 : (c == b) = false := by simpa using fun h => e h.symm
    simp [e, e2]
theorem index_count (c : UInt8) (l : List UInt8) : Lib.index l [c] = -1 ↔ l.count c = 0 := by
  induction l with
  | nil => simp [Lib.index]
  | cons b l ih =>
    rw [index_one_cons]
    by_cases e : b = c
    · subst e; simp
    · have hge := Lib.index_ge l [c]
      rw [if_neg e, List.count_cons_of_ne e]
      by_cases h : Lib.index l [c] = -1
      · simp [h, ih.1 h]
      · rw [if_neg h]
        constructor
        · intro h2; omega
        · intro h2; exact absurd (ih.2 h2) h
theorem splitK_eq (c : UInt8) : ∀ l : List UInt8, Lib.splitK [c] 0 (l.count c) l = splitC c l := by
  intro l
  induction l with
  | nil => rfl
  | cons b l ih =>
    by_cases e : b = c
    · subst e
      rw [List.count_cons_self, Lib.splitK, index_one_cons, if_pos rfl]
      simp only [splitC, if_true]
      rw [if_neg (by decide)]
      simp only [Int.toNat_zero, Nat.zero_add, List.take_zero, List.length_singleton, List.drop_succ_cons, List.drop_zero]
      rw [ih]
    · rw [List.count_cons_of_ne e]
      simp only [splitC, if_neg e]
      cases hk : l.count c with
      | zero =>
        rw [hk] at ih
        rw [Lib.splitK] at ih ⊢
        rw [← ih]
      | succ k =>
        rw [hk] at ih
        have hi : Lib.index l [c] ≠ -1 := fun h => by rw [index_count] at h; omega
        have hge := Lib.index_ge l [c]
        obtain ⟨i, hi2⟩ : ∃ i : Nat, Lib.index l [c] = i := ⟨(Lib.index l [c]).toNat, by omega⟩
        rw [Lib.splitK, hi2] at ih
        rw [Lib.splitK, index_one_cons, if_neg e, if_neg hi, hi2]
        have q1 : ¬ (((i : Int) == -1) = true) := by
          intro h
          have := beq_iff_eq.1 h
          omega
        have q2 : ¬ ((((i : Int) + 1) == -1) = true) := by
          intro h
          have := beq_iff_eq.1 h
          omega
        have q3 : ((i : Int) + 1).toNat = i + 1 := by omega
        rw [if_neg q1] at ih
        rw [if_neg q2, q3, ← ih]
        simp
theorem ba_inj {a b : ByteArray} (h : a.data.toList = b.data.toList) : a = b := ba_ext h
theorem partsL_split (s : ByteArray) : (partsL s).map (·.data.toList) = splitC 44 s.data.toList := by
  unfold partsL
  rw [Lib.splitB_data]
  have h : Lib.countB s ⟨#[44]⟩ = s.data.toList.count 44 := Lib.count_one 44 s.data.toList
  rw [h]
  exact splitK_eq 44 _
theorem splitC_free (c : UInt8) (l : List UInt8) (h : c ∉ l) : splitC c l = [l] := by
  induction l with
  | nil => rfl
  | cons b l ih =>
    have h1 : b ≠ c := fun e => h (by rw [e]; exact .head _)
    simp only [splitC, if_neg h1, ih (fun hh => h (.tail _ hh))]
theorem splitC_app (c : UInt8) (l r : List UInt8) (h : c ∉ l) : splitC c (l ++ c :: r) = l :: splitC c r := by
  induction l with
  | nil => simp [splitC]
  | cons b l ih =>
    have h1 : b ≠ c := fun e => h (by rw [e]; exact .head _)
    simp only [List.cons_append, splitC, if_neg h1, ih (fun hh => h (.tail _ hh))]

/-! ### A text of labels, parsed -/
theorem word_free {s : ByteArray} {m : Nat} {a : Bool} (h : wordB s m a = true) : (44 : UInt8) ∉ s.data.toList ∧ (61 : UInt8) ∉ s.data.toList := by
  simp only [wordB, Bool.and_eq_true] at h
  have h2 := List.all_eq_true.1 h.2
  constructor
  · intro hm
    have := h2 _ hm
    cases a <;> simp [okB] at this
  · intro hm
    have := h2 _ hm
    cases a <;> simp [okB] at this
theorem word_size {s : ByteArray} {m : Nat} {a : Bool} (h : wordB s m a = true) : s.size ≤ m := by
  simp only [wordB, Bool.and_eq_true, decide_eq_true_eq] at h
  exact h.1.2
theorem chkF_words {ps : List Pr} : ∀ {k : Option ByteArray}, chkF k ps = 0 → ∀ p ∈ ps, wordB p.1 8 false = true ∧ wordB p.2 16 true = true := by
  induction ps with
  | nil => intro k _ p hp; cases hp
  | cons q r ih =>
    intro k h p hp
    simp only [chkF] at h
    split at h
    · rename_i hw
      rw [Bool.and_eq_true] at hw
      have hr : chkF (some q.1) r = 0 := by
        cases k with
        | none => exact h
        | some k =>
          simp only at h
          split at h
          · cases h
          split at h
          · cases h
          exact h
      rcases List.mem_cons.1 hp with rfl | hp
      · exact hw
      · exact ih hr p hp
    · cases h
theorem chkL_words {ps : List Pr} (h : chkL ps = 0) : ps.length ≤ 8 ∧ ∀ p ∈ ps, wordB p.1 8 false = true ∧ wordB p.2 16 true = true := by
  unfold chkL at h
  split at h
  · cases h
  · exact ⟨by omega, chkF_words h⟩
theorem pairL_free {p : Pr} (h1 : wordB p.1 8 false = true) (h2 : wordB p.2 16 true = true) : (44 : UInt8) ∉ pairL p := by
  unfold pairL
  intro hm
  rcases List.mem_append.1 hm with h | h
  · exact (word_free h1).1 h
  · rcases List.mem_cons.1 h with h | h
    · cases h
    · exact (word_free h2).1 h
theorem split_text (ps : List Pr) (hp : ∀ p ∈ ps, wordB p.1 8 false = true ∧ wordB p.2 16 true = true) (hne : ps ≠ []) : splitC 44 (textL ps) = ps.map pairL := by
  cases ps with
  | nil => exact absurd rfl hne
  | cons p r =>
    simp only [textL, List.map_cons]
    induction r generalizing p with
    | nil => simp only [List.flatMap_nil, List.append_nil, List.map_nil]; exact splitC_free _ _ (pairL_free (hp p (.head _)).1 (hp p (.head _)).2)
    | cons q r ih =>
      simp only [List.flatMap_cons, List.cons_append, List.map_cons]
      rw [splitC_app _ _ _ (pairL_free (hp p (.head _)).1 (hp p (.head _)).2), ih q (fun x hx => hp x (.tail _ hx)) (by simp)]
theorem index_free (c : UInt8) (l r : List UInt8) (h : c ∉ l) : Lib.index (l ++ c :: r) [c] = l.length := by
  induction l with
  | nil => simp [index_one_cons]
  | cons b l ih =>
    have h1 : b ≠ c := fun e => h (by rw [e]; exact .head _)
    have := ih (fun hh => h (.tail _ hh))
    rw [List.cons_append, index_one_cons, if_neg h1, this, if_neg (by omega)]
    simp
theorem drop_app (c : UInt8) (l r : List UInt8) : (l ++ c :: r).drop (l.length + 1) = r := by
  induction l with
  | nil => rfl
  | cons b l _ => simp
theorem cut_pair {p : Pr} (h1 : wordB p.1 8 false = true) : Lib.cut (pairL p) [61] = (p.1.data.toList, p.2.data.toList, true) := by
  have h := index_free 61 p.1.data.toList p.2.data.toList (word_free h1).2
  unfold Lib.cut pairL
  rw [h, if_pos (by omega)]
  have e : (p.1.data.toList.length : Int).toNat = p.1.data.toList.length := by omega
  rw [e, List.length_singleton, drop_app, List.take_left' rfl]
theorem parse_pairs : ∀ (xs : List ByteArray) (ps acc : List Pr), xs.map (·.data.toList) = ps.map pairL → (∀ p ∈ ps, wordB p.1 8 false = true ∧ wordB p.2 16 true = true) → acc.length + ps.length ≤ 8 → parseF xs acc = (0, acc ++ ps) := by
  intro xs
  induction xs with
  | nil =>
    intro ps acc h _ _
    have : ps = [] := by simpa using h.symm
    subst this
    simp [parseF]
  | cons x r ih =>
    intro ps acc h hp hl
    cases ps with
    | nil => simp at h
    | cons p ps =>
      simp only [List.map_cons, List.cons.injEq] at h
      have hc := cut_pair (hp p (.head _)).1
      have hok : cutOk x = true := by unfold cutOk; rw [h.1, hc]
      have hcp : cutP x = p := by
        unfold cutP
        rw [h.1, hc]
      simp only [List.length_cons] at hl
      rw [parseF, if_pos hok, if_neg (by omega), hcp, ih ps _ h.2 (fun q hq => hp q (.tail _ hq)) (by simp; omega)]
      simp
theorem text_size (ps : List Pr) (B : Nat) (h : ∀ p ∈ ps, (pairL p).length ≤ B) : (textL ps).length ≤ (B + 1) * ps.length := by
  cases ps with
  | nil => simp [textL]
  | cons p r =>
    simp only [textL, List.length_append, List.length_cons]
    have h0 := h p (.head _)
    have : (r.flatMap fun q => 44 :: pairL q).length ≤ (B + 1) * r.length := by
      clear h0
      induction r with
      | nil => simp
      | cons q r ih =>
        simp only [List.flatMap_cons, List.length_append, List.length_cons, Nat.mul_add]
        have := h q (.tail _ (.head _))
        have := ih (fun x hx => h x (by rcases List.mem_cons.1 hx with rfl | hx; exact .head _; exact .tail _ (.tail _ hx)))
        omega
    rw [Nat.mul_add]
    omega
theorem sortL_idem (ps : List Pr) : sortL (sortL ps) = sortL ps := (sortL_unique (List.Perm.refl _) (sortL_sorted ps)).symm
/-- Labels' text is these labels. -/
theorem parse_text (ps : List Pr) (h : chkL (sortL ps) = 0) : parseC ⟨(textL (sortL ps)).toArray⟩ = (0, sortL ps) := by
  obtain ⟨h8, hw⟩ := chkL_words h
  have hid := sortL_idem ps
  generalize sortL ps = zs at h h8 hw hid ⊢
  have hpl : ∀ p ∈ zs, (pairL p).length ≤ 25 := fun p hp => by
    have h1 := word_size (hw p hp).1
    have h2 := word_size (hw p hp).2
    rw [pairL_len]; omega
  have hsz := text_size zs 25 hpl
  have e1 : (⟨(textL zs).toArray⟩ : ByteArray).size = (textL zs).length := by show (List.toArray _).size = _; simp
  unfold parseC
  rw [e1, if_neg (by have := Nat.mul_le_mul_left (25 + 1) h8; omega)]
  by_cases h0 : zs = []
  · subst h0
    rw [if_pos (by simp [textL])]
  · rw [if_neg (by
      cases zs with
      | nil => exact absurd rfl h0
      | cons p r => simp only [textL, List.length_append, pairL_len]; omega)]
    have hp : parseF (partsL ⟨(textL zs).toArray⟩) [] = (0, [] ++ zs) := by
      refine parse_pairs _ zs [] ?_ hw (by simpa using h8)
      rw [partsL_split]
      exact split_text zs hw h0
    rw [hp, if_pos rfl]
    simp only [List.nil_append, makeL, hid, h, if_true]
end Go.Proofs.YtebnbbbiobaneaaGreatDoor
