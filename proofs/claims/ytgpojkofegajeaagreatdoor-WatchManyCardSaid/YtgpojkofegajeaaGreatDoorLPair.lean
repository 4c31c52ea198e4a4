/-
  Pairs as cells; their order; sorted pairs.
-/
import Derived.Test.YtgpojkofegajeaaGreatDoorLCmp
namespace Go.Proofs.YtgpojkofegajeaaGreatDoor
open Go.RowKit
set_option maxRecDepth 100000

theorem calls_genP {P : Program} {f : Nat} {args : Array Value} {w : World} {K : Ending → World → Prop} (h : ∀ w', w' = w → Calls P f args w' K) : Calls P f args w K := h w rfl
abbrev Pr := ByteArray × ByteArray
def encP (p : Pr) : List Value := [.string p.1, .string p.2]
def pairCells (ps : List (ByteArray × ByteArray)) : List Value := ps.flatMap fun p => [.string p.1, .string p.2]
theorem pairCells_cons (q : ByteArray × ByteArray) (r : List (ByteArray × ByteArray)) : pairCells (q :: r) = .string q.1 :: .string q.2 :: pairCells r := by simp [pairCells]
theorem pairCells_length (ps : List (ByteArray × ByteArray)) : (pairCells ps).length = ps.length * 2 := by
  induction ps with
  | nil => rfl
  | cons p r ih => rw [pairCells_cons]; simp [ih]; omega
theorem pairCells_at (ps : List (ByteArray × ByteArray)) (k : Nat) (p : ByteArray × ByteArray) (h : ps[k]? = some p) : (pairCells ps)[k * 2]? = some (.string p.1) ∧ (pairCells ps)[k * 2 + 1]? = some (.string p.2) := by
  induction ps generalizing k with
  | nil => simp at h
  | cons q r ih =>
    cases k with
    | zero => simp at h; subst h; simp [pairCells]
    | succ k =>
      have := ih k (by simpa using h)
      have e : pairCells (q :: r) = .string q.1 :: .string q.2 :: pairCells r := by simp [pairCells]
      rw [e, show (k + 1) * 2 = k * 2 + 1 + 1 from by omega, show k * 2 + 1 + 1 + 1 = (k * 2 + 1) + 1 + 1 from by omega]
      simpa using this
theorem pairCells_append (a b : List Pr) : pairCells (a ++ b) = pairCells a ++ pairCells b := by simp [pairCells]
theorem pairCells_one (ps : List Pr) : ∀ u ∈ pairCells ps, u.oneCell' = true := by
  intro u hu
  obtain ⟨p, _, hp⟩ := List.mem_flatMap.1 hu
  simp at hp
  rcases hp with rfl | rfl <;> rfl
/-- The order of pairs: by key, then by value. -/
def ltP (p q : Pr) : Bool := ltS p.1 q.1 || (decide (p.1 = q.1) && ltS p.2 q.2)
theorem ltP_irrefl (p : Pr) : ltP p p = false := by simp [ltP, ltS_irrefl]
theorem ltP_trans {p q r : Pr} (h1 : ltP p q = true) (h2 : ltP q r = true) : ltP p r = true := by
  simp only [ltP, Bool.or_eq_true, Bool.and_eq_true, decide_eq_true_eq] at *
  rcases h1 with h1 | ⟨e1, h1⟩ <;> rcases h2 with h2 | ⟨e2, h2⟩
  · exact .inl (ltS_trans h1 h2)
  · exact .inl (e2 ▸ h1)
  · exact .inl (e1 ▸ h2)
  · exact .inr ⟨e1.trans e2, ltS_trans h1 h2⟩
theorem ltP_total {p q : Pr} (h1 : ltP p q = false) (h2 : ltP q p = false) : p = q := by
  simp only [ltP, Bool.or_eq_false_iff, Bool.and_eq_false_iff, decide_eq_false_iff_not] at h1 h2
  have e : p.1 = q.1 := ltS_total h1.1 h2.1
  rcases h1.2 with h | h
  · exact absurd e h
  rcases h2.2 with h' | h'
  · exact absurd e.symm h'
  exact Prod.ext e (ltS_total h h')
theorem ltP_ntrans {p q r : Pr} (h1 : ltP p q = false) (h2 : ltP q r = false) : ltP p r = false := by
  cases h : ltP p r with
  | false => rfl
  | true =>
    cases h3 : ltP q p with
    | true => have := ltP_trans h3 h; rw [h2] at this; cases this
    | false => have e := ltP_total h1 h3; subst e; rw [h2] at h; cases h
def leP (p q : Pr) : Bool := !ltP q p
/-- Pairs, ordered. -/
def sortL (ps : List Pr) : List Pr := ps.mergeSort leP
theorem sortL_perm (ps : List Pr) : (sortL ps).Perm ps := List.mergeSort_perm ps leP
theorem sortL_length (ps : List Pr) : (sortL ps).length = ps.length := (sortL_perm ps).length_eq
end Go.Proofs.YtgpojkofegajeaaGreatDoor
