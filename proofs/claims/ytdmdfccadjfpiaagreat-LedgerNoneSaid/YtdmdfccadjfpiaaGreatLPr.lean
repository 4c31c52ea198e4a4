/-
  Pairs as cells, and the order of texts (the parts of LCmp and LPair that name no function).
-/
import Derived.Test.YtdmdfccadjfpiaaGreatWord
import Derived.Laws.Cover1
import Derived.Sort.Walk0
import Derived.Sort.Grow
namespace Go.Proofs.YtdmdfccadjfpiaaGreat
open Go.RowKit
set_option maxRecDepth 100000

def ltS (a b : ByteArray) : Bool := Op.bytesLess a.toList b.toList
theorem ltS_eq (a b : ByteArray) : ltS a b = decide (a.data.toList < b.data.toList) := by
  unfold ltS
  rw [bytesLess_eq, Lib.toList_data, Lib.toList_data]
theorem ba_ext {a b : ByteArray} (h : a.data.toList = b.data.toList) : a = b := by
  cases a; cases b
  simp only at h
  rw [Array.toList_inj.1 h]
theorem ltS_irrefl (a : ByteArray) : ltS a a = false := by rw [ltS_eq]; simp [List.lt_irrefl]
theorem ltS_trans {a b c : ByteArray} (h1 : ltS a b = true) (h2 : ltS b c = true) : ltS a c = true := by
  rw [ltS_eq, decide_eq_true_eq] at *
  exact List.lt_trans h1 h2
theorem ltS_total {a b : ByteArray} (h1 : ltS a b = false) (h2 : ltS b a = false) : a = b := by
  rw [ltS_eq, decide_eq_false_iff_not] at *
  exact ba_ext (List.le_antisymm (List.not_lt.1 h2) (List.not_lt.1 h1))
theorem ltS_asymm {a b : ByteArray} (h1 : ltS a b = true) : ltS b a = false := by
  cases h : ltS b a with
  | false => rfl
  | true => have := ltS_trans h1 h; rw [ltS_irrefl] at this; cases this
def cmpB (a b : ByteArray) : Int := if ltS a b = true then -1 else if a = b then 0 else 1
theorem eqS_eq (a b : ByteArray) : (a.toList == b.toList) = decide (a = b) := by
  rw [Lib.toList_data, Lib.toList_data]
  by_cases h : a = b
  · subst h; simp
  · have : ¬ a.data = b.data := fun e => h (by cases a; cases b; simp_all)
    simp [h, this]

theorem calls_genP {P : Program} {f : Nat} {args : Array Value} {w : World} {K : Ending → World → Prop} (h : ∀ w', w' = w → Calls P f args w' K) : Calls P f args w K := h w rfl
abbrev Pr := ByteArray × ByteArray
def encP (p : Pr) : List Value := [.string p.1, .string p.2]
def pairCells (ps : List (ByteArray × ByteArray)) : List Value := ps.flatMap fun p => [.string p.1, .string p.2]
theorem pairCells_cons (q : ByteArray × ByteArray) (r : List (ByteArray × ByteArray)) : pairCells (q :: r) = .string q.1 :: .string q.2 :: pairCells r := by simp [pairCells]
theorem pairCells_length (ps : List (ByteArray × ByteArray)) : (pairCells ps).length = ps.length * 2 := by
  induction ps with
  | nil => rfl
  | cons p r ih => rw [pairCells_cons]; simp [ih]; omega
theorem pairCells_at (ps : List (ByteArray × ByteArray)) (k : Nat) (p : ByteArray × ByteArray) (h : ps[k]? = some p) : (pairCells ps)[k * 2]? = some (.string p.1) ∧ (pairCells ps)[k * 2 + 1]? = some (.string p.2) := by
  induction ps generalizing k with
  | nil => simp at h
  | cons q r ih =>
    cases k with
    | zero => simp at h; subst h; simp [pairCells]
    | succ k =>
      have := ih k (by simpa using h)
      have e : pairCells (q :: r) = .string q.1 :: .string q.2 :: pairCells r := by simp [pairCells]
      rw [e, show (k + 1) * 2 = k * 2 + 1 + 1 from by omega, show k * 2 + 1 + 1 + 1 = (k * 2 + 1) + 1 + 1 from by omega]
      simpa using this
theorem pairCells_append (a b : List Pr) : pairCells (a ++ b) = pairCells a ++ pairCells b := by simp [pairCells]
theorem pairCells_one (ps : List Pr) : ∀ u ∈ pairCells ps, u.oneCell' = true := by
  intro u hu
  obtain ⟨p, _, hp⟩ := List.mem_flatMap.1 hu
  simp at hp
  rcases hp with rfl | rfl <;> rfl
theorem pairCells_take (ps : List Pr) (n : Nat) : (pairCells ps).take (n * 2) = pairCells (ps.take n) := by
  induction ps generalizing n with
  | nil => simp [pairCells]
  | cons p r ih =>
    cases n with
    | zero => simp [pairCells]
    | succ n => rw [pairCells_cons, List.take_succ_cons, pairCells_cons, ← ih n, show (n + 1) * 2 = n * 2 + 1 + 1 by omega]; rfl
theorem pairCells_drop (ps : List Pr) (n : Nat) : (pairCells ps).drop (n * 2) = pairCells (ps.drop n) := by
  induction ps generalizing n with
  | nil => simp [pairCells]
  | cons p r ih =>
    cases n with
    | zero => simp
    | succ n => rw [pairCells_cons, List.drop_succ_cons, ← ih n, show (n + 1) * 2 = n * 2 + 1 + 1 by omega]; rfl

end Go.Proofs.YtdmdfccadjfpiaaGreat
