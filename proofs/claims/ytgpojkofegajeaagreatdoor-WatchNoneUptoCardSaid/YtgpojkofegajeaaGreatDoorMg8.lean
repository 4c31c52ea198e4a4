/-
  Pairs as cells; their order; sorted pairs. cmp.Compare at strings, cmp.Or at ints; the closure by which lab.Make sorts, and the order that it gives.
-/
import Derived.Test.YtgpojkofegajeaaGreatDoorWord
import Derived.Test.YtgpojkofegajeaaGreatDoorFreeE
import Derived.Laws.Cover1
import Derived.Sort.Walk0
import Derived.Sort.Grow
namespace Go.Proofs.YtgpojkofegajeaaGreatDoor
open Go.RowKit
set_option maxRecDepth 100000
attribute [local go_sem] FreeBy.out

def ltS (a b : ByteArray) : Bool := Op.bytesLess a.toList b.toList
theorem ltS_eq (a b : ByteArray) : ltS a b = decide (a.data.toList < b.data.toList) := by
  unfold ltS
  rw [bytesLess_eq, Lib.toList_data, Lib.toList_data]
theorem ba_ext {a b : ByteArray} (h : a.data.toList = b.data.toList) : a = b := by
  cases a; cases b
  simp only at h
  rw [Array.toList_inj.1 h]
theorem ltS_irrefl (a : ByteArray) : ltS a a = false := by rw [ltS_eq]; simp [List.lt_irrefl]
theorem ltS_trans {a b c : ByteArray} (h1 : ltS a b = true) (h2 : ltS b c = true) : ltS a c = true := by
  rw [ltS_eq, decide_eq_true_eq] at *
  exact List.lt_trans h1 h2
theorem ltS_total {a b : ByteArray} (h1 : ltS a b = false) (h2 : ltS b a = false) : a = b := by
  rw [ltS_eq, decide_eq_false_iff_not] at *
  exact ba_ext (List.le_antisymm (List.not_lt.1 h2) (List.not_lt.1 h1))
theorem ltS_asymm {a b : ByteArray} (h1 : ltS a b = true) : ltS b a = false := by
  cases h : ltS b a with
  | false => rfl
  | true => have := ltS_trans h1 h; rw [ltS_irrefl] at this; cases this
def cmpB (a b : ByteArray) : Int := if ltS a b = true then -1 else if a = b then 0 else 1
theorem eqS_eq (a b : ByteArray) : (a.toList == b.toList) = decide (a = b) := by
  rw [Lib.toList_data, Lib.toList_data]
  by_cases h : a = b
  · subst h; simp
  · have : ¬ a.data = b.data := fun e => h (by cases a; cases b; simp_all)
    simp [h, this]

theorem cmpNaN (s : ByteArray) (w : World) : Calls Tryz.prog 109 #[.string s] w fun e w' => e = .returned (.bool false) ∧ w' = w := by
  go_enter Tryz.func109, Tryz.ntmps109
  go_wp2_with fail
  go_ret
  exact ⟨rfl, rfl⟩
theorem ret_i64 {a b : Int} (h : a = b) : Ending.returned (.int .i64 a) = .returned (.int .i64 b) := by rw [h]
theorem cmpStr (a b : ByteArray) (w : World) : Calls Tryz.prog 86 #[.string a, .string b] w fun e w' => e = .returned (.int .i64 (cmpB a b)) ∧ w' = w := by
  cases h1 : ltS a b with
  | true =>
    have h1' : Op.bytesLess a.toList b.toList = true := h1
    have HH := Lib.hid h1
    clear h1
    go_enter Tryz.func86, Tryz.ntmps86
    go_wp2_with fail
    (with_reducible refine (cmpNaN _ _).mono ?_)
    rintro e w1 ⟨rfl, rfl⟩
    go_wp2_with fail
    (with_reducible refine (cmpNaN _ _).mono ?_)
    rintro e w1 ⟨rfl, rfl⟩
    go_wp2_with fail
    go_ret
    exact ⟨ret_i64 (by have := HH.out; simp [cmpB, this]), rfl⟩
  | false =>
    have h1' : Op.bytesLess a.toList b.toList = false := h1
    have HH := Lib.hid h1
    have h3 := eqS_eq a b
    clear h1
    cases h2 : decide (a = b)
    all_goals
      rw [h2] at h3
      have H2 := Lib.hid h2
      clear h2
      go_enter Tryz.func86, Tryz.ntmps86
      go_wp2_with fail
      (with_reducible refine (cmpNaN _ _).mono ?_)
      rintro e w1 ⟨rfl, rfl⟩
      go_wp2_with fail
      (with_reducible refine (cmpNaN _ _).mono ?_)
      rintro e w1 ⟨rfl, rfl⟩
      go_wp2_with fail
      go_ret
      refine ⟨ret_i64 ?_, rfl⟩
      have hh := HH.out
      have h2 := H2.out
      simp only [decide_eq_true_eq, decide_eq_false_iff_not] at h2
      simp [cmpB, hh, h2]
      try (subst h2; exact ltS_irrefl _)
theorem orTwo (b : Nat) (x y : Int) (w : World) (c0 : w.cell? ⟨b, 0, none⟩ = some (.int .i64 x)) (c1 : w.cell? ⟨b, 1, none⟩ = some (.int .i64 y)) :
    Calls Tryz.prog 58 #[.slice (some ⟨b, 0, none⟩) 2 2] w fun e w' => e = .returned (.int .i64 (if x = 0 then y else x)) ∧ w' = w := by
  go_enter Tryz.func58, Tryz.ntmps58
  go_wp2_with fail
  go_loop [8] (fun i => i = .int .i64 0 ∨ (i = .int .i64 1 ∧ x = 0) ∨ (i = .int .i64 2 ∧ x = 0 ∧ y = 0)) (fun i => 2 - (intOf i).toNat)
  case atStart => exact .inl rfl
  case round =>
    rcases hrel with rfl | ⟨rfl, rfl⟩ | ⟨rfl, rfl, rfl⟩
    · by_cases hx : x = 0
      · subst hx
        go_wp2_with fail
        go_round
        case rel => exact .inr (.inl ⟨rfl, trivial⟩)
        case measure => simp [intOf]
      · go_wp2_with fail
        go_ret
        exact ⟨rfl, rfl⟩
    · by_cases hx : y = 0
      · subst hx
        go_wp2_with fail
        go_round
        case rel => exact .inr (.inr ⟨rfl, trivial, trivial⟩)
        case measure => simp [intOf]
      · go_wp2_with fail
        go_ret
        exact ⟨rfl, rfl⟩
    · go_wp2_with fail
      go_ret
      exact ⟨rfl, rfl⟩
end Go.Proofs.YtgpojkofegajeaaGreatDoor
namespace Go.Proofs.YtgpojkofegajeaaGreatDoor
open Go.RowKit
set_option maxRecDepth 100000

theorem calls_genP {P : Program} {f : Nat} {args : Array Value} {w : World} {K : Ending → World → Prop} (h : ∀ w', w' = w → Calls P f args w' K) : Calls P f args w K := h w rfl
abbrev Pr := ByteArray × ByteArray
def encP (p : Pr) : List Value := [.string p.1, .string p.2]
def pairCells (ps : List (ByteArray × ByteArray)) : List Value := ps.flatMap fun p => [.string p.1, .string p.2]
theorem pairCells_cons (q : ByteArray × ByteArray) (r : List (ByteArray × ByteArray)) : pairCells (q :: r) = .string q.1 :: .string q.2 :: pairCells r := by simp [pairCells]
theorem pairCells_length (ps : List (ByteArray × ByteArray)) : (pairCells ps).length = ps.length * 2 := by
  induction ps with
  | nil => rfl
  | cons p r ih => rw [pairCells_cons]; simp [ih]; omega
theorem pairCells_at (ps : List (ByteArray × ByteArray)) (k : Nat) (p : ByteArray × ByteArray) (h : ps[k]? = some p) : (pairCells ps)[k * 2]? = some (.string p.1) ∧ (pairCells ps)[k * 2 + 1]? = some (.string p.2) := by
  induction ps generalizing k with
  | nil => simp at h
  | cons q r ih =>
    cases k with
    | zero => simp at h; subst h; simp [pairCells]
    | succ k =>
      have := ih k (by simpa using h)
      have e : pairCells (q :: r) = .string q.1 :: .string q.2 :: pairCells r := by simp [pairCells]
      rw [e, show (k + 1) * 2 = k * 2 + 1 + 1 from by omega, show k * 2 + 1 + 1 + 1 = (k * 2 + 1) + 1 + 1 from by omega]
      simpa using this
theorem pairCells_append (a b : List Pr) : pairCells (a ++ b) = pairCells a ++ pairCells b := by simp [pairCells]
theorem pairCells_one (ps : List Pr) : ∀ u ∈ pairCells ps, u.oneCell' = true := by
  intro u hu
  obtain ⟨p, _, hp⟩ := List.mem_flatMap.1 hu
  simp at hp
  rcases hp with rfl | rfl <;> rfl
/-- The order of pairs: by key, then by value. -/
def ltP (p q : Pr) : Bool := ltS p.1 q.1 || (decide (p.1 = q.1) && ltS p.2 q.2)
theorem ltP_irrefl (p : Pr) : ltP p p = false := by simp [ltP, ltS_irrefl]
theorem ltP_trans {p q r : Pr} (h1 : ltP p q = true) (h2 : ltP q r = true) : ltP p r = true := by
  simp only [ltP, Bool.or_eq_true, Bool.and_eq_true, decide_eq_true_eq] at *
  rcases h1 with h1 | ⟨e1, h1⟩ <;> rcases h2 with h2 | ⟨e2, h2⟩
  · exact .inl (ltS_trans h1 h2)
  · exact .inl (e2 ▸ h1)
  · exact .inl (e1 ▸ h2)
  · exact .inr ⟨e1.trans e2, ltS_trans h1 h2⟩
theorem ltP_total {p q : Pr} (h1 : ltP p q = false) (h2 : ltP q p = false) : p = q := by
  simp only [ltP, Bool.or_eq_false_iff, Bool.and_eq_false_iff, decide_eq_false_iff_not] at h1 h2
  have e : p.1 = q.1 := ltS_total h1.1 h2.1
  rcases h1.2 with h | h
  · exact absurd e h
  rcases h2.2 with h' | h'
  · exact absurd e.symm h'
  exact Prod.ext e (ltS_total h h')
theorem ltP_ntrans {p q r : Pr} (h1 : ltP p q = false) (h2 : ltP q r = false) : ltP p r = false := by
  cases h : ltP p r with
  | false => rfl
  | true =>
    cases h3 : ltP q p with
    | true => have := ltP_trans h3 h; rw [h2] at this; cases this
    | false => have e := ltP_total h1 h3; subst e; rw [h2] at h; cases h
def leP (p q : Pr) : Bool := !ltP q p
/-- Pairs, ordered. -/
def sortL (ps : List Pr) : List Pr := ps.mergeSort leP
theorem sortL_perm (ps : List Pr) : (sortL ps).Perm ps := List.mergeSort_perm ps leP
theorem sortL_length (ps : List Pr) : (sortL ps).length = ps.length := (sortL_perm ps).length_eq
end Go.Proofs.YtgpojkofegajeaaGreatDoor
