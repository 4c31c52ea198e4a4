/-
  Pairs as cells, and the order of texts (the parts of LCmp and LPair that name no function). Keys, values, names: lab's and the reference's. lab.Check.
-/
import Derived.Test.YtdmdfccadjfpiaaGreatWord
import Derived.Laws.Cover1
import Derived.Sort.Walk0
import Derived.Sort.Grow
import Derived.Test.YtdmdfccadjfpiaaGreatFreeN
namespace Go.Proofs.YtdmdfccadjfpiaaGreat
open Go.RowKit
set_option maxRecDepth 100000

def ltS (a b : ByteArray) : Bool := Op.bytesLess a.toList b.toList
theorem ltS_eq (a b : ByteArray) : ltS a b = decide (a.data.toList < b.data.toList) := by
  unfold ltS
  rw [bytesLess_eq, Lib.toList_data, Lib.toList_data]
theorem ba_ext {a b : ByteArray} (h : a.data.toList = b.data.toList) : a = b := by
  cases a; cases b
  simp only at h
  rw [Array.toList_inj.1 h]
theorem ltS_irrefl (a : ByteArray) : ltS a a = false := by rw [ltS_eq]; simp [List.lt_irrefl]
theorem ltS_trans {a b c : ByteArray} (h1 : ltS a b = true) (h2 : ltS b c = true) : ltS a c = true := by
  rw [ltS_eq, decide_eq_true_eq] at *
  exact List.lt_trans h1 h2
theorem ltS_total {a b : ByteArray} (h1 : ltS a b = false) (h2 : ltS b a = false) : a = b := by
  rw [ltS_eq, decide_eq_false_iff_not] at *
  exact ba_ext (List.le_antisymm (List.not_lt.1 h2) (List.not_lt.1 h1))
theorem ltS_asymm {a b : ByteArray} (h1 : ltS a b = true) : ltS b a = false := by
  cases h : ltS b a with
  | false => rfl
  | true => have := ltS_trans h1 h; rw [ltS_irrefl] at this; cases this
def cmpB (a b : ByteArray) : Int := if ltS a b = true then -1 else if a = b then 0 else 1
theorem eqS_eq (a b : ByteArray) : (a.toList == b.toList) = decide (a = b) := by
  rw [Lib.toList_data, Lib.toList_data]
  by_cases h : a = b
  · subst h; simp
  · have : ¬ a.data = b.data := fun e => h (by cases a; cases b; simp_all)
    simp [h, this]

theorem calls_genP {P : Program} {f : Nat} {args : Array Value} {w : World} {K : Ending → World → Prop} (h : ∀ w', w' = w → Calls P f args w' K) : Calls P f args w K := h w rfl
abbrev Pr := ByteArray × ByteArray
def encP (p : Pr) : List Value := [.string p.1, .string p.2]
def pairCells (ps : List (ByteArray × ByteArray)) : List Value := ps.flatMap fun p => [.string p.1, .string p.2]
theorem pairCells_cons (q : ByteArray × ByteArray) (r : List (ByteArray × ByteArray)) : pairCells (q :: r) = .string q.1 :: .string q.2 :: pairCells r := by simp [pairCells]
theorem pairCells_length (ps : List (ByteArray × ByteArray)) : (pairCells ps).length = ps.length * 2 := by
  induction ps with
  | nil => rfl
  | cons p r ih => rw [pairCells_cons]; simp [ih]; omega
theorem pairCells_at (ps : List (ByteArray × ByteArray)) (k : Nat) (p : ByteArray × ByteArray) (h : ps[k]? = some p) : (pairCells ps)[k * 2]? = some (.string p.1) ∧ (pairCells ps)[k * 2 + 1]? = some (.string p.2) := by
  induction ps generalizing k with
  | nil => simp at h
  | cons q r ih =>
    cases k with
    | zero => simp at h; subst h; simp [pairCells]
    | succ k =>
      have := ih k (by simpa using h)
      have e : pairCells (q :: r) = .string q.1 :: .string q.2 :: pairCells r := by simp [pairCells]
      rw [e, show (k + 1) * 2 = k * 2 + 1 + 1 from by omega, show k * 2 + 1 + 1 + 1 = (k * 2 + 1) + 1 + 1 from by omega]
      simpa using this
theorem pairCells_append (a b : List Pr) : pairCells (a ++ b) = pairCells a ++ pairCells b := by simp [pairCells]
theorem pairCells_one (ps : List Pr) : ∀ u ∈ pairCells ps, u.oneCell' = true := by
  intro u hu
  obtain ⟨p, _, hp⟩ := List.mem_flatMap.1 hu
  simp at hp
  rcases hp with rfl | rfl <;> rfl
theorem pairCells_take (ps : List Pr) (n : Nat) : (pairCells ps).take (n * 2) = pairCells (ps.take n) := by
  induction ps generalizing n with
  | nil => simp [pairCells]
  | cons p r ih =>
    cases n with
    | zero => simp [pairCells]
    | succ n => rw [pairCells_cons, List.take_succ_cons, pairCells_cons, ← ih n, show (n + 1) * 2 = n * 2 + 1 + 1 by omega]; rfl
theorem pairCells_drop (ps : List Pr) (n : Nat) : (pairCells ps).drop (n * 2) = pairCells (ps.drop n) := by
  induction ps generalizing n with
  | nil => simp [pairCells]
  | cons p r ih =>
    cases n with
    | zero => simp
    | succ n => rw [pairCells_cons, List.drop_succ_cons, ← ih n, show (n + 1) * 2 = n * 2 + 1 + 1 by omega]; rfl

end Go.Proofs.YtdmdfccadjfpiaaGreat
namespace Go.Proofs.YtdmdfccadjfpiaaGreat
open Go.RowKit
set_option maxRecDepth 100000

/-- What a name is. -/
def nameB (s : ByteArray) : Bool := wordB s 12 true && okB false (s.data.toList.getD 0 0).toNat
theorem nm_word {s : ByteArray} {m : Nat} {a : Bool} (h : wordB s m a = true) : 0 < s.size := by
  simp only [wordB, Bool.and_eq_true, decide_eq_true_eq] at h
  omega
theorem lKey (s : ByteArray) (w : World) (hs : s.size ≤ maxLen) : Calls Tryz.prog 103 #[.string s] w fun e w' => e = .returned (.bool (wordB s 8 false)) ∧ Below w.heap.size w w' := by
  have hW : Calls Tryz.prog 79 #[.string s, .int .i64 8, .bool false] w fun e w' => e = .returned (.bool (wordB s 8 false)) ∧ Below w.heap.size w w' := labWord s 8 false w hs
  go_enter Tryz.func103, Tryz.ntmps103
  go_wp2_with fail
  (with_reducible refine hW.mono ?_)
  rintro e w1 ⟨rfl, hb⟩
  go_wp2_with fail
  go_ret
  exact ⟨rfl, hb⟩
theorem lValue (s : ByteArray) (w : World) (hs : s.size ≤ maxLen) : Calls Tryz.prog 47 #[.string s] w fun e w' => e = .returned (.bool (wordB s 16 true)) ∧ Below w.heap.size w w' := by
  have hW : Calls Tryz.prog 79 #[.string s, .int .i64 16, .bool true] w fun e w' => e = .returned (.bool (wordB s 16 true)) ∧ Below w.heap.size w w' := labWord s 16 true w hs
  go_enter Tryz.func47, Tryz.ntmps47
  go_wp2_with fail
  (with_reducible refine hW.mono ?_)
  rintro e w1 ⟨rfl, hb⟩
  go_wp2_with fail
  go_ret
  exact ⟨rfl, hb⟩
theorem nm_get (s : ByteArray) (h : 0 < s.size) : s.data.toList.getD 0 0 = s[0]'h := by
  have hl : 0 < s.data.toList.length := h
  rw [List.getD_eq_getElem?_getD, List.getElem?_eq_getElem hl]
  rfl
theorem lName (s : ByteArray) (w : World) (hs : s.size ≤ maxLen) : Calls Tryz.prog 87 #[.string s] w fun e w' => e = .returned (.bool (nameB s)) ∧ Below w.heap.size w w' := by
  have hW : Calls Tryz.prog 79 #[.string s, .int .i64 12, .bool true] w fun e w' => e = .returned (.bool (wordB s 12 true)) ∧ Below w.heap.size w w' := labWord s 12 true w hs
  cases hw : wordB s 12 true with
  | false =>
    rw [hw] at hW
    have E := Lib.hid (show nameB s = false by simp [nameB, hw])
    clear hw
    go_enter Tryz.func87, Tryz.ntmps87
    go_wp2_with fail
    (with_reducible refine hW.mono ?_)
    rintro e w1 ⟨rfl, hb⟩
    go_wp2_with fail
    go_ret
    exact ⟨by rw [E.out]; rfl, hb⟩
  | true =>
    rw [hw] at hW
    have h0 := nm_word hw
    have E := Lib.hid (show nameB s = okB false (s[0]'h0).toNat by rw [nameB, hw, nm_get s h0, Bool.true_and])
    clear hw
    by_cases g1 : 97 ≤ (s[0]'h0).toNat
    · by_cases g2 : (s[0]'h0).toNat ≤ 122
      all_goals
        go_enter Tryz.func87, Tryz.ntmps87
        go_wp2_with fail
        (with_reducible refine hW.mono ?_)
        rintro e w1 ⟨rfl, hb⟩
        go_wp2_with fail
        go_ret
        exact ⟨by rw [E.out, okB_false]; simp [g1, g2] <;> omega, hb⟩
    · go_enter Tryz.func87, Tryz.ntmps87
      go_wp2_with fail
      (with_reducible refine hW.mono ?_)
      rintro e w1 ⟨rfl, hb⟩
      go_wp2_with fail
      go_ret
      exact ⟨by rw [E.out, okB_false]; simp [g1], hb⟩

/-! ### The reference's -/
theorem refSmall (c : UInt8) (w : World) : Calls Tryz.prog 84 #[.int .u8 c.toNat] w fun e w' => e = .returned (.bool (okB false c.toNat)) ∧ w' = w := by
  have E := Lib.hid (okB_false c.toNat)
  by_cases g1 : 97 ≤ c.toNat
  · by_cases g2 : c.toNat ≤ 122
    all_goals
      go_enter Tryz.func84, Tryz.ntmps84
      go_wp2_with fail
      go_ret
      exact ⟨by rw [E.out]; simp [g1, g2] <;> omega, rfl⟩
  · go_enter Tryz.func84, Tryz.ntmps84
    go_wp2_with fail
    go_ret
    exact ⟨by rw [E.out]; simp [g1], rfl⟩
theorem all_step {s : ByteArray} {k : Nat} (p : UInt8 → Bool) (hk : k < s.size) (h : (s.data.toList.take k).all p = true) (hp : p (s[k]'hk) = true) : (s.data.toList.take (k + 1)).all p = true := by
  have hl : k < s.data.toList.length := hk
  rw [List.take_succ_eq_append_getElem hl, List.all_append, h]
  simp only [List.all_cons, List.all_nil, Bool.and_true, Bool.true_and]
  exact hp
theorem all_bad {s : ByteArray} {k : Nat} (p : UInt8 → Bool) (hk : k < s.size) (hp : p (s[k]'hk) = false) : s.data.toList.all p = false := by
  have hl : k < s.data.toList.length := hk
  rw [List.all_eq_false]
  exact ⟨_, List.getElem_mem hl, fun hc => Bool.false_ne_true (hp.symm.trans hc)⟩
theorem refKey (s : ByteArray) (w : World) (hs : s.size ≤ maxLen) : Calls Tryz.prog 85 #[.string s] w fun e w' => e = .returned (.bool (wordB s 8 false)) ∧ w' = w := by
  unfold maxLen at hs
  go_enter Tryz.func85, Tryz.ntmps85
  go_wp2_with fail
  go_loop [3] (fun i => ∃ k : Nat, k ≤ s.size ∧ i = .int .i64 k ∧ (s.data.toList.take k).all (fun c => okB false c.toNat) = true) (fun i => s.size - (intOf i).toNat)
  case atStart => exact ⟨0, Nat.zero_le _, rfl, rfl⟩
  case round =>
    obtain ⟨k, hk, rfl, hall⟩ := hrel
    by_cases hlt : k < s.size
    · have hS := refSmall (s[k]'hlt) w
      cases hok : okB false (s[k]'hlt).toNat with
      | true =>
        rw [hok] at hS
        have HA := Lib.hid (all_step (fun c => okB false c.toNat) hlt hall hok)
        clear hall hok
        go_wp2_with fail
        (with_reducible refine hS.mono ?_)
        rintro e w1 ⟨rfl, rfl⟩
        go_wp2_with fail
        go_round
        case rel => exact ⟨k + 1, by omega, by go_num, HA.out⟩
        case measure => simp [intOf]; omega
      | false =>
        rw [hok] at hS
        have HB := Lib.hid (show wordB s 8 false = false by simp only [wordB, all_bad (fun c => okB false c.toNat) hlt hok, Bool.and_false])
        clear hall hok
        go_wp2_with fail
        (with_reducible refine hS.mono ?_)
        rintro e w1 ⟨rfl, rfl⟩
        go_wp2_with fail
        go_ret
        exact ⟨by rw [HB.out]; rfl, rfl⟩
    · have hl : s.data.toList.take k = s.data.toList := List.take_of_length_le (by have : s.data.toList.length = s.size := rfl; omega)
      rw [hl] at hall
      have E := Lib.hid (show wordB s 8 false = (decide (1 ≤ s.size) && decide (s.size ≤ 8)) by simp only [wordB, hall, Bool.and_true])
      clear hall hl
      by_cases g1 : 1 ≤ s.size
      · by_cases g2 : s.size ≤ 8
        all_goals
          go_wp2_with fail
          go_ret
          exact ⟨by rw [E.out]; simp [g1, g2] <;> omega, rfl⟩
      · go_wp2_with fail
        go_ret
        exact ⟨by rw [E.out]; simp [g1], rfl⟩
set_option maxHeartbeats 1000000 in
theorem refValue (s : ByteArray) (w : World) (hs : s.size ≤ maxLen) : Calls Tryz.prog 83 #[.string s] w fun e w' => e = .returned (.bool (wordB s 16 true)) ∧ w' = w := by
  unfold maxLen at hs
  go_enter Tryz.func83, Tryz.ntmps83
  go_wp2_with fail
  go_loop [3] (fun i => ∃ k : Nat, k ≤ s.size ∧ i = .int .i64 k ∧ (s.data.toList.take k).all (fun c => okB true c.toNat) = true) (fun i => s.size - (intOf i).toNat)
  case atStart => exact ⟨0, Nat.zero_le _, rfl, rfl⟩
  case round =>
    obtain ⟨k, hk, rfl, hall⟩ := hrel
    by_cases hlt : k < s.size
    · have hS := refSmall (s[k]'hlt) w
      have HAll := fun h => all_step (fun c => okB true c.toNat) hlt hall h
      have HBad : okB true (s[k]'hlt).toNat = false → wordB s 16 true = false := fun h => by simp only [wordB, all_bad (fun c => okB true c.toNat) hlt h, Bool.and_false]
      clear hall
      obtain ⟨r, hr⟩ : ∃ r, r = (s[k]'hlt).toNat := ⟨_, rfl⟩
      have hget : ((s[k]'hlt).toNat : Int) = (r : Int) := by rw [hr]
      rw [← hr] at hS HBad
      have HAll' : okB true r = true → (s.data.toList.take (k + 1)).all (fun c => okB true c.toNat) = true := fun h => HAll (by rw [← hr]; exact h)
      have H8 : r ≤ 255 := by rw [hr]; have := (s[k]'hlt).toNat_lt; omega
      clear HAll hr
      cases hsm : okB false r with
      | true =>
        rw [hsm] at hS
        have HA := Lib.hid (HAll' (by rw [okB_false] at hsm; rw [okB, hsm]; rfl))
        clear HAll' HBad hsm
        go_wp2_with fail
        (with_reducible refine hS.mono ?_)
        rintro e w1 ⟨rfl, rfl⟩
        go_wp2_with fail
        go_round
        case rel => exact ⟨k + 1, by omega, by go_num, HA.out⟩
        case measure => simp [intOf]; omega
      | false =>
        rw [hsm] at hS
        cases hok : okB true r with
        | true =>
          have HA := Lib.hid (HAll' hok)
          have hor : (48 ≤ r ∧ r ≤ 57) ∨ r = 46 ∨ r = 95 ∨ r = 45 := by
            rw [okB_false] at hsm
            rw [okB, hsm] at hok
            simp only [Bool.or_eq_true, Bool.and_eq_true, decide_eq_true_eq, Bool.true_and, Bool.false_or] at hok
            omega
          clear HAll' HBad hsm hok
          rcases hor with ⟨x1, x2⟩ | rfl | rfl | rfl
          all_goals
            go_wp2_with fail
            first | (with_reducible refine hS.mono ?_) | (refine hS.mono ?_)
            rintro e w1 ⟨rfl, rfl⟩
            go_wp2_with fail
            go_round
            case rel => exact ⟨k + 1, by omega, by go_num, HA.out⟩
            case measure => simp [intOf]; omega
        | false =>
          have HB := Lib.hid (HBad hok)
          have hno : ¬ ((48 ≤ r ∧ r ≤ 57) ∨ r = 46 ∨ r = 95 ∨ r = 45) := by
            intro h
            have : okB true r = true := by
              simp only [okB, Bool.or_eq_true, Bool.and_eq_true, decide_eq_true_eq, Bool.true_and]
              omega
            rw [this] at hok; cases hok
          have e46 : ((r : Int) == 46) = false := by rw [beq_eq_false_iff_ne]; omega
          have e95 : ((r : Int) == 95) = false := by rw [beq_eq_false_iff_ne]; omega
          have e45 : ((r : Int) == 45) = false := by rw [beq_eq_false_iff_ne]; omega
          have n46 : ((r : Int) != 46) = true := by rw [bne, e46]; rfl
          have n95 : ((r : Int) != 95) = true := by rw [bne, e95]; rfl
          have n45 : ((r : Int) != 45) = true := by rw [bne, e45]; rfl
          by_cases x1 : 48 ≤ r
          · have x2 : ¬ r ≤ 57 := by omega
            have x3 : decide ((r : Int) ≤ 57) = false := by rw [decide_eq_false_iff_not]; omega
            clear HAll' HBad hsm hok hno
            go_wp2_with fail
            (with_reducible refine hS.mono ?_)
            rintro e w1 ⟨rfl, rfl⟩
            go_wp2_with fail
            go_ret
            exact ⟨by rw [HB.out]; rfl, rfl⟩
          · clear HAll' HBad hsm hok hno
            go_wp2_with fail
            (with_reducible refine hS.mono ?_)
            rintro e w1 ⟨rfl, rfl⟩
            go_wp2_with fail
            go_ret
            exact ⟨by rw [HB.out]; rfl, rfl⟩
    · have hl : s.data.toList.take k = s.data.toList := List.take_of_length_le (by have : s.data.toList.length = s.size := rfl; omega)
      rw [hl] at hall
      have E := Lib.hid (show wordB s 16 true = (decide (1 ≤ s.size) && decide (s.size ≤ 16)) by simp only [wordB, hall, Bool.and_true])
      clear hall hl
      by_cases g1 : 1 ≤ s.size
      · by_cases g2 : s.size ≤ 16
        all_goals
          go_wp2_with fail
          go_ret
          exact ⟨by rw [E.out]; simp [g1, g2] <;> omega, rfl⟩
      · go_wp2_with fail
        go_ret
        exact ⟨by rw [E.out]; simp [g1], rfl⟩
theorem word_12 (s : ByteArray) : wordB s 12 true = (wordB s 16 true && decide (s.size ≤ 12)) := by
  unfold wordB
  by_cases h : s.size ≤ 12
  · have h2 : s.size ≤ 16 := by omega
    simp [h, h2]
  · simp [h]
theorem refName (s : ByteArray) (w : World) (hs : s.size ≤ maxLen) : Calls Tryz.prog 58 #[.string s] w fun e w' => e = .returned (.bool (nameB s)) ∧ w' = w := by
  have hV := refValue s w hs
  unfold maxLen at hs
  cases hw : wordB s 16 true with
  | false =>
    rw [hw] at hV
    have E := Lib.hid (show nameB s = false by simp [nameB, word_12, hw])
    clear hw
    go_enter Tryz.func58, Tryz.ntmps58
    go_wp2_with fail
    (with_reducible refine hV.mono ?_)
    rintro e w1 ⟨rfl, rfl⟩
    go_wp2_with fail
    go_ret
    exact ⟨by rw [E.out]; rfl, rfl⟩
  | true =>
    rw [hw] at hV
    have h0 := nm_word hw
    by_cases g1 : s.size ≤ 12
    · have E := Lib.hid (show nameB s = okB false (s[0]'h0).toNat by rw [nameB, word_12, hw, nm_get s h0]; simp [g1])
      have hS := refSmall (s[0]'h0) w
      clear hw
      go_enter Tryz.func58, Tryz.ntmps58
      go_wp2_with fail
      (with_reducible refine hV.mono ?_)
      rintro e w1 ⟨rfl, rfl⟩
      go_wp2_with fail
      (with_reducible refine hS.mono ?_)
      rintro e w1 ⟨rfl, rfl⟩
      go_wp2_with fail
      go_ret
      exact ⟨by rw [E.out]; simp, rfl⟩
    · have E := Lib.hid (show nameB s = false by rw [nameB, word_12, hw]; simp [g1])
      clear hw
      go_enter Tryz.func58, Tryz.ntmps58
      go_wp2_with fail
      (with_reducible refine hV.mono ?_)
      rintro e w1 ⟨rfl, rfl⟩
      go_wp2_with fail
      go_ret
      exact ⟨by rw [E.out]; simp, rfl⟩
end Go.Proofs.YtdmdfccadjfpiaaGreat
namespace Go.Proofs.YtdmdfccadjfpiaaGreat
open Go.RowKit FreeNew
set_option maxRecDepth 100000
attribute [local go_sem] out

def chkF (prev : Option ByteArray) : List Pr → Nat
  | [] => 0
  | p :: r => if (wordB p.1 8 false && wordB p.2 16 true) = true then
      (match prev with
       | some k => if k = p.1 then 7 else if ltS p.1 k = true then 9 else chkF (some p.1) r
       | none => chkF (some p.1) r)
    else 8
/-- What is wrong with pairs as labels: an error's number; 0: nothing. -/
def chkL (ps : List Pr) : Nat := if 8 < ps.length then 5 else chkF none ps
def prevK (ps : List Pr) : Nat → Option ByteArray
  | 0 => none
  | k + 1 => (ps[k]?).map (·.1)
theorem beqS (a b : ByteArray) : (a == b) = decide (a = b) := by
  rw [beq_toListBytes]
  exact eqS_eq a b
set_option maxHeartbeats 1000000 in
theorem lCheck (v : Value) (ps : List Pr) (w : World) (hr : Rd w 2 v ps.length (pairCells ps)) (hs : ∀ p ∈ ps, p.1.size ≤ maxLen ∧ p.2.size ≤ maxLen) :
    Calls Tryz.prog 89 #[v] w fun e w' => e = .returned (.int .i64 (chkL ps : Nat)) ∧ Below w.heap.size w w' := by
  have hr0 := hr
  obtain ⟨A, c, rfl, h1, h2, h3, h4⟩ := hr
  unfold maxLen at h3
  by_cases h8 : 8 < ps.length
  · have E := Lib.hid (show chkL ps = 5 by simp [chkL, h8])
    go_enter Tryz.func89, Tryz.ntmps89
    go_wp2_with fail
    go_ret
    exact ⟨by rw [E.out]; rfl, Below.refl _ _⟩
  have E := Lib.hid (show chkL ps = chkF none ps by simp [chkL, h8])
  go_enter Tryz.func89, Tryz.ntmps89
  go_wp2_with fail
  go_loopw [10] (fun i wr => ∃ k : Nat, k ≤ ps.length ∧ i = .int .i64 k ∧ chkF none ps = chkF (prevK ps k) (ps.drop k) ∧ Below w.heap.size w wr) (fun i _ => ps.length - (intOf i).toNat)
  case atStart => exact ⟨0, Nat.zero_le _, rfl, rfl, Below.refl _ _⟩
  case round =>
    obtain ⟨k, hk, rfl, hck, hb⟩ := hrel
    by_cases hlt : k < ps.length
    · obtain ⟨b, o, rfl, hat⟩ := h4 (by omega)
      obtain ⟨p, hp⟩ : ∃ p, ps[k]? = some p := ⟨_, List.getElem?_eq_getElem hlt⟩
      obtain ⟨hp1, hp2⟩ := (pairCells_at ps k p hp)
      have c0 := hat.nth0 hb (k*2) _ hp1
      have c1 := hat.nth hb (k*2) 1 _ hp2
      have hd : ps.drop k = p :: ps.drop (k + 1) := by
        rw [List.drop_eq_getElem_cons hlt]
        congr 1
        exact (List.getElem?_eq_some_iff.1 hp).2
      have hpk : prevK ps (k + 1) = some p.1 := by simp [prevK, hp]
      have hsz := hs p (List.mem_of_getElem? hp)
      rw [hd] at hck
      obtain ⟨p1, p2⟩ := p
      simp only at hsz c0 c1 hck hpk
      have hK := fun w' => lKey p1 w' hsz.1
      have hV := fun w' => lValue p2 w' hsz.2
      cases hw1 : wordB p1 8 false with
      | false =>
        rw [hw1] at hK
        have E2 := Lib.hid (hck.trans (by simp [chkF, hw1] : chkF (prevK ps k) ((p1, p2) :: ps.drop (k + 1)) = 8))
        clear hck hw1 hd hpk hp hp1 hp2 hat h4 hr0 hs hV
        go_wp2_with fail
        refine calls_genP fun w2 hw2 => ?_
        have hb2 : Below w.heap.size w w2 := by rw [hw2]; exact hb.alloc hb.size _
        have hB2 : Blk w2 wr.heap.size #[.string p1, .string p2] 137 := by rw [hw2]; exact Blk.new _ _ _
        clear hw2
        (with_reducible refine (hK w2).mono ?_)
        rintro e w3 ⟨rfl, hb3⟩
        have hB3 := hB2.below hb3 hB2.lt
        have hb23 := hb2.trans (hb3.mono hb2.size)
        clear hB2 hb2 hb3 hK
        go_wp2_with fail
        go_ret
        exact ⟨by rw [E.out, E2.out]; rfl, hb23⟩
      | true =>
       rw [hw1] at hK
       cases hw2 : wordB p2 16 true with
       | false =>
        rw [hw2] at hV
        have E2 := Lib.hid (hck.trans (by simp [chkF, hw1, hw2] : chkF (prevK ps k) ((p1, p2) :: ps.drop (k + 1)) = 8))
        clear hck hw1 hw2 hd hpk hp hp1 hp2 hat h4 hr0 hs
        go_wp2_with fail
        refine calls_genP fun w2 hw2 => ?_
        have hb2 : Below w.heap.size w w2 := by rw [hw2]; exact hb.alloc hb.size _
        have hB2 : Blk w2 wr.heap.size #[.string p1, .string p2] 137 := by rw [hw2]; exact Blk.new _ _ _
        clear hw2
        (with_reducible refine (hK w2).mono ?_)
        rintro e w3 ⟨rfl, hb3⟩
        have hB3 := hB2.below hb3 hB2.lt
        have hb23 := hb2.trans (hb3.mono hb2.size)
        clear hB2 hb2 hb3 hK
        have e1 : w3.cell? ⟨wr.heap.size, 1, none⟩ = some (.string p2) := hB3.cell rfl
        have hV3 := hV w3
        clear hV
        go_wp2_with fail
        (with_reducible refine hV3.mono ?_)
        rintro e w4 ⟨rfl, hb4⟩
        have hB4 := hB3.below hb4 hB3.lt
        have hb24 := hb23.trans (hb4.mono hb23.size)
        clear hB3 hb23 hb4 hV3 e1
        go_wp2_with fail
        go_ret
        exact ⟨by rw [E.out, E2.out]; rfl, hb24⟩
       | true =>
        rw [hw2] at hV
        have hcs : chkF (prevK ps k) ((p1, p2) :: ps.drop (k + 1)) = (match prevK ps k with | some q => if q = p1 then 7 else if ltS p1 q = true then 9 else chkF (some p1) (ps.drop (k + 1)) | none => chkF (some p1) (ps.drop (k + 1))) := by
          simp [chkF, hw1, hw2]
        rw [hcs] at hck
        clear hcs hw1 hw2 hd
        go_wp2_with fail
        refine calls_genP fun w2 hw2 => ?_
        have hb2 : Below w.heap.size w w2 := by rw [hw2]; exact hb.alloc hb.size _
        have hB2 : Blk w2 wr.heap.size #[.string p1, .string p2] 137 := by rw [hw2]; exact Blk.new _ _ _
        clear hw2
        (with_reducible refine (hK w2).mono ?_)
        rintro e w3 ⟨rfl, hb3⟩
        have hB3 := hB2.below hb3 hB2.lt
        have hb23 := hb2.trans (hb3.mono hb2.size)
        clear hB2 hb2 hb3 hK
        have e1 : w3.cell? ⟨wr.heap.size, 1, none⟩ = some (.string p2) := hB3.cell rfl
        have hV3 := hV w3
        clear hV
        go_wp2_with fail
        (with_reducible refine hV3.mono ?_)
        rintro e w4 ⟨rfl, hb4⟩
        have hB4 := hB3.below hb4 hB3.lt
        have hb24 := hb23.trans (hb4.mono hb23.size)
        clear hB3 hb23 hb4 hV3 e1
        cases k with
        | zero =>
          have E2 := Lib.hid (show chkF none ps = chkF (prevK ps 1) (ps.drop 1) by rw [hpk]; exact hck)
          clear hck hpk hp hp1 hp2 hat h4 hr0 hs c0 c1
          have F : ∀ w', Below w4.heap.size w4 w' → True := fun _ _ => trivial
          go_wp2_with fail
          refine region_free (fun w' => Below w4.heap.size w4 w') [] [] (List.range 14) (by kernel_rfl) (by kernel_rfl) (by kernel_rfl) (Below.refl _ _).drew ?_
          simp only [List.range, List.range.loop]
          repeat (first
            | (refine RelSeq.pure_ (c := ?_) rfl rfl ?_ ?_; rotate_left; (focus (intro x w'; dsimp only; go_simp; (repeat' apply And.intro) <;> first | with_reducible rfl | assumption)); simp only [Act.put, List.setIfInBounds_toArray, List.set_cons_zero, List.set_cons_succ])
            | (refine RelSeq.skip_ rfl (fun _ => rfl) ?_; simp only [Act.put, List.setIfInBounds_toArray, List.set_cons_zero, List.set_cons_succ])
            | (refine RelSeq.pureG_ (c := ?_) rfl (fun _ => rfl) rfl ?_ ?_; rotate_left; (focus (intro x w'; dsimp only; go_simp; (repeat' apply And.intro) <;> first | with_reducible rfl | assumption)); simp only [Act.put, List.setIfInBounds_toArray, List.set_cons_zero, List.set_cons_succ])
            | (refine RelSeq.grow_ (c := ?_) rfl rfl ?_ ?_; rotate_left; (focus (intro x w' hw _; dsimp only; have hbr := Below.refl w'.heap.size w'; go_simp; (repeat' apply And.intro) <;> first | with_reducible rfl | assumption)); simp only [Act.put, List.setIfInBounds_toArray, List.set_cons_zero, List.set_cons_succ])
            | (refine RelSeq.growG_ (c := ?_) rfl (fun _ => rfl) rfl ?_ ?_; rotate_left; (focus (intro x w' hw _; dsimp only; have hbr := Below.refl w'.heap.size w'; go_simp; (repeat' apply And.intro) <;> first | with_reducible rfl | assumption)); simp only [Act.put, List.setIfInBounds_toArray, List.set_cons_zero, List.set_cons_succ]))
          refine RelSeq.nil_ fun x w5 hw5 _ _ => ?_
          refine TailSeq.nil_ ?_
          go_wp2_with fail
          refine region_free (fun w' => Below w5.heap.size w5 w') [] [] (List.range 14) (by kernel_rfl) (by kernel_rfl) (by kernel_rfl) (Below.refl _ _).drew ?_
          simp only [List.range, List.range.loop]
          repeat (first
            | (refine RelSeq.pure_ (c := ?_) rfl rfl ?_ ?_; rotate_left; (focus (intro x w'; dsimp only; go_simp; (repeat' apply And.intro) <;> first | with_reducible rfl | assumption)); simp only [Act.put, List.setIfInBounds_toArray, List.set_cons_zero, List.set_cons_succ])
            | (refine RelSeq.skip_ rfl (fun _ => rfl) ?_; simp only [Act.put, List.setIfInBounds_toArray, List.set_cons_zero, List.set_cons_succ])
            | (refine RelSeq.pureG_ (c := ?_) rfl (fun _ => rfl) rfl ?_ ?_; rotate_left; (focus (intro x w'; dsimp only; go_simp; (repeat' apply And.intro) <;> first | with_reducible rfl | assumption)); simp only [Act.put, List.setIfInBounds_toArray, List.set_cons_zero, List.set_cons_succ])
            | (refine RelSeq.grow_ (c := ?_) rfl rfl ?_ ?_; rotate_left; (focus (intro x w' hw _; dsimp only; have hbr := Below.refl w'.heap.size w'; go_simp; (repeat' apply And.intro) <;> first | with_reducible rfl | assumption)); simp only [Act.put, List.setIfInBounds_toArray, List.set_cons_zero, List.set_cons_succ])
            | (refine RelSeq.growG_ (c := ?_) rfl (fun _ => rfl) rfl ?_ ?_; rotate_left; (focus (intro x w' hw _; dsimp only; have hbr := Below.refl w'.heap.size w'; go_simp; (repeat' apply And.intro) <;> first | with_reducible rfl | assumption)); simp only [Act.put, List.setIfInBounds_toArray, List.set_cons_zero, List.set_cons_succ]))
          refine RelSeq.nil_ fun x w6 hw6 _ _ => ?_
          refine TailSeq.nil_ ?_
          go_wp2_with fail
          go_roundw
          case rel => exact ⟨1, by omega, by go_num, E2.out, (hb24.trans (hw5.mono hb24.size)).trans (hw6.mono (hb24.trans (hw5.mono hb24.size)).size)⟩
          case measure => simp [intOf]; omega
        | succ j =>
          obtain ⟨q, hq⟩ : ∃ p, ps[j]? = some p := ⟨_, List.getElem?_eq_getElem (by omega)⟩
          have hpq : prevK ps (j + 1) = some q.1 := by simp [prevK, hq]
          rw [hpq] at hck
          obtain ⟨hq1, _⟩ := (pairCells_at ps j q hq)
          obtain ⟨q1, q2⟩ := q
          simp only at hq1 hck
          have F : ∀ w', Below w4.heap.size w4 w' → w'.cell? ⟨b, o + j * 2, none⟩ = some (.string q1) ∧ w'.cell? ⟨wr.heap.size, 0, none⟩ = some (.string p1) := fun w' h => ⟨hat.nth0 (hb24.trans (h.mono hb24.size)) (j*2) _ hq1, (hB4.below h hB4.lt).cell rfl⟩
          have hjl : j < ps.length := by omega
          have hwj : IntKind.i64.wrap (j : Int) = (j : Int) := by simp only [IntKind.wrap, IntKind.bits, IntKind.signed]; simp; omega
          have H4 := hb24.size
          clear hpq hq hp hp1 hp2 hat h4 hr0 hs c0 c1 hq1
          by_cases heq : q1 = p1
          · subst heq
            have E2 := Lib.hid (hck.trans (by simp : (if q1 = q1 then 7 else _) = 7))
            have hE : (q1 == q1) = true := by rw [beqS]; simp
            clear hck hpk
            go_wp2_with fail
            refine region_free (fun w' => Below w4.heap.size w4 w') [] [] (List.range 14) (by kernel_rfl) (by kernel_rfl) (by kernel_rfl) (Below.refl _ _).drew ?_
            simp only [List.range, List.range.loop]
            repeat (first
              | (refine RelSeq.pure_ (c := ?_) rfl rfl ?_ ?_; rotate_left; (focus (intro x w'; dsimp only; go_simp; (repeat' apply And.intro) <;> first | with_reducible rfl | assumption)); simp only [Act.put, List.setIfInBounds_toArray, List.set_cons_zero, List.set_cons_succ])
              | (refine RelSeq.skip_ rfl (fun _ => rfl) ?_; simp only [Act.put, List.setIfInBounds_toArray, List.set_cons_zero, List.set_cons_succ])
              | (refine RelSeq.pureG_ (c := ?_) rfl (fun _ => rfl) rfl ?_ ?_; rotate_left; (focus (intro x w'; dsimp only; go_simp; (repeat' apply And.intro) <;> first | with_reducible rfl | assumption)); simp only [Act.put, List.setIfInBounds_toArray, List.set_cons_zero, List.set_cons_succ])
              | (refine RelSeq.grow_ (c := ?_) rfl rfl ?_ ?_; rotate_left; (focus (intro x w' hw _; dsimp only; obtain ⟨d0, d1⟩ := F w' hw; have hbr := Below.refl w'.heap.size w'; go_simp; (repeat' apply And.intro) <;> first | with_reducible rfl | assumption)); simp only [Act.put, List.setIfInBounds_toArray, List.set_cons_zero, List.set_cons_succ])
              | (refine RelSeq.growG_ (c := ?_) rfl (fun _ => rfl) rfl ?_ ?_; rotate_left; (focus (intro x w' hw _; dsimp only; obtain ⟨d0, d1⟩ := F w' hw; have hbr := Below.refl w'.heap.size w'; go_simp; (repeat' apply And.intro) <;> first | with_reducible rfl | assumption)); simp only [Act.put, List.setIfInBounds_toArray, List.set_cons_zero, List.set_cons_succ]))
            refine RelSeq.nil_ fun x w5 hw5 _ _ => ?_
            refine TailSeq.nil_ ?_
            go_wp2_with fail
            go_ret
            exact ⟨by rw [E.out, E2.out]; rfl, hb24.trans (hw5.mono H4)⟩
          · have hE : (q1 == p1) = false := by rw [beqS]; simpa using heq
            have hT : (q1.toList == p1.toList) = false := by rw [eqS_eq]; simpa using heq
            rw [if_neg heq] at hck
            cases hlt2 : ltS p1 q1 with
            | true =>
              have hL : Op.bytesLess q1.toList p1.toList = false := ltS_asymm hlt2
              have E2 := Lib.hid (hck.trans (by rw [if_pos hlt2] : (if ltS p1 q1 = true then 9 else _) = 9))
              clear hck hpk heq hlt2
              go_wp2_with fail
              refine region_free (fun w' => Below w4.heap.size w4 w') [] [] (List.range 14) (by kernel_rfl) (by kernel_rfl) (by kernel_rfl) (Below.refl _ _).drew ?_
              simp only [List.range, List.range.loop]
              repeat (first
                | (refine RelSeq.pure_ (c := ?_) rfl rfl ?_ ?_; rotate_left; (focus (intro x w'; dsimp only; go_simp; (repeat' apply And.intro) <;> first | with_reducible rfl | assumption)); simp only [Act.put, List.setIfInBounds_toArray, List.set_cons_zero, List.set_cons_succ])
                | (refine RelSeq.skip_ rfl (fun _ => rfl) ?_; simp only [Act.put, List.setIfInBounds_toArray, List.set_cons_zero, List.set_cons_succ])
                | (refine RelSeq.pureG_ (c := ?_) rfl (fun _ => rfl) rfl ?_ ?_; rotate_left; (focus (intro x w'; dsimp only; go_simp; (repeat' apply And.intro) <;> first | with_reducible rfl | assumption)); simp only [Act.put, List.setIfInBounds_toArray, List.set_cons_zero, List.set_cons_succ])
                | (refine RelSeq.grow_ (c := ?_) rfl rfl ?_ ?_; rotate_left; (focus (intro x w' hw _; dsimp only; obtain ⟨d0, d1⟩ := F w' hw; have hbr := Below.refl w'.heap.size w'; go_simp; (repeat' apply And.intro) <;> first | with_reducible rfl | assumption)); simp only [Act.put, List.setIfInBounds_toArray, List.set_cons_zero, List.set_cons_succ])
                | (refine RelSeq.growG_ (c := ?_) rfl (fun _ => rfl) rfl ?_ ?_; rotate_left; (focus (intro x w' hw _; dsimp only; obtain ⟨d0, d1⟩ := F w' hw; have hbr := Below.refl w'.heap.size w'; go_simp; (repeat' apply And.intro) <;> first | with_reducible rfl | assumption)); simp only [Act.put, List.setIfInBounds_toArray, List.set_cons_zero, List.set_cons_succ]))
              refine RelSeq.nil_ fun x w5 hw5 _ _ => ?_
              refine TailSeq.nil_ ?_
              have F : ∀ w', Below w5.heap.size w5 w' → w'.cell? ⟨b, o + j * 2, none⟩ = some (.string q1) ∧ w'.cell? ⟨wr.heap.size, 0, none⟩ = some (.string p1) := fun w' h => F w' (hw5.trans (h.mono hw5.size))
              go_wp2_with fail
              refine region_free (fun w' => Below w5.heap.size w5 w') [] [] (List.range 14) (by kernel_rfl) (by kernel_rfl) (by kernel_rfl) (Below.refl _ _).drew ?_
              simp only [List.range, List.range.loop]
              repeat (first
                | (refine RelSeq.pure_ (c := ?_) rfl rfl ?_ ?_; rotate_left; (focus (intro x w'; dsimp only; go_simp; (repeat' apply And.intro) <;> first | with_reducible rfl | assumption)); simp only [Act.put, List.setIfInBounds_toArray, List.set_cons_zero, List.set_cons_succ])
                | (refine RelSeq.skip_ rfl (fun _ => rfl) ?_; simp only [Act.put, List.setIfInBounds_toArray, List.set_cons_zero, List.set_cons_succ])
                | (refine RelSeq.pureG_ (c := ?_) rfl (fun _ => rfl) rfl ?_ ?_; rotate_left; (focus (intro x w'; dsimp only; go_simp; (repeat' apply And.intro) <;> first | with_reducible rfl | assumption)); simp only [Act.put, List.setIfInBounds_toArray, List.set_cons_zero, List.set_cons_succ])
                | (refine RelSeq.grow_ (c := ?_) rfl rfl ?_ ?_; rotate_left; (focus (intro x w' hw _; dsimp only; obtain ⟨d0, d1⟩ := F w' hw; have hbr := Below.refl w'.heap.size w'; go_simp; (repeat' apply And.intro) <;> first | with_reducible rfl | assumption)); simp only [Act.put, List.setIfInBounds_toArray, List.set_cons_zero, List.set_cons_succ])
                | (refine RelSeq.growG_ (c := ?_) rfl (fun _ => rfl) rfl ?_ ?_; rotate_left; (focus (intro x w' hw _; dsimp only; obtain ⟨d0, d1⟩ := F w' hw; have hbr := Below.refl w'.heap.size w'; go_simp; (repeat' apply And.intro) <;> first | with_reducible rfl | assumption)); simp only [Act.put, List.setIfInBounds_toArray, List.set_cons_zero, List.set_cons_succ]))
              refine RelSeq.nil_ fun x w6 hw6 _ _ => ?_
              refine TailSeq.nil_ ?_
              go_wp2_with fail
              go_ret
              exact ⟨by rw [E.out, E2.out]; rfl, (hb24.trans (hw5.mono H4)).trans (hw6.mono (hb24.trans (hw5.mono H4)).size)⟩
            | false =>
              have hL : Op.bytesLess q1.toList p1.toList = true := by
                cases h : ltS q1 p1 with
                | true => exact h
                | false => exact absurd (ltS_total h hlt2) heq
              have E2 := Lib.hid (show chkF none ps = chkF (prevK ps (j + 2)) (ps.drop (j + 2)) by rw [hpk]; rw [hlt2] at hck; exact hck.trans (if_neg (by decide)))
              clear hck hpk heq hlt2
              go_wp2_with fail
              refine region_free (fun w' => Below w4.heap.size w4 w') [] [] (List.range 14) (by kernel_rfl) (by kernel_rfl) (by kernel_rfl) (Below.refl _ _).drew ?_
              simp only [List.range, List.range.loop]
              repeat (first
                | (refine RelSeq.pure_ (c := ?_) rfl rfl ?_ ?_; rotate_left; (focus (intro x w'; dsimp only; go_simp; (repeat' apply And.intro) <;> first | with_reducible rfl | assumption)); simp only [Act.put, List.setIfInBounds_toArray, List.set_cons_zero, List.set_cons_succ])
                | (refine RelSeq.skip_ rfl (fun _ => rfl) ?_; simp only [Act.put, List.setIfInBounds_toArray, List.set_cons_zero, List.set_cons_succ])
                | (refine RelSeq.pureG_ (c := ?_) rfl (fun _ => rfl) rfl ?_ ?_; rotate_left; (focus (intro x w'; dsimp only; go_simp; (repeat' apply And.intro) <;> first | with_reducible rfl | assumption)); simp only [Act.put, List.setIfInBounds_toArray, List.set_cons_zero, List.set_cons_succ])
                | (refine RelSeq.grow_ (c := ?_) rfl rfl ?_ ?_; rotate_left; (focus (intro x w' hw _; dsimp only; obtain ⟨d0, d1⟩ := F w' hw; have hbr := Below.refl w'.heap.size w'; go_simp; (repeat' apply And.intro) <;> first | with_reducible rfl | assumption)); simp only [Act.put, List.setIfInBounds_toArray, List.set_cons_zero, List.set_cons_succ])
                | (refine RelSeq.growG_ (c := ?_) rfl (fun _ => rfl) rfl ?_ ?_; rotate_left; (focus (intro x w' hw _; dsimp only; obtain ⟨d0, d1⟩ := F w' hw; have hbr := Below.refl w'.heap.size w'; go_simp; (repeat' apply And.intro) <;> first | with_reducible rfl | assumption)); simp only [Act.put, List.setIfInBounds_toArray, List.set_cons_zero, List.set_cons_succ]))
              refine RelSeq.nil_ fun x w5 hw5 _ _ => ?_
              refine TailSeq.nil_ ?_
              have F : ∀ w', Below w5.heap.size w5 w' → w'.cell? ⟨b, o + j * 2, none⟩ = some (.string q1) ∧ w'.cell? ⟨wr.heap.size, 0, none⟩ = some (.string p1) := fun w' h => F w' (hw5.trans (h.mono hw5.size))
              go_wp2_with fail
              refine region_free (fun w' => Below w5.heap.size w5 w') [] [] (List.range 14) (by kernel_rfl) (by kernel_rfl) (by kernel_rfl) (Below.refl _ _).drew ?_
              simp only [List.range, List.range.loop]
              repeat (first
                | (refine RelSeq.pure_ (c := ?_) rfl rfl ?_ ?_; rotate_left; (focus (intro x w'; dsimp only; go_simp; (repeat' apply And.intro) <;> first | with_reducible rfl | assumption)); simp only [Act.put, List.setIfInBounds_toArray, List.set_cons_zero, List.set_cons_succ])
                | (refine RelSeq.skip_ rfl (fun _ => rfl) ?_; simp only [Act.put, List.setIfInBounds_toArray, List.set_cons_zero, List.set_cons_succ])
                | (refine RelSeq.pureG_ (c := ?_) rfl (fun _ => rfl) rfl ?_ ?_; rotate_left; (focus (intro x w'; dsimp only; go_simp; (repeat' apply And.intro) <;> first | with_reducible rfl | assumption)); simp only [Act.put, List.setIfInBounds_toArray, List.set_cons_zero, List.set_cons_succ])
                | (refine RelSeq.grow_ (c := ?_) rfl rfl ?_ ?_; rotate_left; (focus (intro x w' hw _; dsimp only; obtain ⟨d0, d1⟩ := F w' hw; have hbr := Below.refl w'.heap.size w'; go_simp; (repeat' apply And.intro) <;> first | with_reducible rfl | assumption)); simp only [Act.put, List.setIfInBounds_toArray, List.set_cons_zero, List.set_cons_succ])
                | (refine RelSeq.growG_ (c := ?_) rfl (fun _ => rfl) rfl ?_ ?_; rotate_left; (focus (intro x w' hw _; dsimp only; obtain ⟨d0, d1⟩ := F w' hw; have hbr := Below.refl w'.heap.size w'; go_simp; (repeat' apply And.intro) <;> first | with_reducible rfl | assumption)); simp only [Act.put, List.setIfInBounds_toArray, List.set_cons_zero, List.set_cons_succ]))
              refine RelSeq.nil_ fun x w6 hw6 _ _ => ?_
              refine TailSeq.nil_ ?_
              go_wp2_with fail
              go_roundw
              case rel => exact ⟨j + 2, by omega, by go_num, E2.out, (hb24.trans (hw5.mono H4)).trans (hw6.mono (hb24.trans (hw5.mono H4)).size)⟩
              case measure => simp [intOf]; omega
    · obtain rfl : k = ps.length := by omega
      rw [List.drop_length] at hck
      have E2 := Lib.hid (hck.trans (by simp [chkF] : chkF (prevK ps ps.length) [] = 0))
      clear hck
      go_wp2_with fail
      go_ret
      exact ⟨by rw [E.out, E2.out]; rfl, hb⟩
end Go.Proofs.YtdmdfccadjfpiaaGreat
