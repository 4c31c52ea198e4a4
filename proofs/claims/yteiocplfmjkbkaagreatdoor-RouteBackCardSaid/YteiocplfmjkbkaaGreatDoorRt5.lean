/-
  match.Ask.Holds and match.Asks.Holds, as plain functions.
-/
import Derived.Test.YteiocplfmjkbkaaGreatDoorRt2
import Derived.Test.YteiocplfmjkbkaaGreatDoorLRef
namespace Go.Proofs.YteiocplfmjkbkaaGreatDoor
open Go.RowKit
set_option maxRecDepth 100000

theorem strHasPre (s p : ByteArray) (w : World) (hs : s.size ≤ maxLen) (hp : p.size ≤ maxLen) : Calls Tryz.prog 56 #[.string s, .string p] w fun e w' => e = .returned (.bool (begB s p)) ∧ w' = w := by
  have K := fun w' => slHasPre s p w' hs hp
  go_enter Tryz.func56, Tryz.ntmps56
  go_wp2_with fail
  (with_reducible refine (K _).mono ?_)
  rintro e w1 ⟨rfl, rfl⟩
  go_wp2_with fail
  go_ret
  exact ⟨rfl, rfl⟩
/-- Does an ask's operation hold of what a key has? -/
def holdG (op : Nat) (r : ByteArray × Bool) (x : ByteArray) : Bool :=
  if op = 1 then r.2 && decide (r.1 = x) else if op = 2 then !r.2 || !decide (r.1 = x) else if op = 3 then r.2 && begB r.1 x else if op = 4 then r.2 else !r.2
def holdA (ps : List Pr) (a : Aq) : Bool := holdG a.2.1 (getL ps a.1) a.2.2
set_option maxHeartbeats 4000000 in
theorem askHolds (key : ByteArray) (op : Nat) (x : ByteArray) (v : Value) (ps : List Pr) (w : World) (hr : Rd w 2 v ps.length (pairCells ps)) (h1 : 1 ≤ op) (h5 : op ≤ 5) (hx : x.size ≤ maxLen) (hg : (getL ps key).1.size ≤ maxLen) :
    Calls Tryz.prog 65 #[.agg #[.string key, .int .u8 op, .string x], v] w fun e w' => e = .returned (.bool (holdG op (getL ps key) x)) ∧ Below w.heap.size w w' := by
  have U0 := (Upd.nil [] w).alloc #[.string key, .int .u8 op, .string x] 68
  have KG := fun w' (h : Below w.heap.size w w') => lGet v ps key w' (hr.below h)
  obtain ⟨r, hrr⟩ : ∃ r, r = getL ps key := ⟨_, rfl⟩
  rw [← hrr] at KG hg ⊢
  obtain ⟨g, is⟩ := r
  dsimp only at KG hg
  have KP := fun w' => strHasPre g x w' hg hx
  obtain ⟨bb, hbb⟩ : ∃ b, b = begB g x := ⟨_, rfl⟩
  rw [← hbb] at KP
  have HB := Lib.hid hbb
  clear hrr hr hbb hg hx
  obtain rfl | rfl | rfl | rfl | rfl : op = 1 ∨ op = 2 ∨ op = 3 ∨ op = 4 ∨ op = 5 := by omega
  · cases is with
    | true =>
      by_cases he : g = x
      · have e1 : (g == x) = true := by rw [beqS]; exact decide_eq_true he
        have e2 : (g.toList == x.toList) = true := by rw [eqS_eq]; exact decide_eq_true he
        have HE := Lib.hid he
        clear he
        go_enter Tryz.func65, Tryz.ntmps65
        go_wp2_with fail
        refine calls_genP fun w1 hw1 => ?_
        have U1 := U0.same hw1
        clear hw1
        (with_reducible refine (KG _ U1.below).mono ?_)
        rintro e w2 ⟨rfl, hb⟩
        have U2 := U1.grow hb
        have c1 := (U2.blk 0 rfl).cell (j := 1) (v := .int .u8 (1 : Nat)) rfl
        have c2 := (U2.blk 0 rfl).cell (j := 2) (v := .string x) rfl
        go_wp2_with fail
        go_ret
        exact ⟨by simp [holdG, HE.out], U2.below⟩
      · have e1 : (g == x) = false := by rw [beqS]; exact decide_eq_false he
        have e2 : (g.toList == x.toList) = false := by rw [eqS_eq]; exact decide_eq_false he
        have HE := Lib.hid he
        clear he
        go_enter Tryz.func65, Tryz.ntmps65
        go_wp2_with fail
        refine calls_genP fun w1 hw1 => ?_
        have U1 := U0.same hw1
        clear hw1
        (with_reducible refine (KG _ U1.below).mono ?_)
        rintro e w2 ⟨rfl, hb⟩
        have U2 := U1.grow hb
        have c1 := (U2.blk 0 rfl).cell (j := 1) (v := .int .u8 (1 : Nat)) rfl
        have c2 := (U2.blk 0 rfl).cell (j := 2) (v := .string x) rfl
        go_wp2_with fail
        go_ret
        exact ⟨by simp [holdG, HE.out], U2.below⟩
    | false =>
      go_enter Tryz.func65, Tryz.ntmps65
      go_wp2_with fail
      refine calls_genP fun w1 hw1 => ?_
      have U1 := U0.same hw1
      clear hw1
      (with_reducible refine (KG _ U1.below).mono ?_)
      rintro e w2 ⟨rfl, hb⟩
      have U2 := U1.grow hb
      have c1 := (U2.blk 0 rfl).cell (j := 1) (v := .int .u8 (1 : Nat)) rfl
      have c2 := (U2.blk 0 rfl).cell (j := 2) (v := .string x) rfl
      go_wp2_with fail
      go_ret
      exact ⟨by simp [holdG], U2.below⟩
  · cases is with
    | true =>
      by_cases he : g = x
      · have e1 : (g == x) = true := by rw [beqS]; exact decide_eq_true he
        have e2 : (g.toList == x.toList) = true := by rw [eqS_eq]; exact decide_eq_true he
        have HE := Lib.hid he
        clear he
        go_enter Tryz.func65, Tryz.ntmps65
        go_wp2_with fail
        refine calls_genP fun w1 hw1 => ?_
        have U1 := U0.same hw1
        clear hw1
        (with_reducible refine (KG _ U1.below).mono ?_)
        rintro e w2 ⟨rfl, hb⟩
        have U2 := U1.grow hb
        have c1 := (U2.blk 0 rfl).cell (j := 1) (v := .int .u8 (2 : Nat)) rfl
        have c2 := (U2.blk 0 rfl).cell (j := 2) (v := .string x) rfl
        go_wp2_with fail
        go_ret
        exact ⟨by simp [holdG, HE.out], U2.below⟩
      · have e1 : (g == x) = false := by rw [beqS]; exact decide_eq_false he
        have e2 : (g.toList == x.toList) = false := by rw [eqS_eq]; exact decide_eq_false he
        have HE := Lib.hid he
        clear he
        go_enter Tryz.func65, Tryz.ntmps65
        go_wp2_with fail
        refine calls_genP fun w1 hw1 => ?_
        have U1 := U0.same hw1
        clear hw1
        (with_reducible refine (KG _ U1.below).mono ?_)
        rintro e w2 ⟨rfl, hb⟩
        have U2 := U1.grow hb
        have c1 := (U2.blk 0 rfl).cell (j := 1) (v := .int .u8 (2 : Nat)) rfl
        have c2 := (U2.blk 0 rfl).cell (j := 2) (v := .string x) rfl
        go_wp2_with fail
        go_ret
        exact ⟨by simp [holdG, HE.out], U2.below⟩
    | false =>
      go_enter Tryz.func65, Tryz.ntmps65
      go_wp2_with fail
      refine calls_genP fun w1 hw1 => ?_
      have U1 := U0.same hw1
      clear hw1
      (with_reducible refine (KG _ U1.below).mono ?_)
      rintro e w2 ⟨rfl, hb⟩
      have U2 := U1.grow hb
      have c1 := (U2.blk 0 rfl).cell (j := 1) (v := .int .u8 (2 : Nat)) rfl
      have c2 := (U2.blk 0 rfl).cell (j := 2) (v := .string x) rfl
      go_wp2_with fail
      go_ret
      exact ⟨by simp [holdG], U2.below⟩
  · cases is with
    | true =>
      go_enter Tryz.func65, Tryz.ntmps65
      go_wp2_with fail
      refine calls_genP fun w1 hw1 => ?_
      have U1 := U0.same hw1
      clear hw1
      (with_reducible refine (KG _ U1.below).mono ?_)
      rintro e w2 ⟨rfl, hb⟩
      have U2 := U1.grow hb
      have c1 := (U2.blk 0 rfl).cell (j := 1) (v := .int .u8 (3 : Nat)) rfl
      have c2 := (U2.blk 0 rfl).cell (j := 2) (v := .string x) rfl
      go_wp2_with fail
      (with_reducible refine (KP _).mono ?_)
      rintro e w3 ⟨rfl, rfl⟩
      go_wp2_with fail
      go_ret
      exact ⟨by simp [holdG, HB.out], U2.below⟩
    | false =>
      go_enter Tryz.func65, Tryz.ntmps65
      go_wp2_with fail
      refine calls_genP fun w1 hw1 => ?_
      have U1 := U0.same hw1
      clear hw1
      (with_reducible refine (KG _ U1.below).mono ?_)
      rintro e w2 ⟨rfl, hb⟩
      have U2 := U1.grow hb
      have c1 := (U2.blk 0 rfl).cell (j := 1) (v := .int .u8 (3 : Nat)) rfl
      have c2 := (U2.blk 0 rfl).cell (j := 2) (v := .string x) rfl
      go_wp2_with fail
      go_ret
      exact ⟨by simp [holdG], U2.below⟩
  · cases is with
    | true =>
      go_enter Tryz.func65, Tryz.ntmps65
      go_wp2_with fail
      refine calls_genP fun w1 hw1 => ?_
      have U1 := U0.same hw1
      clear hw1
      (with_reducible refine (KG _ U1.below).mono ?_)
      rintro e w2 ⟨rfl, hb⟩
      have U2 := U1.grow hb
      have c1 := (U2.blk 0 rfl).cell (j := 1) (v := .int .u8 (4 : Nat)) rfl
      have c2 := (U2.blk 0 rfl).cell (j := 2) (v := .string x) rfl
      go_wp2_with fail
      go_ret
      exact ⟨by simp [holdG], U2.below⟩
    | false =>
      go_enter Tryz.func65, Tryz.ntmps65
      go_wp2_with fail
      refine calls_genP fun w1 hw1 => ?_
      have U1 := U0.same hw1
      clear hw1
      (with_reducible refine (KG _ U1.below).mono ?_)
      rintro e w2 ⟨rfl, hb⟩
      have U2 := U1.grow hb
      have c1 := (U2.blk 0 rfl).cell (j := 1) (v := .int .u8 (4 : Nat)) rfl
      have c2 := (U2.blk 0 rfl).cell (j := 2) (v := .string x) rfl
      go_wp2_with fail
      go_ret
      exact ⟨by simp [holdG], U2.below⟩
  · cases is with
    | true =>
      go_enter Tryz.func65, Tryz.ntmps65
      go_wp2_with fail
      refine calls_genP fun w1 hw1 => ?_
      have U1 := U0.same hw1
      clear hw1
      (with_reducible refine (KG _ U1.below).mono ?_)
      rintro e w2 ⟨rfl, hb⟩
      have U2 := U1.grow hb
      have c1 := (U2.blk 0 rfl).cell (j := 1) (v := .int .u8 (5 : Nat)) rfl
      have c2 := (U2.blk 0 rfl).cell (j := 2) (v := .string x) rfl
      go_wp2_with fail
      go_ret
      exact ⟨by simp [holdG], U2.below⟩
    | false =>
      go_enter Tryz.func65, Tryz.ntmps65
      go_wp2_with fail
      refine calls_genP fun w1 hw1 => ?_
      have U1 := U0.same hw1
      clear hw1
      (with_reducible refine (KG _ U1.below).mono ?_)
      rintro e w2 ⟨rfl, hb⟩
      have U2 := U1.grow hb
      have c1 := (U2.blk 0 rfl).cell (j := 1) (v := .int .u8 (5 : Nat)) rfl
      have c2 := (U2.blk 0 rfl).cell (j := 2) (v := .string x) rfl
      go_wp2_with fail
      go_ret
      exact ⟨by simp [holdG], U2.below⟩
theorem flatA (f : Aq → List Value) (n : Nat) (hn : ∀ a, (f a).length = n) : ∀ (l : List Aq) (k : Nat) (a : Aq), l[k]? = some a → ∀ (j : Nat) (u : Value), (f a)[j]? = some u → (l.flatMap f)[k * n + j]? = some u := by
  intro l
  induction l with
  | nil => intro k a h; simp at h
  | cons b r ih =>
    intro k a h j u hu
    have hj : j < n := by rw [← hn a]; exact (List.getElem?_eq_some_iff.1 hu).1
    rw [List.flatMap_cons]
    cases k with
    | zero =>
      obtain rfl : b = a := by simpa using h
      rw [Nat.zero_mul, Nat.zero_add, List.getElem?_append_left (by rw [hn]; exact hj)]
      exact hu
    | succ k =>
      rw [List.getElem?_append_right (by rw [hn, Nat.succ_mul]; omega), hn, show (k + 1) * n + j - n = k * n + j by rw [Nat.succ_mul]; omega]
      exact ih k a (by simpa using h) j u hu
theorem all_drop {α : Type} (p : α → Bool) (l : List α) (k : Nat) (x : α) (h : l[k]? = some x) : (l.drop k).all p = (p x && (l.drop (k + 1)).all p) := by
  rw [drop_cons h]; rfl
set_option maxHeartbeats 4000000 in
/-- match.Asks.Holds: each of them holds. -/
theorem asksHolds (l : List Aq) (va v : Value) (ps : List Pr) (w : World) (hr : Rd w 2 v ps.length (pairCells ps)) (ha : Rd w 3 va l.length (l.flatMap aqC)) (hok : ∀ a ∈ l, 1 ≤ a.2.1 ∧ a.2.1 ≤ 5 ∧ a.2.2.size ≤ maxLen) (hps : ∀ key, (getL ps key).1.size ≤ maxLen) :
    Calls Tryz.prog 47 #[va, v] w fun e w' => e = .returned (.bool (l.all (holdA ps))) ∧ Below w.heap.size w w' := by
  have KH := fun (a : Aq) w' (h : Below w.heap.size w w') (hm : a ∈ l) => askHolds a.1 a.2.1 a.2.2 v ps w' (hr.below h) (hok a hm).1 (hok a hm).2.1 (hok a hm).2.2 (hps _)
  obtain ⟨A, c, rfl, h1, h2, h3, h4⟩ := ha
  unfold maxLen at h3
  have HA := Lib.hid h4
  clear h4 hr hok hps h1
  go_enter Tryz.func47, Tryz.ntmps47
  go_wp2_with fail
  go_loopw [9] (fun i wr => ∃ k : Nat, k ≤ l.length ∧ i = .int .i64 k ∧ l.all (holdA ps) = (l.drop k).all (holdA ps) ∧ Below w.heap.size w wr) (fun i _ => l.length - (intOf i).toNat)
  case atStart => exact ⟨0, Nat.zero_le _, rfl, rfl, Below.refl _ _⟩
  case round =>
    obtain ⟨k, hk, rfl, hg, hb⟩ := hrel
    by_cases hlt : k < l.length
    · obtain ⟨b, o, rfl, hat⟩ := HA.out (by omega)
      obtain ⟨a, hp⟩ : ∃ a, l[k]? = some a := ⟨_, List.getElem?_eq_getElem hlt⟩
      have c0 := hat.nth hb (k*3) 0 _ (flatA aqC 3 aqC_len l k a hp 0 _ rfl)
      have c1 := hat.nth hb (k*3) 1 _ (flatA aqC 3 aqC_len l k a hp 1 _ rfl)
      have c2 := hat.nth hb (k*3) 2 _ (flatA aqC 3 aqC_len l k a hp 2 _ rfl)
      rw [Nat.add_zero] at c0
      rw [all_drop _ _ _ _ hp] at hg
      have hm := List.mem_of_getElem? hp
      have K := fun w' h => KH a w' h hm
      obtain ⟨t, ht⟩ : ∃ t, t = holdA ps a := ⟨_, rfl⟩
      rw [← ht] at hg
      have K2 : ∀ w', Below w.heap.size w w' → Calls Tryz.prog 65 #[.agg #[.string a.1, .int .u8 (a.2.1 : Nat), .string a.2.2], v] w' fun e w2 => e = .returned (.bool t) ∧ Below w'.heap.size w' w2 := fun w' h => by rw [ht]; exact K w' h
      clear hp hat hm K ht
      have U0 := (Upd.nil [] wr).alloc #[.string a.1, .int .u8 (a.2.1 : Nat), .string a.2.2] 68
      cases t with
      | false =>
        have E := Lib.hid hg
        clear hg
        go_wp2_with fail
        refine calls_genP fun w1 hw1 => ?_
        have U1 := U0.same hw1
        clear hw1
        (with_reducible refine (K2 _ (hb.trans (U1.below.mono hb.size))).mono ?_)
        rintro e w2 ⟨rfl, hb2⟩
        have U2 := U1.grow hb2
        go_wp2_with fail
        go_ret
        exact ⟨by rw [E.out]; rfl, hb.trans (U2.below.mono hb.size)⟩
      | true =>
        have E := Lib.hid (hg.trans (Bool.true_and _))
        clear hg
        go_wp2_with fail
        refine calls_genP fun w1 hw1 => ?_
        have U1 := U0.same hw1
        clear hw1
        (with_reducible refine (K2 _ (hb.trans (U1.below.mono hb.size))).mono ?_)
        rintro e w2 ⟨rfl, hb2⟩
        have U2 := U1.grow hb2
        go_wp2_with fail
        go_roundw
        case rel => exact ⟨k + 1, by omega, by go_num, E.out, hb.trans (U2.below.mono hb.size)⟩
        case measure => simp [intOf]; omega
    · obtain rfl : k = l.length := by omega
      rw [List.drop_length] at hg
      have E := Lib.hid hg
      clear hg
      go_wp2_with fail
      go_ret
      exact ⟨by rw [E.out]; rfl, hb⟩
end Go.Proofs.YteiocplfmjkbkaaGreatDoor
