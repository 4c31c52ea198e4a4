/-
  cond.Number, cond.Signed: texts as numbers.
-/
import Derived.Test.YtgpojkofegajeaaGreatDoorRuA
import Derived.Lib.FieldsLaws
namespace Go.Proofs.YtgpojkofegajeaaGreatDoor
open Go.RowKit
set_option maxRecDepth 100000

/-- Digits as a number, behind what stands ahead. -/
def digF (acc : Nat) : List UInt8 → Option Nat
  | [] => some acc
  | c :: r => if c.toNat < 48 ∨ 57 < c.toNat then none else digF (acc * 10 + (c.toNat - 48)) r
/-- A text as a number of base ten, without noughts ahead. -/
def numF (s : ByteArray) : Option Nat :=
  if s.size < 1 ∨ 19 < s.size ∨ (1 < s.size ∧ s.data.toList.getD 0 0 = 48) then none else digF 0 s.data.toList
def numN (s : ByteArray) : Nat := (numF s).getD 0
def numO (s : ByteArray) (most : Nat) : Bool := match numF s with | none => false | some n => decide (n ≤ most)
theorem digF_lt : ∀ (l : List UInt8) (acc k n : Nat), acc < 10 ^ k → digF acc l = some n → n < 10 ^ (k + l.length) := by
  intro l
  induction l with
  | nil => intro acc k n h1 h2; simp only [digF, Option.some.injEq] at h2; subst h2; simpa using h1
  | cons c r ih =>
    intro acc k n h1 h2
    unfold digF at h2
    split at h2
    · cases h2
    · rename_i hc
      have := ih _ (k + 1) n (by rw [Nat.pow_succ]; omega) h2
      rw [show k + (c :: r).length = k + 1 + r.length by simp; omega]
      exact this
theorem numF_lt {s : ByteArray} {n : Nat} (h : numF s = some n) : n < 10000000000000000000 := by
  unfold numF at h
  split at h
  · cases h
  · rename_i hc
    have h1 := digF_lt _ 0 0 n (by decide) h
    have h2 : (0 + s.data.toList.length) ≤ 19 := by rw [Nat.zero_add, ← Lib.size_eq]; omega
    have h3 : (10 : Nat) ^ (0 + s.data.toList.length) ≤ 10 ^ 19 := Nat.pow_le_pow_right (by decide) h2
    have h4 : (10 : Nat) ^ 19 = 10000000000000000000 := by decide
    omega
theorem numN_lt (s : ByteArray) : numN s < 10000000000000000000 := by
  unfold numN
  cases h : numF s with
  | none => decide
  | some n => exact numF_lt h
set_option maxHeartbeats 2000000 in
theorem condNumber (s : ByteArray) (most : Nat) (w : World) (hs : s.size ≤ maxLen) :
    Calls Tryz.prog 94 #[.string s, .int .u64 most] w fun e w' => e = .returned (.tuple #[.int .u64 (numN s), .bool (numO s most)]) ∧ w' = w := by
  unfold maxLen at hs
  by_cases h1 : s.size < 1
  · have d1 : decide ((s.size : Int) < 1) = true := by simp; omega
    have E := Lib.hid (show numF s = none by unfold numF; rw [if_pos (.inl h1)])
    have E1 : numN s = 0 := by unfold numN; rw [E.out]; rfl
    have E2 : numO s most = false := by unfold numO; rw [E.out]
    rw [E1, E2]
    clear E1 E2
    clear h1 E
    go_enter Tryz.func94, Tryz.ntmps94
    go_wp2_with fail
    go_ret2
    exact ⟨rfl, rfl⟩
  have d1 : decide ((s.size : Int) < 1) = false := by simp; omega
  by_cases h2 : 19 < s.size
  · have d2 : decide ((19 : Int) < (s.size : Int)) = true := by simp; omega
    have E := Lib.hid (show numF s = none by unfold numF; rw [if_pos (.inr (.inl h2))])
    have E1 : numN s = 0 := by unfold numN; rw [E.out]; rfl
    have E2 : numO s most = false := by unfold numO; rw [E.out]
    rw [E1, E2]
    clear E1 E2
    clear h1 h2 E
    go_enter Tryz.func94, Tryz.ntmps94
    go_wp2_with fail
    go_ret2
    exact ⟨rfl, rfl⟩
  have d2 : decide ((19 : Int) < (s.size : Int)) = false := by simp; omega
  have hl : s.data.toList.length = s.size := (Lib.size_eq s).symm
  obtain ⟨c0, hc0⟩ : ∃ c : UInt8, s[0]'(by omega) = c := ⟨_, rfl⟩
  have hd0 : s.data.toList.getD 0 0 = c0 := by
    have := Lib.data_getElem? s 0 (by omega)
    rw [List.getD_eq_getElem?_getD, this, hc0]; rfl
  have i0 : (0 : Int) < (s.size : Int) := by omega
  by_cases h3 : 1 < s.size ∧ c0 = 48
  · obtain ⟨h3, rfl⟩ := h3
    have d3 : decide ((1 : Int) < (s.size : Int)) = true := by simp; omega
    have E := Lib.hid (show numF s = none by unfold numF; rw [if_pos (.inr (.inr ⟨h3, hd0⟩))])
    have E1 : numN s = 0 := by unfold numN; rw [E.out]; rfl
    have E2 : numO s most = false := by unfold numO; rw [E.out]
    rw [E1, E2]
    clear E1 E2
    clear E hd0
    go_enter Tryz.func94, Tryz.ntmps94
    go_wp2_with fail
    go_ret2
    exact ⟨rfl, rfl⟩
  have E := Lib.hid (show numF s = digF 0 s.data.toList by unfold numF; rw [if_neg (by rw [hd0]; rintro (h | h | h); exact h1 h; exact h2 h; exact h3 h)])
  have key : ∀ (Q : Prop), (decide ((1 : Int) < (s.size : Int)) = false → Q) → (decide ((1 : Int) < (s.size : Int)) = true → ((c0.toNat : Int) == 48) = false → Q) → Q := by
    intro Q q1 q2
    by_cases h4 : 1 < s.size
    · refine q2 (by simp; omega) ?_
      have h5 : c0 ≠ 48 := fun h => h3 ⟨h4, h⟩
      have h6 : c0.toNat ≠ 48 := fun h => h5 (by rw [← UInt8.toNat_inj]; exact h)
      simp; omega
    · exact q1 (by simp; omega)
  clear h3 hd0
  have main : ∀ (K : Prop), K → K := fun _ h => h
  refine key _ (fun d3 => ?_) (fun d3 d4 => ?_)
  all_goals
    clear key main
    go_enter Tryz.func94, Tryz.ntmps94
    go_wp2_with fail
    go_loopw [6, 28] (fun a i wr => ∃ (k n : Nat), k ≤ s.size ∧ i = .int .i64 k ∧ a = .int .u64 n ∧ n < 10 ^ k ∧ wr = w ∧ digF 0 s.data.toList = digF n (s.data.toList.drop k)) (fun _ i _ => s.size - (intOf i).toNat)
    case atStart => exact ⟨0, 0, Nat.zero_le _, rfl, rfl, by decide, rfl, rfl⟩
    case round =>
      obtain ⟨k, n, hk, rfl, rfl, hn, rfl, hD⟩ := hrel
      by_cases hlt : k < s.size
      · obtain ⟨x, hx⟩ : ∃ x : UInt8, s[k]'hlt = x := ⟨_, rfl⟩
        have hd : s.data.toList.drop k = x :: s.data.toList.drop (k + 1) := by
          have e1 := Lib.data_getElem? s k hlt
          rw [hx] at e1
          have hlt' : k < s.data.toList.length := by omega
          rw [List.drop_eq_getElem_cons hlt']
          congr 1 <;> exact (List.getElem?_eq_some_iff.1 e1).2
        rw [hd] at hD
        have i1 : (k : Int) < (s.size : Int) := by omega
        have hp : n < 10 ^ 18 := Nat.lt_of_lt_of_le hn (Nat.pow_le_pow_right (by decide) (by omega))
        have hp' : n < 1000000000000000000 := hp
        have hx8 : x.toNat < 256 := x.toNat_lt
        by_cases b1 : x.toNat < 48
        · have e1 : decide ((x.toNat : Int) < 48) = true := by simp; omega
          have E2 := Lib.hid (show numF s = none by rw [E.out, hD]; unfold digF; rw [if_pos (.inl b1)])
          have E3 : numN s = 0 := by unfold numN; rw [E2.out]; rfl
          have E4 : numO s most = false := by unfold numO; rw [E2.out]
          have E5 := Lib.hid (And.intro E3 E4)
          clear E3 E4 hD hd
          go_wp2_with fail
          go_ret2
          exact ⟨by rw [E5.out.1, E5.out.2]; rfl, rfl⟩
        have e1 : decide ((x.toNat : Int) < 48) = false := by simp; omega
        by_cases b2 : 57 < x.toNat
        · have e2 : decide ((57 : Int) < (x.toNat : Int)) = true := by simp; omega
          have E2 := Lib.hid (show numF s = none by rw [E.out, hD]; unfold digF; rw [if_pos (.inr b2)])
          have E3 : numN s = 0 := by unfold numN; rw [E2.out]; rfl
          have E4 : numO s most = false := by unfold numO; rw [E2.out]
          have E5 := Lib.hid (And.intro E3 E4)
          clear E3 E4 hD hd
          go_wp2_with fail
          go_ret2
          exact ⟨by rw [E5.out.1, E5.out.2]; rfl, rfl⟩
        have e2 : decide ((57 : Int) < (x.toNat : Int)) = false := by simp; omega
        have hD2 := Lib.hid (show digF 0 s.data.toList = digF (n * 10 + (x.toNat - 48)) (s.data.toList.drop (k + 1)) by rw [hD]; conv => lhs; unfold digF; rw [if_neg (by omega)])
        have w1 : IntKind.u64.wrap ((n : Int) * 10) = ((n * 10 : Nat) : Int) := by rw [IntKind.wrap_u64]; omega
        have w2 : IntKind.u8.wrap ((x.toNat : Int) - 48) = ((x.toNat - 48 : Nat) : Int) := by simp only [IntKind.wrap, IntKind.bits, IntKind.signed]; simp; omega
        have w3 : IntKind.u64.wrap ((x.toNat - 48 : Nat) : Int) = ((x.toNat - 48 : Nat) : Int) := by rw [IntKind.wrap_u64]; omega
        have w4 : IntKind.u64.wrap ((n : Int) * 10 + ((x.toNat - 48 : Nat) : Int)) = ((n * 10 + (x.toNat - 48) : Nat) : Int) := by rw [IntKind.wrap_u64]; omega
        have hn2 := Lib.hid (show n * 10 + (x.toNat - 48) < 10 ^ (k + 1) by rw [Nat.pow_succ]; omega)
        clear hD hd hn hp hp'
        go_wp2_with fail
        go_roundw
        case rel => exact ⟨k + 1, n * 10 + (x.toNat - 48), by omega, by go_num, by first | rfl | rw [w4], hn2.out, by first | rfl | trivial, hD2.out⟩
        case measure => simp [intOf]; omega
      · obtain rfl : k = s.size := by omega
        rw [← hl, List.drop_length] at hD
        have E2 := Lib.hid (show numF s = some n by rw [E.out, hD]; rfl)
        have E3 : numN s = n := by unfold numN; rw [E2.out]; rfl
        have E4 : numO s most = decide (n ≤ most) := by unfold numO; rw [E2.out]
        have E5 := Lib.hid (And.intro E3 E4)
        clear E3 E4 hD hn
        go_wp2_with fail
        go_ret2
        exact ⟨by rw [E5.out.1, E5.out.2]; rfl, rfl⟩

def minB (s : ByteArray) : Bool := decide (1 ≤ s.size) && ((s.extract 0 1).toList == [45])
def sgnV (s : ByteArray) : Int := if minB s = true then (if numN (s.extract 1 s.size) < 1 ∨ numO (s.extract 1 s.size) 9223372036854775808 = false then 0 else -(numN (s.extract 1 s.size) : Int)) else wrap64 (numN s : Int)
def sgnO (s : ByteArray) : Bool := if minB s = true then (if numN (s.extract 1 s.size) < 1 ∨ numO (s.extract 1 s.size) 9223372036854775808 = false then false else true) else numO s 9223372036854775807
theorem hasMin (s : ByteArray) (w : World) (hs : s.size ≤ maxLen) : Calls Tryz.prog 120 #[.string s, .string ⟨#[45]⟩] w fun e w' => e = .returned (.bool (minB s)) ∧ w' = w := by
  unfold maxLen at hs
  by_cases h : 1 ≤ s.size
  · have d0 : decide ((1 : Int) ≤ (s.size : Int)) = true := by simp; omega
    have E := Lib.hid (show minB s = ((s.extract 0 1).toList == [45]) by unfold minB; rw [decide_eq_true h]; rfl)
    go_enter Tryz.func120, Tryz.ntmps120
    go_wp2_with fail
    go_ret
    exact ⟨by rw [E.out]; rfl, rfl⟩
  · have d0 : decide ((1 : Int) ≤ (s.size : Int)) = false := by simp; omega
    rw [show minB s = false by unfold minB; rw [decide_eq_false h]; rfl]
    clear h
    go_enter Tryz.func120, Tryz.ntmps120
    go_wp2_with fail
    go_ret
    exact ⟨rfl, rfl⟩
theorem minB_size {s : ByteArray} (h : minB s = true) : 1 ≤ s.size := by
  unfold minB at h
  simp only [Bool.and_eq_true, decide_eq_true_eq] at h
  exact h.1
theorem cutMin (s : ByteArray) (w : World) (hs : s.size ≤ maxLen) : Calls Tryz.prog 140 #[.string s, .string ⟨#[45]⟩] w fun e w' => e = .returned (.tuple #[.string (if minB s = true then s.extract 1 s.size else s), .bool (minB s)]) ∧ w' = w := by
  have K := fun w' => hasMin s w' hs
  unfold maxLen at hs
  cases hm : minB s with
  | true =>
    have h1 := minB_size hm
    rw [hm] at K
    rw [if_pos rfl]
    have d0 : (1 : Int) ≤ (s.size : Int) := by omega
    clear hm
    go_enter Tryz.func140, Tryz.ntmps140
    go_wp2_with fail
    (with_reducible refine (K _).mono ?_)
    rintro e w1 ⟨rfl, rfl⟩
    go_wp2_with fail
    go_ret2
    exact ⟨rfl, rfl⟩
  | false =>
    rw [hm] at K
    rw [if_neg (by decide)]
    clear hm
    go_enter Tryz.func140, Tryz.ntmps140
    go_wp2_with fail
    (with_reducible refine (K _).mono ?_)
    rintro e w1 ⟨rfl, rfl⟩
    go_wp2_with fail
    go_ret2
    exact ⟨rfl, rfl⟩
theorem cutMin2 (s : ByteArray) (w : World) (hs : s.size ≤ maxLen) : Calls Tryz.prog 130 #[.string s, .string ⟨#[45]⟩] w fun e w' => e = .returned (.tuple #[.string (if minB s = true then s.extract 1 s.size else s), .bool (minB s)]) ∧ w' = w := by
  have K := fun w' => cutMin s w' hs
  obtain ⟨r, hr⟩ : ∃ r, r = (if minB s = true then s.extract 1 s.size else s) := ⟨_, rfl⟩
  obtain ⟨b, hb⟩ : ∃ b, b = minB s := ⟨_, rfl⟩
  rw [← hr, ← hb] at K ⊢
  clear hr hb
  go_enter Tryz.func130, Tryz.ntmps130
  go_wp2_with fail
  (with_reducible refine (K _).mono ?_)
  rintro e w1 ⟨rfl, rfl⟩
  go_wp2_with fail
  go_ret2
  exact ⟨rfl, rfl⟩
theorem condNumberI (s : ByteArray) (most : Nat) (m : Int) (hm : m = (most : Int)) (w : World) (hs : s.size ≤ maxLen) :
    Calls Tryz.prog 94 #[.string s, .int .u64 m] w fun e w' => e = .returned (.tuple #[.int .u64 (numN s), .bool (numO s most)]) ∧ w' = w := by
  subst hm
  exact condNumber s most w hs
set_option maxHeartbeats 2000000 in
theorem condSigned (s : ByteArray) (w : World) (hs : s.size ≤ maxLen) : Calls Tryz.prog 119 #[.string s] w fun e w' => e = .returned (.tuple #[.int .i64 (sgnV s), .bool (sgnO s)]) ∧ w' = w := by
  have K := fun w' => cutMin2 s w' hs
  unfold sgnV sgnO
  have hv : minB s = true → (s.extract 1 s.size).size ≤ maxLen := fun h => by rw [ByteArray.size_extract]; omega
  cases hm : minB s with
  | true =>
    rw [hm, if_pos rfl] at K
    rw [if_pos rfl, if_pos rfl]
    have N := fun w' => condNumberI (s.extract 1 s.size) 9223372036854775808 9223372036854775808 rfl w' (hv hm)
    have hlt := numN_lt (s.extract 1 s.size)
    have hle : numO (s.extract 1 s.size) 9223372036854775808 = true → numN (s.extract 1 s.size) ≤ 9223372036854775808 := fun h => by
      unfold numO numN at *
      cases h2 : numF (s.extract 1 s.size) with
      | none => simp
      | some n => rw [h2] at h; simpa using h
    obtain ⟨n, hn⟩ : ∃ n, n = numN (s.extract 1 s.size) := ⟨_, rfl⟩
    obtain ⟨b, hb⟩ : ∃ b, b = numO (s.extract 1 s.size) 9223372036854775808 := ⟨_, rfl⟩
    rw [← hn, ← hb] at N hle ⊢
    rw [← hn] at hlt
    clear hn hb hm hv
    by_cases n1 : n < 1
    · obtain rfl : n = 0 := by omega
      rw [if_pos (.inl n1), if_pos (.inl n1)]
      clear n1 hlt hle
      go_enter Tryz.func119, Tryz.ntmps119
      go_wp2_with fail
      (with_reducible refine (K _).mono ?_)
      rintro e w1 ⟨rfl, rfl⟩
      go_wp2_with fail
      (with_reducible refine (N _).mono ?_)
      rintro e w1 ⟨rfl, rfl⟩
      go_wp2_with fail
      go_ret2
      exact ⟨rfl, rfl⟩
    have d0 : decide ((n : Int) < 1) = false := by simp; omega
    cases b with
    | false =>
      rw [if_pos (.inr rfl), if_pos (.inr rfl)]
      clear n1 hlt hle
      go_enter Tryz.func119, Tryz.ntmps119
      go_wp2_with fail
      (with_reducible refine (K _).mono ?_)
      rintro e w1 ⟨rfl, rfl⟩
      go_wp2_with fail
      (with_reducible refine (N _).mono ?_)
      rintro e w1 ⟨rfl, rfl⟩
      go_wp2_with fail
      go_ret2
      exact ⟨rfl, rfl⟩
    | true =>
      have hn9 := hle rfl
      rw [if_neg (by simp; omega), if_neg (by simp; omega)]
      have w1 : IntKind.u64.wrap ((n : Int) - 1) = ((n - 1 : Nat) : Int) := by rw [IntKind.wrap_u64]; omega
      have w2 : IntKind.i64.wrap ((n - 1 : Nat) : Int) = ((n - 1 : Nat) : Int) := by simp only [IntKind.wrap, IntKind.bits, IntKind.signed]; simp; omega
      have w3 : IntKind.i64.wrap (-((n - 1 : Nat) : Int)) = -((n - 1 : Nat) : Int) := by simp only [IntKind.wrap, IntKind.bits, IntKind.signed]; simp; omega
      have w4 : IntKind.i64.wrap (-((n - 1 : Nat) : Int) - 1) = -(n : Int) := by simp only [IntKind.wrap, IntKind.bits, IntKind.signed]; simp; omega
      clear n1 hlt hle hn9
      go_enter Tryz.func119, Tryz.ntmps119
      go_wp2_with fail
      (with_reducible refine (K _).mono ?_)
      rintro e w1 ⟨rfl, rfl⟩
      go_wp2_with fail
      (with_reducible refine (N _).mono ?_)
      rintro e w1 ⟨rfl, rfl⟩
      go_wp2_with fail
      go_ret2
      exact ⟨rfl, rfl⟩
  | false =>
    rw [hm, if_neg (by decide)] at K
    rw [if_neg (by decide), if_neg (by decide)]
    have N := fun w' => condNumberI s 9223372036854775807 9223372036854775807 rfl w' hs
    clear hm hv
    go_enter Tryz.func119, Tryz.ntmps119
    go_wp2_with fail
    (with_reducible refine (K _).mono ?_)
    rintro e w1 ⟨rfl, rfl⟩
    go_wp2_with fail
    (with_reducible refine (N _).mono ?_)
    rintro e w1 ⟨rfl, rfl⟩
    go_wp2_with fail
    go_ret2
    exact ⟨rfl, rfl⟩
end Go.Proofs.YtgpojkofegajeaaGreatDoor
