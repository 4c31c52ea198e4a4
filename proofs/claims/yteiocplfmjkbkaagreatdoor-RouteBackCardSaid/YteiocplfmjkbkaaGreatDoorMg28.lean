/-
  cond.Number, cond.Signed: texts as numbers. Rules: cells; item.Own, the conditions' and the waits' Check, the reference's, and how a rule stands for the reference.
-/
import Derived.Test.YteiocplfmjkbkaaGreatDoorMg6
import Derived.Test.YteiocplfmjkbkaaGreatDoorSt
import Derived.RegionTactic
import Derived.BigRegion
import Derived.OwnWalk
import Derived.Lib.FieldsLaws
namespace Go.Proofs.YteiocplfmjkbkaaGreatDoor
open Go.RowKit
set_option maxRecDepth 100000

/-- A rule. -/
structure RuV where
  nm : ByteArray
  me : ByteArray
  iv : Value
  ips : List Pr
  k : Nat
  lim : Int
  tk : Nat
  fo : Nat
  ke : Nat
  pr : Nat
  wv : Value
  wps : List Pr
def RuV.cells (r : RuV) : List Value := [.string r.nm, .string r.me, r.iv, .int .u8 r.k, .int .i64 r.lim, .int .u64 r.tk, .int .u64 r.fo, .int .u64 r.ke, .int .u8 r.pr, r.wv]
structure RuV.ok (r : RuV) (w : World) : Prop where
  nm : r.nm.size ≤ maxLen
  me : r.me.size ≤ maxLen
  ir : Rd w 2 r.iv r.ips.length (pairCells r.ips)
  iz : ∀ p ∈ r.ips, p.1.size ≤ maxLen ∧ p.2.size ≤ maxLen
  wr : Rd w 2 r.wv r.wps.length (pairCells r.wps)
  wz : ∀ p ∈ r.wps, p.1.size ≤ maxLen ∧ p.2.size ≤ maxLen
  k : r.k < 256
  pr : r.pr < 256
theorem RuV.ok.below {r : RuV} {w w' : World} (h : r.ok w) (hb : Below w.heap.size w w') : r.ok w' := ⟨h.nm, h.me, h.ir.below hb, h.iz, h.wr.below hb, h.wz, h.k, h.pr⟩

end Go.Proofs.YteiocplfmjkbkaaGreatDoor
namespace Go.Proofs.YteiocplfmjkbkaaGreatDoor
open Go.RowKit
set_option maxRecDepth 100000

/-- Digits as a number, behind what stands ahead. -/
def digF (acc : Nat) : List UInt8 → Option Nat
  | [] => some acc
  | c :: r => if c.toNat < 48 ∨ 57 < c.toNat then none else digF (acc * 10 + (c.toNat - 48)) r
/-- A text as a number of base ten, without noughts ahead. -/
def numF (s : ByteArray) : Option Nat :=
  if s.size < 1 ∨ 19 < s.size ∨ (1 < s.size ∧ s.data.toList.getD 0 0 = 48) then none else digF 0 s.data.toList
def numN (s : ByteArray) : Nat := (numF s).getD 0
def numO (s : ByteArray) (most : Nat) : Bool := match numF s with | none => false | some n => decide (n ≤ most)
set_option maxHeartbeats 2000000 in
theorem condNumber (s : ByteArray) (most : Nat) (w : World) (hs : s.size ≤ maxLen) :
    Calls Tryz.prog 62 #[.string s, .int .u64 most] w fun e w' => e = .returned (.tuple #[.int .u64 (numN s), .bool (numO s most)]) ∧ w' = w := by
  unfold maxLen at hs
  by_cases h1 : s.size < 1
  · have d1 : decide ((s.size : Int) < 1) = true := by simp; omega
    have E := Lib.hid (show numF s = none by unfold numF; rw [if_pos (.inl h1)])
    have E1 : numN s = 0 := by unfold numN; rw [E.out]; rfl
    have E2 : numO s most = false := by unfold numO; rw [E.out]
    rw [E1, E2]
    clear E1 E2
    clear h1 E
    go_enter Tryz.func62, Tryz.ntmps62
    go_wp2_with fail
    go_ret2
    exact ⟨rfl, rfl⟩
  have d1 : decide ((s.size : Int) < 1) = false := by simp; omega
  by_cases h2 : 19 < s.size
  · have d2 : decide ((19 : Int) < (s.size : Int)) = true := by simp; omega
    have E := Lib.hid (show numF s = none by unfold numF; rw [if_pos (.inr (.inl h2))])
    have E1 : numN s = 0 := by unfold numN; rw [E.out]; rfl
    have E2 : numO s most = false := by unfold numO; rw [E.out]
    rw [E1, E2]
    clear E1 E2
    clear h1 h2 E
    go_enter Tryz.func62, Tryz.ntmps62
    go_wp2_with fail
    go_ret2
    exact ⟨rfl, rfl⟩
  have d2 : decide ((19 : Int) < (s.size : Int)) = false := by simp; omega
  have hl : s.data.toList.length = s.size := (Lib.size_eq s).symm
  obtain ⟨c0, hc0⟩ : ∃ c : UInt8, s[0]'(by omega) = c := ⟨_, rfl⟩
  have hd0 : s.data.toList.getD 0 0 = c0 := by
    have := Lib.data_getElem? s 0 (by omega)
    rw [List.getD_eq_getElem?_getD, this, hc0]; rfl
  have i0 : (0 : Int) < (s.size : Int) := by omega
  by_cases h3 : 1 < s.size ∧ c0 = 48
  · obtain ⟨h3, rfl⟩ := h3
    have d3 : decide ((1 : Int) < (s.size : Int)) = true := by simp; omega
    have E := Lib.hid (show numF s = none by unfold numF; rw [if_pos (.inr (.inr ⟨h3, hd0⟩))])
    have E1 : numN s = 0 := by unfold numN; rw [E.out]; rfl
    have E2 : numO s most = false := by unfold numO; rw [E.out]
    rw [E1, E2]
    clear E1 E2
    clear E hd0
    go_enter Tryz.func62, Tryz.ntmps62
    go_wp2_with fail
    go_ret2
    exact ⟨rfl, rfl⟩
  have E := Lib.hid (show numF s = digF 0 s.data.toList by unfold numF; rw [if_neg (by rw [hd0]; rintro (h | h | h); exact h1 h; exact h2 h; exact h3 h)])
  have key : ∀ (Q : Prop), (decide ((1 : Int) < (s.size : Int)) = false → Q) → (decide ((1 : Int) < (s.size : Int)) = true → ((c0.toNat : Int) == 48) = false → Q) → Q := by
    intro Q q1 q2
    by_cases h4 : 1 < s.size
    · refine q2 (by simp; omega) ?_
      have h5 : c0 ≠ 48 := fun h => h3 ⟨h4, h⟩
      have h6 : c0.toNat ≠ 48 := fun h => h5 (by rw [← UInt8.toNat_inj]; exact h)
      simp; omega
    · exact q1 (by simp; omega)
  clear h3 hd0
  have main : ∀ (K : Prop), K → K := fun _ h => h
  refine key _ (fun d3 => ?_) (fun d3 d4 => ?_)
  all_goals
    clear key main
    go_enter Tryz.func62, Tryz.ntmps62
    go_wp2_with fail
    go_loopw [6, 28] (fun a i wr => ∃ (k n : Nat), k ≤ s.size ∧ i = .int .i64 k ∧ a = .int .u64 n ∧ n < 10 ^ k ∧ wr = w ∧ digF 0 s.data.toList = digF n (s.data.toList.drop k)) (fun _ i _ => s.size - (intOf i).toNat)
    case atStart => exact ⟨0, 0, Nat.zero_le _, rfl, rfl, by decide, rfl, rfl⟩
    case round =>
      obtain ⟨k, n, hk, rfl, rfl, hn, rfl, hD⟩ := hrel
      by_cases hlt : k < s.size
      · obtain ⟨x, hx⟩ : ∃ x : UInt8, s[k]'hlt = x := ⟨_, rfl⟩
        have hd : s.data.toList.drop k = x :: s.data.toList.drop (k + 1) := by
          have e1 := Lib.data_getElem? s k hlt
          rw [hx] at e1
          have hlt' : k < s.data.toList.length := by omega
          rw [List.drop_eq_getElem_cons hlt']
          congr 1 <;> exact (List.getElem?_eq_some_iff.1 e1).2
        rw [hd] at hD
        have i1 : (k : Int) < (s.size : Int) := by omega
        have hp : n < 10 ^ 18 := Nat.lt_of_lt_of_le hn (Nat.pow_le_pow_right (by decide) (by omega))
        have hp' : n < 1000000000000000000 := hp
        have hx8 : x.toNat < 256 := x.toNat_lt
        by_cases b1 : x.toNat < 48
        · have e1 : decide ((x.toNat : Int) < 48) = true := by simp; omega
          have E2 := Lib.hid (show numF s = none by rw [E.out, hD]; unfold digF; rw [if_pos (.inl b1)])
          have E3 : numN s = 0 := by unfold numN; rw [E2.out]; rfl
          have E4 : numO s most = false := by unfold numO; rw [E2.out]
          have E5 := Lib.hid (And.intro E3 E4)
          clear E3 E4 hD hd
          go_wp2_with fail
          go_ret2
          exact ⟨by rw [E5.out.1, E5.out.2]; rfl, rfl⟩
        have e1 : decide ((x.toNat : Int) < 48) = false := by simp; omega
        by_cases b2 : 57 < x.toNat
        · have e2 : decide ((57 : Int) < (x.toNat : Int)) = true := by simp; omega
          have E2 := Lib.hid (show numF s = none by rw [E.out, hD]; unfold digF; rw [if_pos (.inr b2)])
          have E3 : numN s = 0 := by unfold numN; rw [E2.out]; rfl
          have E4 : numO s most = false := by unfold numO; rw [E2.out]
          have E5 := Lib.hid (And.intro E3 E4)
          clear E3 E4 hD hd
          go_wp2_with fail
          go_ret2
          exact ⟨by rw [E5.out.1, E5.out.2]; rfl, rfl⟩
        have e2 : decide ((57 : Int) < (x.toNat : Int)) = false := by simp; omega
        have hD2 := Lib.hid (show digF 0 s.data.toList = digF (n * 10 + (x.toNat - 48)) (s.data.toList.drop (k + 1)) by rw [hD]; conv => lhs; unfold digF; rw [if_neg (by omega)])
        have w1 : IntKind.u64.wrap ((n : Int) * 10) = ((n * 10 : Nat) : Int) := by rw [IntKind.wrap_u64]; omega
        have w2 : IntKind.u8.wrap ((x.toNat : Int) - 48) = ((x.toNat - 48 : Nat) : Int) := by simp only [IntKind.wrap, IntKind.bits, IntKind.signed]; simp; omega
        have w3 : IntKind.u64.wrap ((x.toNat - 48 : Nat) : Int) = ((x.toNat - 48 : Nat) : Int) := by rw [IntKind.wrap_u64]; omega
        have w4 : IntKind.u64.wrap ((n : Int) * 10 + ((x.toNat - 48 : Nat) : Int)) = ((n * 10 + (x.toNat - 48) : Nat) : Int) := by rw [IntKind.wrap_u64]; omega
        have hn2 := Lib.hid (show n * 10 + (x.toNat - 48) < 10 ^ (k + 1) by rw [Nat.pow_succ]; omega)
        clear hD hd hn hp hp'
        go_wp2_with fail
        go_roundw
        case rel => exact ⟨k + 1, n * 10 + (x.toNat - 48), by omega, by go_num, by first | rfl | rw [w4], hn2.out, by first | rfl | trivial, hD2.out⟩
        case measure => simp [intOf]; omega
      · obtain rfl : k = s.size := by omega
        rw [← hl, List.drop_length] at hD
        have E2 := Lib.hid (show numF s = some n by rw [E.out, hD]; rfl)
        have E3 : numN s = n := by unfold numN; rw [E2.out]; rfl
        have E4 : numO s most = decide (n ≤ most) := by unfold numO; rw [E2.out]
        have E5 := Lib.hid (And.intro E3 E4)
        clear E3 E4 hD hn
        go_wp2_with fail
        go_ret2
        exact ⟨by rw [E5.out.1, E5.out.2]; rfl, rfl⟩

theorem condNumberI (s : ByteArray) (most : Nat) (m : Int) (hm : m = (most : Int)) (w : World) (hs : s.size ≤ maxLen) :
    Calls Tryz.prog 62 #[.string s, .int .u64 m] w fun e w' => e = .returned (.tuple #[.int .u64 (numN s), .bool (numO s most)]) ∧ w' = w := by
  subst hm
  exact condNumber s most w hs
end Go.Proofs.YteiocplfmjkbkaaGreatDoor
