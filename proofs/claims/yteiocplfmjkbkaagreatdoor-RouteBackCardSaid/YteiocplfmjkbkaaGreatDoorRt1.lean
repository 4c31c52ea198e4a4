/-
  Questions asked of labels: their checks (match), and how a text says them.
-/
import Derived.Test.YteiocplfmjkbkaaGreatDoorMg6
import Derived.Test.YteiocplfmjkbkaaGreatDoorSt2
import Derived.Test.YteiocplfmjkbkaaGreatDoorFreeS
import Derived.RegionTactic
import Derived.BigRegion
import Derived.OwnWalk
namespace Go.Proofs.YteiocplfmjkbkaaGreatDoor
open Go.RowKit
set_option maxRecDepth 100000

/-- A question: key, way, value. -/
abbrev Aq := ByteArray × Nat × ByteArray
def aqC (a : Aq) : List Value := [.string a.1, .int .u8 (a.2.1 : Nat), .string a.2.2]
theorem aqC_len (a : Aq) : (aqC a).length = 3 := rfl
theorem ba_inj0 {x : ByteArray} (h : x.size = 0) : x = ⟨#[]⟩ := by
  cases x with
  | mk d => have : d = #[] := Array.eq_empty_of_size_eq_zero h; subst this; rfl
/-- What is wrong with a question. -/
def chkG (b1 b2 : Bool) (op : Nat) (x : ByteArray) : Nat :=
  if b1 = false then 8 else if op < 1 ∨ 5 < op then 12 else if (4 ≤ op ∧ x.size ≠ 0) ∨ (op < 4 ∧ b2 = false) then 27 else 0
def chkA (a : Aq) : Nat := chkG (wordB a.1 8 false) (wordB a.2.2 16 true) a.2.1 a.2.2
set_option maxHeartbeats 4000000 in
theorem askChk (key : ByteArray) (op : Nat) (x : ByteArray) (w : World) (hk : key.size ≤ maxLen) (hx : x.size ≤ maxLen) (hop : op < 256) :
    Calls Tryz.prog 63 #[.agg #[.string key, .int .u8 op, .string x]] w fun e w' => e = .returned (.int .i64 (chkA (key, op, x) : Nat)) ∧ Below w.heap.size w w' := by
  have U0 := (Upd.nil [] w).alloc #[.string key, .int .u8 op, .string x] 68
  have KK := fun w' => lKey key w' hk
  have KV := fun w' => lValue x w' hx
  have HD : chkA (key, op, x) = chkG (wordB key 8 false) (wordB x 16 true) op x := rfl
  rw [HD]
  obtain ⟨b1, hb1⟩ : ∃ b, b = wordB key 8 false := ⟨_, rfl⟩
  obtain ⟨b2, hb2⟩ : ∃ b, b = wordB x 16 true := ⟨_, rfl⟩
  rw [← hb1, ← hb2]
  rw [← hb1] at KK
  rw [← hb2] at KV
  clear hb1 hb2 HD hk hx
  cases b1 with
  | false =>
    go_enter Tryz.func63, Tryz.ntmps63
    go_wp2_with fail
    refine calls_genP fun w1 hw1 => ?_
    have U1 := U0.same hw1
    clear hw1
    (with_reducible refine (KK _).mono ?_)
    rintro e w2 ⟨rfl, hb⟩
    have U2 := U1.grow hb
    go_wp2_with fail
    go_ret
    exact ⟨rfl, U2.below⟩
  | true =>
    by_cases hr : op < 1 ∨ 5 < op
    · have E := Lib.hid (show chkG true b2 op x = 12 by unfold chkG; rw [if_neg (by simp), if_pos hr])
      have key2 : ∀ Q : Prop, (op < 1 → Q) → (¬ op < 1 → 5 < op → Q) → Q := fun Q a b => by
        by_cases h : op < 1
        · exact a h
        · exact b h (by omega)
      refine key2 _ (fun h1 => ?_) (fun h1 h5 => ?_)
      · have d1 : decide ((op : Int) < 1) = true := decide_eq_true (by omega)
        clear key2 hr h1
        go_enter Tryz.func63, Tryz.ntmps63
        go_wp2_with fail
        refine calls_genP fun w1 hw1 => ?_
        have U1 := U0.same hw1
        clear hw1
        (with_reducible refine (KK _).mono ?_)
        rintro e w2 ⟨rfl, hb⟩
        have U2 := U1.grow hb
        have c1 := (U2.blk 0 rfl).cell (j := 1) (v := .int .u8 op) rfl
        go_wp2_with fail
        go_ret
        exact ⟨by rw [E.out]; rfl, U2.below⟩
      · have d1 : decide ((op : Int) < 1) = false := decide_eq_false (by omega)
        have d2 : decide ((5 : Int) < (op : Int)) = true := decide_eq_true (by omega)
        clear key2 hr
        go_enter Tryz.func63, Tryz.ntmps63
        go_wp2_with fail
        refine calls_genP fun w1 hw1 => ?_
        have U1 := U0.same hw1
        clear hw1
        (with_reducible refine (KK _).mono ?_)
        rintro e w2 ⟨rfl, hb⟩
        have U2 := U1.grow hb
        have c1 := (U2.blk 0 rfl).cell (j := 1) (v := .int .u8 op) rfl
        go_wp2_with fail
        go_ret
        exact ⟨by rw [E.out]; rfl, U2.below⟩
    have d1 : decide ((op : Int) < 1) = false := decide_eq_false (by omega)
    have d2 : decide ((5 : Int) < (op : Int)) = false := decide_eq_false (by omega)
    have HE : chkG true b2 op x = if (4 ≤ op ∧ x.size ≠ 0) ∨ (op < 4 ∧ b2 = false) then 27 else 0 := by unfold chkG; rw [if_neg (by simp), if_neg hr]
    by_cases h4 : 4 ≤ op
    · have d4 : decide ((4 : Int) ≤ (op : Int)) = true := decide_eq_true (by omega)
      have d5 : decide ((op : Int) < 4) = false := decide_eq_false (by omega)
      by_cases hz : x.size = 0
      · have hx0 : x = ⟨#[]⟩ := ba_inj0 hz
        have E := Lib.hid (show chkG true b2 op x = 0 by rw [HE, if_neg (by omega)])
        subst hx0
        clear HE hz hr
        go_enter Tryz.func63, Tryz.ntmps63
        go_wp2_with fail
        refine calls_genP fun w1 hw1 => ?_
        have U1 := U0.same hw1
        clear hw1
        (with_reducible refine (KK _).mono ?_)
        rintro e w2 ⟨rfl, hb⟩
        have U2 := U1.grow hb
        have c1 := (U2.blk 0 rfl).cell (j := 1) (v := .int .u8 op) rfl
        have c2 := (U2.blk 0 rfl).cell (j := 2) (v := .string ⟨#[]⟩) rfl
        go_wp2_with fail
        go_ret
        exact ⟨by rw [E.out]; rfl, U2.below⟩
      · have E := Lib.hid (show chkG true b2 op x = 27 by rw [HE, if_pos (.inl ⟨h4, hz⟩)])
        have e0 : (x == ⟨#[]⟩) = false := by rw [beqS]; exact decide_eq_false (fun h => hz (by rw [h]; rfl))
        have e1 : (x.toList == (⟨#[]⟩ : ByteArray).toList) = false := by rw [eqS_eq]; exact decide_eq_false (fun h => hz (by rw [h]; rfl))
        have e2 : (x.toList == []) = false := by rw [show (⟨#[]⟩ : ByteArray).toList = [] by decide +kernel] at e1; exact e1
        clear HE hr
        go_enter Tryz.func63, Tryz.ntmps63
        go_wp2_with fail
        refine calls_genP fun w1 hw1 => ?_
        have U1 := U0.same hw1
        clear hw1
        (with_reducible refine (KK _).mono ?_)
        rintro e w2 ⟨rfl, hb⟩
        have U2 := U1.grow hb
        have c1 := (U2.blk 0 rfl).cell (j := 1) (v := .int .u8 op) rfl
        have c2 := (U2.blk 0 rfl).cell (j := 2) (v := .string x) rfl
        go_wp2_with fail
        go_ret
        exact ⟨by rw [E.out]; rfl, U2.below⟩
    · have d4 : decide ((4 : Int) ≤ (op : Int)) = false := decide_eq_false (by omega)
      have d5 : decide ((op : Int) < 4) = true := decide_eq_true (by omega)
      have E := Lib.hid (show chkG true b2 op x = if b2 = false then 27 else 0 by
        rw [HE]
        cases b2
        · rw [if_pos (.inr ⟨by omega, rfl⟩), if_pos rfl]
        · rw [if_neg (by simp; omega), if_neg (by simp)])
      clear HE hr
      cases b2
      all_goals
        go_enter Tryz.func63, Tryz.ntmps63
        go_wp2_with fail
        refine calls_genP fun w1 hw1 => ?_
        have U1 := U0.same hw1
        clear hw1
        (with_reducible refine (KK _).mono ?_)
        rintro e w2 ⟨rfl, hb⟩
        have U2 := U1.grow hb
        have c1 := (U2.blk 0 rfl).cell (j := 1) (v := .int .u8 op) rfl
        have c2 := (U2.blk 0 rfl).cell (j := 2) (v := .string x) rfl
        go_wp2_with fail
        (with_reducible refine (KV _).mono ?_)
        rintro e w3 ⟨rfl, hb3⟩
        have U3 := U2.grow hb3
        go_wp2_with fail
        go_ret
        exact ⟨by rw [E.out]; rfl, U3.below⟩
end Go.Proofs.YteiocplfmjkbkaaGreatDoor
