/-
  Numbers, conditions, rules as texts: the program's and the reference's.
-/
import Derived.Test.YtebnbbbiobaneaaGreatDoorRuT
import Derived.Test.YtebnbbbiobaneaaGreatDoorRuX
import Derived.Test.YtebnbbbiobaneaaGreatDoorRItoa
import Derived.Test.YtebnbbbiobaneaaGreatDoorLSplit
import Derived.Test.YtebnbbbiobaneaaGreatDoorFreeS
namespace Go.Proofs.YtebnbbbiobaneaaGreatDoor
open Go.RowKit
set_option maxRecDepth 100000

def sdecB (n : Int) : ByteArray := if n < 0 then ⟨#[45]⟩ ++ decB n.natAbs else decB n.toNat
theorem sdecB_size (n : Int) (h0 : -9223372036854775808 ≤ n) (h1 : n ≤ 9223372036854775807) : (sdecB n).size ≤ 21 := by
  unfold sdecB
  split
  · rw [ByteArray.size_append]; have := decB_size n.natAbs (by omega); have h45 : (⟨#[45]⟩ : ByteArray).size = 1 := rfl; omega
  · have := decB_size n.toNat (by omega); omega
/-- Words with a space between two. -/
def joinL : List ByteArray → List UInt8
  | [] => []
  | x :: r => x.data.toList ++ r.flatMap fun y => 32 :: y.data.toList
def joinS (ws : List ByteArray) : ByteArray := ⟨(joinL ws).toArray⟩
def condW (k : Nat) (lim : Int) (tk : Nat) : List ByteArray :=
  if k = 1 then [kd 0, sdecB lim] else if k = 2 then [kd 1, sdecB lim] else if k = 3 then [kd 2, decB tk] else if k = 4 then [kd 3, sdecB lim, decB tk] else if k = 5 then [kd 4, sdecB lim, decB tk] else []
def condB (k : Nat) (lim : Int) (tk : Nat) : ByteArray := joinS (condW k lim tk)

theorem cPrinted_small (n : Nat) (w : World) (h9 : n ≤ 9) :
    Calls Tryz.prog 133 #[.int .u64 n] w fun e w' => e = .returned (.string (decB n)) ∧ Below w.heap.size w w' := by
  have hcv := fun (W : World) => conv_one (P := Tryz.prog) 85 9 5 Tryz.underlying85 Tryz.underlying5 Tryz.underlying9 (W.alloc (.cells #[.int .u8 (48 + (n:Int))] 5)) ⟨W.heap.size, 0, none⟩ 1 (48 + n) (by simp)
  go_enter Tryz.func133, Tryz.ntmps133
  go_wp2_with fail
  go_ret
  exact ⟨by rw [decB_small n h9]; rfl, (Below.refl _ _).alloc (Nat.le_refl _) _⟩
theorem cPrinted_any : ∀ (k n : Nat) (w : World), n < 10 ^ (k+1) → n < 18446744073709551616 →
    Calls Tryz.prog 133 #[.int .u64 n] w fun e w' => e = .returned (.string (decB n)) ∧ Below w.heap.size w w' := by
  intro k
  induction k with
  | zero => intro n w h _; exact cPrinted_small n w (by omega)
  | succ k ih =>
    intro n w h h2
    by_cases h9 : n ≤ 9
    · exact cPrinted_small n w h9
    have hq : n / 10 < 10 ^ (k+1) := by rw [Nat.pow_succ] at h; omega
    have e1 := Lib.hid (decB_big n (by omega))
    have s1 := decB_size (n/10) (by omega)
    have s2 := decB_size (n%10) (by omega)
    clear h
    go_enter Tryz.func133, Tryz.ntmps133
    go_wp2_with fail
    refine (ih (n/10) _ hq (by omega)).mono ?_
    rintro e w1 ⟨rfl, hb1⟩
    go_wp2_with fail
    refine (cPrinted_small (n%10) _ (by omega)).mono ?_
    rintro e w2 ⟨rfl, hb2⟩
    go_wp2_with fail
    go_ret
    exact ⟨by rw [e1.out]; rfl, hb1.trans (hb2.mono hb1.size)⟩
theorem cPrinted (n : Nat) (w : World) (h : n < 18446744073709551616) :
    Calls Tryz.prog 133 #[.int .u64 n] w fun e w' => e = .returned (.string (decB n)) ∧ Below w.heap.size w w' :=
  cPrinted_any 19 n w (by omega) h

theorem rPrinted_small (n : Nat) (w : World) (h9 : n ≤ 9) :
    Calls Tryz.prog 75 #[.int .u64 n] w fun e w' => e = .returned (.string (decB n)) ∧ Below w.heap.size w w' := by
  have hcv := fun (W : World) => conv_one (P := Tryz.prog) 85 9 5 Tryz.underlying85 Tryz.underlying5 Tryz.underlying9 (W.alloc (.cells #[.int .u8 (48 + (n:Int))] 5)) ⟨W.heap.size, 0, none⟩ 1 (48 + n) (by simp)
  go_enter Tryz.func75, Tryz.ntmps75
  go_wp2_with fail
  go_ret
  exact ⟨by rw [decB_small n h9]; rfl, (Below.refl _ _).alloc (Nat.le_refl _) _⟩
theorem rPrinted_any : ∀ (k n : Nat) (w : World), n < 10 ^ (k+1) → n < 18446744073709551616 →
    Calls Tryz.prog 75 #[.int .u64 n] w fun e w' => e = .returned (.string (decB n)) ∧ Below w.heap.size w w' := by
  intro k
  induction k with
  | zero => intro n w h _; exact rPrinted_small n w (by omega)
  | succ k ih =>
    intro n w h h2
    by_cases h9 : n ≤ 9
    · exact rPrinted_small n w h9
    have hq : n / 10 < 10 ^ (k+1) := by rw [Nat.pow_succ] at h; omega
    have e1 := Lib.hid (decB_big n (by omega))
    have s1 := decB_size (n/10) (by omega)
    have s2 := decB_size (n%10) (by omega)
    clear h
    go_enter Tryz.func75, Tryz.ntmps75
    go_wp2_with fail
    refine (ih (n/10) _ hq (by omega)).mono ?_
    rintro e w1 ⟨rfl, hb1⟩
    go_wp2_with fail
    refine (rPrinted_small (n%10) _ (by omega)).mono ?_
    rintro e w2 ⟨rfl, hb2⟩
    go_wp2_with fail
    go_ret
    exact ⟨by rw [e1.out]; rfl, hb1.trans (hb2.mono hb1.size)⟩
theorem rPrinted (n : Nat) (w : World) (h : n < 18446744073709551616) :
    Calls Tryz.prog 75 #[.int .u64 n] w fun e w' => e = .returned (.string (decB n)) ∧ Below w.heap.size w w' :=
  rPrinted_any 19 n w (by omega) h
section
open FreeSl
attribute [local go_sem] out
theorem cSigned (n : Int) (w : World) (h0 : -9223372036854775808 ≤ n) (h1 : n ≤ 9223372036854775807) :
    Calls Tryz.prog 132 #[.int .i64 n] w fun e w' => e = .returned (.string (sdecB n)) ∧ Below w.heap.size w w' := by
  by_cases h : n < 0
  · have e := Lib.hid (show sdecB n = ⟨#[45]⟩ ++ decB n.natAbs by unfold sdecB; rw [if_pos h])
    have hs := decB_size n.natAbs (by omega)
    go_enter Tryz.func132, Tryz.ntmps132
    go_wp2_with fail
    rw [show (-(n + 1) + 1) = ((n.natAbs : Nat) : Int) from by omega]
    refine (cPrinted n.natAbs _ (by omega)).mono ?_
    rintro e w1 ⟨rfl, hb⟩
    have h45 : (⟨#[45]⟩ : ByteArray).size = 1 := rfl
    go_wp2_with fail
    go_ret
    exact ⟨by rw [e.out]; rfl, hb⟩
  · have e := Lib.hid (show sdecB n = decB n.toNat by unfold sdecB; rw [if_neg h])
    have hs := decB_size n.toNat (by omega)
    obtain ⟨m, rfl⟩ := Int.eq_ofNat_of_zero_le (by omega : 0 ≤ n)
    go_enter Tryz.func132, Tryz.ntmps132
    go_wp2_with fail
    refine (cPrinted m _ (by omega)).mono ?_
    rintro e w1 ⟨rfl, hb⟩
    go_wp2_with fail
    go_ret
    exact ⟨by rw [e.out]; rfl, hb⟩

theorem refSigned (n : Int) (w : World) (h0 : -9223372036854775808 ≤ n) (h1 : n ≤ 9223372036854775807) :
    Calls Tryz.prog 148 #[.int .i64 n] w fun e w' => e = .returned (.string (sdecB n)) ∧ Below w.heap.size w w' := by
  by_cases h : n < 0
  · have e := Lib.hid (show sdecB n = ⟨#[45]⟩ ++ decB n.natAbs by unfold sdecB; rw [if_pos h])
    have hs := decB_size n.natAbs (by omega)
    go_enter Tryz.func148, Tryz.ntmps148
    go_wp2_with fail
    rw [show (-(n + 1) + 1) = ((n.natAbs : Nat) : Int) from by omega]
    refine (refItoa n.natAbs _ (by omega)).mono ?_
    rintro e w1 ⟨rfl, hb⟩
    have h45 : (⟨#[45]⟩ : ByteArray).size = 1 := rfl
    go_wp2_with fail
    go_ret
    exact ⟨by rw [e.out]; rfl, hb⟩
  · have e := Lib.hid (show sdecB n = decB n.toNat by unfold sdecB; rw [if_neg h])
    have hs := decB_size n.toNat (by omega)
    obtain ⟨m, rfl⟩ := Int.eq_ofNat_of_zero_le (by omega : 0 ≤ n)
    go_enter Tryz.func148, Tryz.ntmps148
    go_wp2_with fail
    refine (refItoa m _ (by omega)).mono ?_
    rintro e w1 ⟨rfl, hb⟩
    go_wp2_with fail
    go_ret
    exact ⟨by rw [e.out]; rfl, hb⟩

theorem condText (k : Nat) (lim : Int) (tk : Nat) (w : World) (hk : 1 ≤ k ∧ k ≤ 5) (h0 : -9223372036854775808 ≤ lim) (h1 : lim ≤ 9223372036854775807) (ht : tk < 18446744073709551616) :
    Calls Tryz.prog 74 #[.agg #[.int .u8 k, .int .i64 lim, .int .u64 tk]] w fun e w' => e = .returned (.string (condB k lim tk)) ∧ Below w.heap.size w w' := by
  have K1 := fun w' => cSigned lim w' h0 h1
  have K2 := fun w' => cPrinted tk w' ht
  have z1 := sdecB_size lim h0 h1
  have z2 := decB_size tk ht
  obtain rfl | rfl | rfl | rfl | rfl : k = 1 ∨ k = 2 ∨ k = 3 ∨ k = 4 ∨ k = 5 := by omega
  · have E := Lib.hid (show condB 1 lim tk = ⟨#[97, 98, 111, 118, 101, 32]⟩ ++ sdecB lim from ba_inj (by simp [condB, joinS, joinL, condW, kd, ByteArray.data_append]))
    have U0 := (Upd.nil [] w).alloc #[.int .u8 1, .int .i64 lim, .int .u64 tk] 59
    clear h0 h1 ht
    go_enter Tryz.func74, Tryz.ntmps74
    go_wp2_with fail
    refine (K1 _).mono ?_
    rintro e w1 ⟨rfl, hb1⟩
    go_wp2_with fail
    go_ret
    exact ⟨by rw [E.out]; rfl, U0.below.trans (hb1.mono U0.below.size)⟩
  · have E := Lib.hid (show condB 2 lim tk = ⟨#[98, 101, 108, 111, 119, 32]⟩ ++ sdecB lim from ba_inj (by simp [condB, joinS, joinL, condW, kd, ByteArray.data_append]))
    have U0 := (Upd.nil [] w).alloc #[.int .u8 2, .int .i64 lim, .int .u64 tk] 59
    clear h0 h1 ht
    go_enter Tryz.func74, Tryz.ntmps74
    go_wp2_with fail
    refine (K1 _).mono ?_
    rintro e w1 ⟨rfl, hb1⟩
    go_wp2_with fail
    go_ret
    exact ⟨by rw [E.out]; rfl, U0.below.trans (hb1.mono U0.below.size)⟩
  · have E := Lib.hid (show condB 3 lim tk = ⟨#[97, 98, 115, 101, 110, 116, 32]⟩ ++ decB tk from ba_inj (by simp [condB, joinS, joinL, condW, kd, ByteArray.data_append]))
    have U0 := (Upd.nil [] w).alloc #[.int .u8 3, .int .i64 lim, .int .u64 tk] 59
    clear h0 h1 ht
    go_enter Tryz.func74, Tryz.ntmps74
    go_wp2_with fail
    refine (K2 _).mono ?_
    rintro e w1 ⟨rfl, hb1⟩
    go_wp2_with fail
    go_ret
    exact ⟨by rw [E.out]; rfl, U0.below.trans (hb1.mono U0.below.size)⟩
  · have E := Lib.hid (show condB 4 lim tk = ⟨#[114, 105, 115, 101, 115, 32]⟩ ++ sdecB lim ++ ⟨#[32]⟩ ++ decB tk from ba_inj (by simp [condB, joinS, joinL, condW, kd, ByteArray.data_append]))
    have U0 := (Upd.nil [] w).alloc #[.int .u8 4, .int .i64 lim, .int .u64 tk] 59
    clear h0 h1 ht
    go_enter Tryz.func74, Tryz.ntmps74
    go_wp2_with fail
    refine wp_gen fun W hW => ?_
    have UW := U0.same hW
    clear hW U0
    have FC : ∀ w', Below W.heap.size W w' → w'.cell? ⟨w.heap.size, 1, none⟩ = some (.int .i64 lim) ∧ w'.cell? ⟨w.heap.size, 2, none⟩ = some (.int .u64 tk) := fun w' h => ⟨((UW.grow h).blk 0 rfl).cell (j := 1) (v := .int .i64 lim) rfl, ((UW.grow h).blk 0 rfl).cell (j := 2) (v := .int .u64 tk) rfl⟩
    refine region_free (fun w' => Below W.heap.size W w') [] [] (List.range 10) (by kernel_rfl) (by kernel_rfl) (by kernel_rfl) (Below.refl _ _).drew ?_
    simp only [List.range, List.range.loop]
    have ext : ∀ w' w'', Below W.heap.size W w' → Below w'.heap.size w' w'' → Below W.heap.size W w'' := fun w' w'' h h2 => h.trans (h2.mono h.size)
    have c1 : ¬ 9223372036854775807 < 6 + (sdecB lim).size := by omega
    have c2 : ¬ 9223372036854775807 < 6 + (sdecB lim).size + 1 := by omega
    have c3 : ¬ 9223372036854775807 < 6 + (sdecB lim).size + 1 + (decB tk).size := by omega
    repeat (first
    | (refine RelSeq.pure_ (c := ?_) rfl rfl ?_ ?_; rotate_left; (focus (intro x w'; dsimp only; go_simp; (repeat' apply And.intro) <;> first | with_reducible rfl | assumption)); simp only [Act.put, List.setIfInBounds_toArray, List.set_cons_zero, List.set_cons_succ])
    | (refine RelSeq.grow_ (c := ?_) rfl rfl ?_ ?_; rotate_left; (focus (intro x w' hw _; dsimp only; obtain ⟨d0, d1⟩ := FC w' hw; have hbr := Below.refl w'.heap.size w'; go_simp; (repeat' apply And.intro) <;> first | with_reducible rfl | assumption)); simp only [Act.put, List.setIfInBounds_toArray, List.set_cons_zero, List.set_cons_succ])
    | (refine RelSeq.grow_ (c := ?_) rfl rfl ?_ ?_; rotate_left; (focus (intro x w' hw _; dsimp only; go_simp; (with_reducible refine (K1 w').mono ?_); rintro e w2 ⟨rfl, hb2⟩; have hI := ext w' w2 hw hb2; go_simp; (repeat' apply And.intro) <;> first | with_reducible rfl | assumption)); simp only [Act.put, List.setIfInBounds_toArray, List.set_cons_zero, List.set_cons_succ])
    | (refine RelSeq.grow_ (c := ?_) rfl rfl ?_ ?_; rotate_left; (focus (intro x w' hw _; dsimp only; go_simp; (with_reducible refine (K2 w').mono ?_); rintro e w2 ⟨rfl, hb2⟩; have hI := ext w' w2 hw hb2; go_simp; (repeat' apply And.intro) <;> first | with_reducible rfl | assumption)); simp only [Act.put, List.setIfInBounds_toArray, List.set_cons_zero, List.set_cons_succ]))
    refine RelSeq.nil_ fun x2 w6 hw6 _ _ => ?_
    refine TailSeq.nil_ ?_
    go_wp2_with fail
    go_ret
    exact ⟨by rw [E.out]; rfl, UW.below.trans (hw6.mono UW.below.size)⟩
  · have E := Lib.hid (show condB 5 lim tk = ⟨#[102, 97, 108, 108, 115, 32]⟩ ++ sdecB lim ++ ⟨#[32]⟩ ++ decB tk from ba_inj (by simp [condB, joinS, joinL, condW, kd, ByteArray.data_append]))
    have U0 := (Upd.nil [] w).alloc #[.int .u8 5, .int .i64 lim, .int .u64 tk] 59
    clear h0 h1 ht
    go_enter Tryz.func74, Tryz.ntmps74
    go_wp2_with fail
    refine wp_gen fun W hW => ?_
    have UW := U0.same hW
    clear hW U0
    have FC : ∀ w', Below W.heap.size W w' → w'.cell? ⟨w.heap.size, 1, none⟩ = some (.int .i64 lim) ∧ w'.cell? ⟨w.heap.size, 2, none⟩ = some (.int .u64 tk) := fun w' h => ⟨((UW.grow h).blk 0 rfl).cell (j := 1) (v := .int .i64 lim) rfl, ((UW.grow h).blk 0 rfl).cell (j := 2) (v := .int .u64 tk) rfl⟩
    refine region_free (fun w' => Below W.heap.size W w') [] [] (List.range 10) (by kernel_rfl) (by kernel_rfl) (by kernel_rfl) (Below.refl _ _).drew ?_
    simp only [List.range, List.range.loop]
    have ext : ∀ w' w'', Below W.heap.size W w' → Below w'.heap.size w' w'' → Below W.heap.size W w'' := fun w' w'' h h2 => h.trans (h2.mono h.size)
    have c1 : ¬ 9223372036854775807 < 6 + (sdecB lim).size := by omega
    have c2 : ¬ 9223372036854775807 < 6 + (sdecB lim).size + 1 := by omega
    have c3 : ¬ 9223372036854775807 < 6 + (sdecB lim).size + 1 + (decB tk).size := by omega
    repeat (first
    | (refine RelSeq.pure_ (c := ?_) rfl rfl ?_ ?_; rotate_left; (focus (intro x w'; dsimp only; go_simp; (repeat' apply And.intro) <;> first | with_reducible rfl | assumption)); simp only [Act.put, List.setIfInBounds_toArray, List.set_cons_zero, List.set_cons_succ])
    | (refine RelSeq.grow_ (c := ?_) rfl rfl ?_ ?_; rotate_left; (focus (intro x w' hw _; dsimp only; obtain ⟨d0, d1⟩ := FC w' hw; have hbr := Below.refl w'.heap.size w'; go_simp; (repeat' apply And.intro) <;> first | with_reducible rfl | assumption)); simp only [Act.put, List.setIfInBounds_toArray, List.set_cons_zero, List.set_cons_succ])
    | (refine RelSeq.grow_ (c := ?_) rfl rfl ?_ ?_; rotate_left; (focus (intro x w' hw _; dsimp only; go_simp; (with_reducible refine (K1 w').mono ?_); rintro e w2 ⟨rfl, hb2⟩; have hI := ext w' w2 hw hb2; go_simp; (repeat' apply And.intro) <;> first | with_reducible rfl | assumption)); simp only [Act.put, List.setIfInBounds_toArray, List.set_cons_zero, List.set_cons_succ])
    | (refine RelSeq.grow_ (c := ?_) rfl rfl ?_ ?_; rotate_left; (focus (intro x w' hw _; dsimp only; go_simp; (with_reducible refine (K2 w').mono ?_); rintro e w2 ⟨rfl, hb2⟩; have hI := ext w' w2 hw hb2; go_simp; (repeat' apply And.intro) <;> first | with_reducible rfl | assumption)); simp only [Act.put, List.setIfInBounds_toArray, List.set_cons_zero, List.set_cons_succ]))
    refine RelSeq.nil_ fun x2 w6 hw6 _ _ => ?_
    refine TailSeq.nil_ ?_
    go_wp2_with fail
    go_ret
    exact ⟨by rw [E.out]; rfl, UW.below.trans (hw6.mono UW.below.size)⟩

theorem refCondText (k : Nat) (lim : Int) (tk : Nat) (w : World) (hk : 1 ≤ k ∧ k ≤ 5) (h0 : -9223372036854775808 ≤ lim) (h1 : lim ≤ 9223372036854775807) (ht : tk < 18446744073709551616) :
    Calls Tryz.prog 94 #[.agg #[.int .i64 k, .int .i64 lim, .int .u64 tk]] w fun e w' => e = .returned (.string (condB k lim tk)) ∧ Below w.heap.size w w' := by
  have K1 := fun w' => refSigned lim w' h0 h1
  have K2 := fun w' => refItoa tk w' ht
  have z1 := sdecB_size lim h0 h1
  have z2 := decB_size tk ht
  obtain rfl | rfl | rfl | rfl | rfl : k = 1 ∨ k = 2 ∨ k = 3 ∨ k = 4 ∨ k = 5 := by omega
  · have E := Lib.hid (show condB 1 lim tk = ⟨#[97, 98, 111, 118, 101]⟩ ++ ⟨#[32]⟩ ++ sdecB lim from ba_inj (by simp [condB, joinS, joinL, condW, kd, ByteArray.data_append]))
    clear h0 h1 ht
    go_enter Tryz.func94, Tryz.ntmps94
    go_wp2_with fail
    refine (K1 _).mono ?_
    rintro e w1 ⟨rfl, hb1⟩
    have U1 := (((Upd.nil [] w).alloc #[.int .i64 1, .int .i64 lim, .int .u64 tk] 75).alloc #[.string ⟨#[]⟩, .string ⟨#[97, 98, 111, 118, 101]⟩, .string ⟨#[98, 101, 108, 111, 119]⟩, .string ⟨#[97, 98, 115, 101, 110, 116]⟩, .string ⟨#[114, 105, 115, 101, 115]⟩, .string ⟨#[102, 97, 108, 108, 115]⟩] 9).grow hb1
    have c0 := (U1.blk 1 rfl).cell (j := 0) (v := .int .i64 1) rfl
    have c2 := (U1.blk 1 rfl).cell (j := 2) (v := .int .u64 tk) rfl
    go_wp2_with fail
    go_ret
    exact ⟨by rw [E.out]; rfl, U1.below⟩
  · have E := Lib.hid (show condB 2 lim tk = ⟨#[98, 101, 108, 111, 119]⟩ ++ ⟨#[32]⟩ ++ sdecB lim from ba_inj (by simp [condB, joinS, joinL, condW, kd, ByteArray.data_append]))
    clear h0 h1 ht
    go_enter Tryz.func94, Tryz.ntmps94
    go_wp2_with fail
    refine (K1 _).mono ?_
    rintro e w1 ⟨rfl, hb1⟩
    have U1 := (((Upd.nil [] w).alloc #[.int .i64 2, .int .i64 lim, .int .u64 tk] 75).alloc #[.string ⟨#[]⟩, .string ⟨#[97, 98, 111, 118, 101]⟩, .string ⟨#[98, 101, 108, 111, 119]⟩, .string ⟨#[97, 98, 115, 101, 110, 116]⟩, .string ⟨#[114, 105, 115, 101, 115]⟩, .string ⟨#[102, 97, 108, 108, 115]⟩] 9).grow hb1
    have c0 := (U1.blk 1 rfl).cell (j := 0) (v := .int .i64 2) rfl
    have c2 := (U1.blk 1 rfl).cell (j := 2) (v := .int .u64 tk) rfl
    go_wp2_with fail
    go_ret
    exact ⟨by rw [E.out]; rfl, U1.below⟩
  · have E := Lib.hid (show condB 3 lim tk = ⟨#[97, 98, 115, 101, 110, 116]⟩ ++ ⟨#[32]⟩ ++ decB tk from ba_inj (by simp [condB, joinS, joinL, condW, kd, ByteArray.data_append]))
    clear h0 h1 ht
    go_enter Tryz.func94, Tryz.ntmps94
    go_wp2_with fail
    have U1 := (((Upd.nil [] w).alloc #[.int .i64 3, .int .i64 lim, .int .u64 tk] 75).alloc #[.string ⟨#[]⟩, .string ⟨#[97, 98, 111, 118, 101]⟩, .string ⟨#[98, 101, 108, 111, 119]⟩, .string ⟨#[97, 98, 115, 101, 110, 116]⟩, .string ⟨#[114, 105, 115, 101, 115]⟩, .string ⟨#[102, 97, 108, 108, 115]⟩] 9)
    refine (K2 _).mono ?_
    rintro e w2 ⟨rfl, hb2⟩
    go_wp2_with fail
    go_ret
    exact ⟨by rw [E.out]; rfl, U1.below.trans (hb2.mono U1.below.size)⟩
  · have E := Lib.hid (show condB 4 lim tk = ⟨#[114, 105, 115, 101, 115]⟩ ++ ⟨#[32]⟩ ++ sdecB lim ++ ⟨#[32]⟩ ++ decB tk from ba_inj (by simp [condB, joinS, joinL, condW, kd, ByteArray.data_append]))
    clear h0 h1 ht
    go_enter Tryz.func94, Tryz.ntmps94
    go_wp2_with fail
    refine (K1 _).mono ?_
    rintro e w1 ⟨rfl, hb1⟩
    have U1 := (((Upd.nil [] w).alloc #[.int .i64 4, .int .i64 lim, .int .u64 tk] 75).alloc #[.string ⟨#[]⟩, .string ⟨#[97, 98, 111, 118, 101]⟩, .string ⟨#[98, 101, 108, 111, 119]⟩, .string ⟨#[97, 98, 115, 101, 110, 116]⟩, .string ⟨#[114, 105, 115, 101, 115]⟩, .string ⟨#[102, 97, 108, 108, 115]⟩] 9).grow hb1
    have c0 := (U1.blk 1 rfl).cell (j := 0) (v := .int .i64 4) rfl
    have c2 := (U1.blk 1 rfl).cell (j := 2) (v := .int .u64 tk) rfl
    go_wp2_with fail
    refine (K2 _).mono ?_
    rintro e w2 ⟨rfl, hb2⟩
    go_wp2_with fail
    go_ret
    exact ⟨by rw [E.out]; rfl, U1.below.trans (hb2.mono U1.below.size)⟩
  · have E := Lib.hid (show condB 5 lim tk = ⟨#[102, 97, 108, 108, 115]⟩ ++ ⟨#[32]⟩ ++ sdecB lim ++ ⟨#[32]⟩ ++ decB tk from ba_inj (by simp [condB, joinS, joinL, condW, kd, ByteArray.data_append]))
    clear h0 h1 ht
    go_enter Tryz.func94, Tryz.ntmps94
    go_wp2_with fail
    refine (K1 _).mono ?_
    rintro e w1 ⟨rfl, hb1⟩
    have U1 := (((Upd.nil [] w).alloc #[.int .i64 5, .int .i64 lim, .int .u64 tk] 75).alloc #[.string ⟨#[]⟩, .string ⟨#[97, 98, 111, 118, 101]⟩, .string ⟨#[98, 101, 108, 111, 119]⟩, .string ⟨#[97, 98, 115, 101, 110, 116]⟩, .string ⟨#[114, 105, 115, 101, 115]⟩, .string ⟨#[102, 97, 108, 108, 115]⟩] 9).grow hb1
    have c0 := (U1.blk 1 rfl).cell (j := 0) (v := .int .i64 5) rfl
    have c2 := (U1.blk 1 rfl).cell (j := 2) (v := .int .u64 tk) rfl
    go_wp2_with fail
    refine (K2 _).mono ?_
    rintro e w2 ⟨rfl, hb2⟩
    go_wp2_with fail
    go_ret
    exact ⟨by rw [E.out]; rfl, U1.below.trans (hb2.mono U1.below.size)⟩
end
end Go.Proofs.YtebnbbbiobaneaaGreatDoor
