/-
  The reference's Ask.Holds and All; match.number of one digit.
-/
import Derived.Test.YteiocplfmjkbkaaGreatDoorRt5
import Derived.Test.YteiocplfmjkbkaaGreatDoorRItoa
namespace Go.Proofs.YteiocplfmjkbkaaGreatDoor
open Go.RowKit
set_option maxRecDepth 100000
attribute [local go_sem] FreeSl.out

/-- match.number of one digit. -/
theorem mNumber (n : Nat) (w : World) (h9 : n ≤ 9) :
    Calls Tryz.prog 48 #[.int .u8 n] w fun e w' => e = .returned (.string (decB n)) ∧ Below w.heap.size w w' := by
  have hcv := fun (W : World) => conv_one (P := Tryz.prog) 80 9 5 Tryz.underlying80 Tryz.underlying5 Tryz.underlying9 (W.alloc (.cells #[.int .u8 (48 + (n:Int))] 5)) ⟨W.heap.size, 0, none⟩ 1 (48 + n) (by simp)
  go_enter Tryz.func48, Tryz.ntmps48
  go_wp2_with fail
  go_ret
  exact ⟨by rw [decB_small n h9]; rfl, (Below.refl _ _).alloc (Nat.le_refl _) _⟩
/-- A question's cells with the reference. -/
def aqR (a : Aq) : List Value := [.string a.1, .int .i64 (a.2.1 : Nat), .string a.2.2]
theorem aqR_len (a : Aq) : (aqR a).length = 3 := rfl
set_option maxHeartbeats 4000000 in
theorem refAskHolds (key : ByteArray) (op : Nat) (x : ByteArray) (v : Value) (ps : List Pr) (w : World) (hr : Rd w 2 v ps.length (pairCells ps)) (h1 : 1 ≤ op) (h5 : op ≤ 5) :
    Calls Tryz.prog 50 #[.agg #[.string key, .int .i64 op, .string x], v] w fun e w' => e = .returned (.bool (holdG op (getL ps key) x)) ∧ Below w.heap.size w w' := by
  have U0 := (Upd.nil [] w).alloc #[.string key, .int .i64 op, .string x] 108
  have KG := fun w' (h : Below w.heap.size w w') => refGet v ps key w' (hr.below h)
  obtain ⟨r, hrr⟩ : ∃ r, r = getL ps key := ⟨_, rfl⟩
  rw [← hrr] at KG ⊢
  obtain ⟨g, is⟩ := r
  dsimp only at KG
  clear hrr hr
  obtain rfl | rfl | rfl | rfl | rfl : op = 1 ∨ op = 2 ∨ op = 3 ∨ op = 4 ∨ op = 5 := by omega
  · cases is with
    | true =>
      by_cases he : g = x
      · have e1 : (g == x) = true := by rw [beqS]; exact decide_eq_true he
        have e2 : (g.toList == x.toList) = true := by rw [eqS_eq]; exact decide_eq_true he
        have HE := Lib.hid he
        clear he
        go_enter Tryz.func50, Tryz.ntmps50
        go_wp2_with fail
        refine calls_genP fun w1 hw1 => ?_
        have U1 := U0.same hw1
        clear hw1
        (with_reducible refine (KG _ U1.below).mono ?_)
        rintro e w2 ⟨rfl, rfl⟩
        have c1 := (U1.blk 0 rfl).cell (j := 1) (v := .int .i64 (1 : Nat)) rfl
        have c2 := (U1.blk 0 rfl).cell (j := 2) (v := .string x) rfl
        go_wp2_with fail
        go_ret
        exact ⟨by simp [holdG, HE.out], U1.below⟩
      · have e1 : (g == x) = false := by rw [beqS]; exact decide_eq_false he
        have e2 : (g.toList == x.toList) = false := by rw [eqS_eq]; exact decide_eq_false he
        have HE := Lib.hid he
        clear he
        go_enter Tryz.func50, Tryz.ntmps50
        go_wp2_with fail
        refine calls_genP fun w1 hw1 => ?_
        have U1 := U0.same hw1
        clear hw1
        (with_reducible refine (KG _ U1.below).mono ?_)
        rintro e w2 ⟨rfl, rfl⟩
        have c1 := (U1.blk 0 rfl).cell (j := 1) (v := .int .i64 (1 : Nat)) rfl
        have c2 := (U1.blk 0 rfl).cell (j := 2) (v := .string x) rfl
        go_wp2_with fail
        go_ret
        exact ⟨by simp [holdG, HE.out], U1.below⟩
    | false =>
      go_enter Tryz.func50, Tryz.ntmps50
      go_wp2_with fail
      refine calls_genP fun w1 hw1 => ?_
      have U1 := U0.same hw1
      clear hw1
      (with_reducible refine (KG _ U1.below).mono ?_)
      rintro e w2 ⟨rfl, rfl⟩
      have c1 := (U1.blk 0 rfl).cell (j := 1) (v := .int .i64 (1 : Nat)) rfl
      have c2 := (U1.blk 0 rfl).cell (j := 2) (v := .string x) rfl
      go_wp2_with fail
      go_ret
      exact ⟨by simp [holdG], U1.below⟩
  · cases is with
    | true =>
      by_cases he : g = x
      · have e1 : (g == x) = true := by rw [beqS]; exact decide_eq_true he
        have e2 : (g.toList == x.toList) = true := by rw [eqS_eq]; exact decide_eq_true he
        have HE := Lib.hid he
        clear he
        go_enter Tryz.func50, Tryz.ntmps50
        go_wp2_with fail
        refine calls_genP fun w1 hw1 => ?_
        have U1 := U0.same hw1
        clear hw1
        (with_reducible refine (KG _ U1.below).mono ?_)
        rintro e w2 ⟨rfl, rfl⟩
        have c1 := (U1.blk 0 rfl).cell (j := 1) (v := .int .i64 (2 : Nat)) rfl
        have c2 := (U1.blk 0 rfl).cell (j := 2) (v := .string x) rfl
        go_wp2_with fail
        go_ret
        exact ⟨by simp [holdG, HE.out], U1.below⟩
      · have e1 : (g == x) = false := by rw [beqS]; exact decide_eq_false he
        have e2 : (g.toList == x.toList) = false := by rw [eqS_eq]; exact decide_eq_false he
        have HE := Lib.hid he
        clear he
        go_enter Tryz.func50, Tryz.ntmps50
        go_wp2_with fail
        refine calls_genP fun w1 hw1 => ?_
        have U1 := U0.same hw1
        clear hw1
        (with_reducible refine (KG _ U1.below).mono ?_)
        rintro e w2 ⟨rfl, rfl⟩
        have c1 := (U1.blk 0 rfl).cell (j := 1) (v := .int .i64 (2 : Nat)) rfl
        have c2 := (U1.blk 0 rfl).cell (j := 2) (v := .string x) rfl
        go_wp2_with fail
        go_ret
        exact ⟨by simp [holdG, HE.out], U1.below⟩
    | false =>
      go_enter Tryz.func50, Tryz.ntmps50
      go_wp2_with fail
      refine calls_genP fun w1 hw1 => ?_
      have U1 := U0.same hw1
      clear hw1
      (with_reducible refine (KG _ U1.below).mono ?_)
      rintro e w2 ⟨rfl, rfl⟩
      have c1 := (U1.blk 0 rfl).cell (j := 1) (v := .int .i64 (2 : Nat)) rfl
      have c2 := (U1.blk 0 rfl).cell (j := 2) (v := .string x) rfl
      go_wp2_with fail
      go_ret
      exact ⟨by simp [holdG], U1.below⟩
  · cases is with
    | true =>
      by_cases h : x.size ≤ g.size
      · have E := Lib.hid (show begB g x = ((g.extract 0 x.size).toList == x.toList) by unfold begB; rw [decide_eq_true h]; rfl)
        have d0 : decide ((x.size : Int) ≤ (g.size : Int)) = true := decide_eq_true (by omega)
        have i0 : (x.size : Int) ≤ (g.size : Int) := by omega
        go_enter Tryz.func50, Tryz.ntmps50
        go_wp2_with fail
        refine calls_genP fun w1 hw1 => ?_
        have U1 := U0.same hw1
        clear hw1
        (with_reducible refine (KG _ U1.below).mono ?_)
        rintro e w2 ⟨rfl, rfl⟩
        have c1 := (U1.blk 0 rfl).cell (j := 1) (v := .int .i64 (3 : Nat)) rfl
        have c2 := (U1.blk 0 rfl).cell (j := 2) (v := .string x) rfl
        go_upto_region 8 with fail
        refine wp_gen fun W9 hW9 => ?_
        have U9 := U1.same hW9
        clear hW9 c1 c2 KG
        have F : ∀ w', Below W9.heap.size W9 w' → w'.cell? ⟨w.heap.size, 1, none⟩ = some (.int .i64 3) ∧ w'.cell? ⟨w.heap.size, 2, none⟩ = some (.string x) := fun w' h => ⟨((U9.grow h).blk 0 rfl).cell (j := 1) (v := .int .i64 3) rfl, ((U9.grow h).blk 0 rfl).cell (j := 2) (v := .string x) rfl⟩
        refine FreeSl.region_free (fun w' => Below W9.heap.size W9 w') [] [] (List.range 20) (by kernel_rfl) (by kernel_rfl) (by kernel_rfl) (Below.refl _ _).drew ?_
        simp only [List.range, List.range.loop]
        repeat (first
          | (refine FreeSl.RelSeq.pure_ (c := ?_) rfl rfl ?_ ?_; rotate_left; (focus (intro x w'; dsimp only; go_simp; (repeat' apply And.intro) <;> first | with_reducible rfl | assumption)); simp only [Act.put, List.setIfInBounds_toArray, List.set_cons_zero, List.set_cons_succ])
          | (refine FreeSl.RelSeq.skip_ rfl (fun _ => rfl) ?_; simp only [Act.put, List.setIfInBounds_toArray, List.set_cons_zero, List.set_cons_succ])
          | (refine FreeSl.RelSeq.pureG_ (c := ?_) rfl (fun _ => rfl) rfl ?_ ?_; rotate_left; (focus (intro x w'; dsimp only; go_simp; (repeat' apply And.intro) <;> first | with_reducible rfl | assumption)); simp only [Act.put, List.setIfInBounds_toArray, List.set_cons_zero, List.set_cons_succ])
          | (refine FreeSl.RelSeq.grow_ (c := ?_) rfl rfl ?_ ?_; rotate_left; (focus (intro x w' hw _; dsimp only; obtain ⟨d1, d2⟩ := F w' hw; have hbr := Below.refl w'.heap.size w'; go_simp; (repeat' apply And.intro) <;> first | with_reducible rfl | assumption)); simp only [Act.put, List.setIfInBounds_toArray, List.set_cons_zero, List.set_cons_succ])
          | (refine FreeSl.RelSeq.growG_ (c := ?_) rfl (fun _ => rfl) rfl ?_ ?_; rotate_left; (focus (intro x w' hw _; dsimp only; obtain ⟨d1, d2⟩ := F w' hw; have hbr := Below.refl w'.heap.size w'; go_simp; (repeat' apply And.intro) <;> first | with_reducible rfl | assumption)); simp only [Act.put, List.setIfInBounds_toArray, List.set_cons_zero, List.set_cons_succ]))
        refine FreeSl.RelSeq.nil_ fun x9 w10 hw _ _ => ?_
        have U10 := U9.grow hw
        refine FreeSl.TailSeq.nil_gen fun w11 hw11 => ?_
        have U11 := U10.same hw11
        clear F hw hw11 U9
        go_wp2_with fail
        go_ret
        exact ⟨by simp [holdG, E.out], U11.below⟩
      · have E := Lib.hid (show begB g x = false by unfold begB; rw [decide_eq_false h]; rfl)
        have d0 : decide ((x.size : Int) ≤ (g.size : Int)) = false := decide_eq_false (by omega)
        go_enter Tryz.func50, Tryz.ntmps50
        go_wp2_with fail
        refine calls_genP fun w1 hw1 => ?_
        have U1 := U0.same hw1
        clear hw1
        (with_reducible refine (KG _ U1.below).mono ?_)
        rintro e w2 ⟨rfl, rfl⟩
        have c1 := (U1.blk 0 rfl).cell (j := 1) (v := .int .i64 (3 : Nat)) rfl
        have c2 := (U1.blk 0 rfl).cell (j := 2) (v := .string x) rfl
        go_upto_region 8 with fail
        refine wp_gen fun W9 hW9 => ?_
        have U9 := U1.same hW9
        clear hW9 c1 c2 KG
        have F : ∀ w', Below W9.heap.size W9 w' → w'.cell? ⟨w.heap.size, 1, none⟩ = some (.int .i64 3) ∧ w'.cell? ⟨w.heap.size, 2, none⟩ = some (.string x) := fun w' h => ⟨((U9.grow h).blk 0 rfl).cell (j := 1) (v := .int .i64 3) rfl, ((U9.grow h).blk 0 rfl).cell (j := 2) (v := .string x) rfl⟩
        refine FreeSl.region_free (fun w' => Below W9.heap.size W9 w') [] [] (List.range 20) (by kernel_rfl) (by kernel_rfl) (by kernel_rfl) (Below.refl _ _).drew ?_
        simp only [List.range, List.range.loop]
        repeat (first
          | (refine FreeSl.RelSeq.pure_ (c := ?_) rfl rfl ?_ ?_; rotate_left; (focus (intro x w'; dsimp only; go_simp; (repeat' apply And.intro) <;> first | with_reducible rfl | assumption)); simp only [Act.put, List.setIfInBounds_toArray, List.set_cons_zero, List.set_cons_succ])
          | (refine FreeSl.RelSeq.skip_ rfl (fun _ => rfl) ?_; simp only [Act.put, List.setIfInBounds_toArray, List.set_cons_zero, List.set_cons_succ])
          | (refine FreeSl.RelSeq.pureG_ (c := ?_) rfl (fun _ => rfl) rfl ?_ ?_; rotate_left; (focus (intro x w'; dsimp only; go_simp; (repeat' apply And.intro) <;> first | with_reducible rfl | assumption)); simp only [Act.put, List.setIfInBounds_toArray, List.set_cons_zero, List.set_cons_succ])
          | (refine FreeSl.RelSeq.grow_ (c := ?_) rfl rfl ?_ ?_; rotate_left; (focus (intro x w' hw _; dsimp only; obtain ⟨d1, d2⟩ := F w' hw; have hbr := Below.refl w'.heap.size w'; go_simp; (repeat' apply And.intro) <;> first | with_reducible rfl | assumption)); simp only [Act.put, List.setIfInBounds_toArray, List.set_cons_zero, List.set_cons_succ])
          | (refine FreeSl.RelSeq.growG_ (c := ?_) rfl (fun _ => rfl) rfl ?_ ?_; rotate_left; (focus (intro x w' hw _; dsimp only; obtain ⟨d1, d2⟩ := F w' hw; have hbr := Below.refl w'.heap.size w'; go_simp; (repeat' apply And.intro) <;> first | with_reducible rfl | assumption)); simp only [Act.put, List.setIfInBounds_toArray, List.set_cons_zero, List.set_cons_succ]))
        refine FreeSl.RelSeq.nil_ fun x9 w10 hw _ _ => ?_
        have U10 := U9.grow hw
        refine FreeSl.TailSeq.nil_gen fun w11 hw11 => ?_
        have U11 := U10.same hw11
        clear F hw hw11 U9
        go_wp2_with fail
        go_ret
        exact ⟨by simp [holdG, E.out], U11.below⟩
    | false =>
      go_enter Tryz.func50, Tryz.ntmps50
      go_wp2_with fail
      refine calls_genP fun w1 hw1 => ?_
      have U1 := U0.same hw1
      clear hw1
      (with_reducible refine (KG _ U1.below).mono ?_)
      rintro e w2 ⟨rfl, rfl⟩
      have c1 := (U1.blk 0 rfl).cell (j := 1) (v := .int .i64 (3 : Nat)) rfl
      have c2 := (U1.blk 0 rfl).cell (j := 2) (v := .string x) rfl
      go_upto_region 8 with fail
      refine wp_gen fun W9 hW9 => ?_
      have U9 := U1.same hW9
      clear hW9 c1 c2 KG
      have F : ∀ w', Below W9.heap.size W9 w' → w'.cell? ⟨w.heap.size, 1, none⟩ = some (.int .i64 3) ∧ w'.cell? ⟨w.heap.size, 2, none⟩ = some (.string x) := fun w' h => ⟨((U9.grow h).blk 0 rfl).cell (j := 1) (v := .int .i64 3) rfl, ((U9.grow h).blk 0 rfl).cell (j := 2) (v := .string x) rfl⟩
      refine FreeSl.region_free (fun w' => Below W9.heap.size W9 w') [] [] (List.range 20) (by kernel_rfl) (by kernel_rfl) (by kernel_rfl) (Below.refl _ _).drew ?_
      simp only [List.range, List.range.loop]
      repeat (first
        | (refine FreeSl.RelSeq.pure_ (c := ?_) rfl rfl ?_ ?_; rotate_left; (focus (intro x w'; dsimp only; go_simp; (repeat' apply And.intro) <;> first | with_reducible rfl | assumption)); simp only [Act.put, List.setIfInBounds_toArray, List.set_cons_zero, List.set_cons_succ])
        | (refine FreeSl.RelSeq.skip_ rfl (fun _ => rfl) ?_; simp only [Act.put, List.setIfInBounds_toArray, List.set_cons_zero, List.set_cons_succ])
        | (refine FreeSl.RelSeq.pureG_ (c := ?_) rfl (fun _ => rfl) rfl ?_ ?_; rotate_left; (focus (intro x w'; dsimp only; go_simp; (repeat' apply And.intro) <;> first | with_reducible rfl | assumption)); simp only [Act.put, List.setIfInBounds_toArray, List.set_cons_zero, List.set_cons_succ])
        | (refine FreeSl.RelSeq.grow_ (c := ?_) rfl rfl ?_ ?_; rotate_left; (focus (intro x w' hw _; dsimp only; obtain ⟨d1, d2⟩ := F w' hw; have hbr := Below.refl w'.heap.size w'; go_simp; (repeat' apply And.intro) <;> first | with_reducible rfl | assumption)); simp only [Act.put, List.setIfInBounds_toArray, List.set_cons_zero, List.set_cons_succ])
        | (refine FreeSl.RelSeq.growG_ (c := ?_) rfl (fun _ => rfl) rfl ?_ ?_; rotate_left; (focus (intro x w' hw _; dsimp only; obtain ⟨d1, d2⟩ := F w' hw; have hbr := Below.refl w'.heap.size w'; go_simp; (repeat' apply And.intro) <;> first | with_reducible rfl | assumption)); simp only [Act.put, List.setIfInBounds_toArray, List.set_cons_zero, List.set_cons_succ]))
      refine FreeSl.RelSeq.nil_ fun x9 w10 hw _ _ => ?_
      have U10 := U9.grow hw
      refine FreeSl.TailSeq.nil_gen fun w11 hw11 => ?_
      have U11 := U10.same hw11
      clear F hw hw11 U9
      go_wp2_with fail
      go_ret
      exact ⟨by simp [holdG], U11.below⟩
  · cases is with
    | true =>
      go_enter Tryz.func50, Tryz.ntmps50
      go_wp2_with fail
      refine calls_genP fun w1 hw1 => ?_
      have U1 := U0.same hw1
      clear hw1
      (with_reducible refine (KG _ U1.below).mono ?_)
      rintro e w2 ⟨rfl, rfl⟩
      have c1 := (U1.blk 0 rfl).cell (j := 1) (v := .int .i64 (4 : Nat)) rfl
      have c2 := (U1.blk 0 rfl).cell (j := 2) (v := .string x) rfl
      go_wp2_with fail
      go_ret
      exact ⟨by simp [holdG], U1.below⟩
    | false =>
      go_enter Tryz.func50, Tryz.ntmps50
      go_wp2_with fail
      refine calls_genP fun w1 hw1 => ?_
      have U1 := U0.same hw1
      clear hw1
      (with_reducible refine (KG _ U1.below).mono ?_)
      rintro e w2 ⟨rfl, rfl⟩
      have c1 := (U1.blk 0 rfl).cell (j := 1) (v := .int .i64 (4 : Nat)) rfl
      have c2 := (U1.blk 0 rfl).cell (j := 2) (v := .string x) rfl
      go_wp2_with fail
      go_ret
      exact ⟨by simp [holdG], U1.below⟩
  · cases is with
    | true =>
      go_enter Tryz.func50, Tryz.ntmps50
      go_wp2_with fail
      refine calls_genP fun w1 hw1 => ?_
      have U1 := U0.same hw1
      clear hw1
      (with_reducible refine (KG _ U1.below).mono ?_)
      rintro e w2 ⟨rfl, rfl⟩
      have c1 := (U1.blk 0 rfl).cell (j := 1) (v := .int .i64 (5 : Nat)) rfl
      have c2 := (U1.blk 0 rfl).cell (j := 2) (v := .string x) rfl
      go_wp2_with fail
      go_ret
      exact ⟨by simp [holdG], U1.below⟩
    | false =>
      go_enter Tryz.func50, Tryz.ntmps50
      go_wp2_with fail
      refine calls_genP fun w1 hw1 => ?_
      have U1 := U0.same hw1
      clear hw1
      (with_reducible refine (KG _ U1.below).mono ?_)
      rintro e w2 ⟨rfl, rfl⟩
      have c1 := (U1.blk 0 rfl).cell (j := 1) (v := .int .i64 (5 : Nat)) rfl
      have c2 := (U1.blk 0 rfl).cell (j := 2) (v := .string x) rfl
      go_wp2_with fail
      go_ret
      exact ⟨by simp [holdG], U1.below⟩
set_option maxHeartbeats 4000000 in
/-- watchfireref17.All: each of them holds. -/
theorem refAll (l : List Aq) (va v : Value) (ps : List Pr) (w : World) (hr : Rd w 2 v ps.length (pairCells ps)) (ha : Rd w 3 va l.length (l.flatMap aqR)) (hok : ∀ a ∈ l, 1 ≤ a.2.1 ∧ a.2.1 ≤ 5) :
    Calls Tryz.prog 29 #[va, v] w fun e w' => e = .returned (.bool (l.all (holdA ps))) ∧ Below w.heap.size w w' := by
  have KH := fun (a : Aq) w' (h : Below w.heap.size w w') (hm : a ∈ l) => refAskHolds a.1 a.2.1 a.2.2 v ps w' (hr.below h) (hok a hm).1 (hok a hm).2
  obtain ⟨A, c, rfl, h1, h2, h3, h4⟩ := ha
  unfold maxLen at h3
  have HA := Lib.hid h4
  clear h4 hr hok h1
  go_enter Tryz.func29, Tryz.ntmps29
  go_wp2_with fail
  go_loopw [5] (fun i wr => ∃ k : Nat, k ≤ l.length ∧ i = .int .i64 k ∧ l.all (holdA ps) = (l.drop k).all (holdA ps) ∧ Below w.heap.size w wr) (fun i _ => l.length - (intOf i).toNat)
  case atStart => exact ⟨0, Nat.zero_le _, rfl, rfl, Below.refl _ _⟩
  case round =>
    obtain ⟨k, hk, rfl, hg, hb⟩ := hrel
    by_cases hlt : k < l.length
    · obtain ⟨b, o, rfl, hat⟩ := HA.out (by omega)
      obtain ⟨a, hp⟩ : ∃ a, l[k]? = some a := ⟨_, List.getElem?_eq_getElem hlt⟩
      have c0 := hat.nth hb (k*3) 0 _ (flatA aqR 3 aqR_len l k a hp 0 _ rfl)
      have c1 := hat.nth hb (k*3) 1 _ (flatA aqR 3 aqR_len l k a hp 1 _ rfl)
      have c2 := hat.nth hb (k*3) 2 _ (flatA aqR 3 aqR_len l k a hp 2 _ rfl)
      rw [Nat.add_zero] at c0
      rw [all_drop _ _ _ _ hp] at hg
      have hm := List.mem_of_getElem? hp
      obtain ⟨t, ht⟩ : ∃ t, t = holdA ps a := ⟨_, rfl⟩
      rw [← ht] at hg
      have K2 : ∀ w', Below w.heap.size w w' → Calls Tryz.prog 50 #[.agg #[.string a.1, .int .i64 (a.2.1 : Nat), .string a.2.2], v] w' fun e w2 => e = .returned (.bool t) ∧ Below w'.heap.size w' w2 := fun w' h => by rw [ht]; exact KH a w' h hm
      clear hp hat hm ht
      cases t with
      | false =>
        have E := Lib.hid hg
        clear hg
        go_wp2_with fail
        (with_reducible refine (K2 _ hb).mono ?_)
        rintro e w2 ⟨rfl, hb2⟩
        go_wp2_with fail
        go_ret
        exact ⟨by rw [E.out]; rfl, hb.trans (hb2.mono hb.size)⟩
      | true =>
        have E := Lib.hid (hg.trans (Bool.true_and _))
        clear hg
        go_wp2_with fail
        (with_reducible refine (K2 _ hb).mono ?_)
        rintro e w2 ⟨rfl, hb2⟩
        go_wp2_with fail
        go_roundw
        case rel => exact ⟨k + 1, by omega, by go_num, E.out, hb.trans (hb2.mono hb.size)⟩
        case measure => simp [intOf]; omega
    · obtain rfl : k = l.length := by omega
      rw [List.drop_length] at hg
      have E := Lib.hid hg
      clear hg
      go_wp2_with fail
      go_ret
      exact ⟨by rw [E.out]; rfl, hb⟩
end Go.Proofs.YteiocplfmjkbkaaGreatDoor
