/-
  Rules as texts: the program's and the reference's.
-/
import Derived.Test.YtebnbbbiobaneaaGreatDoorRuI
import Derived.Test.YtebnbbbiobaneaaGreatDoorLText
import Derived.Test.YtebnbbbiobaneaaGreatDoorMg34
namespace Go.Proofs.YtebnbbbiobaneaaGreatDoor
open Go.RowKit
set_option maxRecDepth 100000

theorem textB_size (ps : List Pr) : (textB ps).size = (textL ps).length := by rw [Lib.size_eq]; unfold textB; simp
theorem textB_list (ps : List Pr) : (textB ps).data.toList = textL ps := by unfold textB; simp
theorem joinS_list (ws : List ByteArray) : (joinS ws).data.toList = joinL ws := by unfold joinS; simp
theorem condB_size (k : Nat) (lim : Int) (tk : Nat) (h0 : -9223372036854775808 ≤ lim) (h1 : lim ≤ 9223372036854775807) (ht : tk < 18446744073709551616) : (condB k lim tk).size ≤ 50 := by
  have z1 := sdecB_size lim h0 h1
  have z2 := decB_size tk ht
  have a1 : (sdecB lim).size = (sdecB lim).data.toList.length := Lib.size_eq _
  have a2 : (decB tk).size = (decB tk).data.toList.length := Lib.size_eq _
  have e : (condB k lim tk).size = (joinL (condW k lim tk)).length := by rw [Lib.size_eq]; unfold condB joinS; simp
  rw [e]
  unfold condW
  repeat' split
  all_goals simp [joinL, kd]
  all_goals omega
/-- A rule's text, piece by piece. -/
theorem text_eq (nm me : ByteArray) (iv : Value) (ps : List Pr) (k : Nat) (lim : Int) (tk fo ke pr : Nat) (wv : Value) (qs : List Pr) (hk : 1 ≤ k ∧ k ≤ 5) :
    (RuV.text ⟨nm, me, iv, ps, k, lim, tk, fo, ke, pr, wv, qs⟩).data.toList = [114, 117, 108, 101, 32] ++ nm.data.toList ++ [32] ++ me.data.toList ++ (if ps = [] then [] else [32, 105, 102, 32] ++ textL ps) ++ [32] ++ (condB k lim tk).data.toList ++ [32, 102, 111, 114, 32] ++ (decB fo).data.toList ++ [32, 107, 101, 101, 112, 32] ++ (decB ke).data.toList ++ [32, 112, 114, 105, 111, 32] ++ (decB pr).data.toList ++ (if qs = [] then [] else [32, 119, 105, 116, 104, 32] ++ textL qs) := by
  rw [text_list]
  have hc : (condB k lim tk).data.toList = joinL (condW k lim tk) := joinS_list _
  obtain ⟨y, r, hy, _⟩ := cond_head k lim tk hk
  rw [hc, hy]
  unfold RuV.words
  dsimp only
  rw [hy]
  by_cases h1 : ps = [] <;> by_cases h2 : qs = [] <;> simp [ifW, joinL, h1, h2, kRule, kIf, kFor, kKeep, kPrio, kWith, textB_list]
section
open FreeSl
attribute [local go_sem] out

set_option maxHeartbeats 4000000 in
theorem ruText (nm me : ByteArray) (A1 : Option Addr) (q1 : Nat) (ps : List Pr) (k : Nat) (lim : Int) (tk fo ke pr : Nat) (A2 : Option Addr) (q2 : Nat) (qs : List Pr) (w : World)
    (hk : 1 ≤ k ∧ k ≤ 5) (h0 : -9223372036854775808 ≤ lim) (h1 : lim ≤ 9223372036854775807) (ht : tk < 18446744073709551616) (hfo : fo < 18446744073709551616) (hke : ke < 18446744073709551616) (hpr : pr < 256)
    (hnm : nm.size ≤ 1048576) (hme : me.size ≤ 1048576) (hr1 : Rd w 2 (.slice A1 ps.length q1) ps.length (pairCells ps)) (hz1 : (textL ps).length ≤ 1048576) (hr2 : Rd w 2 (.slice A2 qs.length q2) qs.length (pairCells qs)) (hz2 : (textL qs).length ≤ 1048576) :
    Calls Tryz.prog 34 #[.agg #[.string nm, .string me, .slice A1 ps.length q1, .int .u8 k, .int .i64 lim, .int .u64 tk, .int .u64 fo, .int .u64 ke, .int .u8 pr, .slice A2 qs.length q2]] w fun e w' => e = .returned (.string (RuV.text ⟨nm, me, .slice A1 ps.length q1, ps, k, lim, tk, fo, ke, pr, .slice A2 qs.length q2, qs⟩)) ∧ Below w.heap.size w w' := by
  have U0 := (Upd.nil [] w).alloc #[.string nm, .string me, .slice A1 ps.length q1, .int .u8 k, .int .i64 lim, .int .u64 tk, .int .u64 fo, .int .u64 ke, .int .u8 pr, .slice A2 qs.length q2] 63
  have hr1' := U0.rd0 hr1
  have hr2' := U0.rd0 hr2
  obtain ⟨W, hW⟩ : ∃ W, W = w.alloc (.cells #[.string nm, .string me, .slice A1 ps.length q1, .int .u8 k, .int .i64 lim, .int .u64 tk, .int .u64 fo, .int .u64 ke, .int .u8 pr, .slice A2 qs.length q2] 63) := ⟨_, rfl⟩
  have UW := U0.same hW
  have KT1 := fun w' (h : Below W.heap.size W w') => labText (.slice A1 ps.length q1) ps w' (Rd.below (hW ▸ hr1') h) (by omega)
  have KT2 := fun w' (h : Below W.heap.size W w') => labText (.slice A2 qs.length q2) qs w' (Rd.below (hW ▸ hr2') h) (by omega)
  have ts1 := textB_size ps
  have ts2 := textB_size qs
  rw [show (⟨(textL ps).toArray⟩ : ByteArray) = textB ps from rfl] at KT1
  rw [show (⟨(textL qs).toArray⟩ : ByteArray) = textB qs from rfl] at KT2
  have KC := fun w' => condText k lim tk w' hk h0 h1 ht
  have KF := fun w' => rPrinted fo w' hfo
  have KK := fun w' => rPrinted ke w' hke
  have KP := fun w' => rPrinted pr w' (by omega)
  have zc := condB_size k lim tk h0 h1 ht
  have zf := decB_size fo hfo
  have zk := decB_size ke hke
  have zp := decB_size pr (by omega)
  have E0 := Lib.hid (text_eq nm me (.slice A1 ps.length q1) ps k lim tk fo ke pr (.slice A2 qs.length q2) qs hk)
  obtain ⟨cb, hcb⟩ : ∃ c, c = condB k lim tk := ⟨_, rfl⟩
  rw [← hcb] at KC zc E0
  obtain ⟨fb, hfb⟩ : ∃ c, c = decB fo := ⟨_, rfl⟩
  rw [← hfb] at KF zf E0
  obtain ⟨kb, hkb⟩ : ∃ c, c = decB ke := ⟨_, rfl⟩
  rw [← hkb] at KK zk E0
  obtain ⟨pb, hpb⟩ : ∃ c, c = decB pr := ⟨_, rfl⟩
  rw [← hpb] at KP zp E0
  obtain ⟨t1, ht1⟩ : ∃ c, c = textB ps := ⟨_, rfl⟩
  have E1 := Lib.hid (show t1.data.toList = textL ps by rw [ht1]; exact textB_list ps)
  rw [← ht1] at KT1 ts1
  obtain ⟨t2, ht2⟩ : ∃ c, c = textB qs := ⟨_, rfl⟩
  have E2 := Lib.hid (show t2.data.toList = textL qs by rw [ht2]; exact textB_list qs)
  rw [← ht2] at KT2 ts2
  have u1 : t1.size ≤ 1048576 := by omega
  have u2 : t2.size ≤ 1048576 := by omega
  have l5 : (⟨#[114, 117, 108, 101, 32]⟩ : ByteArray).size = 5 := rfl
  have l1 : (⟨#[32]⟩ : ByteArray).size = 1 := rfl
  clear hcb hfb hkb hpb ht1 ht2 hr1 hr2 hr1' hr2' U0 h0 h1 ht hfo hke ts1 ts2 hz1 hz2
  have tail : True := trivial
  by_cases g1 : ps.length = 0
  · obtain rfl : ps = [] := List.eq_nil_of_length_eq_zero g1
    clear KT1 g1
    go_enter Tryz.func34, Tryz.ntmps34
    go_wp2_with fail
    refine wp_gen fun V hV => ?_
    have e0 : W = V := hW.trans hV.symm
    have hVW : Below W.heap.size W V := by rw [e0]; exact Below.refl _ _
    have UV := UW.same (hV.trans hW.symm)
    clear hV
    have FC : ∀ w', Below V.heap.size V w' → w'.cell? ⟨w.heap.size, 2, none⟩ = some (.slice A1 ([] : List Pr).length q1) ∧ w'.cell? ⟨w.heap.size, 3, none⟩ = some (.int .u8 k) ∧ w'.cell? ⟨w.heap.size, 4, none⟩ = some (.int .i64 lim) ∧ w'.cell? ⟨w.heap.size, 5, none⟩ = some (.int .u64 tk) ∧ w'.cell? ⟨w.heap.size, 6, none⟩ = some (.int .u64 fo) ∧ w'.cell? ⟨w.heap.size, 7, none⟩ = some (.int .u64 ke) ∧ w'.cell? ⟨w.heap.size, 8, none⟩ = some (.int .u8 pr) ∧ w'.cell? ⟨w.heap.size, 9, none⟩ = some (.slice A2 qs.length q2) := fun w' h => ⟨((UV.grow h).blk 0 rfl).cell (j := 2) (v := .slice A1 ([] : List Pr).length q1) rfl, ((UV.grow h).blk 0 rfl).cell (j := 3) (v := .int .u8 k) rfl, ((UV.grow h).blk 0 rfl).cell (j := 4) (v := .int .i64 lim) rfl, ((UV.grow h).blk 0 rfl).cell (j := 5) (v := .int .u64 tk) rfl, ((UV.grow h).blk 0 rfl).cell (j := 6) (v := .int .u64 fo) rfl, ((UV.grow h).blk 0 rfl).cell (j := 7) (v := .int .u64 ke) rfl, ((UV.grow h).blk 0 rfl).cell (j := 8) (v := .int .u8 pr) rfl, ((UV.grow h).blk 0 rfl).cell (j := 9) (v := .slice A2 qs.length q2) rfl⟩
    refine region_free (fun w' => Below V.heap.size V w') [] [] (List.range 25) (by kernel_rfl) (by kernel_rfl) (by kernel_rfl) (Below.refl _ _).drew ?_
    simp only [List.range, List.range.loop]
    have ext : ∀ w' w'', Below V.heap.size V w' → Below w'.heap.size w' w'' → Below V.heap.size V w'' := fun w' w'' h h2 => h.trans (h2.mono h.size)
    have w8 : IntKind.u64.wrap (pr : Int) = (pr : Int) := by simp only [IntKind.wrap, IntKind.bits, IntKind.signed]; simp; omega
    repeat (first
    | (refine RelSeq.pure_ (c := ?_) rfl rfl ?_ ?_; rotate_left; (focus (intro x w'; dsimp only; go_simp; (first | ((repeat' apply And.intro) <;> first | with_reducible rfl | assumption) | (split <;> (try (focus (exfalso; omega))); (try go_simp); (repeat' apply And.intro) <;> first | with_reducible rfl | assumption)))); simp only [Act.put, List.setIfInBounds_toArray, List.set_cons_zero, List.set_cons_succ])
    | (refine RelSeq.grow_ (c := ?_) rfl rfl ?_ ?_; rotate_left; (focus (intro x w' hw _; dsimp only; obtain ⟨d2, d3, d4, d5, d6, d7, d8, d9⟩ := FC w' hw; have hbr := Below.refl w'.heap.size w'; go_simp; (repeat' apply And.intro) <;> first | with_reducible rfl | assumption)); simp only [Act.put, List.setIfInBounds_toArray, List.set_cons_zero, List.set_cons_succ])
    | (refine RelSeq.grow_ (c := ?_) rfl rfl ?_ ?_; rotate_left; (focus (intro x w' hw _; dsimp only; go_simp; (with_reducible refine (KC w').mono ?_); rintro e w2 ⟨rfl, hb2⟩; have hI := ext w' w2 hw hb2; go_simp; (repeat' apply And.intro) <;> first | with_reducible rfl | assumption)); simp only [Act.put, List.setIfInBounds_toArray, List.set_cons_zero, List.set_cons_succ])
    | (refine RelSeq.grow_ (c := ?_) rfl rfl ?_ ?_; rotate_left; (focus (intro x w' hw _; dsimp only; go_simp; (with_reducible refine (KF w').mono ?_); rintro e w2 ⟨rfl, hb2⟩; have hI := ext w' w2 hw hb2; go_simp; (repeat' apply And.intro) <;> first | with_reducible rfl | assumption)); simp only [Act.put, List.setIfInBounds_toArray, List.set_cons_zero, List.set_cons_succ])
    | (refine RelSeq.grow_ (c := ?_) rfl rfl ?_ ?_; rotate_left; (focus (intro x w' hw _; dsimp only; go_simp; (with_reducible refine (KK w').mono ?_); rintro e w2 ⟨rfl, hb2⟩; have hI := ext w' w2 hw hb2; go_simp; (repeat' apply And.intro) <;> first | with_reducible rfl | assumption)); simp only [Act.put, List.setIfInBounds_toArray, List.set_cons_zero, List.set_cons_succ])
    | (refine RelSeq.grow_ (c := ?_) rfl rfl ?_ ?_; rotate_left; (focus (intro x w' hw _; dsimp only; go_simp; (with_reducible refine (KP w').mono ?_); rintro e w2 ⟨rfl, hb2⟩; have hI := ext w' w2 hw hb2; go_simp; (repeat' apply And.intro) <;> first | with_reducible rfl | assumption)); simp only [Act.put, List.setIfInBounds_toArray, List.set_cons_zero, List.set_cons_succ]))
    refine RelSeq.nil_ fun x2 w6 hw6 _ _ => ?_
    refine TailSeq.nil_ ?_
    by_cases g2 : qs.length = 0
    · obtain rfl : qs = [] := List.eq_nil_of_length_eq_zero g2
      have U6 := UV.grow hw6
      have e9 := (U6.blk 0 rfl).cell (j := 9) (v := .slice A2 ([] : List Pr).length q2) rfl
      rw [List.length_nil] at e9
      clear g2 KT2
      go_wp2_with fail
      go_ret
      refine ⟨congrArg (fun s => Ending.returned (.string s)) (ba_inj ?_), U6.below⟩
      refine Eq.trans ?_ E0.out.symm
      simp [ByteArray.data_append]
    · have hq : (0 : Int) < (qs.length : Int) := by omega
      have U6 := UV.grow hw6
      have e9 := (U6.blk 0 rfl).cell (j := 9) (v := .slice A2 qs.length q2) rfl
      have hqn : qs ≠ [] := fun h => g2 (by rw [h]; rfl)
      have HQ := Lib.hid hqn
      have K2 := KT2 w6 ((by have := hVW; exact this.trans (hw6.mono this.size)))
      clear g2 KT2 hqn
      go_wp2_with fail
      (with_reducible refine K2.mono ?_)
      rintro e w7 ⟨rfl, hb7⟩
      have U7 := U6.grow hb7
      go_wp2_with fail
      go_ret
      refine ⟨congrArg (fun s => Ending.returned (.string s)) (ba_inj ?_), U7.below⟩
      refine Eq.trans ?_ E0.out.symm
      simp [ByteArray.data_append, E2.out, HQ.out]
  · have hp : (0 : Int) < (ps.length : Int) := by omega
    have hpn : ps ≠ [] := fun h => g1 (by rw [h]; rfl)
    have HP := Lib.hid hpn
    have K1 := KT1 W (Below.refl _ _)
    rw [hW] at K1
    clear KT1 g1 hpn
    go_enter Tryz.func34, Tryz.ntmps34
    go_wp2_with fail
    (with_reducible refine K1.mono ?_)
    rintro e w1 ⟨rfl, hb1⟩
    have U1 := (hW ▸ UW).grow hb1
    rw [← hW] at hb1
    have c0 := (U1.blk 0 rfl).cell (j := 2) (v := .slice A1 ps.length q1) rfl
    clear K1
    go_wp2_with fail
    refine wp_gen fun V hV => ?_
    have hVW : Below W.heap.size W V := by rw [hV]; exact hb1
    have UV := U1.same hV
    clear hV
    have FC : ∀ w', Below V.heap.size V w' → w'.cell? ⟨w.heap.size, 2, none⟩ = some (.slice A1 ps.length q1) ∧ w'.cell? ⟨w.heap.size, 3, none⟩ = some (.int .u8 k) ∧ w'.cell? ⟨w.heap.size, 4, none⟩ = some (.int .i64 lim) ∧ w'.cell? ⟨w.heap.size, 5, none⟩ = some (.int .u64 tk) ∧ w'.cell? ⟨w.heap.size, 6, none⟩ = some (.int .u64 fo) ∧ w'.cell? ⟨w.heap.size, 7, none⟩ = some (.int .u64 ke) ∧ w'.cell? ⟨w.heap.size, 8, none⟩ = some (.int .u8 pr) ∧ w'.cell? ⟨w.heap.size, 9, none⟩ = some (.slice A2 qs.length q2) := fun w' h => ⟨((UV.grow h).blk 0 rfl).cell (j := 2) (v := .slice A1 ps.length q1) rfl, ((UV.grow h).blk 0 rfl).cell (j := 3) (v := .int .u8 k) rfl, ((UV.grow h).blk 0 rfl).cell (j := 4) (v := .int .i64 lim) rfl, ((UV.grow h).blk 0 rfl).cell (j := 5) (v := .int .u64 tk) rfl, ((UV.grow h).blk 0 rfl).cell (j := 6) (v := .int .u64 fo) rfl, ((UV.grow h).blk 0 rfl).cell (j := 7) (v := .int .u64 ke) rfl, ((UV.grow h).blk 0 rfl).cell (j := 8) (v := .int .u8 pr) rfl, ((UV.grow h).blk 0 rfl).cell (j := 9) (v := .slice A2 qs.length q2) rfl⟩
    refine region_free (fun w' => Below V.heap.size V w') [] [] (List.range 25) (by kernel_rfl) (by kernel_rfl) (by kernel_rfl) (Below.refl _ _).drew ?_
    simp only [List.range, List.range.loop]
    have ext : ∀ w' w'', Below V.heap.size V w' → Below w'.heap.size w' w'' → Below V.heap.size V w'' := fun w' w'' h h2 => h.trans (h2.mono h.size)
    have w8 : IntKind.u64.wrap (pr : Int) = (pr : Int) := by simp only [IntKind.wrap, IntKind.bits, IntKind.signed]; simp; omega
    repeat (first
    | (refine RelSeq.pure_ (c := ?_) rfl rfl ?_ ?_; rotate_left; (focus (intro x w'; dsimp only; go_simp; (first | ((repeat' apply And.intro) <;> first | with_reducible rfl | assumption) | (split <;> (try (focus (exfalso; omega))); (try go_simp); (repeat' apply And.intro) <;> first | with_reducible rfl | assumption)))); simp only [Act.put, List.setIfInBounds_toArray, List.set_cons_zero, List.set_cons_succ])
    | (refine RelSeq.grow_ (c := ?_) rfl rfl ?_ ?_; rotate_left; (focus (intro x w' hw _; dsimp only; obtain ⟨d2, d3, d4, d5, d6, d7, d8, d9⟩ := FC w' hw; have hbr := Below.refl w'.heap.size w'; go_simp; (repeat' apply And.intro) <;> first | with_reducible rfl | assumption)); simp only [Act.put, List.setIfInBounds_toArray, List.set_cons_zero, List.set_cons_succ])
    | (refine RelSeq.grow_ (c := ?_) rfl rfl ?_ ?_; rotate_left; (focus (intro x w' hw _; dsimp only; go_simp; (with_reducible refine (KC w').mono ?_); rintro e w2 ⟨rfl, hb2⟩; have hI := ext w' w2 hw hb2; go_simp; (repeat' apply And.intro) <;> first | with_reducible rfl | assumption)); simp only [Act.put, List.setIfInBounds_toArray, List.set_cons_zero, List.set_cons_succ])
    | (refine RelSeq.grow_ (c := ?_) rfl rfl ?_ ?_; rotate_left; (focus (intro x w' hw _; dsimp only; go_simp; (with_reducible refine (KF w').mono ?_); rintro e w2 ⟨rfl, hb2⟩; have hI := ext w' w2 hw hb2; go_simp; (repeat' apply And.intro) <;> first | with_reducible rfl | assumption)); simp only [Act.put, List.setIfInBounds_toArray, List.set_cons_zero, List.set_cons_succ])
    | (refine RelSeq.grow_ (c := ?_) rfl rfl ?_ ?_; rotate_left; (focus (intro x w' hw _; dsimp only; go_simp; (with_reducible refine (KK w').mono ?_); rintro e w2 ⟨rfl, hb2⟩; have hI := ext w' w2 hw hb2; go_simp; (repeat' apply And.intro) <;> first | with_reducible rfl | assumption)); simp only [Act.put, List.setIfInBounds_toArray, List.set_cons_zero, List.set_cons_succ])
    | (refine RelSeq.grow_ (c := ?_) rfl rfl ?_ ?_; rotate_left; (focus (intro x w' hw _; dsimp only; go_simp; (with_reducible refine (KP w').mono ?_); rintro e w2 ⟨rfl, hb2⟩; have hI := ext w' w2 hw hb2; go_simp; (repeat' apply And.intro) <;> first | with_reducible rfl | assumption)); simp only [Act.put, List.setIfInBounds_toArray, List.set_cons_zero, List.set_cons_succ]))
    refine RelSeq.nil_ fun x2 w6 hw6 _ _ => ?_
    refine TailSeq.nil_ ?_
    by_cases g2 : qs.length = 0
    · obtain rfl : qs = [] := List.eq_nil_of_length_eq_zero g2
      have U6 := UV.grow hw6
      have e9 := (U6.blk 0 rfl).cell (j := 9) (v := .slice A2 ([] : List Pr).length q2) rfl
      rw [List.length_nil] at e9
      clear g2 KT2
      go_wp2_with fail
      go_ret
      refine ⟨congrArg (fun s => Ending.returned (.string s)) (ba_inj ?_), U6.below⟩
      refine Eq.trans ?_ E0.out.symm
      simp [ByteArray.data_append, E1.out, HP.out]
    · have hq : (0 : Int) < (qs.length : Int) := by omega
      have U6 := UV.grow hw6
      have e9 := (U6.blk 0 rfl).cell (j := 9) (v := .slice A2 qs.length q2) rfl
      have hqn : qs ≠ [] := fun h => g2 (by rw [h]; rfl)
      have HQ := Lib.hid hqn
      have K2 := KT2 w6 ((by have := hVW; exact this.trans (hw6.mono this.size)))
      clear g2 KT2 hqn
      go_wp2_with fail
      (with_reducible refine K2.mono ?_)
      rintro e w7 ⟨rfl, hb7⟩
      have U7 := U6.grow hb7
      go_wp2_with fail
      go_ret
      refine ⟨congrArg (fun s => Ending.returned (.string s)) (ba_inj ?_), U7.below⟩
      refine Eq.trans ?_ E0.out.symm
      simp [ByteArray.data_append, E2.out, HQ.out, E1.out, HP.out]

set_option maxHeartbeats 4000000 in
theorem refRuText (nm me : ByteArray) (A1 : Option Addr) (q1 : Nat) (ps : List Pr) (k : Nat) (lim : Int) (tk fo ke pr : Nat) (A2 : Option Addr) (q2 : Nat) (qs : List Pr) (w : World)
    (hk : 1 ≤ k ∧ k ≤ 5) (h0 : -9223372036854775808 ≤ lim) (h1 : lim ≤ 9223372036854775807) (ht : tk < 18446744073709551616) (hfo : fo < 18446744073709551616) (hke : ke < 18446744073709551616) (hpr : pr < 256)
    (hnm : nm.size ≤ 1048576) (hme : me.size ≤ 1048576) (hr1 : Rd w 2 (.slice A1 ps.length q1) ps.length (pairCells ps)) (hz1 : (textL ps).length ≤ 1048576) (hr2 : Rd w 2 (.slice A2 qs.length q2) qs.length (pairCells qs)) (hz2 : (textL qs).length ≤ 1048576) :
    Calls Tryz.prog 41 #[.agg #[.string nm, .string me, .slice A1 ps.length q1, .slice A2 qs.length q2, .int .i64 k, .int .i64 lim, .int .u64 tk, .int .u64 fo, .int .u64 ke, .int .u8 pr]] w fun e w' => e = .returned (.string (RuV.text ⟨nm, me, .slice A1 ps.length q1, ps, k, lim, tk, fo, ke, pr, .slice A2 qs.length q2, qs⟩)) ∧ Below w.heap.size w w' := by
  have U0 := (Upd.nil [] w).alloc #[.string nm, .string me, .slice A1 ps.length q1, .slice A2 qs.length q2, .int .i64 k, .int .i64 lim, .int .u64 tk, .int .u64 fo, .int .u64 ke, .int .u8 pr] 77
  have hr1' := U0.rd0 hr1
  have hr2' := U0.rd0 hr2
  obtain ⟨W, hW⟩ : ∃ W, W = w.alloc (.cells #[.string nm, .string me, .slice A1 ps.length q1, .slice A2 qs.length q2, .int .i64 k, .int .i64 lim, .int .u64 tk, .int .u64 fo, .int .u64 ke, .int .u8 pr] 77) := ⟨_, rfl⟩
  have UW := U0.same hW
  have KT1 := fun w' (h : Below W.heap.size W w') => refText (.slice A1 ps.length q1) ps w' (Rd.below (hW ▸ hr1') h) (by omega)
  have KT2 := fun w' (h : Below W.heap.size W w') => refText (.slice A2 qs.length q2) qs w' (Rd.below (hW ▸ hr2') h) (by omega)
  have ts1 := textB_size ps
  have ts2 := textB_size qs
  rw [show (⟨(textL ps).toArray⟩ : ByteArray) = textB ps from rfl] at KT1
  rw [show (⟨(textL qs).toArray⟩ : ByteArray) = textB qs from rfl] at KT2
  have KC := fun w' => refCondText k lim tk w' hk h0 h1 ht
  have KF := fun w' => refItoa fo w' hfo
  have KK := fun w' => refItoa ke w' hke
  have KP := fun w' => refItoa pr w' (by omega)
  have zc := condB_size k lim tk h0 h1 ht
  have zf := decB_size fo hfo
  have zk := decB_size ke hke
  have zp := decB_size pr (by omega)
  have E0 := Lib.hid (text_eq nm me (.slice A1 ps.length q1) ps k lim tk fo ke pr (.slice A2 qs.length q2) qs hk)
  obtain ⟨cb, hcb⟩ : ∃ c, c = condB k lim tk := ⟨_, rfl⟩
  rw [← hcb] at KC zc E0
  obtain ⟨fb, hfb⟩ : ∃ c, c = decB fo := ⟨_, rfl⟩
  rw [← hfb] at KF zf E0
  obtain ⟨kb, hkb⟩ : ∃ c, c = decB ke := ⟨_, rfl⟩
  rw [← hkb] at KK zk E0
  obtain ⟨pb, hpb⟩ : ∃ c, c = decB pr := ⟨_, rfl⟩
  rw [← hpb] at KP zp E0
  obtain ⟨t1, ht1⟩ : ∃ c, c = textB ps := ⟨_, rfl⟩
  have E1 := Lib.hid (show t1.data.toList = textL ps by rw [ht1]; exact textB_list ps)
  rw [← ht1] at KT1 ts1
  obtain ⟨t2, ht2⟩ : ∃ c, c = textB qs := ⟨_, rfl⟩
  have E2 := Lib.hid (show t2.data.toList = textL qs by rw [ht2]; exact textB_list qs)
  rw [← ht2] at KT2 ts2
  have u1 : t1.size ≤ 1048576 := by omega
  have u2 : t2.size ≤ 1048576 := by omega
  have l5 : (⟨#[114, 117, 108, 101, 32]⟩ : ByteArray).size = 5 := rfl
  have l1 : (⟨#[32]⟩ : ByteArray).size = 1 := rfl
  clear hcb hfb hkb hpb ht1 ht2 hr1 hr2 hr1' hr2' U0 h0 h1 ht hfo hke ts1 ts2 hz1 hz2
  have tail : True := trivial
  by_cases g1 : ps.length = 0
  · obtain rfl : ps = [] := List.eq_nil_of_length_eq_zero g1
    clear KT1 g1
    go_enter Tryz.func41, Tryz.ntmps41
    go_wp2_with fail
    refine wp_gen fun V hV => ?_
    have e0 : W = V := hW.trans hV.symm
    have hVW : Below W.heap.size W V := by rw [e0]; exact Below.refl _ _
    have UV := UW.same (hV.trans hW.symm)
    clear hV
    have FC : ∀ w', Below V.heap.size V w' → w'.cell? ⟨w.heap.size, 2, none⟩ = some (.slice A1 ([] : List Pr).length q1) ∧ w'.cell? ⟨w.heap.size, 4, none⟩ = some (.int .i64 k) ∧ w'.cell? ⟨w.heap.size, 5, none⟩ = some (.int .i64 lim) ∧ w'.cell? ⟨w.heap.size, 6, none⟩ = some (.int .u64 tk) ∧ w'.cell? ⟨w.heap.size, 7, none⟩ = some (.int .u64 fo) ∧ w'.cell? ⟨w.heap.size, 8, none⟩ = some (.int .u64 ke) ∧ w'.cell? ⟨w.heap.size, 9, none⟩ = some (.int .u8 pr) ∧ w'.cell? ⟨w.heap.size, 3, none⟩ = some (.slice A2 qs.length q2) := fun w' h => ⟨((UV.grow h).blk 0 rfl).cell (j := 2) (v := .slice A1 ([] : List Pr).length q1) rfl, ((UV.grow h).blk 0 rfl).cell (j := 4) (v := .int .i64 k) rfl, ((UV.grow h).blk 0 rfl).cell (j := 5) (v := .int .i64 lim) rfl, ((UV.grow h).blk 0 rfl).cell (j := 6) (v := .int .u64 tk) rfl, ((UV.grow h).blk 0 rfl).cell (j := 7) (v := .int .u64 fo) rfl, ((UV.grow h).blk 0 rfl).cell (j := 8) (v := .int .u64 ke) rfl, ((UV.grow h).blk 0 rfl).cell (j := 9) (v := .int .u8 pr) rfl, ((UV.grow h).blk 0 rfl).cell (j := 3) (v := .slice A2 qs.length q2) rfl⟩
    refine region_free (fun w' => Below V.heap.size V w') [] [] (List.range 23) (by kernel_rfl) (by kernel_rfl) (by kernel_rfl) (Below.refl _ _).drew ?_
    simp only [List.range, List.range.loop]
    have ext : ∀ w' w'', Below V.heap.size V w' → Below w'.heap.size w' w'' → Below V.heap.size V w'' := fun w' w'' h h2 => h.trans (h2.mono h.size)
    have w8 : IntKind.u64.wrap (pr : Int) = (pr : Int) := by simp only [IntKind.wrap, IntKind.bits, IntKind.signed]; simp; omega
    repeat (first
    | (refine RelSeq.pure_ (c := ?_) rfl rfl ?_ ?_; rotate_left; (focus (intro x w'; dsimp only; go_simp; (first | ((repeat' apply And.intro) <;> first | with_reducible rfl | assumption) | (split <;> (try (focus (exfalso; omega))); (try go_simp); (repeat' apply And.intro) <;> first | with_reducible rfl | assumption)))); simp only [Act.put, List.setIfInBounds_toArray, List.set_cons_zero, List.set_cons_succ])
    | (refine RelSeq.grow_ (c := ?_) rfl rfl ?_ ?_; rotate_left; (focus (intro x w' hw _; dsimp only; obtain ⟨d2, d3, d4, d5, d6, d7, d8, d9⟩ := FC w' hw; have hbr := Below.refl w'.heap.size w'; go_simp; (repeat' apply And.intro) <;> first | with_reducible rfl | assumption)); simp only [Act.put, List.setIfInBounds_toArray, List.set_cons_zero, List.set_cons_succ])
    | (refine RelSeq.grow_ (c := ?_) rfl rfl ?_ ?_; rotate_left; (focus (intro x w' hw _; dsimp only; go_simp; (with_reducible refine (KC w').mono ?_); rintro e w2 ⟨rfl, hb2⟩; have hI := ext w' w2 hw hb2; go_simp; (repeat' apply And.intro) <;> first | with_reducible rfl | assumption)); simp only [Act.put, List.setIfInBounds_toArray, List.set_cons_zero, List.set_cons_succ])
    | (refine RelSeq.grow_ (c := ?_) rfl rfl ?_ ?_; rotate_left; (focus (intro x w' hw _; dsimp only; go_simp; (with_reducible refine (KF w').mono ?_); rintro e w2 ⟨rfl, hb2⟩; have hI := ext w' w2 hw hb2; go_simp; (repeat' apply And.intro) <;> first | with_reducible rfl | assumption)); simp only [Act.put, List.setIfInBounds_toArray, List.set_cons_zero, List.set_cons_succ])
    | (refine RelSeq.grow_ (c := ?_) rfl rfl ?_ ?_; rotate_left; (focus (intro x w' hw _; dsimp only; go_simp; (with_reducible refine (KK w').mono ?_); rintro e w2 ⟨rfl, hb2⟩; have hI := ext w' w2 hw hb2; go_simp; (repeat' apply And.intro) <;> first | with_reducible rfl | assumption)); simp only [Act.put, List.setIfInBounds_toArray, List.set_cons_zero, List.set_cons_succ])
    | (refine RelSeq.grow_ (c := ?_) rfl rfl ?_ ?_; rotate_left; (focus (intro x w' hw _; dsimp only; go_simp; (with_reducible refine (KP w').mono ?_); rintro e w2 ⟨rfl, hb2⟩; have hI := ext w' w2 hw hb2; go_simp; (repeat' apply And.intro) <;> first | with_reducible rfl | assumption)); simp only [Act.put, List.setIfInBounds_toArray, List.set_cons_zero, List.set_cons_succ]))
    refine RelSeq.nil_ fun x2 w6 hw6 _ _ => ?_
    refine TailSeq.nil_ ?_
    by_cases g2 : qs.length = 0
    · obtain rfl : qs = [] := List.eq_nil_of_length_eq_zero g2
      have U6 := UV.grow hw6
      have e9 := (U6.blk 0 rfl).cell (j := 3) (v := .slice A2 ([] : List Pr).length q2) rfl
      rw [List.length_nil] at e9
      clear g2 KT2
      go_wp2_with fail
      go_ret
      refine ⟨congrArg (fun s => Ending.returned (.string s)) (ba_inj ?_), U6.below⟩
      refine Eq.trans ?_ E0.out.symm
      simp [ByteArray.data_append]
    · have hq : (0 : Int) < (qs.length : Int) := by omega
      have U6 := UV.grow hw6
      have e9 := (U6.blk 0 rfl).cell (j := 3) (v := .slice A2 qs.length q2) rfl
      have hqn : qs ≠ [] := fun h => g2 (by rw [h]; rfl)
      have HQ := Lib.hid hqn
      have K2 := KT2 w6 ((by have := hVW; exact this.trans (hw6.mono this.size)))
      clear g2 KT2 hqn
      go_wp2_with fail
      (with_reducible refine K2.mono ?_)
      rintro e w7 ⟨rfl, hb7⟩
      have U7 := U6.grow hb7
      go_wp2_with fail
      go_ret
      refine ⟨congrArg (fun s => Ending.returned (.string s)) (ba_inj ?_), U7.below⟩
      refine Eq.trans ?_ E0.out.symm
      simp [ByteArray.data_append, E2.out, HQ.out]
  · have hp : (0 : Int) < (ps.length : Int) := by omega
    have hpn : ps ≠ [] := fun h => g1 (by rw [h]; rfl)
    have HP := Lib.hid hpn
    have K1 := KT1 W (Below.refl _ _)
    rw [hW] at K1
    clear KT1 g1 hpn
    go_enter Tryz.func41, Tryz.ntmps41
    go_wp2_with fail
    (with_reducible refine K1.mono ?_)
    rintro e w1 ⟨rfl, hb1⟩
    have U1 := (hW ▸ UW).grow hb1
    rw [← hW] at hb1
    have c0 := (U1.blk 0 rfl).cell (j := 2) (v := .slice A1 ps.length q1) rfl
    clear K1
    go_wp2_with fail
    refine wp_gen fun V hV => ?_
    have hVW : Below W.heap.size W V := by rw [hV]; exact hb1
    have UV := U1.same hV
    clear hV
    have FC : ∀ w', Below V.heap.size V w' → w'.cell? ⟨w.heap.size, 2, none⟩ = some (.slice A1 ps.length q1) ∧ w'.cell? ⟨w.heap.size, 4, none⟩ = some (.int .i64 k) ∧ w'.cell? ⟨w.heap.size, 5, none⟩ = some (.int .i64 lim) ∧ w'.cell? ⟨w.heap.size, 6, none⟩ = some (.int .u64 tk) ∧ w'.cell? ⟨w.heap.size, 7, none⟩ = some (.int .u64 fo) ∧ w'.cell? ⟨w.heap.size, 8, none⟩ = some (.int .u64 ke) ∧ w'.cell? ⟨w.heap.size, 9, none⟩ = some (.int .u8 pr) ∧ w'.cell? ⟨w.heap.size, 3, none⟩ = some (.slice A2 qs.length q2) := fun w' h => ⟨((UV.grow h).blk 0 rfl).cell (j := 2) (v := .slice A1 ps.length q1) rfl, ((UV.grow h).blk 0 rfl).cell (j := 4) (v := .int .i64 k) rfl, ((UV.grow h).blk 0 rfl).cell (j := 5) (v := .int .i64 lim) rfl, ((UV.grow h).blk 0 rfl).cell (j := 6) (v := .int .u64 tk) rfl, ((UV.grow h).blk 0 rfl).cell (j := 7) (v := .int .u64 fo) rfl, ((UV.grow h).blk 0 rfl).cell (j := 8) (v := .int .u64 ke) rfl, ((UV.grow h).blk 0 rfl).cell (j := 9) (v := .int .u8 pr) rfl, ((UV.grow h).blk 0 rfl).cell (j := 3) (v := .slice A2 qs.length q2) rfl⟩
    refine region_free (fun w' => Below V.heap.size V w') [] [] (List.range 23) (by kernel_rfl) (by kernel_rfl) (by kernel_rfl) (Below.refl _ _).drew ?_
    simp only [List.range, List.range.loop]
    have ext : ∀ w' w'', Below V.heap.size V w' → Below w'.heap.size w' w'' → Below V.heap.size V w'' := fun w' w'' h h2 => h.trans (h2.mono h.size)
    have w8 : IntKind.u64.wrap (pr : Int) = (pr : Int) := by simp only [IntKind.wrap, IntKind.bits, IntKind.signed]; simp; omega
    repeat (first
    | (refine RelSeq.pure_ (c := ?_) rfl rfl ?_ ?_; rotate_left; (focus (intro x w'; dsimp only; go_simp; (first | ((repeat' apply And.intro) <;> first | with_reducible rfl | assumption) | (split <;> (try (focus (exfalso; omega))); (try go_simp); (repeat' apply And.intro) <;> first | with_reducible rfl | assumption)))); simp only [Act.put, List.setIfInBounds_toArray, List.set_cons_zero, List.set_cons_succ])
    | (refine RelSeq.grow_ (c := ?_) rfl rfl ?_ ?_; rotate_left; (focus (intro x w' hw _; dsimp only; obtain ⟨d2, d3, d4, d5, d6, d7, d8, d9⟩ := FC w' hw; have hbr := Below.refl w'.heap.size w'; go_simp; (repeat' apply And.intro) <;> first | with_reducible rfl | assumption)); simp only [Act.put, List.setIfInBounds_toArray, List.set_cons_zero, List.set_cons_succ])
    | (refine RelSeq.grow_ (c := ?_) rfl rfl ?_ ?_; rotate_left; (focus (intro x w' hw _; dsimp only; go_simp; (with_reducible refine (KC w').mono ?_); rintro e w2 ⟨rfl, hb2⟩; have hI := ext w' w2 hw hb2; go_simp; (repeat' apply And.intro) <;> first | with_reducible rfl | assumption)); simp only [Act.put, List.setIfInBounds_toArray, List.set_cons_zero, List.set_cons_succ])
    | (refine RelSeq.grow_ (c := ?_) rfl rfl ?_ ?_; rotate_left; (focus (intro x w' hw _; dsimp only; go_simp; (with_reducible refine (KF w').mono ?_); rintro e w2 ⟨rfl, hb2⟩; have hI := ext w' w2 hw hb2; go_simp; (repeat' apply And.intro) <;> first | with_reducible rfl | assumption)); simp only [Act.put, List.setIfInBounds_toArray, List.set_cons_zero, List.set_cons_succ])
    | (refine RelSeq.grow_ (c := ?_) rfl rfl ?_ ?_; rotate_left; (focus (intro x w' hw _; dsimp only; go_simp; (with_reducible refine (KK w').mono ?_); rintro e w2 ⟨rfl, hb2⟩; have hI := ext w' w2 hw hb2; go_simp; (repeat' apply And.intro) <;> first | with_reducible rfl | assumption)); simp only [Act.put, List.setIfInBounds_toArray, List.set_cons_zero, List.set_cons_succ])
    | (refine RelSeq.grow_ (c := ?_) rfl rfl ?_ ?_; rotate_left; (focus (intro x w' hw _; dsimp only; go_simp; (with_reducible refine (KP w').mono ?_); rintro e w2 ⟨rfl, hb2⟩; have hI := ext w' w2 hw hb2; go_simp; (repeat' apply And.intro) <;> first | with_reducible rfl | assumption)); simp only [Act.put, List.setIfInBounds_toArray, List.set_cons_zero, List.set_cons_succ]))
    refine RelSeq.nil_ fun x2 w6 hw6 _ _ => ?_
    refine TailSeq.nil_ ?_
    by_cases g2 : qs.length = 0
    · obtain rfl : qs = [] := List.eq_nil_of_length_eq_zero g2
      have U6 := UV.grow hw6
      have e9 := (U6.blk 0 rfl).cell (j := 3) (v := .slice A2 ([] : List Pr).length q2) rfl
      rw [List.length_nil] at e9
      clear g2 KT2
      go_wp2_with fail
      go_ret
      refine ⟨congrArg (fun s => Ending.returned (.string s)) (ba_inj ?_), U6.below⟩
      refine Eq.trans ?_ E0.out.symm
      simp [ByteArray.data_append, E1.out, HP.out]
    · have hq : (0 : Int) < (qs.length : Int) := by omega
      have U6 := UV.grow hw6
      have e9 := (U6.blk 0 rfl).cell (j := 3) (v := .slice A2 qs.length q2) rfl
      have hqn : qs ≠ [] := fun h => g2 (by rw [h]; rfl)
      have HQ := Lib.hid hqn
      have K2 := KT2 w6 ((by have := hVW; exact this.trans (hw6.mono this.size)))
      clear g2 KT2 hqn
      go_wp2_with fail
      (with_reducible refine K2.mono ?_)
      rintro e w7 ⟨rfl, hb7⟩
      have U7 := U6.grow hb7
      go_wp2_with fail
      go_ret
      refine ⟨congrArg (fun s => Ending.returned (.string s)) (ba_inj ?_), U7.below⟩
      refine Eq.trans ?_ E0.out.symm
      simp [ByteArray.data_append, E2.out, HQ.out, E1.out, HP.out]
end
end Go.Proofs.YtebnbbbiobaneaaGreatDoor
