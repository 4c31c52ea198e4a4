/-
  The reference's Line: words as a rule.
-/
import Derived.Test.YtebnbbbiobaneaaGreatDoorRl1
import Derived.Test.YtebnbbbiobaneaaGreatDoorRuJ
import Derived.Test.YtebnbbbiobaneaaGreatDoorRuQ
import Derived.Test.YtebnbbbiobaneaaGreatDoorLRefQ
import Derived.Test.YtebnbbbiobaneaaGreatDoorFreeS
import Derived.Test.YtebnbbbiobaneaaGreatDoorSt2
import Derived.Deep.CutBlock
import Derived.Deep.CutRange
import Derived.RegionTactic
import Derived.BigRegion
import Derived.OwnWalk
namespace Go.Proofs.YtebnbbbiobaneaaGreatDoor
open Go.RowKit
set_option maxRecDepth 100000

theorem Rd.pos {w : World} {A : Option Addr} {n c : Nat} {xs : List Value} (h : Rd w 1 (.slice A n c) n xs) (hn : 0 < n) : ∃ b o, A = some ⟨b, o, none⟩ ∧ RdAt w b o xs := by
  obtain ⟨A', c', he, _, _, _, h4⟩ := h
  cases he
  exact h4 hn
theorem Rd.cap {w : World} {A : Option Addr} {n c : Nat} {xs : List Value} (h : Rd w 1 (.slice A n c) n xs) : n ≤ c ∧ c ≤ 9223372036854775807 := by
  obtain ⟨A', c', he, _, h2, h3, _⟩ := h
  cases he
  exact ⟨h2, by unfold maxLen at h3; omega⟩
theorem numO_le {s : ByteArray} {most : Nat} (h : numO s most = true) : numN s ≤ most := by
  unfold numO numN at *
  cases h2 : numF s with
  | none => simp
  | some n => rw [h2] at h; simpa using h
def atV (ws : List ByteArray) (i j : Nat) : Nat := if j < i then stV ws j else 0
theorem cond_ne {ws : List ByteArray} (h : condE ws = 0) : ws ≠ [] := by
  rintro rfl
  exact absurd h (by decide)
attribute [local go_sem] FreeSl.out
set_option maxHeartbeats 16000000 in
theorem refLine (v : Value) (ws : List ByteArray) (w : World) (hr : Rd w 1 v ws.length (wsC ws)) (hz : ∀ s ∈ ws, s.size ≤ maxLen) :
    Calls Tryz.prog 81 #[v] w fun en w' => ∃ q : RuV, en = .returned (.tuple #[.agg q.ref.toArray, .int .i64 (lineE ws : Nat)]) ∧ (lineE ws = 0 → q = lineR ws q.iv q.wv) ∧ q.good w' w.heap.size ∧ Below w.heap.size w w' := by
  obtain ⟨A, c, rfl, h1, h2, h3, h4⟩ := hr
  unfold maxLen at h3
  by_cases hlen : ws.length < 2
  · have E := Lib.hid (ln_short hlen)
    have d : decide ((ws.length : Int) < 2) = true := decide_eq_true (by omega)
    clear hlen h4 h1
    go_enter Tryz.func81, Tryz.ntmps81
    go_wp2_with fail
    refine bodyPost_gen fun w6 hw6 => ?_
    have U6 := (((Upd.nil [] w).alloc #[.string ⟨#[]⟩, .string ⟨#[]⟩, .slice none 0 0, .slice none 0 0, .int .i64 0, .int .i64 0, .int .u64 0, .int .u64 0, .int .u64 0, .int .u8 0] 77).alloc #[.string ⟨#[]⟩, .string ⟨#[]⟩, .slice none 0 0, .slice none 0 0, .int .i64 0, .int .i64 0, .int .u64 0, .int .u64 0, .int .u64 0, .int .u8 0] 77).same hw6
    clear hw6
    have a0 := (U6.blk 1 rfl).cell (j := 0) (v := .string ⟨#[]⟩) rfl
    have a1 := (U6.blk 1 rfl).cell (j := 1) (v := .string ⟨#[]⟩) rfl
    have a2 := (U6.blk 1 rfl).cell (j := 2) (v := .slice none 0 0) rfl
    have a3 := (U6.blk 1 rfl).cell (j := 3) (v := .slice none 0 0) rfl
    have a4 := (U6.blk 1 rfl).cell (j := 4) (v := .int .i64 0) rfl
    have a5 := (U6.blk 1 rfl).cell (j := 5) (v := .int .i64 0) rfl
    have a6 := (U6.blk 1 rfl).cell (j := 6) (v := .int .u64 0) rfl
    have a7 := (U6.blk 1 rfl).cell (j := 7) (v := .int .u64 0) rfl
    have a8 := (U6.blk 1 rfl).cell (j := 8) (v := .int .u64 0) rfl
    have a9 := (U6.blk 1 rfl).cell (j := 9) (v := .int .u8 0) rfl
    refine bodyPost_ret (v := .tuple #[.agg #[.string ⟨#[]⟩, .string ⟨#[]⟩, .slice none 0 0, .slice none 0 0, .int .i64 0, .int .i64 0, .int .u64 0, .int .u64 0, .int .u64 0, .int .u8 0], .int .i64 2]) ?_ rfl ⟨zeroR, by rw [E.out]; rfl, (fun h => by rw [E.out] at h; cases h), zero_good _ _, U6.below⟩
    simp [results, Tryz.results81, go_sem, a0, a1, a2, a3, a4, a5, a6, a7, a8, a9]
  obtain ⟨wa, wb, wt, rfl⟩ : ∃ a b r, ws = a :: b :: r := by
    match ws, hlen with
    | [], h => exact absurd (by decide) h
    | [_], h => exact absurd (show 1 < 2 by decide) h
    | a :: b :: r, _ => exact ⟨a, b, r, rfl⟩
  obtain ⟨ob, oo, rfl, hat⟩ := h4 (by simp)
  have x0 := hat 0 (.string wa) rfl
  have x1 := hat 1 (.string wb) rfl
  rw [Nat.add_zero] at x0
  have hz1 : wa.size ≤ maxLen := hz wa (.head _)
  have hz2 : wb.size ≤ maxLen := hz wb (.tail _ (.head _))
  have hzr : ∀ s ∈ wt, s.size ≤ maxLen := fun s hs => hz s (.tail _ (.tail _ hs))
  have hR : Rd w 1 (.slice (some ⟨ob, oo, none⟩) (wa :: wb :: wt).length c) (wa :: wb :: wt).length (wsC (wa :: wb :: wt)) := ⟨_, _, rfl, h1, h2, by unfold maxLen; exact h3, fun _ => ⟨_, _, rfl, hat⟩⟩
  have hR2 := Rd.cut1 (k := 2) hR (by simp)
  rw [show (wsC (wa :: wb :: wt)).drop 2 = wsC wt from rfl, show (wa :: wb :: wt).length - 2 = wt.length from rfl] at hR2
  have HR := Lib.hid hR2
  have d0 : decide ((wt.length : Int) + 1 + 1 < 2) = false := decide_eq_false (by omega)
  clear hat hR hR2 hlen h4 hz h1
  go_enter Tryz.func81, Tryz.ntmps81
  go_upto_region 5 with fail
  refine wp_gen fun W1 hW1 => ?_
  have U1 := (((Upd.nil [] w).alloc #[.string ⟨#[]⟩, .string ⟨#[]⟩, .slice none 0 0, .slice none 0 0, .int .i64 0, .int .i64 0, .int .u64 0, .int .u64 0, .int .u64 0, .int .u8 0] 77).alloc #[.string ⟨#[]⟩, .string ⟨#[]⟩, .slice none 0 0, .slice none 0 0, .int .i64 0, .int .i64 0, .int .u64 0, .int .u64 0, .int .u64 0, .int .u8 0] 77).same hW1
  rw [allocSz] at U1
  clear hW1
  have x0 := cell_below U1.below x0
  have x1 := cell_below U1.below x1
  have s0 := (U1.blk 0 rfl).cell (j := 0) (v := .string ⟨#[]⟩) rfl
  have s1 := (U1.blk 0 rfl).cell (j := 1) (v := .string ⟨#[]⟩) rfl
  have f0 := (U1.blk 0 rfl).frozen 0
  have f1 := (U1.blk 0 rfl).frozen 1
  go_region
  go_upto_region 7 with fail
  refine wp_gen fun W2 hW2 => ?_
  have U2 := ((U1.put 0 rfl 0 (.string wa)).put 0 rfl 1 (.string wb)).drew.same hW2
  simp only [List.setIfInBounds_toArray, List.set_cons_zero, List.set_cons_succ, List.eraseIdx_cons_zero] at U2
  clear hW2 U1 x0 x1 s0 s1 f0 f1 d0
  obtain ⟨A2, hA2⟩ : ∃ x, x = (if c = 2 then some (⟨ob, oo, none⟩ : Addr) else some ⟨ob, oo + 2, none⟩) := ⟨_, rfl⟩
  rw [← hA2] at HR ⊢
  obtain ⟨c2, hc2⟩ : ∃ x, x = c - 2 := ⟨_, rfl⟩
  rw [← hc2] at HR ⊢
  clear hA2 hc2
  obtain ⟨WS, hWS⟩ : ∃ x, x = wa :: wb :: wt := ⟨_, rfl⟩
  go_upto_region 8 with fail
  go_cut [37] from 29 to 37 (fun b wx => b = .bool (isW kIf wt) ∧ wx = W2)
  case first =>
    cases wt with
    | nil =>
      go_wp2_with fail
      go_meet
      exact ⟨rfl, rfl⟩
    | cons k0 r0 =>
      obtain ⟨b2, o2, rfl, hat2⟩ := Rd.pos HR.out (by simp)
      have y0 := cell_below U2.below (hat2 0 (.string k0) rfl)
      rw [Nat.add_zero] at y0
      clear hat2
      have g0 : decide ((0 : Int) < (r0.length : Int) + 1) = true := decide_eq_true (by omega)
      have g1 : (0 : Int) < (r0.length : Int) + 1 := by omega
      have hTL : (⟨#[105, 102]⟩ : ByteArray).toList = [105, 102] := by decide +kernel
      by_cases HK : k0 = kIf
      · have hE1 : (k0 == ⟨#[105, 102]⟩) = true := by rw [beqS]; simpa [kIf, kFor, kKeep, kPrio, kWith] using HK
        have hE2 : (k0.toList == (⟨#[105, 102]⟩ : ByteArray).toList) = true := by rw [eqS_eq]; simpa [kIf, kFor, kKeep, kPrio, kWith] using HK
        have hE3 : (k0.toList == [105, 102]) = true := by rw [← hTL]; exact hE2
        go_wp2_with fail
        go_meet
        have hiw : isW kIf (k0 :: r0) = true := by simp [isW, HK]
        exact ⟨by first | (rw [hiw]; done) | (rw [hiw, hE3]; done) | (rw [hiw, ← HK, hE3]; done) | (rw [hiw, hE2]; done), rfl⟩
      · have hE1 : (k0 == ⟨#[105, 102]⟩) = false := by rw [beqS]; simpa [kIf, kFor, kKeep, kPrio, kWith] using HK
        have hE2 : (k0.toList == (⟨#[105, 102]⟩ : ByteArray).toList) = false := by rw [eqS_eq]; simpa [kIf, kFor, kKeep, kPrio, kWith] using HK
        have hE3 : (k0.toList == [105, 102]) = false := by rw [← hTL]; exact hE2
        go_wp2_with fail
        go_meet
        have hiw : isW kIf (k0 :: r0) = false := by simp [isW, HK]
        exact ⟨by first | (rw [hiw]; done) | (rw [hiw, hE3]; done) | (rw [hiw, ← HK, hE3]; done) | (rw [hiw, hE2]; done), rfl⟩
  obtain ⟨rfl, hcw⟩ := hcut
  rw [hcw]
  clear hcw
  go_upto_if 37 with fail
  go_cut [0, 7] from 29 to 56 (fun s e wx => ∃ (w4 : List ByteArray) (A4 : Option Addr) (c4 : Nat) (Ai : Option Addr) (ci : Nat) (ps : List Pr), s = .slice A4 w4.length c4 ∧ e = .int .i64 0 ∧ Rd w 1 (.slice A4 w4.length c4) w4.length (wsC w4) ∧ (∀ s ∈ w4, s.size ≤ maxLen) ∧ (lnW4 (wa :: wb :: wt) = w4 ∧ lnE4 (wa :: wb :: wt) = 0 ∧ lnP (wa :: wb :: wt) = ps) ∧ (∀ p ∈ ps, p.1.size ≤ maxLen ∧ p.2.size ≤ maxLen) ∧ Upd [] w [chRow 138 2 (.slice Ai ps.length ci) ps.length (pairCells ps), chBlk (w.heap.size + 1) #[.string wa, .string wb, .slice Ai ps.length ci, .slice none 0 0, .int .i64 0, .int .i64 0, .int .u64 0, .int .u64 0, .int .u64 0, .int .u8 0] 77, chBlk w.heap.size #[.string ⟨#[]⟩, .string ⟨#[]⟩, .slice none 0 0, .slice none 0 0, .int .i64 0, .int .i64 0, .int .u64 0, .int .u64 0, .int .u64 0, .int .u8 0] 77] wx)
  case first =>
    clear hWS
    cases hw : isW kIf wt with
    | false =>
      have L4 := ln_noif wa wb wt hw
      have U4 := U2.nilRow 138 2
      have HW := Lib.hid hw
      clear hw
      go_wp2_with fail
      go_meet
      exact ⟨wt, A2, c2, none, 0, [], rfl, rfl, HR.out, hzr, L4, (fun p hp => by cases hp), U4⟩
    | true =>
      rcases wt with _ | ⟨k0, _ | ⟨x, r⟩⟩
      · cases hw
      · have hk0 : k0 = kIf := by simpa [isW] using hw
        have E := Lib.hid (show lineE [wa, wb, k0] = 2 by rw [hk0]; exact ln_if0 wa wb)
        clear hw hk0
        have cc0 := (U2.blk 0 rfl).cell (j := 0) (v := .string wa) rfl
        have cc1 := (U2.blk 0 rfl).cell (j := 1) (v := .string wb) rfl
        have cc2 := (U2.blk 0 rfl).cell (j := 2) (v := .slice none 0 0) rfl
        have cc3 := (U2.blk 0 rfl).cell (j := 3) (v := .slice none 0 0) rfl
        have cc4 := (U2.blk 0 rfl).cell (j := 4) (v := .int .i64 0) rfl
        have cc5 := (U2.blk 0 rfl).cell (j := 5) (v := .int .i64 0) rfl
        have cc6 := (U2.blk 0 rfl).cell (j := 6) (v := .int .u64 0) rfl
        have cc7 := (U2.blk 0 rfl).cell (j := 7) (v := .int .u64 0) rfl
        have cc8 := (U2.blk 0 rfl).cell (j := 8) (v := .int .u64 0) rfl
        have cc9 := (U2.blk 0 rfl).cell (j := 9) (v := .int .u8 0) rfl
        have yy0 := (U2.blk 1 rfl).frozen 0
        have yy1 := (U2.blk 1 rfl).frozen 1
        have yy2 := (U2.blk 1 rfl).frozen 2
        have yy3 := (U2.blk 1 rfl).frozen 3
        have yy4 := (U2.blk 1 rfl).frozen 4
        have yy5 := (U2.blk 1 rfl).frozen 5
        have yy6 := (U2.blk 1 rfl).frozen 6
        have yy7 := (U2.blk 1 rfl).frozen 7
        have yy8 := (U2.blk 1 rfl).frozen 8
        have yy9 := (U2.blk 1 rfl).frozen 9
        have rr0 := (U2.blk 1 rfl).cell (j := 0) (v := .string ⟨#[]⟩) rfl
        have rr1 := (U2.blk 1 rfl).cell (j := 1) (v := .string ⟨#[]⟩) rfl
        have rr2 := (U2.blk 1 rfl).cell (j := 2) (v := .slice none 0 0) rfl
        have rr3 := (U2.blk 1 rfl).cell (j := 3) (v := .slice none 0 0) rfl
        have rr4 := (U2.blk 1 rfl).cell (j := 4) (v := .int .i64 0) rfl
        have rr5 := (U2.blk 1 rfl).cell (j := 5) (v := .int .i64 0) rfl
        have rr6 := (U2.blk 1 rfl).cell (j := 6) (v := .int .u64 0) rfl
        have rr7 := (U2.blk 1 rfl).cell (j := 7) (v := .int .u64 0) rfl
        have rr8 := (U2.blk 1 rfl).cell (j := 8) (v := .int .u64 0) rfl
        have rr9 := (U2.blk 1 rfl).cell (j := 9) (v := .int .u8 0) rfl
        go_wp2_with fail
        refine bodyPost_gen fun w6 hw6 => ?_
        have U6 := (((((((((((U2.put 1 rfl 0 (.string wa)).put 0 rfl 1 (.string wb)).put 0 rfl 2 (.slice none 0 0)).put 0 rfl 3 (.slice none 0 0)).put 0 rfl 4 (.int .i64 0)).put 0 rfl 5 (.int .i64 0)).put 0 rfl 6 (.int .u64 0)).put 0 rfl 7 (.int .u64 0)).put 0 rfl 8 (.int .u64 0)).put 0 rfl 9 (.int .u8 0))).same hw6
        simp only [List.setIfInBounds_toArray, List.set_cons_zero, List.set_cons_succ, List.eraseIdx_cons_zero, List.eraseIdx_cons_succ] at U6
        clear hw6
        have a0 := (U6.blk 0 rfl).cell (j := 0) (v := .string wa) rfl
        have a1 := (U6.blk 0 rfl).cell (j := 1) (v := .string wb) rfl
        have a2 := (U6.blk 0 rfl).cell (j := 2) (v := .slice none 0 0) rfl
        have a3 := (U6.blk 0 rfl).cell (j := 3) (v := .slice none 0 0) rfl
        have a4 := (U6.blk 0 rfl).cell (j := 4) (v := .int .i64 0) rfl
        have a5 := (U6.blk 0 rfl).cell (j := 5) (v := .int .i64 0) rfl
        have a6 := (U6.blk 0 rfl).cell (j := 6) (v := .int .u64 0) rfl
        have a7 := (U6.blk 0 rfl).cell (j := 7) (v := .int .u64 0) rfl
        have a8 := (U6.blk 0 rfl).cell (j := 8) (v := .int .u64 0) rfl
        have a9 := (U6.blk 0 rfl).cell (j := 9) (v := .int .u8 0) rfl
        refine bodyPost_ret (v := .tuple #[.agg #[.string wa, .string wb, .slice none 0 0, .slice none 0 0, .int .i64 0, .int .i64 0, .int .u64 0, .int .u64 0, .int .u64 0, .int .u8 0], .int .i64 2]) ?_ rfl ⟨⟨wa, wb, .slice none 0 0, [], 0, 0, 0, 0, 0, 0, .slice none 0 0, []⟩, by rw [E.out]; rfl, (fun h => by rw [E.out] at h; cases h), ⟨hz1, hz2, (fun p hp => by cases hp), (fun p hp => by cases hp), (show (0 : Nat) < 256 by decide), (show (0 : Nat) < 256 by decide), World.ownsRow_nil _ _ _ _, World.ownsRow_nil _ _ _ _⟩, U6.below⟩
        simp [results, Tryz.results81, go_sem, a0, a1, a2, a3, a4, a5, a6, a7, a8, a9]
      · have hk0 : k0 = kIf := by simpa [isW] using hw
        subst hk0
        have L4 := ln_if wa wb x r
        have hzx := hzr x (.tail _ (.head _))
        obtain ⟨b2, o2, rfl, hat2⟩ := Rd.pos HR.out (by simp)
        have hcap := Rd.cap HR.out
        simp only [List.length_cons] at hcap
        have y1 := cell_below U2.below (hat2 1 (.string x) rfl)
        have hcut := Rd.cut1 (k := 2) HR.out (by simp)
        rw [show (wsC (kIf :: x :: r)).drop 2 = wsC r from rfl, show (kIf :: x :: r).length - 2 = r.length from rfl] at hcut
        have HC := Lib.hid hcut
        have KP := refParse x W2 hzx
        have hpz := parseC_small x maxLen hzx
        obtain ⟨pe, hpe⟩ : ∃ y, y = (parseC x).1 := ⟨_, rfl⟩
        obtain ⟨ps, hpp⟩ : ∃ y, y = (parseC x).2 := ⟨_, rfl⟩
        rw [← hpe, ← hpp] at KP L4
        rw [← hpp] at hpz
        have s0 := (U2.blk 0 rfl).cell (j := 2) (v := .slice none 0 0) rfl
        have f0 := (U2.blk 0 rfl).frozen 2
        have g2 : decide ((r.length : Int) + 1 + 1 < 2) = false := decide_eq_false (by omega)
        have g3 : (1 : Int) < (r.length : Int) + 1 + 1 := by omega
        clear hat2 hcut hpe hpp hw hzx HR
        go_wp2_with fail
        (with_reducible refine KP.mono ?_)
        rintro en w3 ⟨v3, rfl, ho3, hb3⟩
        have U3 := U2.addRow hb3 ho3 (Nat.le_refl _)
        obtain ⟨Ai, ci, rfl⟩ := owns_slice ho3
        have s0 := (U3.blk 1 rfl).cell (j := 2) (v := .slice none 0 0) rfl
        have f0 := (U3.blk 1 rfl).frozen 2
        clear KP ho3 hb3
        by_cases hp0 : pe = 0
        · subst hp0
          have U4 := U3.put 1 rfl 2 (.slice Ai ps.length ci)
          simp only [List.setIfInBounds_toArray, List.set_cons_zero, List.set_cons_succ, List.eraseIdx_cons_zero, List.eraseIdx_cons_succ] at U4
          by_cases q2 : c2 = 2
          · subst q2
            obtain rfl : r = [] := List.eq_nil_of_length_eq_zero (by omega)
            rw [if_pos rfl] at HC
            clear U3
            go_wp2_with fail
            go_meet
            exact ⟨[], some ⟨b2, o2, none⟩, 0, Ai, ci, ps, rfl, rfl, HC.out, (fun s hs => hzr s (.tail _ (.tail _ hs))), L4, hpz, U4.perm (List.Perm.swap _ _ _)⟩
          · rw [if_neg q2] at HC
            clear U3
            go_wp2_with fail
            go_meet
            exact ⟨r, some ⟨b2, o2 + 2, none⟩, c2 - 2, Ai, ci, ps, rfl, rfl, HC.out, (fun s hs => hzr s (.tail _ (.tail _ hs))), L4, hpz, U4.perm (List.Perm.swap _ _ _)⟩
        · have hpf : ((pe : Int) == 0) = false := by rw [beq_eq_false_iff_ne]; omega
          have E := Lib.hid ((st4 (by rw [L4.2.1]; exact hp0)).trans L4.2.1)
          have Z := Lib.hid hp0
          clear hp0 L4 HC
          go_upto_region 12 with fail
          refine wp_gen fun W5 hW5 => ?_
          have U4 := (U3.put 1 rfl 2 (.slice Ai ps.length ci)).same hW5
          simp only [List.setIfInBounds_toArray, List.set_cons_zero, List.set_cons_succ, List.eraseIdx_cons_zero, List.eraseIdx_cons_succ] at U4
          clear hW5 s0 f0
          have cc0 := (U4.blk 0 rfl).cell (j := 0) (v := .string wa) rfl
          have cc1 := (U4.blk 0 rfl).cell (j := 1) (v := .string wb) rfl
          have cc2 := (U4.blk 0 rfl).cell (j := 2) (v := .slice Ai ps.length ci) rfl
          have cc3 := (U4.blk 0 rfl).cell (j := 3) (v := .slice none 0 0) rfl
          have cc4 := (U4.blk 0 rfl).cell (j := 4) (v := .int .i64 0) rfl
          have cc5 := (U4.blk 0 rfl).cell (j := 5) (v := .int .i64 0) rfl
          have cc6 := (U4.blk 0 rfl).cell (j := 6) (v := .int .u64 0) rfl
          have cc7 := (U4.blk 0 rfl).cell (j := 7) (v := .int .u64 0) rfl
          have cc8 := (U4.blk 0 rfl).cell (j := 8) (v := .int .u64 0) rfl
          have cc9 := (U4.blk 0 rfl).cell (j := 9) (v := .int .u8 0) rfl
          have yy0 := (U4.blk 2 rfl).frozen 0
          have yy1 := (U4.blk 2 rfl).frozen 1
          have yy2 := (U4.blk 2 rfl).frozen 2
          have yy3 := (U4.blk 2 rfl).frozen 3
          have yy4 := (U4.blk 2 rfl).frozen 4
          have yy5 := (U4.blk 2 rfl).frozen 5
          have yy6 := (U4.blk 2 rfl).frozen 6
          have yy7 := (U4.blk 2 rfl).frozen 7
          have yy8 := (U4.blk 2 rfl).frozen 8
          have yy9 := (U4.blk 2 rfl).frozen 9
          have rr0 := (U4.blk 2 rfl).cell (j := 0) (v := .string ⟨#[]⟩) rfl
          have rr1 := (U4.blk 2 rfl).cell (j := 1) (v := .string ⟨#[]⟩) rfl
          have rr2 := (U4.blk 2 rfl).cell (j := 2) (v := .slice none 0 0) rfl
          have rr3 := (U4.blk 2 rfl).cell (j := 3) (v := .slice none 0 0) rfl
          have rr4 := (U4.blk 2 rfl).cell (j := 4) (v := .int .i64 0) rfl
          have rr5 := (U4.blk 2 rfl).cell (j := 5) (v := .int .i64 0) rfl
          have rr6 := (U4.blk 2 rfl).cell (j := 6) (v := .int .u64 0) rfl
          have rr7 := (U4.blk 2 rfl).cell (j := 7) (v := .int .u64 0) rfl
          have rr8 := (U4.blk 2 rfl).cell (j := 8) (v := .int .u64 0) rfl
          have rr9 := (U4.blk 2 rfl).cell (j := 9) (v := .int .u8 0) rfl
          go_wp2_with fail
          refine bodyPost_gen fun w6 hw6 => ?_
          have U6 := (((((((((((U4.put 2 rfl 0 (.string wa)).put 0 rfl 1 (.string wb)).put 0 rfl 2 (.slice Ai ps.length ci)).put 0 rfl 3 (.slice none 0 0)).put 0 rfl 4 (.int .i64 0)).put 0 rfl 5 (.int .i64 0)).put 0 rfl 6 (.int .u64 0)).put 0 rfl 7 (.int .u64 0)).put 0 rfl 8 (.int .u64 0)).put 0 rfl 9 (.int .u8 0))).same hw6
          simp only [List.setIfInBounds_toArray, List.set_cons_zero, List.set_cons_succ, List.eraseIdx_cons_zero, List.eraseIdx_cons_succ] at U6
          clear hw6
          have a0 := (U6.blk 0 rfl).cell (j := 0) (v := .string wa) rfl
          have a1 := (U6.blk 0 rfl).cell (j := 1) (v := .string wb) rfl
          have a2 := (U6.blk 0 rfl).cell (j := 2) (v := .slice Ai ps.length ci) rfl
          have a3 := (U6.blk 0 rfl).cell (j := 3) (v := .slice none 0 0) rfl
          have a4 := (U6.blk 0 rfl).cell (j := 4) (v := .int .i64 0) rfl
          have a5 := (U6.blk 0 rfl).cell (j := 5) (v := .int .i64 0) rfl
          have a6 := (U6.blk 0 rfl).cell (j := 6) (v := .int .u64 0) rfl
          have a7 := (U6.blk 0 rfl).cell (j := 7) (v := .int .u64 0) rfl
          have a8 := (U6.blk 0 rfl).cell (j := 8) (v := .int .u64 0) rfl
          have a9 := (U6.blk 0 rfl).cell (j := 9) (v := .int .u8 0) rfl
          refine bodyPost_ret (v := .tuple #[.agg #[.string wa, .string wb, .slice Ai ps.length ci, .slice none 0 0, .int .i64 0, .int .i64 0, .int .u64 0, .int .u64 0, .int .u64 0, .int .u8 0], .int .i64 pe]) ?_ rfl ⟨⟨wa, wb, .slice Ai ps.length ci, ps, 0, 0, 0, 0, 0, 0, .slice none 0 0, []⟩, by rw [E.out]; rfl, (fun h => by rw [E.out] at h; exact absurd h Z.out), ⟨hz1, hz2, hpz, (fun p hp => by cases hp), (show (0 : Nat) < 256 by decide), (show (0 : Nat) < 256 by decide), (U6.rowBase 2 rfl), World.ownsRow_nil _ _ _ _⟩, U6.below⟩
          simp [results, Tryz.results81, go_sem, a0, a1, a2, a3, a4, a5, a6, a7, a8, a9]
  obtain ⟨w4, A4, c4, Ai, ci, ps, rfl, rfl, R4, hz4, L4, hps, U4⟩ := hcut
  rename World => W4
  clear U2 HR hzr h2 h3 x0 x1 hWS
  obtain ⟨hq1, hq2⟩ := Rd.cap R4
  have HR4 := Lib.hid R4
  have hk0 := cutN_le kFor w4
  have NPf := fun (W : World) (hr : Rd W 1 (.slice A4 w4.length c4) w4.length (wsC w4)) => ref13Parse (.slice A4 (cutN kFor w4) c4) (w4.take (cutN kFor w4)) W (by
      have e1 : (w4.take (cutN kFor w4)).length = cutN kFor w4 := by rw [List.length_take]; omega
      rw [e1, show wsC (w4.take (cutN kFor w4)) = (wsC w4).take (cutN kFor w4) by simp [wsC]]
      exact Rd.preW hr hk0) (fun s hs => hz4 s (List.mem_of_mem_take hs))
  have NP := NPf W4 (U4.rd0 R4)
  have hWS := Lib.hid (show lnC (wa :: wb :: wt) = w4.take (cutN kFor w4) ∧ lnW5 (wa :: wb :: wt) = w4.drop (cutN kFor w4) ∧ lnE5 (wa :: wb :: wt) = condE (w4.take (cutN kFor w4)) from by
    refine ⟨by unfold lnC; rw [L4.1], by unfold lnW5; rw [L4.1], ?_⟩
    unfold lnE5 cdE
    rw [L4.1, L4.2.1]
    split
    · rename_i h; rw [h]
    · rfl)
  have HIn := Lib.hid (cutN_in kFor w4)
  have HEnd := Lib.hid (cutN_end kFor w4)
  obtain ⟨n, hn⟩ : ∃ n, n = cutN kFor w4 := ⟨_, rfl⟩
  rw [← hn] at hk0 NP hWS HIn HEnd
  clear NPf hn R4
  have HB1 := Lib.hid (show ∀ k s, w4[k]? = some s → ∃ b oo, A4 = some ⟨b, oo, none⟩ ∧ W4.cell? ⟨b, oo + k, none⟩ = some (.string s) from fun k s hs => by
    obtain ⟨b, oo, rfl, hat⟩ := Rd.pos HR4.out (by have := (List.getElem?_eq_some_iff.1 hs).1; omega)
    exact ⟨b, oo, rfl, cell_below U4.below (hat k _ (by simp [wsC, hs]))⟩)
  go_upto_block 0 with fail
  go_cut [8] from 57 to 69 (fun s wx => s = .int .i64 n ∧ wx = W4)
  case first =>
    go_wp2_with fail
    go_loopw [8] (fun i wx => ∃ k : Nat, k ≤ n ∧ i = .int .i64 k ∧ wx = W4) (fun i _ => n - (intOf i).toNat)
    case atStart => exact ⟨0, Nat.zero_le _, rfl, rfl⟩
    case round =>
      obtain ⟨k, hk, rfl, hwx⟩ := hrel
      rw [hwx]
      clear hwx
      by_cases hlt : k < n
      · obtain ⟨s, hs, hne⟩ := HIn.out k hlt
        obtain ⟨b, oo, rfl, x1⟩ := HB1.out k s hs
        have i1 : (k : Int) < (w4.length : Int) := by omega
        have hE : (s == ⟨#[102, 111, 114]⟩) = false := by rw [beqS]; simpa [kFor] using hne
        have hT2 : (s.toList == (⟨#[102, 111, 114]⟩ : ByteArray).toList) = false := by rw [eqS_eq]; simpa [kFor] using hne
        have hT3 : (s.toList == [102, 111, 114]) = false := by rw [show (⟨#[102, 111, 114]⟩ : ByteArray).toList = [102, 111, 114] by decide +kernel] at hT2; exact hT2
        clear hs hne
        go_wp2_with fail
        go_roundw
        case rel => exact ⟨k + 1, by omega, by go_num, by first | rfl | trivial⟩
        case measure => simp [intOf]; omega
      · obtain rfl : k = n := by omega
        clear hk hlt
        by_cases hend : k < w4.length
        · obtain ⟨b, oo, rfl, x1⟩ := HB1.out k kFor (HEnd.out hend)
          have i1 : (k : Int) < (w4.length : Int) := by omega
          have hE : (kFor == ⟨#[102, 111, 114]⟩) = true := by rw [beqS]; simp [kFor]
          have hT2 : (kFor.toList == (⟨#[102, 111, 114]⟩ : ByteArray).toList) = true := by rw [eqS_eq]; simp [kFor]
          have hT3 : (kFor.toList == [102, 111, 114]) = true := by decide +kernel
          go_wp2_with fail
          go_meet
          exact ⟨rfl, rfl⟩
        · have i1 : ¬ (k : Int) < (w4.length : Int) := by omega
          go_wp2_with fail
          go_meet
          exact ⟨rfl, rfl⟩
  obtain ⟨rfl, hcw⟩ := hcut
  rw [hcw]
  clear hcw HIn HEnd HB1
  have hA : ∃ K L Tn, K < 256 ∧ condRA (w4.take n) = .agg #[.int .i64 (K : Nat), .int .i64 L, .int .u64 (Tn : Nat)] ∧ K = condK (w4.take n) ∧ L = condL (w4.take n) ∧ Tn = condT (w4.take n) := ⟨_, _, _, condK_lt _, rfl, rfl, rfl, rfl⟩
  obtain ⟨K, L, Tn, hK, hA, hKLT⟩ := hA
  rw [hA] at NP
  have HKLT := Lib.hid hKLT
  have HCN := Lib.hid (@cond_ne (w4.take n))
  obtain ⟨ce, hce⟩ : ∃ y, y = condE (w4.take n) := ⟨_, rfl⟩
  rw [← hce] at NP hWS HCN
  clear hA hKLT hce
  have s4 := (U4.blk 1 rfl).cell (j := 4) (v := .int .i64 0) rfl
  have hnc : (n : Int) ≤ (c4 : Int) := by omega
  have hn0 : (0 : Int) ≤ (n : Int) := by omega
  go_wp2_with fail
  (with_reducible refine NP.mono ?_)
  rintro en w5 ⟨rfl, hb5⟩
  have U5 := U4.grow hb5
  clear NP hb5 U4 s4
  have s4 := (U5.blk 1 rfl).cell (j := 4) (v := .int .i64 0) rfl
  have s5 := (U5.blk 1 rfl).cell (j := 5) (v := .int .i64 0) rfl
  have s6 := (U5.blk 1 rfl).cell (j := 6) (v := .int .u64 0) rfl
  have f4 := (U5.blk 1 rfl).frozen 4
  have f5 := (U5.blk 1 rfl).frozen 5
  have f6 := (U5.blk 1 rfl).frozen 6
  go_upto_region 19 with fail
  refine wp_gen fun W6 hW6 => ?_
  have U6 := (((U5.put 1 rfl 4 (.int .i64 K)).put 0 rfl 5 (.int .i64 L)).put 0 rfl 6 (.int .u64 Tn)).same hW6
  simp only [List.setIfInBounds_toArray, List.set_cons_zero, List.set_cons_succ, List.eraseIdx_cons_zero, List.eraseIdx_cons_succ] at U6
  clear hW6 U5 s4 s5 s6 f4 f5 f6
  by_cases hc0 : ce = 0
  · subst hc0
    rw [show (((0 : Nat) : Int)) = 0 from rfl]
    have hw4 : 0 < w4.length := by
      have h := HCN.out rfl
      cases w4 with
      | nil => exact absurd List.take_nil h
      | cons a t => simp
    obtain ⟨b4, o4, rfl, _⟩ := Rd.pos HR4.out hw4
    have hcut := Rd.cut1 (k := n) HR4.out hk0
    rw [show w4.length - n = (w4.drop n).length by simp, show (wsC w4).drop n = wsC (w4.drop n) by simp [wsC]] at hcut
    have HC := Lib.hid hcut
    have hz5 : ∀ s ∈ w4.drop n, s.size ≤ maxLen := fun s hs => hz4 s (List.mem_of_mem_drop hs)
    have hst0 : stW (wa :: wb :: wt) 0 = w4.drop n ∧ stE (wa :: wb :: wt) 0 = 0 := hWS.out.2
    have HST := Lib.hid hst0
    clear hcut hst0 HCN
    go_upto_region 22 with fail
    rw [show w4.length - n = (w4.drop n).length by simp]
    obtain ⟨A5, hA5⟩ : ∃ x, x = (if c4 = n then some (⟨b4, o4, none⟩ : Addr) else some ⟨b4, o4 + n, none⟩) := ⟨_, rfl⟩
    rw [← hA5] at HC ⊢
    obtain ⟨c5, hc5⟩ : ∃ x, x = c4 - n := ⟨_, rfl⟩
    rw [← hc5] at HC ⊢
    obtain ⟨w5l, hw5l⟩ : ∃ x, x = w4.drop n := ⟨_, rfl⟩
    rw [← hw5l] at HC HST hz5 ⊢
    clear hA5 hc5 hw5l hnc hn0 hw4
    go_upto_region 24 with fail
    refine wp_gen fun W7 hW7 => ?_
    have U7 := ((U6.alloc #[.string ⟨#[102, 111, 114]⟩, .string ⟨#[107, 101, 101, 112]⟩, .string ⟨#[112, 114, 105, 111]⟩] 9).alloc #[.int .u64 1048576, .int .u64 1048576, .int .u64 7] 35).same hW7
    rw [allocSz] at U7
    clear hW7
    go_wp2_with fail
    go_loopw [0, 11] (fun s i wx => ∃ (k : Nat) (w6 : List ByteArray) (A6 : Option Addr) (c6 : Nat), k ≤ 3 ∧ i = .int .i64 k ∧ s = .slice A6 w6.length c6 ∧ Rd w 1 (.slice A6 w6.length c6) w6.length (wsC w6) ∧ (∀ s ∈ w6, s.size ≤ maxLen) ∧ stW (wa :: wb :: wt) k = w6 ∧ stE (wa :: wb :: wt) k = 0 ∧ Upd [] w [chBlk (w.heap.size + 1) #[.string wa, .string wb, .slice Ai ps.length ci, .slice none 0 0, .int .i64 K, .int .i64 L, .int .u64 Tn, .int .u64 (atV (wa :: wb :: wt) k 0 : Nat), .int .u64 (atV (wa :: wb :: wt) k 1 : Nat), .int .u8 (atV (wa :: wb :: wt) k 2 : Nat)] 77, chRow 138 2 (.slice Ai ps.length ci) ps.length (pairCells ps), chBlk w.heap.size #[.string ⟨#[]⟩, .string ⟨#[]⟩, .slice none 0 0, .slice none 0 0, .int .i64 0, .int .i64 0, .int .u64 0, .int .u64 0, .int .u64 0, .int .u8 0] 77, chBlk (W6.heap.size + 1) #[.int .u64 1048576, .int .u64 1048576, .int .u64 7] 35, chBlk W6.heap.size #[.string ⟨#[102, 111, 114]⟩, .string ⟨#[107, 101, 101, 112]⟩, .string ⟨#[112, 114, 105, 111]⟩] 9] wx) (fun _ i _ => 3 - (intOf i).toNat)
    case atStart => exact ⟨0, w5l, A5, c5, by omega, rfl, rfl, HC.out, hz5, HST.out.1, HST.out.2, U7.perm (List.perm_append_comm (l₁ := [_, _]))⟩
    case round =>
      obtain ⟨k, w6, A6, c6, hk, rfl, rfl, R6, hz6, hW6, hE6, U8⟩ := hrel
      have HR6 := Lib.hid R6
      obtain ⟨hq1, hq2⟩ := Rd.cap R6
      clear R6
      by_cases hlt : k < 3
      · obtain rfl | rfl | rfl : k = 0 ∨ k = 1 ∨ k = 2 := by omega
        · obtain ⟨fo, hfo⟩ : ∃ y, y = atV (wa :: wb :: wt) 0 0 := ⟨_, rfl⟩
          obtain ⟨ke, hke⟩ : ∃ y, y = atV (wa :: wb :: wt) 0 1 := ⟨_, rfl⟩
          obtain ⟨pr, hpr⟩ : ∃ y, y = atV (wa :: wb :: wt) 0 2 := ⟨_, rfl⟩
          rw [← hfo, ← hke, ← hpr] at U8
          have hpr8 : pr < 256 := by rw [hpr]; exact (show (0 : Nat) < 256 by decide)
          have HV := Lib.hid (And.intro hfo (And.intro hke hpr))
          clear hfo hke hpr
          have kk := (U8.blk 4 rfl).cell (j := 0) (v := .string ⟨#[102, 111, 114]⟩) rfl
          have mm := (U8.blk 3 rfl).cell (j := 0) (v := .int .u64 1048576) rfl
          rcases w6 with _ | ⟨k0, r0⟩
          · have E := Lib.hid (st_end (by decide) hE6 (.inl (by rw [hW6]; simp)))
            clear hW6 hE6
            have cc0 := (U8.blk 0 rfl).cell (j := 0) (v := .string wa) rfl
            have cc1 := (U8.blk 0 rfl).cell (j := 1) (v := .string wb) rfl
            have cc2 := (U8.blk 0 rfl).cell (j := 2) (v := .slice Ai ps.length ci) rfl
            have cc3 := (U8.blk 0 rfl).cell (j := 3) (v := .slice none 0 0) rfl
            have cc4 := (U8.blk 0 rfl).cell (j := 4) (v := .int .i64 K) rfl
            have cc5 := (U8.blk 0 rfl).cell (j := 5) (v := .int .i64 L) rfl
            have cc6 := (U8.blk 0 rfl).cell (j := 6) (v := .int .u64 Tn) rfl
            have cc7 := (U8.blk 0 rfl).cell (j := 7) (v := .int .u64 fo) rfl
            have cc8 := (U8.blk 0 rfl).cell (j := 8) (v := .int .u64 ke) rfl
            have cc9 := (U8.blk 0 rfl).cell (j := 9) (v := .int .u8 pr) rfl
            have yy0 := (U8.blk 2 rfl).frozen 0
            have yy1 := (U8.blk 2 rfl).frozen 1
            have yy2 := (U8.blk 2 rfl).frozen 2
            have yy3 := (U8.blk 2 rfl).frozen 3
            have yy4 := (U8.blk 2 rfl).frozen 4
            have yy5 := (U8.blk 2 rfl).frozen 5
            have yy6 := (U8.blk 2 rfl).frozen 6
            have yy7 := (U8.blk 2 rfl).frozen 7
            have yy8 := (U8.blk 2 rfl).frozen 8
            have yy9 := (U8.blk 2 rfl).frozen 9
            have rr0 := (U8.blk 2 rfl).cell (j := 0) (v := .string ⟨#[]⟩) rfl
            have rr1 := (U8.blk 2 rfl).cell (j := 1) (v := .string ⟨#[]⟩) rfl
            have rr2 := (U8.blk 2 rfl).cell (j := 2) (v := .slice none 0 0) rfl
            have rr3 := (U8.blk 2 rfl).cell (j := 3) (v := .slice none 0 0) rfl
            have rr4 := (U8.blk 2 rfl).cell (j := 4) (v := .int .i64 0) rfl
            have rr5 := (U8.blk 2 rfl).cell (j := 5) (v := .int .i64 0) rfl
            have rr6 := (U8.blk 2 rfl).cell (j := 6) (v := .int .u64 0) rfl
            have rr7 := (U8.blk 2 rfl).cell (j := 7) (v := .int .u64 0) rfl
            have rr8 := (U8.blk 2 rfl).cell (j := 8) (v := .int .u64 0) rfl
            have rr9 := (U8.blk 2 rfl).cell (j := 9) (v := .int .u8 0) rfl
            go_wp2_with fail
            go_region
            go_wp2_with fail
            refine bodyPost_gen fun w6 hw6 => ?_
            have U6 := (((((((((((U8.put 2 rfl 0 (.string wa)).put 0 rfl 1 (.string wb)).put 0 rfl 2 (.slice Ai ps.length ci)).put 0 rfl 3 (.slice none 0 0)).put 0 rfl 4 (.int .i64 K)).put 0 rfl 5 (.int .i64 L)).put 0 rfl 6 (.int .u64 Tn)).put 0 rfl 7 (.int .u64 fo)).put 0 rfl 8 (.int .u64 ke)).put 0 rfl 9 (.int .u8 pr))).drew.same hw6
            simp only [List.setIfInBounds_toArray, List.set_cons_zero, List.set_cons_succ, List.eraseIdx_cons_zero, List.eraseIdx_cons_succ] at U6
            clear hw6
            have a0 := (U6.blk 0 rfl).cell (j := 0) (v := .string wa) rfl
            have a1 := (U6.blk 0 rfl).cell (j := 1) (v := .string wb) rfl
            have a2 := (U6.blk 0 rfl).cell (j := 2) (v := .slice Ai ps.length ci) rfl
            have a3 := (U6.blk 0 rfl).cell (j := 3) (v := .slice none 0 0) rfl
            have a4 := (U6.blk 0 rfl).cell (j := 4) (v := .int .i64 K) rfl
            have a5 := (U6.blk 0 rfl).cell (j := 5) (v := .int .i64 L) rfl
            have a6 := (U6.blk 0 rfl).cell (j := 6) (v := .int .u64 Tn) rfl
            have a7 := (U6.blk 0 rfl).cell (j := 7) (v := .int .u64 fo) rfl
            have a8 := (U6.blk 0 rfl).cell (j := 8) (v := .int .u64 ke) rfl
            have a9 := (U6.blk 0 rfl).cell (j := 9) (v := .int .u8 pr) rfl
            refine bodyPost_ret (v := .tuple #[.agg #[.string wa, .string wb, .slice Ai ps.length ci, .slice none 0 0, .int .i64 K, .int .i64 L, .int .u64 Tn, .int .u64 fo, .int .u64 ke, .int .u8 pr], .int .i64 2]) ?_ rfl ⟨⟨wa, wb, .slice Ai ps.length ci, ps, K, L, Tn, fo, ke, pr, .slice none 0 0, []⟩, by rw [E.out]; rfl, (fun h => by rw [E.out] at h; cases h), ⟨hz1, hz2, hps, (fun p hp => by cases hp), hK, hpr8, (U6.rowBase 2 rfl), World.ownsRow_nil _ _ _ _⟩, U6.below⟩
            simp [results, Tryz.results81, go_sem, a0, a1, a2, a3, a4, a5, a6, a7, a8, a9]
          have g0 : decide ((r0.length : Int) + 1 < 1) = false := decide_eq_false (by omega)
          have g1 : (0 : Int) < (r0.length : Int) + 1 := by omega
          obtain ⟨b6, o6, rfl, hat6⟩ := Rd.pos HR6.out (by simp)
          have y0 := cell_below U8.below (hat6 0 (.string k0) rfl)
          rw [Nat.add_zero] at y0
          have hTL : (⟨#[102, 111, 114]⟩ : ByteArray).toList = [102, 111, 114] := by decide +kernel
          by_cases HK : k0 = kFor
          · have hE1 : (k0 == ⟨#[102, 111, 114]⟩) = true := by rw [beqS]; simpa [kIf, kFor, kKeep, kPrio, kWith] using HK
            have hE2 : (k0.toList == (⟨#[102, 111, 114]⟩ : ByteArray).toList) = true := by rw [eqS_eq]; simpa [kIf, kFor, kKeep, kPrio, kWith] using HK
            have hE3 : (k0.toList == [102, 111, 114]) = true := by rw [← hTL]; exact hE2
            subst HK
            rcases r0 with _ | ⟨x, r⟩
            · have E := Lib.hid (st_end (by decide) hE6 (.inr hW6))
              clear hW6 hE6 hat6
              have cc0 := (U8.blk 0 rfl).cell (j := 0) (v := .string wa) rfl
              have cc1 := (U8.blk 0 rfl).cell (j := 1) (v := .string wb) rfl
              have cc2 := (U8.blk 0 rfl).cell (j := 2) (v := .slice Ai ps.length ci) rfl
              have cc3 := (U8.blk 0 rfl).cell (j := 3) (v := .slice none 0 0) rfl
              have cc4 := (U8.blk 0 rfl).cell (j := 4) (v := .int .i64 K) rfl
              have cc5 := (U8.blk 0 rfl).cell (j := 5) (v := .int .i64 L) rfl
              have cc6 := (U8.blk 0 rfl).cell (j := 6) (v := .int .u64 Tn) rfl
              have cc7 := (U8.blk 0 rfl).cell (j := 7) (v := .int .u64 fo) rfl
              have cc8 := (U8.blk 0 rfl).cell (j := 8) (v := .int .u64 ke) rfl
              have cc9 := (U8.blk 0 rfl).cell (j := 9) (v := .int .u8 pr) rfl
              have yy0 := (U8.blk 2 rfl).frozen 0
              have yy1 := (U8.blk 2 rfl).frozen 1
              have yy2 := (U8.blk 2 rfl).frozen 2
              have yy3 := (U8.blk 2 rfl).frozen 3
              have yy4 := (U8.blk 2 rfl).frozen 4
              have yy5 := (U8.blk 2 rfl).frozen 5
              have yy6 := (U8.blk 2 rfl).frozen 6
              have yy7 := (U8.blk 2 rfl).frozen 7
              have yy8 := (U8.blk 2 rfl).frozen 8
              have yy9 := (U8.blk 2 rfl).frozen 9
              have rr0 := (U8.blk 2 rfl).cell (j := 0) (v := .string ⟨#[]⟩) rfl
              have rr1 := (U8.blk 2 rfl).cell (j := 1) (v := .string ⟨#[]⟩) rfl
              have rr2 := (U8.blk 2 rfl).cell (j := 2) (v := .slice none 0 0) rfl
              have rr3 := (U8.blk 2 rfl).cell (j := 3) (v := .slice none 0 0) rfl
              have rr4 := (U8.blk 2 rfl).cell (j := 4) (v := .int .i64 0) rfl
              have rr5 := (U8.blk 2 rfl).cell (j := 5) (v := .int .i64 0) rfl
              have rr6 := (U8.blk 2 rfl).cell (j := 6) (v := .int .u64 0) rfl
              have rr7 := (U8.blk 2 rfl).cell (j := 7) (v := .int .u64 0) rfl
              have rr8 := (U8.blk 2 rfl).cell (j := 8) (v := .int .u64 0) rfl
              have rr9 := (U8.blk 2 rfl).cell (j := 9) (v := .int .u8 0) rfl
              go_wp2_with fail
              go_region
              go_wp2_with fail
              refine bodyPost_gen fun w6 hw6 => ?_
              have U6 := (((((((((((U8.put 2 rfl 0 (.string wa)).put 0 rfl 1 (.string wb)).put 0 rfl 2 (.slice Ai ps.length ci)).put 0 rfl 3 (.slice none 0 0)).put 0 rfl 4 (.int .i64 K)).put 0 rfl 5 (.int .i64 L)).put 0 rfl 6 (.int .u64 Tn)).put 0 rfl 7 (.int .u64 fo)).put 0 rfl 8 (.int .u64 ke)).put 0 rfl 9 (.int .u8 pr))).drew.same hw6
              simp only [List.setIfInBounds_toArray, List.set_cons_zero, List.set_cons_succ, List.eraseIdx_cons_zero, List.eraseIdx_cons_succ] at U6
              clear hw6
              have a0 := (U6.blk 0 rfl).cell (j := 0) (v := .string wa) rfl
              have a1 := (U6.blk 0 rfl).cell (j := 1) (v := .string wb) rfl
              have a2 := (U6.blk 0 rfl).cell (j := 2) (v := .slice Ai ps.length ci) rfl
              have a3 := (U6.blk 0 rfl).cell (j := 3) (v := .slice none 0 0) rfl
              have a4 := (U6.blk 0 rfl).cell (j := 4) (v := .int .i64 K) rfl
              have a5 := (U6.blk 0 rfl).cell (j := 5) (v := .int .i64 L) rfl
              have a6 := (U6.blk 0 rfl).cell (j := 6) (v := .int .u64 Tn) rfl
              have a7 := (U6.blk 0 rfl).cell (j := 7) (v := .int .u64 fo) rfl
              have a8 := (U6.blk 0 rfl).cell (j := 8) (v := .int .u64 ke) rfl
              have a9 := (U6.blk 0 rfl).cell (j := 9) (v := .int .u8 pr) rfl
              refine bodyPost_ret (v := .tuple #[.agg #[.string wa, .string wb, .slice Ai ps.length ci, .slice none 0 0, .int .i64 K, .int .i64 L, .int .u64 Tn, .int .u64 fo, .int .u64 ke, .int .u8 pr], .int .i64 2]) ?_ rfl ⟨⟨wa, wb, .slice Ai ps.length ci, ps, K, L, Tn, fo, ke, pr, .slice none 0 0, []⟩, by rw [E.out]; rfl, (fun h => by rw [E.out] at h; cases h), ⟨hz1, hz2, hps, (fun p hp => by cases hp), hK, hpr8, (U6.rowBase 2 rfl), World.ownsRow_nil _ _ _ _⟩, U6.below⟩
              simp [results, Tryz.results81, go_sem, a0, a1, a2, a3, a4, a5, a6, a7, a8, a9]
            obtain ⟨q1, q2, q3⟩ := st_step (i := 0) (by decide) hE6 hW6
            have y1w := hat6 1 (.string x) rfl
            have y1 := cell_below U8.below y1w
            have hzx := hz6 x (.tail _ (.head _))
            have NN := fun w' => ref13NumberI x 1048576 1048576 rfl w' hzx
            clear g0 g1
            have g0 : decide ((r.length : Int) + 1 + 1 < 1) = false := decide_eq_false (by omega)
            have g1 : (0 : Int) < (r.length : Int) + 1 + 1 := by omega
            have g2 : decide ((r.length : Int) + 1 + 1 < 2) = false := decide_eq_false (by omega)
            have g3 : (1 : Int) < (r.length : Int) + 1 + 1 := by omega
            have hno := numO_le (s := x) (most := 1048576)
            obtain ⟨nn, hnn⟩ : ∃ y, y = numN x := ⟨_, rfl⟩
            obtain ⟨no, hno2⟩ : ∃ y, y = numO x 1048576 := ⟨_, rfl⟩
            have q2 : no = true → stE (wa :: wb :: wt) 1 = 0 ∧ stV (wa :: wb :: wt) 0 = nn := by rw [hno2, hnn]; exact q2
            have q3 : no = false → lineE (wa :: wb :: wt) = 27 := by rw [hno2]; exact q3
            rw [← hnn, ← hno2] at NN hno
            clear hnn hno2 hzx hat6 hW6 hE6
            cases no with
            | false =>
              have E := Lib.hid (q3 rfl)
              clear q2 q3
              go_wp2_with fail
              go_region
              go_wp2_with fail
              refine wp_gen fun V hV => ?_
              have UV := U8.drew.same hV
              have FC : ∀ w', Below V.heap.size V w' → w'.cell? ⟨b6, o6 + 1, none⟩ = some (.string x) ∧ w'.cell? ⟨W6.heap.size + 1, 0, none⟩ = some (.int .u64 1048576) := fun w' h => ⟨cell_below (UV.grow h).below y1w, ((UV.grow h).blk 3 rfl).cell (j := 0) (v := .int .u64 1048576) rfl⟩
              have hUV := UV.below.size
              clear hV
              refine FreeSl.region_free (fun w' => Below V.heap.size V w') [] [] (List.range 13) (by kernel_rfl) (by kernel_rfl) (by kernel_rfl) (Below.refl _ _).drew ?_
              simp only [List.range, List.range.loop]
              repeat (first
                | (refine FreeSl.RelSeq.pure_ (c := ?_) rfl rfl ?_ ?_; rotate_left; (focus (intro x w'; dsimp only; go_simp; (repeat' apply And.intro) <;> first | with_reducible rfl | assumption)); simp only [Act.put, List.setIfInBounds_toArray, List.set_cons_zero, List.set_cons_succ])
                | (refine FreeSl.RelSeq.grow_ (c := ?_) rfl rfl ?_ ?_; rotate_left; (focus (intro x w' hw _; dsimp only; obtain ⟨d0, d1⟩ := FC w' hw; have hbr := Below.refl w'.heap.size w'; go_simp; (repeat' apply And.intro) <;> first | with_reducible rfl | assumption)); simp only [Act.put, List.setIfInBounds_toArray, List.set_cons_zero, List.set_cons_succ])
                | (refine FreeSl.RelSeq.grow_ (c := ?_) rfl rfl ?_ ?_; rotate_left; (focus (intro x w' hw _; dsimp only; go_simp; (with_reducible refine (NN w').mono ?_); rintro e w2 ⟨rfl, rfl⟩; have hbr := Below.refl w2.heap.size w2; go_simp; (repeat' apply And.intro) <;> first | with_reducible rfl | assumption)); simp only [Act.put, List.setIfInBounds_toArray, List.set_cons_zero, List.set_cons_succ]))
              refine FreeSl.RelSeq.nil_ fun x2 w9 hw9 _ _ => ?_
              refine FreeSl.TailSeq.nil_ ?_
              have U8 := UV.grow hw9
              clear FC NN UV hUV
              clear y0 y1 y1w
              have cc0 := (U8.blk 0 rfl).cell (j := 0) (v := .string wa) rfl
              have cc1 := (U8.blk 0 rfl).cell (j := 1) (v := .string wb) rfl
              have cc2 := (U8.blk 0 rfl).cell (j := 2) (v := .slice Ai ps.length ci) rfl
              have cc3 := (U8.blk 0 rfl).cell (j := 3) (v := .slice none 0 0) rfl
              have cc4 := (U8.blk 0 rfl).cell (j := 4) (v := .int .i64 K) rfl
              have cc5 := (U8.blk 0 rfl).cell (j := 5) (v := .int .i64 L) rfl
              have cc6 := (U8.blk 0 rfl).cell (j := 6) (v := .int .u64 Tn) rfl
              have cc7 := (U8.blk 0 rfl).cell (j := 7) (v := .int .u64 fo) rfl
              have cc8 := (U8.blk 0 rfl).cell (j := 8) (v := .int .u64 ke) rfl
              have cc9 := (U8.blk 0 rfl).cell (j := 9) (v := .int .u8 pr) rfl
              have yy0 := (U8.blk 2 rfl).frozen 0
              have yy1 := (U8.blk 2 rfl).frozen 1
              have yy2 := (U8.blk 2 rfl).frozen 2
              have yy3 := (U8.blk 2 rfl).frozen 3
              have yy4 := (U8.blk 2 rfl).frozen 4
              have yy5 := (U8.blk 2 rfl).frozen 5
              have yy6 := (U8.blk 2 rfl).frozen 6
              have yy7 := (U8.blk 2 rfl).frozen 7
              have yy8 := (U8.blk 2 rfl).frozen 8
              have yy9 := (U8.blk 2 rfl).frozen 9
              have rr0 := (U8.blk 2 rfl).cell (j := 0) (v := .string ⟨#[]⟩) rfl
              have rr1 := (U8.blk 2 rfl).cell (j := 1) (v := .string ⟨#[]⟩) rfl
              have rr2 := (U8.blk 2 rfl).cell (j := 2) (v := .slice none 0 0) rfl
              have rr3 := (U8.blk 2 rfl).cell (j := 3) (v := .slice none 0 0) rfl
              have rr4 := (U8.blk 2 rfl).cell (j := 4) (v := .int .i64 0) rfl
              have rr5 := (U8.blk 2 rfl).cell (j := 5) (v := .int .i64 0) rfl
              have rr6 := (U8.blk 2 rfl).cell (j := 6) (v := .int .u64 0) rfl
              have rr7 := (U8.blk 2 rfl).cell (j := 7) (v := .int .u64 0) rfl
              have rr8 := (U8.blk 2 rfl).cell (j := 8) (v := .int .u64 0) rfl
              have rr9 := (U8.blk 2 rfl).cell (j := 9) (v := .int .u8 0) rfl
              go_wp2_with fail
              refine bodyPost_gen fun w6 hw6 => ?_
              have U6 := (((((((((((U8.put 2 rfl 0 (.string wa)).put 0 rfl 1 (.string wb)).put 0 rfl 2 (.slice Ai ps.length ci)).put 0 rfl 3 (.slice none 0 0)).put 0 rfl 4 (.int .i64 K)).put 0 rfl 5 (.int .i64 L)).put 0 rfl 6 (.int .u64 Tn)).put 0 rfl 7 (.int .u64 fo)).put 0 rfl 8 (.int .u64 ke)).put 0 rfl 9 (.int .u8 pr))).same hw6
              simp only [List.setIfInBounds_toArray, List.set_cons_zero, List.set_cons_succ, List.eraseIdx_cons_zero, List.eraseIdx_cons_succ] at U6
              clear hw6
              have a0 := (U6.blk 0 rfl).cell (j := 0) (v := .string wa) rfl
              have a1 := (U6.blk 0 rfl).cell (j := 1) (v := .string wb) rfl
              have a2 := (U6.blk 0 rfl).cell (j := 2) (v := .slice Ai ps.length ci) rfl
              have a3 := (U6.blk 0 rfl).cell (j := 3) (v := .slice none 0 0) rfl
              have a4 := (U6.blk 0 rfl).cell (j := 4) (v := .int .i64 K) rfl
              have a5 := (U6.blk 0 rfl).cell (j := 5) (v := .int .i64 L) rfl
              have a6 := (U6.blk 0 rfl).cell (j := 6) (v := .int .u64 Tn) rfl
              have a7 := (U6.blk 0 rfl).cell (j := 7) (v := .int .u64 fo) rfl
              have a8 := (U6.blk 0 rfl).cell (j := 8) (v := .int .u64 ke) rfl
              have a9 := (U6.blk 0 rfl).cell (j := 9) (v := .int .u8 pr) rfl
              refine bodyPost_ret (v := .tuple #[.agg #[.string wa, .string wb, .slice Ai ps.length ci, .slice none 0 0, .int .i64 K, .int .i64 L, .int .u64 Tn, .int .u64 fo, .int .u64 ke, .int .u8 pr], .int .i64 27]) ?_ rfl ⟨⟨wa, wb, .slice Ai ps.length ci, ps, K, L, Tn, fo, ke, pr, .slice none 0 0, []⟩, by rw [E.out]; rfl, (fun h => by rw [E.out] at h; cases h), ⟨hz1, hz2, hps, (fun p hp => by cases hp), hK, hpr8, (U6.rowBase 2 rfl), World.ownsRow_nil _ _ _ _⟩, U6.below⟩
              simp [results, Tryz.results81, go_sem, a0, a1, a2, a3, a4, a5, a6, a7, a8, a9]
            | true =>
              have HQ := Lib.hid (q2 rfl)
              have hle := hno rfl
              have hcutx := Rd.cut1 (k := 2) HR6.out (by simp)
              rw [show (wsC (kFor :: x :: r)).drop 2 = wsC r from rfl, show (kFor :: x :: r).length - 2 = r.length from rfl] at hcutx
              have HCX := Lib.hid hcutx
              have hzr : ∀ s ∈ r, s.size ≤ maxLen := fun s hs => hz6 s (.tail _ (.tail _ hs))
              go_wp2_with fail
              go_region
              go_wp2_with fail
              refine wp_gen fun V hV => ?_
              have UV := U8.drew.same hV
              have FC : ∀ w', Below V.heap.size V w' → w'.cell? ⟨b6, o6 + 1, none⟩ = some (.string x) ∧ w'.cell? ⟨W6.heap.size + 1, 0, none⟩ = some (.int .u64 1048576) := fun w' h => ⟨cell_below (UV.grow h).below y1w, ((UV.grow h).blk 3 rfl).cell (j := 0) (v := .int .u64 1048576) rfl⟩
              have hUV := UV.below.size
              clear hV
              refine FreeSl.region_free (fun w' => Below V.heap.size V w') [] [] (List.range 13) (by kernel_rfl) (by kernel_rfl) (by kernel_rfl) (Below.refl _ _).drew ?_
              simp only [List.range, List.range.loop]
              repeat (first
                | (refine FreeSl.RelSeq.pure_ (c := ?_) rfl rfl ?_ ?_; rotate_left; (focus (intro x w'; dsimp only; go_simp; (repeat' apply And.intro) <;> first | with_reducible rfl | assumption)); simp only [Act.put, List.setIfInBounds_toArray, List.set_cons_zero, List.set_cons_succ])
                | (refine FreeSl.RelSeq.grow_ (c := ?_) rfl rfl ?_ ?_; rotate_left; (focus (intro x w' hw _; dsimp only; obtain ⟨d0, d1⟩ := FC w' hw; have hbr := Below.refl w'.heap.size w'; go_simp; (repeat' apply And.intro) <;> first | with_reducible rfl | assumption)); simp only [Act.put, List.setIfInBounds_toArray, List.set_cons_zero, List.set_cons_succ])
                | (refine FreeSl.RelSeq.grow_ (c := ?_) rfl rfl ?_ ?_; rotate_left; (focus (intro x w' hw _; dsimp only; go_simp; (with_reducible refine (NN w').mono ?_); rintro e w2 ⟨rfl, rfl⟩; have hbr := Below.refl w2.heap.size w2; go_simp; (repeat' apply And.intro) <;> first | with_reducible rfl | assumption)); simp only [Act.put, List.setIfInBounds_toArray, List.set_cons_zero, List.set_cons_succ]))
              refine FreeSl.RelSeq.nil_ fun x2 w9 hw9 _ _ => ?_
              refine FreeSl.TailSeq.nil_ ?_
              have U8 := UV.grow hw9
              clear FC NN UV hUV
              have U9 := U8.put 0 rfl 7 (.int .u64 nn)
              simp only [List.setIfInBounds_toArray, List.set_cons_zero, List.set_cons_succ, List.eraseIdx_cons_zero] at U9
              have sx := (U8.blk 0 rfl).cell (j := 7) (v := .int .u64 fo) rfl
              have fx := (U8.blk 0 rfl).frozen 7
              skip
              simp only [List.length_cons] at hq1
              clear q2 q3 hno hcutx U8 hz6
              by_cases e2 : c6 = 2
              · subst e2
                obtain rfl : r = [] := List.eq_nil_of_length_eq_zero (by omega)
                rw [if_pos rfl] at HCX
                go_wp2_with fail
                go_roundw
                case rel => exact ⟨1, [], some ⟨b6, o6, none⟩, 0, by decide, by first | rfl | go_num, rfl, HCX.out, hzr, q1, HQ.out.1, by rw [show atV (wa :: wb :: wt) 1 0 = nn from HQ.out.2, show atV (wa :: wb :: wt) 1 1 = ke from HV.out.2.1.symm, show atV (wa :: wb :: wt) 1 2 = pr from HV.out.2.2.symm]; exact U9⟩
                case measure => simp [intOf]
              · rw [if_neg e2] at HCX
                go_wp2_with fail
                go_roundw
                case rel => exact ⟨1, r, some ⟨b6, o6 + 2, none⟩, c6 - 2, by decide, by first | rfl | go_num, rfl, HCX.out, hzr, q1, HQ.out.1, by rw [show atV (wa :: wb :: wt) 1 0 = nn from HQ.out.2, show atV (wa :: wb :: wt) 1 1 = ke from HV.out.2.1.symm, show atV (wa :: wb :: wt) 1 2 = pr from HV.out.2.2.symm]; exact U9⟩
                case measure => simp [intOf]
          · have hE1 : (k0 == ⟨#[102, 111, 114]⟩) = false := by rw [beqS]; simpa [kIf, kFor, kKeep, kPrio, kWith] using HK
            have hE2 : (k0.toList == (⟨#[102, 111, 114]⟩ : ByteArray).toList) = false := by rw [eqS_eq]; simpa [kIf, kFor, kKeep, kPrio, kWith] using HK
            have hE3 : (k0.toList == [102, 111, 114]) = false := by rw [← hTL]; exact hE2
            have E := Lib.hid (st_end (by decide) hE6 (.inl (by rw [hW6]; simpa [keyA] using HK)))
            clear hW6 hE6 hat6
            have cc0 := (U8.blk 0 rfl).cell (j := 0) (v := .string wa) rfl
            have cc1 := (U8.blk 0 rfl).cell (j := 1) (v := .string wb) rfl
            have cc2 := (U8.blk 0 rfl).cell (j := 2) (v := .slice Ai ps.length ci) rfl
            have cc3 := (U8.blk 0 rfl).cell (j := 3) (v := .slice none 0 0) rfl
            have cc4 := (U8.blk 0 rfl).cell (j := 4) (v := .int .i64 K) rfl
            have cc5 := (U8.blk 0 rfl).cell (j := 5) (v := .int .i64 L) rfl
            have cc6 := (U8.blk 0 rfl).cell (j := 6) (v := .int .u64 Tn) rfl
            have cc7 := (U8.blk 0 rfl).cell (j := 7) (v := .int .u64 fo) rfl
            have cc8 := (U8.blk 0 rfl).cell (j := 8) (v := .int .u64 ke) rfl
            have cc9 := (U8.blk 0 rfl).cell (j := 9) (v := .int .u8 pr) rfl
            have yy0 := (U8.blk 2 rfl).frozen 0
            have yy1 := (U8.blk 2 rfl).frozen 1
            have yy2 := (U8.blk 2 rfl).frozen 2
            have yy3 := (U8.blk 2 rfl).frozen 3
            have yy4 := (U8.blk 2 rfl).frozen 4
            have yy5 := (U8.blk 2 rfl).frozen 5
            have yy6 := (U8.blk 2 rfl).frozen 6
            have yy7 := (U8.blk 2 rfl).frozen 7
            have yy8 := (U8.blk 2 rfl).frozen 8
            have yy9 := (U8.blk 2 rfl).frozen 9
            have rr0 := (U8.blk 2 rfl).cell (j := 0) (v := .string ⟨#[]⟩) rfl
            have rr1 := (U8.blk 2 rfl).cell (j := 1) (v := .string ⟨#[]⟩) rfl
            have rr2 := (U8.blk 2 rfl).cell (j := 2) (v := .slice none 0 0) rfl
            have rr3 := (U8.blk 2 rfl).cell (j := 3) (v := .slice none 0 0) rfl
            have rr4 := (U8.blk 2 rfl).cell (j := 4) (v := .int .i64 0) rfl
            have rr5 := (U8.blk 2 rfl).cell (j := 5) (v := .int .i64 0) rfl
            have rr6 := (U8.blk 2 rfl).cell (j := 6) (v := .int .u64 0) rfl
            have rr7 := (U8.blk 2 rfl).cell (j := 7) (v := .int .u64 0) rfl
            have rr8 := (U8.blk 2 rfl).cell (j := 8) (v := .int .u64 0) rfl
            have rr9 := (U8.blk 2 rfl).cell (j := 9) (v := .int .u8 0) rfl
            go_wp2_with fail
            go_region
            go_wp2_with fail
            refine bodyPost_gen fun w6 hw6 => ?_
            have U6 := (((((((((((U8.put 2 rfl 0 (.string wa)).put 0 rfl 1 (.string wb)).put 0 rfl 2 (.slice Ai ps.length ci)).put 0 rfl 3 (.slice none 0 0)).put 0 rfl 4 (.int .i64 K)).put 0 rfl 5 (.int .i64 L)).put 0 rfl 6 (.int .u64 Tn)).put 0 rfl 7 (.int .u64 fo)).put 0 rfl 8 (.int .u64 ke)).put 0 rfl 9 (.int .u8 pr))).drew.same hw6
            simp only [List.setIfInBounds_toArray, List.set_cons_zero, List.set_cons_succ, List.eraseIdx_cons_zero, List.eraseIdx_cons_succ] at U6
            clear hw6
            have a0 := (U6.blk 0 rfl).cell (j := 0) (v := .string wa) rfl
            have a1 := (U6.blk 0 rfl).cell (j := 1) (v := .string wb) rfl
            have a2 := (U6.blk 0 rfl).cell (j := 2) (v := .slice Ai ps.length ci) rfl
            have a3 := (U6.blk 0 rfl).cell (j := 3) (v := .slice none 0 0) rfl
            have a4 := (U6.blk 0 rfl).cell (j := 4) (v := .int .i64 K) rfl
            have a5 := (U6.blk 0 rfl).cell (j := 5) (v := .int .i64 L) rfl
            have a6 := (U6.blk 0 rfl).cell (j := 6) (v := .int .u64 Tn) rfl
            have a7 := (U6.blk 0 rfl).cell (j := 7) (v := .int .u64 fo) rfl
            have a8 := (U6.blk 0 rfl).cell (j := 8) (v := .int .u64 ke) rfl
            have a9 := (U6.blk 0 rfl).cell (j := 9) (v := .int .u8 pr) rfl
            refine bodyPost_ret (v := .tuple #[.agg #[.string wa, .string wb, .slice Ai ps.length ci, .slice none 0 0, .int .i64 K, .int .i64 L, .int .u64 Tn, .int .u64 fo, .int .u64 ke, .int .u8 pr], .int .i64 2]) ?_ rfl ⟨⟨wa, wb, .slice Ai ps.length ci, ps, K, L, Tn, fo, ke, pr, .slice none 0 0, []⟩, by rw [E.out]; rfl, (fun h => by rw [E.out] at h; cases h), ⟨hz1, hz2, hps, (fun p hp => by cases hp), hK, hpr8, (U6.rowBase 2 rfl), World.ownsRow_nil _ _ _ _⟩, U6.below⟩
            simp [results, Tryz.results81, go_sem, a0, a1, a2, a3, a4, a5, a6, a7, a8, a9]
        · obtain ⟨fo, hfo⟩ : ∃ y, y = atV (wa :: wb :: wt) 1 0 := ⟨_, rfl⟩
          obtain ⟨ke, hke⟩ : ∃ y, y = atV (wa :: wb :: wt) 1 1 := ⟨_, rfl⟩
          obtain ⟨pr, hpr⟩ : ∃ y, y = atV (wa :: wb :: wt) 1 2 := ⟨_, rfl⟩
          rw [← hfo, ← hke, ← hpr] at U8
          have hpr8 : pr < 256 := by rw [hpr]; exact (show (0 : Nat) < 256 by decide)
          have HV := Lib.hid (And.intro hfo (And.intro hke hpr))
          clear hfo hke hpr
          have kk := (U8.blk 4 rfl).cell (j := 1) (v := .string ⟨#[107, 101, 101, 112]⟩) rfl
          have mm := (U8.blk 3 rfl).cell (j := 1) (v := .int .u64 1048576) rfl
          rcases w6 with _ | ⟨k0, r0⟩
          · have E := Lib.hid (st_end (by decide) hE6 (.inl (by rw [hW6]; simp)))
            clear hW6 hE6
            have cc0 := (U8.blk 0 rfl).cell (j := 0) (v := .string wa) rfl
            have cc1 := (U8.blk 0 rfl).cell (j := 1) (v := .string wb) rfl
            have cc2 := (U8.blk 0 rfl).cell (j := 2) (v := .slice Ai ps.length ci) rfl
            have cc3 := (U8.blk 0 rfl).cell (j := 3) (v := .slice none 0 0) rfl
            have cc4 := (U8.blk 0 rfl).cell (j := 4) (v := .int .i64 K) rfl
            have cc5 := (U8.blk 0 rfl).cell (j := 5) (v := .int .i64 L) rfl
            have cc6 := (U8.blk 0 rfl).cell (j := 6) (v := .int .u64 Tn) rfl
            have cc7 := (U8.blk 0 rfl).cell (j := 7) (v := .int .u64 fo) rfl
            have cc8 := (U8.blk 0 rfl).cell (j := 8) (v := .int .u64 ke) rfl
            have cc9 := (U8.blk 0 rfl).cell (j := 9) (v := .int .u8 pr) rfl
            have yy0 := (U8.blk 2 rfl).frozen 0
            have yy1 := (U8.blk 2 rfl).frozen 1
            have yy2 := (U8.blk 2 rfl).frozen 2
            have yy3 := (U8.blk 2 rfl).frozen 3
            have yy4 := (U8.blk 2 rfl).frozen 4
            have yy5 := (U8.blk 2 rfl).frozen 5
            have yy6 := (U8.blk 2 rfl).frozen 6
            have yy7 := (U8.blk 2 rfl).frozen 7
            have yy8 := (U8.blk 2 rfl).frozen 8
            have yy9 := (U8.blk 2 rfl).frozen 9
            have rr0 := (U8.blk 2 rfl).cell (j := 0) (v := .string ⟨#[]⟩) rfl
            have rr1 := (U8.blk 2 rfl).cell (j := 1) (v := .string ⟨#[]⟩) rfl
            have rr2 := (U8.blk 2 rfl).cell (j := 2) (v := .slice none 0 0) rfl
            have rr3 := (U8.blk 2 rfl).cell (j := 3) (v := .slice none 0 0) rfl
            have rr4 := (U8.blk 2 rfl).cell (j := 4) (v := .int .i64 0) rfl
            have rr5 := (U8.blk 2 rfl).cell (j := 5) (v := .int .i64 0) rfl
            have rr6 := (U8.blk 2 rfl).cell (j := 6) (v := .int .u64 0) rfl
            have rr7 := (U8.blk 2 rfl).cell (j := 7) (v := .int .u64 0) rfl
            have rr8 := (U8.blk 2 rfl).cell (j := 8) (v := .int .u64 0) rfl
            have rr9 := (U8.blk 2 rfl).cell (j := 9) (v := .int .u8 0) rfl
            go_wp2_with fail
            go_region
            go_wp2_with fail
            refine bodyPost_gen fun w6 hw6 => ?_
            have U6 := (((((((((((U8.put 2 rfl 0 (.string wa)).put 0 rfl 1 (.string wb)).put 0 rfl 2 (.slice Ai ps.length ci)).put 0 rfl 3 (.slice none 0 0)).put 0 rfl 4 (.int .i64 K)).put 0 rfl 5 (.int .i64 L)).put 0 rfl 6 (.int .u64 Tn)).put 0 rfl 7 (.int .u64 fo)).put 0 rfl 8 (.int .u64 ke)).put 0 rfl 9 (.int .u8 pr))).drew.same hw6
            simp only [List.setIfInBounds_toArray, List.set_cons_zero, List.set_cons_succ, List.eraseIdx_cons_zero, List.eraseIdx_cons_succ] at U6
            clear hw6
            have a0 := (U6.blk 0 rfl).cell (j := 0) (v := .string wa) rfl
            have a1 := (U6.blk 0 rfl).cell (j := 1) (v := .string wb) rfl
            have a2 := (U6.blk 0 rfl).cell (j := 2) (v := .slice Ai ps.length ci) rfl
            have a3 := (U6.blk 0 rfl).cell (j := 3) (v := .slice none 0 0) rfl
            have a4 := (U6.blk 0 rfl).cell (j := 4) (v := .int .i64 K) rfl
            have a5 := (U6.blk 0 rfl).cell (j := 5) (v := .int .i64 L) rfl
            have a6 := (U6.blk 0 rfl).cell (j := 6) (v := .int .u64 Tn) rfl
            have a7 := (U6.blk 0 rfl).cell (j := 7) (v := .int .u64 fo) rfl
            have a8 := (U6.blk 0 rfl).cell (j := 8) (v := .int .u64 ke) rfl
            have a9 := (U6.blk 0 rfl).cell (j := 9) (v := .int .u8 pr) rfl
            refine bodyPost_ret (v := .tuple #[.agg #[.string wa, .string wb, .slice Ai ps.length ci, .slice none 0 0, .int .i64 K, .int .i64 L, .int .u64 Tn, .int .u64 fo, .int .u64 ke, .int .u8 pr], .int .i64 2]) ?_ rfl ⟨⟨wa, wb, .slice Ai ps.length ci, ps, K, L, Tn, fo, ke, pr, .slice none 0 0, []⟩, by rw [E.out]; rfl, (fun h => by rw [E.out] at h; cases h), ⟨hz1, hz2, hps, (fun p hp => by cases hp), hK, hpr8, (U6.rowBase 2 rfl), World.ownsRow_nil _ _ _ _⟩, U6.below⟩
            simp [results, Tryz.results81, go_sem, a0, a1, a2, a3, a4, a5, a6, a7, a8, a9]
          have g0 : decide ((r0.length : Int) + 1 < 1) = false := decide_eq_false (by omega)
          have g1 : (0 : Int) < (r0.length : Int) + 1 := by omega
          obtain ⟨b6, o6, rfl, hat6⟩ := Rd.pos HR6.out (by simp)
          have y0 := cell_below U8.below (hat6 0 (.string k0) rfl)
          rw [Nat.add_zero] at y0
          have hTL : (⟨#[107, 101, 101, 112]⟩ : ByteArray).toList = [107, 101, 101, 112] := by decide +kernel
          by_cases HK : k0 = kKeep
          · have hE1 : (k0 == ⟨#[107, 101, 101, 112]⟩) = true := by rw [beqS]; simpa [kIf, kFor, kKeep, kPrio, kWith] using HK
            have hE2 : (k0.toList == (⟨#[107, 101, 101, 112]⟩ : ByteArray).toList) = true := by rw [eqS_eq]; simpa [kIf, kFor, kKeep, kPrio, kWith] using HK
            have hE3 : (k0.toList == [107, 101, 101, 112]) = true := by rw [← hTL]; exact hE2
            subst HK
            rcases r0 with _ | ⟨x, r⟩
            · have E := Lib.hid (st_end (by decide) hE6 (.inr hW6))
              clear hW6 hE6 hat6
              have cc0 := (U8.blk 0 rfl).cell (j := 0) (v := .string wa) rfl
              have cc1 := (U8.blk 0 rfl).cell (j := 1) (v := .string wb) rfl
              have cc2 := (U8.blk 0 rfl).cell (j := 2) (v := .slice Ai ps.length ci) rfl
              have cc3 := (U8.blk 0 rfl).cell (j := 3) (v := .slice none 0 0) rfl
              have cc4 := (U8.blk 0 rfl).cell (j := 4) (v := .int .i64 K) rfl
              have cc5 := (U8.blk 0 rfl).cell (j := 5) (v := .int .i64 L) rfl
              have cc6 := (U8.blk 0 rfl).cell (j := 6) (v := .int .u64 Tn) rfl
              have cc7 := (U8.blk 0 rfl).cell (j := 7) (v := .int .u64 fo) rfl
              have cc8 := (U8.blk 0 rfl).cell (j := 8) (v := .int .u64 ke) rfl
              have cc9 := (U8.blk 0 rfl).cell (j := 9) (v := .int .u8 pr) rfl
              have yy0 := (U8.blk 2 rfl).frozen 0
              have yy1 := (U8.blk 2 rfl).frozen 1
              have yy2 := (U8.blk 2 rfl).frozen 2
              have yy3 := (U8.blk 2 rfl).frozen 3
              have yy4 := (U8.blk 2 rfl).frozen 4
              have yy5 := (U8.blk 2 rfl).frozen 5
              have yy6 := (U8.blk 2 rfl).frozen 6
              have yy7 := (U8.blk 2 rfl).frozen 7
              have yy8 := (U8.blk 2 rfl).frozen 8
              have yy9 := (U8.blk 2 rfl).frozen 9
              have rr0 := (U8.blk 2 rfl).cell (j := 0) (v := .string ⟨#[]⟩) rfl
              have rr1 := (U8.blk 2 rfl).cell (j := 1) (v := .string ⟨#[]⟩) rfl
              have rr2 := (U8.blk 2 rfl).cell (j := 2) (v := .slice none 0 0) rfl
              have rr3 := (U8.blk 2 rfl).cell (j := 3) (v := .slice none 0 0) rfl
              have rr4 := (U8.blk 2 rfl).cell (j := 4) (v := .int .i64 0) rfl
              have rr5 := (U8.blk 2 rfl).cell (j := 5) (v := .int .i64 0) rfl
              have rr6 := (U8.blk 2 rfl).cell (j := 6) (v := .int .u64 0) rfl
              have rr7 := (U8.blk 2 rfl).cell (j := 7) (v := .int .u64 0) rfl
              have rr8 := (U8.blk 2 rfl).cell (j := 8) (v := .int .u64 0) rfl
              have rr9 := (U8.blk 2 rfl).cell (j := 9) (v := .int .u8 0) rfl
              go_wp2_with fail
              go_region
              go_wp2_with fail
              refine bodyPost_gen fun w6 hw6 => ?_
              have U6 := (((((((((((U8.put 2 rfl 0 (.string wa)).put 0 rfl 1 (.string wb)).put 0 rfl 2 (.slice Ai ps.length ci)).put 0 rfl 3 (.slice none 0 0)).put 0 rfl 4 (.int .i64 K)).put 0 rfl 5 (.int .i64 L)).put 0 rfl 6 (.int .u64 Tn)).put 0 rfl 7 (.int .u64 fo)).put 0 rfl 8 (.int .u64 ke)).put 0 rfl 9 (.int .u8 pr))).drew.same hw6
              simp only [List.setIfInBounds_toArray, List.set_cons_zero, List.set_cons_succ, List.eraseIdx_cons_zero, List.eraseIdx_cons_succ] at U6
              clear hw6
              have a0 := (U6.blk 0 rfl).cell (j := 0) (v := .string wa) rfl
              have a1 := (U6.blk 0 rfl).cell (j := 1) (v := .string wb) rfl
              have a2 := (U6.blk 0 rfl).cell (j := 2) (v := .slice Ai ps.length ci) rfl
              have a3 := (U6.blk 0 rfl).cell (j := 3) (v := .slice none 0 0) rfl
              have a4 := (U6.blk 0 rfl).cell (j := 4) (v := .int .i64 K) rfl
              have a5 := (U6.blk 0 rfl).cell (j := 5) (v := .int .i64 L) rfl
              have a6 := (U6.blk 0 rfl).cell (j := 6) (v := .int .u64 Tn) rfl
              have a7 := (U6.blk 0 rfl).cell (j := 7) (v := .int .u64 fo) rfl
              have a8 := (U6.blk 0 rfl).cell (j := 8) (v := .int .u64 ke) rfl
              have a9 := (U6.blk 0 rfl).cell (j := 9) (v := .int .u8 pr) rfl
              refine bodyPost_ret (v := .tuple #[.agg #[.string wa, .string wb, .slice Ai ps.length ci, .slice none 0 0, .int .i64 K, .int .i64 L, .int .u64 Tn, .int .u64 fo, .int .u64 ke, .int .u8 pr], .int .i64 2]) ?_ rfl ⟨⟨wa, wb, .slice Ai ps.length ci, ps, K, L, Tn, fo, ke, pr, .slice none 0 0, []⟩, by rw [E.out]; rfl, (fun h => by rw [E.out] at h; cases h), ⟨hz1, hz2, hps, (fun p hp => by cases hp), hK, hpr8, (U6.rowBase 2 rfl), World.ownsRow_nil _ _ _ _⟩, U6.below⟩
              simp [results, Tryz.results81, go_sem, a0, a1, a2, a3, a4, a5, a6, a7, a8, a9]
            obtain ⟨q1, q2, q3⟩ := st_step (i := 1) (by decide) hE6 hW6
            have y1w := hat6 1 (.string x) rfl
            have y1 := cell_below U8.below y1w
            have hzx := hz6 x (.tail _ (.head _))
            have NN := fun w' => ref13NumberI x 1048576 1048576 rfl w' hzx
            clear g0 g1
            have g0 : decide ((r.length : Int) + 1 + 1 < 1) = false := decide_eq_false (by omega)
            have g1 : (0 : Int) < (r.length : Int) + 1 + 1 := by omega
            have g2 : decide ((r.length : Int) + 1 + 1 < 2) = false := decide_eq_false (by omega)
            have g3 : (1 : Int) < (r.length : Int) + 1 + 1 := by omega
            have hno := numO_le (s := x) (most := 1048576)
            obtain ⟨nn, hnn⟩ : ∃ y, y = numN x := ⟨_, rfl⟩
            obtain ⟨no, hno2⟩ : ∃ y, y = numO x 1048576 := ⟨_, rfl⟩
            have q2 : no = true → stE (wa :: wb :: wt) 2 = 0 ∧ stV (wa :: wb :: wt) 1 = nn := by rw [hno2, hnn]; exact q2
            have q3 : no = false → lineE (wa :: wb :: wt) = 27 := by rw [hno2]; exact q3
            rw [← hnn, ← hno2] at NN hno
            clear hnn hno2 hzx hat6 hW6 hE6
            cases no with
            | false =>
              have E := Lib.hid (q3 rfl)
              clear q2 q3
              go_wp2_with fail
              go_region
              go_wp2_with fail
              refine wp_gen fun V hV => ?_
              have UV := U8.drew.same hV
              have FC : ∀ w', Below V.heap.size V w' → w'.cell? ⟨b6, o6 + 1, none⟩ = some (.string x) ∧ w'.cell? ⟨W6.heap.size + 1, 1, none⟩ = some (.int .u64 1048576) := fun w' h => ⟨cell_below (UV.grow h).below y1w, ((UV.grow h).blk 3 rfl).cell (j := 1) (v := .int .u64 1048576) rfl⟩
              have hUV := UV.below.size
              clear hV
              refine FreeSl.region_free (fun w' => Below V.heap.size V w') [] [] (List.range 13) (by kernel_rfl) (by kernel_rfl) (by kernel_rfl) (Below.refl _ _).drew ?_
              simp only [List.range, List.range.loop]
              repeat (first
                | (refine FreeSl.RelSeq.pure_ (c := ?_) rfl rfl ?_ ?_; rotate_left; (focus (intro x w'; dsimp only; go_simp; (repeat' apply And.intro) <;> first | with_reducible rfl | assumption)); simp only [Act.put, List.setIfInBounds_toArray, List.set_cons_zero, List.set_cons_succ])
                | (refine FreeSl.RelSeq.grow_ (c := ?_) rfl rfl ?_ ?_; rotate_left; (focus (intro x w' hw _; dsimp only; obtain ⟨d0, d1⟩ := FC w' hw; have hbr := Below.refl w'.heap.size w'; go_simp; (repeat' apply And.intro) <;> first | with_reducible rfl | assumption)); simp only [Act.put, List.setIfInBounds_toArray, List.set_cons_zero, List.set_cons_succ])
                | (refine FreeSl.RelSeq.grow_ (c := ?_) rfl rfl ?_ ?_; rotate_left; (focus (intro x w' hw _; dsimp only; go_simp; (with_reducible refine (NN w').mono ?_); rintro e w2 ⟨rfl, rfl⟩; have hbr := Below.refl w2.heap.size w2; go_simp; (repeat' apply And.intro) <;> first | with_reducible rfl | assumption)); simp only [Act.put, List.setIfInBounds_toArray, List.set_cons_zero, List.set_cons_succ]))
              refine FreeSl.RelSeq.nil_ fun x2 w9 hw9 _ _ => ?_
              refine FreeSl.TailSeq.nil_ ?_
              have U8 := UV.grow hw9
              clear FC NN UV hUV
              clear y0 y1 y1w
              have cc0 := (U8.blk 0 rfl).cell (j := 0) (v := .string wa) rfl
              have cc1 := (U8.blk 0 rfl).cell (j := 1) (v := .string wb) rfl
              have cc2 := (U8.blk 0 rfl).cell (j := 2) (v := .slice Ai ps.length ci) rfl
              have cc3 := (U8.blk 0 rfl).cell (j := 3) (v := .slice none 0 0) rfl
              have cc4 := (U8.blk 0 rfl).cell (j := 4) (v := .int .i64 K) rfl
              have cc5 := (U8.blk 0 rfl).cell (j := 5) (v := .int .i64 L) rfl
              have cc6 := (U8.blk 0 rfl).cell (j := 6) (v := .int .u64 Tn) rfl
              have cc7 := (U8.blk 0 rfl).cell (j := 7) (v := .int .u64 fo) rfl
              have cc8 := (U8.blk 0 rfl).cell (j := 8) (v := .int .u64 ke) rfl
              have cc9 := (U8.blk 0 rfl).cell (j := 9) (v := .int .u8 pr) rfl
              have yy0 := (U8.blk 2 rfl).frozen 0
              have yy1 := (U8.blk 2 rfl).frozen 1
              have yy2 := (U8.blk 2 rfl).frozen 2
              have yy3 := (U8.blk 2 rfl).frozen 3
              have yy4 := (U8.blk 2 rfl).frozen 4
              have yy5 := (U8.blk 2 rfl).frozen 5
              have yy6 := (U8.blk 2 rfl).frozen 6
              have yy7 := (U8.blk 2 rfl).frozen 7
              have yy8 := (U8.blk 2 rfl).frozen 8
              have yy9 := (U8.blk 2 rfl).frozen 9
              have rr0 := (U8.blk 2 rfl).cell (j := 0) (v := .string ⟨#[]⟩) rfl
              have rr1 := (U8.blk 2 rfl).cell (j := 1) (v := .string ⟨#[]⟩) rfl
              have rr2 := (U8.blk 2 rfl).cell (j := 2) (v := .slice none 0 0) rfl
              have rr3 := (U8.blk 2 rfl).cell (j := 3) (v := .slice none 0 0) rfl
              have rr4 := (U8.blk 2 rfl).cell (j := 4) (v := .int .i64 0) rfl
              have rr5 := (U8.blk 2 rfl).cell (j := 5) (v := .int .i64 0) rfl
              have rr6 := (U8.blk 2 rfl).cell (j := 6) (v := .int .u64 0) rfl
              have rr7 := (U8.blk 2 rfl).cell (j := 7) (v := .int .u64 0) rfl
              have rr8 := (U8.blk 2 rfl).cell (j := 8) (v := .int .u64 0) rfl
              have rr9 := (U8.blk 2 rfl).cell (j := 9) (v := .int .u8 0) rfl
              go_wp2_with fail
              refine bodyPost_gen fun w6 hw6 => ?_
              have U6 := (((((((((((U8.put 2 rfl 0 (.string wa)).put 0 rfl 1 (.string wb)).put 0 rfl 2 (.slice Ai ps.length ci)).put 0 rfl 3 (.slice none 0 0)).put 0 rfl 4 (.int .i64 K)).put 0 rfl 5 (.int .i64 L)).put 0 rfl 6 (.int .u64 Tn)).put 0 rfl 7 (.int .u64 fo)).put 0 rfl 8 (.int .u64 ke)).put 0 rfl 9 (.int .u8 pr))).same hw6
              simp only [List.setIfInBounds_toArray, List.set_cons_zero, List.set_cons_succ, List.eraseIdx_cons_zero, List.eraseIdx_cons_succ] at U6
              clear hw6
              have a0 := (U6.blk 0 rfl).cell (j := 0) (v := .string wa) rfl
              have a1 := (U6.blk 0 rfl).cell (j := 1) (v := .string wb) rfl
              have a2 := (U6.blk 0 rfl).cell (j := 2) (v := .slice Ai ps.length ci) rfl
              have a3 := (U6.blk 0 rfl).cell (j := 3) (v := .slice none 0 0) rfl
              have a4 := (U6.blk 0 rfl).cell (j := 4) (v := .int .i64 K) rfl
              have a5 := (U6.blk 0 rfl).cell (j := 5) (v := .int .i64 L) rfl
              have a6 := (U6.blk 0 rfl).cell (j := 6) (v := .int .u64 Tn) rfl
              have a7 := (U6.blk 0 rfl).cell (j := 7) (v := .int .u64 fo) rfl
              have a8 := (U6.blk 0 rfl).cell (j := 8) (v := .int .u64 ke) rfl
              have a9 := (U6.blk 0 rfl).cell (j := 9) (v := .int .u8 pr) rfl
              refine bodyPost_ret (v := .tuple #[.agg #[.string wa, .string wb, .slice Ai ps.length ci, .slice none 0 0, .int .i64 K, .int .i64 L, .int .u64 Tn, .int .u64 fo, .int .u64 ke, .int .u8 pr], .int .i64 27]) ?_ rfl ⟨⟨wa, wb, .slice Ai ps.length ci, ps, K, L, Tn, fo, ke, pr, .slice none 0 0, []⟩, by rw [E.out]; rfl, (fun h => by rw [E.out] at h; cases h), ⟨hz1, hz2, hps, (fun p hp => by cases hp), hK, hpr8, (U6.rowBase 2 rfl), World.ownsRow_nil _ _ _ _⟩, U6.below⟩
              simp [results, Tryz.results81, go_sem, a0, a1, a2, a3, a4, a5, a6, a7, a8, a9]
            | true =>
              have HQ := Lib.hid (q2 rfl)
              have hle := hno rfl
              have hcutx := Rd.cut1 (k := 2) HR6.out (by simp)
              rw [show (wsC (kKeep :: x :: r)).drop 2 = wsC r from rfl, show (kKeep :: x :: r).length - 2 = r.length from rfl] at hcutx
              have HCX := Lib.hid hcutx
              have hzr : ∀ s ∈ r, s.size ≤ maxLen := fun s hs => hz6 s (.tail _ (.tail _ hs))
              go_wp2_with fail
              go_region
              go_wp2_with fail
              refine wp_gen fun V hV => ?_
              have UV := U8.drew.same hV
              have FC : ∀ w', Below V.heap.size V w' → w'.cell? ⟨b6, o6 + 1, none⟩ = some (.string x) ∧ w'.cell? ⟨W6.heap.size + 1, 1, none⟩ = some (.int .u64 1048576) := fun w' h => ⟨cell_below (UV.grow h).below y1w, ((UV.grow h).blk 3 rfl).cell (j := 1) (v := .int .u64 1048576) rfl⟩
              have hUV := UV.below.size
              clear hV
              refine FreeSl.region_free (fun w' => Below V.heap.size V w') [] [] (List.range 13) (by kernel_rfl) (by kernel_rfl) (by kernel_rfl) (Below.refl _ _).drew ?_
              simp only [List.range, List.range.loop]
              repeat (first
                | (refine FreeSl.RelSeq.pure_ (c := ?_) rfl rfl ?_ ?_; rotate_left; (focus (intro x w'; dsimp only; go_simp; (repeat' apply And.intro) <;> first | with_reducible rfl | assumption)); simp only [Act.put, List.setIfInBounds_toArray, List.set_cons_zero, List.set_cons_succ])
                | (refine FreeSl.RelSeq.grow_ (c := ?_) rfl rfl ?_ ?_; rotate_left; (focus (intro x w' hw _; dsimp only; obtain ⟨d0, d1⟩ := FC w' hw; have hbr := Below.refl w'.heap.size w'; go_simp; (repeat' apply And.intro) <;> first | with_reducible rfl | assumption)); simp only [Act.put, List.setIfInBounds_toArray, List.set_cons_zero, List.set_cons_succ])
                | (refine FreeSl.RelSeq.grow_ (c := ?_) rfl rfl ?_ ?_; rotate_left; (focus (intro x w' hw _; dsimp only; go_simp; (with_reducible refine (NN w').mono ?_); rintro e w2 ⟨rfl, rfl⟩; have hbr := Below.refl w2.heap.size w2; go_simp; (repeat' apply And.intro) <;> first | with_reducible rfl | assumption)); simp only [Act.put, List.setIfInBounds_toArray, List.set_cons_zero, List.set_cons_succ]))
              refine FreeSl.RelSeq.nil_ fun x2 w9 hw9 _ _ => ?_
              refine FreeSl.TailSeq.nil_ ?_
              have U8 := UV.grow hw9
              clear FC NN UV hUV
              have U9 := U8.put 0 rfl 8 (.int .u64 nn)
              simp only [List.setIfInBounds_toArray, List.set_cons_zero, List.set_cons_succ, List.eraseIdx_cons_zero] at U9
              have sx := (U8.blk 0 rfl).cell (j := 8) (v := .int .u64 ke) rfl
              have fx := (U8.blk 0 rfl).frozen 8
              skip
              simp only [List.length_cons] at hq1
              clear q2 q3 hno hcutx U8 hz6
              by_cases e2 : c6 = 2
              · subst e2
                obtain rfl : r = [] := List.eq_nil_of_length_eq_zero (by omega)
                rw [if_pos rfl] at HCX
                go_wp2_with fail
                go_roundw
                case rel => exact ⟨2, [], some ⟨b6, o6, none⟩, 0, by decide, by first | rfl | go_num, rfl, HCX.out, hzr, q1, HQ.out.1, by rw [show atV (wa :: wb :: wt) 2 0 = fo from HV.out.1.symm, show atV (wa :: wb :: wt) 2 1 = nn from HQ.out.2, show atV (wa :: wb :: wt) 2 2 = pr from HV.out.2.2.symm]; exact U9⟩
                case measure => simp [intOf]
              · rw [if_neg e2] at HCX
                go_wp2_with fail
                go_roundw
                case rel => exact ⟨2, r, some ⟨b6, o6 + 2, none⟩, c6 - 2, by decide, by first | rfl | go_num, rfl, HCX.out, hzr, q1, HQ.out.1, by rw [show atV (wa :: wb :: wt) 2 0 = fo from HV.out.1.symm, show atV (wa :: wb :: wt) 2 1 = nn from HQ.out.2, show atV (wa :: wb :: wt) 2 2 = pr from HV.out.2.2.symm]; exact U9⟩
                case measure => simp [intOf]
          · have hE1 : (k0 == ⟨#[107, 101, 101, 112]⟩) = false := by rw [beqS]; simpa [kIf, kFor, kKeep, kPrio, kWith] using HK
            have hE2 : (k0.toList == (⟨#[107, 101, 101, 112]⟩ : ByteArray).toList) = false := by rw [eqS_eq]; simpa [kIf, kFor, kKeep, kPrio, kWith] using HK
            have hE3 : (k0.toList == [107, 101, 101, 112]) = false := by rw [← hTL]; exact hE2
            have E := Lib.hid (st_end (by decide) hE6 (.inl (by rw [hW6]; simpa [keyA] using HK)))
            clear hW6 hE6 hat6
            have cc0 := (U8.blk 0 rfl).cell (j := 0) (v := .string wa) rfl
            have cc1 := (U8.blk 0 rfl).cell (j := 1) (v := .string wb) rfl
            have cc2 := (U8.blk 0 rfl).cell (j := 2) (v := .slice Ai ps.length ci) rfl
            have cc3 := (U8.blk 0 rfl).cell (j := 3) (v := .slice none 0 0) rfl
            have cc4 := (U8.blk 0 rfl).cell (j := 4) (v := .int .i64 K) rfl
            have cc5 := (U8.blk 0 rfl).cell (j := 5) (v := .int .i64 L) rfl
            have cc6 := (U8.blk 0 rfl).cell (j := 6) (v := .int .u64 Tn) rfl
            have cc7 := (U8.blk 0 rfl).cell (j := 7) (v := .int .u64 fo) rfl
            have cc8 := (U8.blk 0 rfl).cell (j := 8) (v := .int .u64 ke) rfl
            have cc9 := (U8.blk 0 rfl).cell (j := 9) (v := .int .u8 pr) rfl
            have yy0 := (U8.blk 2 rfl).frozen 0
            have yy1 := (U8.blk 2 rfl).frozen 1
            have yy2 := (U8.blk 2 rfl).frozen 2
            have yy3 := (U8.blk 2 rfl).frozen 3
            have yy4 := (U8.blk 2 rfl).frozen 4
            have yy5 := (U8.blk 2 rfl).frozen 5
            have yy6 := (U8.blk 2 rfl).frozen 6
            have yy7 := (U8.blk 2 rfl).frozen 7
            have yy8 := (U8.blk 2 rfl).frozen 8
            have yy9 := (U8.blk 2 rfl).frozen 9
            have rr0 := (U8.blk 2 rfl).cell (j := 0) (v := .string ⟨#[]⟩) rfl
            have rr1 := (U8.blk 2 rfl).cell (j := 1) (v := .string ⟨#[]⟩) rfl
            have rr2 := (U8.blk 2 rfl).cell (j := 2) (v := .slice none 0 0) rfl
            have rr3 := (U8.blk 2 rfl).cell (j := 3) (v := .slice none 0 0) rfl
            have rr4 := (U8.blk 2 rfl).cell (j := 4) (v := .int .i64 0) rfl
            have rr5 := (U8.blk 2 rfl).cell (j := 5) (v := .int .i64 0) rfl
            have rr6 := (U8.blk 2 rfl).cell (j := 6) (v := .int .u64 0) rfl
            have rr7 := (U8.blk 2 rfl).cell (j := 7) (v := .int .u64 0) rfl
            have rr8 := (U8.blk 2 rfl).cell (j := 8) (v := .int .u64 0) rfl
            have rr9 := (U8.blk 2 rfl).cell (j := 9) (v := .int .u8 0) rfl
            go_wp2_with fail
            go_region
            go_wp2_with fail
            refine bodyPost_gen fun w6 hw6 => ?_
            have U6 := (((((((((((U8.put 2 rfl 0 (.string wa)).put 0 rfl 1 (.string wb)).put 0 rfl 2 (.slice Ai ps.length ci)).put 0 rfl 3 (.slice none 0 0)).put 0 rfl 4 (.int .i64 K)).put 0 rfl 5 (.int .i64 L)).put 0 rfl 6 (.int .u64 Tn)).put 0 rfl 7 (.int .u64 fo)).put 0 rfl 8 (.int .u64 ke)).put 0 rfl 9 (.int .u8 pr))).drew.same hw6
            simp only [List.setIfInBounds_toArray, List.set_cons_zero, List.set_cons_succ, List.eraseIdx_cons_zero, List.eraseIdx_cons_succ] at U6
            clear hw6
            have a0 := (U6.blk 0 rfl).cell (j := 0) (v := .string wa) rfl
            have a1 := (U6.blk 0 rfl).cell (j := 1) (v := .string wb) rfl
            have a2 := (U6.blk 0 rfl).cell (j := 2) (v := .slice Ai ps.length ci) rfl
            have a3 := (U6.blk 0 rfl).cell (j := 3) (v := .slice none 0 0) rfl
            have a4 := (U6.blk 0 rfl).cell (j := 4) (v := .int .i64 K) rfl
            have a5 := (U6.blk 0 rfl).cell (j := 5) (v := .int .i64 L) rfl
            have a6 := (U6.blk 0 rfl).cell (j := 6) (v := .int .u64 Tn) rfl
            have a7 := (U6.blk 0 rfl).cell (j := 7) (v := .int .u64 fo) rfl
            have a8 := (U6.blk 0 rfl).cell (j := 8) (v := .int .u64 ke) rfl
            have a9 := (U6.blk 0 rfl).cell (j := 9) (v := .int .u8 pr) rfl
            refine bodyPost_ret (v := .tuple #[.agg #[.string wa, .string wb, .slice Ai ps.length ci, .slice none 0 0, .int .i64 K, .int .i64 L, .int .u64 Tn, .int .u64 fo, .int .u64 ke, .int .u8 pr], .int .i64 2]) ?_ rfl ⟨⟨wa, wb, .slice Ai ps.length ci, ps, K, L, Tn, fo, ke, pr, .slice none 0 0, []⟩, by rw [E.out]; rfl, (fun h => by rw [E.out] at h; cases h), ⟨hz1, hz2, hps, (fun p hp => by cases hp), hK, hpr8, (U6.rowBase 2 rfl), World.ownsRow_nil _ _ _ _⟩, U6.below⟩
            simp [results, Tryz.results81, go_sem, a0, a1, a2, a3, a4, a5, a6, a7, a8, a9]
        · obtain ⟨fo, hfo⟩ : ∃ y, y = atV (wa :: wb :: wt) 2 0 := ⟨_, rfl⟩
          obtain ⟨ke, hke⟩ : ∃ y, y = atV (wa :: wb :: wt) 2 1 := ⟨_, rfl⟩
          obtain ⟨pr, hpr⟩ : ∃ y, y = atV (wa :: wb :: wt) 2 2 := ⟨_, rfl⟩
          rw [← hfo, ← hke, ← hpr] at U8
          have hpr8 : pr < 256 := by rw [hpr]; exact (show (0 : Nat) < 256 by decide)
          have HV := Lib.hid (And.intro hfo (And.intro hke hpr))
          clear hfo hke hpr
          have kk := (U8.blk 4 rfl).cell (j := 2) (v := .string ⟨#[112, 114, 105, 111]⟩) rfl
          have mm := (U8.blk 3 rfl).cell (j := 2) (v := .int .u64 7) rfl
          rcases w6 with _ | ⟨k0, r0⟩
          · have E := Lib.hid (st_end (by decide) hE6 (.inl (by rw [hW6]; simp)))
            clear hW6 hE6
            have cc0 := (U8.blk 0 rfl).cell (j := 0) (v := .string wa) rfl
            have cc1 := (U8.blk 0 rfl).cell (j := 1) (v := .string wb) rfl
            have cc2 := (U8.blk 0 rfl).cell (j := 2) (v := .slice Ai ps.length ci) rfl
            have cc3 := (U8.blk 0 rfl).cell (j := 3) (v := .slice none 0 0) rfl
            have cc4 := (U8.blk 0 rfl).cell (j := 4) (v := .int .i64 K) rfl
            have cc5 := (U8.blk 0 rfl).cell (j := 5) (v := .int .i64 L) rfl
            have cc6 := (U8.blk 0 rfl).cell (j := 6) (v := .int .u64 Tn) rfl
            have cc7 := (U8.blk 0 rfl).cell (j := 7) (v := .int .u64 fo) rfl
            have cc8 := (U8.blk 0 rfl).cell (j := 8) (v := .int .u64 ke) rfl
            have cc9 := (U8.blk 0 rfl).cell (j := 9) (v := .int .u8 pr) rfl
            have yy0 := (U8.blk 2 rfl).frozen 0
            have yy1 := (U8.blk 2 rfl).frozen 1
            have yy2 := (U8.blk 2 rfl).frozen 2
            have yy3 := (U8.blk 2 rfl).frozen 3
            have yy4 := (U8.blk 2 rfl).frozen 4
            have yy5 := (U8.blk 2 rfl).frozen 5
            have yy6 := (U8.blk 2 rfl).frozen 6
            have yy7 := (U8.blk 2 rfl).frozen 7
            have yy8 := (U8.blk 2 rfl).frozen 8
            have yy9 := (U8.blk 2 rfl).frozen 9
            have rr0 := (U8.blk 2 rfl).cell (j := 0) (v := .string ⟨#[]⟩) rfl
            have rr1 := (U8.blk 2 rfl).cell (j := 1) (v := .string ⟨#[]⟩) rfl
            have rr2 := (U8.blk 2 rfl).cell (j := 2) (v := .slice none 0 0) rfl
            have rr3 := (U8.blk 2 rfl).cell (j := 3) (v := .slice none 0 0) rfl
            have rr4 := (U8.blk 2 rfl).cell (j := 4) (v := .int .i64 0) rfl
            have rr5 := (U8.blk 2 rfl).cell (j := 5) (v := .int .i64 0) rfl
            have rr6 := (U8.blk 2 rfl).cell (j := 6) (v := .int .u64 0) rfl
            have rr7 := (U8.blk 2 rfl).cell (j := 7) (v := .int .u64 0) rfl
            have rr8 := (U8.blk 2 rfl).cell (j := 8) (v := .int .u64 0) rfl
            have rr9 := (U8.blk 2 rfl).cell (j := 9) (v := .int .u8 0) rfl
            go_wp2_with fail
            go_region
            go_wp2_with fail
            refine bodyPost_gen fun w6 hw6 => ?_
            have U6 := (((((((((((U8.put 2 rfl 0 (.string wa)).put 0 rfl 1 (.string wb)).put 0 rfl 2 (.slice Ai ps.length ci)).put 0 rfl 3 (.slice none 0 0)).put 0 rfl 4 (.int .i64 K)).put 0 rfl 5 (.int .i64 L)).put 0 rfl 6 (.int .u64 Tn)).put 0 rfl 7 (.int .u64 fo)).put 0 rfl 8 (.int .u64 ke)).put 0 rfl 9 (.int .u8 pr))).drew.same hw6
            simp only [List.setIfInBounds_toArray, List.set_cons_zero, List.set_cons_succ, List.eraseIdx_cons_zero, List.eraseIdx_cons_succ] at U6
            clear hw6
            have a0 := (U6.blk 0 rfl).cell (j := 0) (v := .string wa) rfl
            have a1 := (U6.blk 0 rfl).cell (j := 1) (v := .string wb) rfl
            have a2 := (U6.blk 0 rfl).cell (j := 2) (v := .slice Ai ps.length ci) rfl
            have a3 := (U6.blk 0 rfl).cell (j := 3) (v := .slice none 0 0) rfl
            have a4 := (U6.blk 0 rfl).cell (j := 4) (v := .int .i64 K) rfl
            have a5 := (U6.blk 0 rfl).cell (j := 5) (v := .int .i64 L) rfl
            have a6 := (U6.blk 0 rfl).cell (j := 6) (v := .int .u64 Tn) rfl
            have a7 := (U6.blk 0 rfl).cell (j := 7) (v := .int .u64 fo) rfl
            have a8 := (U6.blk 0 rfl).cell (j := 8) (v := .int .u64 ke) rfl
            have a9 := (U6.blk 0 rfl).cell (j := 9) (v := .int .u8 pr) rfl
            refine bodyPost_ret (v := .tuple #[.agg #[.string wa, .string wb, .slice Ai ps.length ci, .slice none 0 0, .int .i64 K, .int .i64 L, .int .u64 Tn, .int .u64 fo, .int .u64 ke, .int .u8 pr], .int .i64 2]) ?_ rfl ⟨⟨wa, wb, .slice Ai ps.length ci, ps, K, L, Tn, fo, ke, pr, .slice none 0 0, []⟩, by rw [E.out]; rfl, (fun h => by rw [E.out] at h; cases h), ⟨hz1, hz2, hps, (fun p hp => by cases hp), hK, hpr8, (U6.rowBase 2 rfl), World.ownsRow_nil _ _ _ _⟩, U6.below⟩
            simp [results, Tryz.results81, go_sem, a0, a1, a2, a3, a4, a5, a6, a7, a8, a9]
          have g0 : decide ((r0.length : Int) + 1 < 1) = false := decide_eq_false (by omega)
          have g1 : (0 : Int) < (r0.length : Int) + 1 := by omega
          obtain ⟨b6, o6, rfl, hat6⟩ := Rd.pos HR6.out (by simp)
          have y0 := cell_below U8.below (hat6 0 (.string k0) rfl)
          rw [Nat.add_zero] at y0
          have hTL : (⟨#[112, 114, 105, 111]⟩ : ByteArray).toList = [112, 114, 105, 111] := by decide +kernel
          by_cases HK : k0 = kPrio
          · have hE1 : (k0 == ⟨#[112, 114, 105, 111]⟩) = true := by rw [beqS]; simpa [kIf, kFor, kKeep, kPrio, kWith] using HK
            have hE2 : (k0.toList == (⟨#[112, 114, 105, 111]⟩ : ByteArray).toList) = true := by rw [eqS_eq]; simpa [kIf, kFor, kKeep, kPrio, kWith] using HK
            have hE3 : (k0.toList == [112, 114, 105, 111]) = true := by rw [← hTL]; exact hE2
            subst HK
            rcases r0 with _ | ⟨x, r⟩
            · have E := Lib.hid (st_end (by decide) hE6 (.inr hW6))
              clear hW6 hE6 hat6
              have cc0 := (U8.blk 0 rfl).cell (j := 0) (v := .string wa) rfl
              have cc1 := (U8.blk 0 rfl).cell (j := 1) (v := .string wb) rfl
              have cc2 := (U8.blk 0 rfl).cell (j := 2) (v := .slice Ai ps.length ci) rfl
              have cc3 := (U8.blk 0 rfl).cell (j := 3) (v := .slice none 0 0) rfl
              have cc4 := (U8.blk 0 rfl).cell (j := 4) (v := .int .i64 K) rfl
              have cc5 := (U8.blk 0 rfl).cell (j := 5) (v := .int .i64 L) rfl
              have cc6 := (U8.blk 0 rfl).cell (j := 6) (v := .int .u64 Tn) rfl
              have cc7 := (U8.blk 0 rfl).cell (j := 7) (v := .int .u64 fo) rfl
              have cc8 := (U8.blk 0 rfl).cell (j := 8) (v := .int .u64 ke) rfl
              have cc9 := (U8.blk 0 rfl).cell (j := 9) (v := .int .u8 pr) rfl
              have yy0 := (U8.blk 2 rfl).frozen 0
              have yy1 := (U8.blk 2 rfl).frozen 1
              have yy2 := (U8.blk 2 rfl).frozen 2
              have yy3 := (U8.blk 2 rfl).frozen 3
              have yy4 := (U8.blk 2 rfl).frozen 4
              have yy5 := (U8.blk 2 rfl).frozen 5
              have yy6 := (U8.blk 2 rfl).frozen 6
              have yy7 := (U8.blk 2 rfl).frozen 7
              have yy8 := (U8.blk 2 rfl).frozen 8
              have yy9 := (U8.blk 2 rfl).frozen 9
              have rr0 := (U8.blk 2 rfl).cell (j := 0) (v := .string ⟨#[]⟩) rfl
              have rr1 := (U8.blk 2 rfl).cell (j := 1) (v := .string ⟨#[]⟩) rfl
              have rr2 := (U8.blk 2 rfl).cell (j := 2) (v := .slice none 0 0) rfl
              have rr3 := (U8.blk 2 rfl).cell (j := 3) (v := .slice none 0 0) rfl
              have rr4 := (U8.blk 2 rfl).cell (j := 4) (v := .int .i64 0) rfl
              have rr5 := (U8.blk 2 rfl).cell (j := 5) (v := .int .i64 0) rfl
              have rr6 := (U8.blk 2 rfl).cell (j := 6) (v := .int .u64 0) rfl
              have rr7 := (U8.blk 2 rfl).cell (j := 7) (v := .int .u64 0) rfl
              have rr8 := (U8.blk 2 rfl).cell (j := 8) (v := .int .u64 0) rfl
              have rr9 := (U8.blk 2 rfl).cell (j := 9) (v := .int .u8 0) rfl
              go_wp2_with fail
              go_region
              go_wp2_with fail
              refine bodyPost_gen fun w6 hw6 => ?_
              have U6 := (((((((((((U8.put 2 rfl 0 (.string wa)).put 0 rfl 1 (.string wb)).put 0 rfl 2 (.slice Ai ps.length ci)).put 0 rfl 3 (.slice none 0 0)).put 0 rfl 4 (.int .i64 K)).put 0 rfl 5 (.int .i64 L)).put 0 rfl 6 (.int .u64 Tn)).put 0 rfl 7 (.int .u64 fo)).put 0 rfl 8 (.int .u64 ke)).put 0 rfl 9 (.int .u8 pr))).drew.same hw6
              simp only [List.setIfInBounds_toArray, List.set_cons_zero, List.set_cons_succ, List.eraseIdx_cons_zero, List.eraseIdx_cons_succ] at U6
              clear hw6
              have a0 := (U6.blk 0 rfl).cell (j := 0) (v := .string wa) rfl
              have a1 := (U6.blk 0 rfl).cell (j := 1) (v := .string wb) rfl
              have a2 := (U6.blk 0 rfl).cell (j := 2) (v := .slice Ai ps.length ci) rfl
              have a3 := (U6.blk 0 rfl).cell (j := 3) (v := .slice none 0 0) rfl
              have a4 := (U6.blk 0 rfl).cell (j := 4) (v := .int .i64 K) rfl
              have a5 := (U6.blk 0 rfl).cell (j := 5) (v := .int .i64 L) rfl
              have a6 := (U6.blk 0 rfl).cell (j := 6) (v := .int .u64 Tn) rfl
              have a7 := (U6.blk 0 rfl).cell (j := 7) (v := .int .u64 fo) rfl
              have a8 := (U6.blk 0 rfl).cell (j := 8) (v := .int .u64 ke) rfl
              have a9 := (U6.blk 0 rfl).cell (j := 9) (v := .int .u8 pr) rfl
              refine bodyPost_ret (v := .tuple #[.agg #[.string wa, .string wb, .slice Ai ps.length ci, .slice none 0 0, .int .i64 K, .int .i64 L, .int .u64 Tn, .int .u64 fo, .int .u64 ke, .int .u8 pr], .int .i64 2]) ?_ rfl ⟨⟨wa, wb, .slice Ai ps.length ci, ps, K, L, Tn, fo, ke, pr, .slice none 0 0, []⟩, by rw [E.out]; rfl, (fun h => by rw [E.out] at h; cases h), ⟨hz1, hz2, hps, (fun p hp => by cases hp), hK, hpr8, (U6.rowBase 2 rfl), World.ownsRow_nil _ _ _ _⟩, U6.below⟩
              simp [results, Tryz.results81, go_sem, a0, a1, a2, a3, a4, a5, a6, a7, a8, a9]
            obtain ⟨q1, q2, q3⟩ := st_step (i := 2) (by decide) hE6 hW6
            have y1w := hat6 1 (.string x) rfl
            have y1 := cell_below U8.below y1w
            have hzx := hz6 x (.tail _ (.head _))
            have NN := fun w' => ref13NumberI x 7 7 rfl w' hzx
            clear g0 g1
            have g0 : decide ((r.length : Int) + 1 + 1 < 1) = false := decide_eq_false (by omega)
            have g1 : (0 : Int) < (r.length : Int) + 1 + 1 := by omega
            have g2 : decide ((r.length : Int) + 1 + 1 < 2) = false := decide_eq_false (by omega)
            have g3 : (1 : Int) < (r.length : Int) + 1 + 1 := by omega
            have hno := numO_le (s := x) (most := 7)
            obtain ⟨nn, hnn⟩ : ∃ y, y = numN x := ⟨_, rfl⟩
            obtain ⟨no, hno2⟩ : ∃ y, y = numO x 7 := ⟨_, rfl⟩
            have q2 : no = true → stE (wa :: wb :: wt) 3 = 0 ∧ stV (wa :: wb :: wt) 2 = nn := by rw [hno2, hnn]; exact q2
            have q3 : no = false → lineE (wa :: wb :: wt) = 27 := by rw [hno2]; exact q3
            rw [← hnn, ← hno2] at NN hno
            clear hnn hno2 hzx hat6 hW6 hE6
            cases no with
            | false =>
              have E := Lib.hid (q3 rfl)
              clear q2 q3
              go_wp2_with fail
              go_region
              go_wp2_with fail
              refine wp_gen fun V hV => ?_
              have UV := U8.drew.same hV
              have FC : ∀ w', Below V.heap.size V w' → w'.cell? ⟨b6, o6 + 1, none⟩ = some (.string x) ∧ w'.cell? ⟨W6.heap.size + 1, 2, none⟩ = some (.int .u64 7) := fun w' h => ⟨cell_below (UV.grow h).below y1w, ((UV.grow h).blk 3 rfl).cell (j := 2) (v := .int .u64 7) rfl⟩
              have hUV := UV.below.size
              clear hV
              refine FreeSl.region_free (fun w' => Below V.heap.size V w') [] [] (List.range 13) (by kernel_rfl) (by kernel_rfl) (by kernel_rfl) (Below.refl _ _).drew ?_
              simp only [List.range, List.range.loop]
              repeat (first
                | (refine FreeSl.RelSeq.pure_ (c := ?_) rfl rfl ?_ ?_; rotate_left; (focus (intro x w'; dsimp only; go_simp; (repeat' apply And.intro) <;> first | with_reducible rfl | assumption)); simp only [Act.put, List.setIfInBounds_toArray, List.set_cons_zero, List.set_cons_succ])
                | (refine FreeSl.RelSeq.grow_ (c := ?_) rfl rfl ?_ ?_; rotate_left; (focus (intro x w' hw _; dsimp only; obtain ⟨d0, d1⟩ := FC w' hw; have hbr := Below.refl w'.heap.size w'; go_simp; (repeat' apply And.intro) <;> first | with_reducible rfl | assumption)); simp only [Act.put, List.setIfInBounds_toArray, List.set_cons_zero, List.set_cons_succ])
                | (refine FreeSl.RelSeq.grow_ (c := ?_) rfl rfl ?_ ?_; rotate_left; (focus (intro x w' hw _; dsimp only; go_simp; (with_reducible refine (NN w').mono ?_); rintro e w2 ⟨rfl, rfl⟩; have hbr := Below.refl w2.heap.size w2; go_simp; (repeat' apply And.intro) <;> first | with_reducible rfl | assumption)); simp only [Act.put, List.setIfInBounds_toArray, List.set_cons_zero, List.set_cons_succ]))
              refine FreeSl.RelSeq.nil_ fun x2 w9 hw9 _ _ => ?_
              refine FreeSl.TailSeq.nil_ ?_
              have U8 := UV.grow hw9
              clear FC NN UV hUV
              clear y0 y1 y1w
              have cc0 := (U8.blk 0 rfl).cell (j := 0) (v := .string wa) rfl
              have cc1 := (U8.blk 0 rfl).cell (j := 1) (v := .string wb) rfl
              have cc2 := (U8.blk 0 rfl).cell (j := 2) (v := .slice Ai ps.length ci) rfl
              have cc3 := (U8.blk 0 rfl).cell (j := 3) (v := .slice none 0 0) rfl
              have cc4 := (U8.blk 0 rfl).cell (j := 4) (v := .int .i64 K) rfl
              have cc5 := (U8.blk 0 rfl).cell (j := 5) (v := .int .i64 L) rfl
              have cc6 := (U8.blk 0 rfl).cell (j := 6) (v := .int .u64 Tn) rfl
              have cc7 := (U8.blk 0 rfl).cell (j := 7) (v := .int .u64 fo) rfl
              have cc8 := (U8.blk 0 rfl).cell (j := 8) (v := .int .u64 ke) rfl
              have cc9 := (U8.blk 0 rfl).cell (j := 9) (v := .int .u8 pr) rfl
              have yy0 := (U8.blk 2 rfl).frozen 0
              have yy1 := (U8.blk 2 rfl).frozen 1
              have yy2 := (U8.blk 2 rfl).frozen 2
              have yy3 := (U8.blk 2 rfl).frozen 3
              have yy4 := (U8.blk 2 rfl).frozen 4
              have yy5 := (U8.blk 2 rfl).frozen 5
              have yy6 := (U8.blk 2 rfl).frozen 6
              have yy7 := (U8.blk 2 rfl).frozen 7
              have yy8 := (U8.blk 2 rfl).frozen 8
              have yy9 := (U8.blk 2 rfl).frozen 9
              have rr0 := (U8.blk 2 rfl).cell (j := 0) (v := .string ⟨#[]⟩) rfl
              have rr1 := (U8.blk 2 rfl).cell (j := 1) (v := .string ⟨#[]⟩) rfl
              have rr2 := (U8.blk 2 rfl).cell (j := 2) (v := .slice none 0 0) rfl
              have rr3 := (U8.blk 2 rfl).cell (j := 3) (v := .slice none 0 0) rfl
              have rr4 := (U8.blk 2 rfl).cell (j := 4) (v := .int .i64 0) rfl
              have rr5 := (U8.blk 2 rfl).cell (j := 5) (v := .int .i64 0) rfl
              have rr6 := (U8.blk 2 rfl).cell (j := 6) (v := .int .u64 0) rfl
              have rr7 := (U8.blk 2 rfl).cell (j := 7) (v := .int .u64 0) rfl
              have rr8 := (U8.blk 2 rfl).cell (j := 8) (v := .int .u64 0) rfl
              have rr9 := (U8.blk 2 rfl).cell (j := 9) (v := .int .u8 0) rfl
              go_wp2_with fail
              refine bodyPost_gen fun w6 hw6 => ?_
              have U6 := (((((((((((U8.put 2 rfl 0 (.string wa)).put 0 rfl 1 (.string wb)).put 0 rfl 2 (.slice Ai ps.length ci)).put 0 rfl 3 (.slice none 0 0)).put 0 rfl 4 (.int .i64 K)).put 0 rfl 5 (.int .i64 L)).put 0 rfl 6 (.int .u64 Tn)).put 0 rfl 7 (.int .u64 fo)).put 0 rfl 8 (.int .u64 ke)).put 0 rfl 9 (.int .u8 pr))).same hw6
              simp only [List.setIfInBounds_toArray, List.set_cons_zero, List.set_cons_succ, List.eraseIdx_cons_zero, List.eraseIdx_cons_succ] at U6
              clear hw6
              have a0 := (U6.blk 0 rfl).cell (j := 0) (v := .string wa) rfl
              have a1 := (U6.blk 0 rfl).cell (j := 1) (v := .string wb) rfl
              have a2 := (U6.blk 0 rfl).cell (j := 2) (v := .slice Ai ps.length ci) rfl
              have a3 := (U6.blk 0 rfl).cell (j := 3) (v := .slice none 0 0) rfl
              have a4 := (U6.blk 0 rfl).cell (j := 4) (v := .int .i64 K) rfl
              have a5 := (U6.blk 0 rfl).cell (j := 5) (v := .int .i64 L) rfl
              have a6 := (U6.blk 0 rfl).cell (j := 6) (v := .int .u64 Tn) rfl
              have a7 := (U6.blk 0 rfl).cell (j := 7) (v := .int .u64 fo) rfl
              have a8 := (U6.blk 0 rfl).cell (j := 8) (v := .int .u64 ke) rfl
              have a9 := (U6.blk 0 rfl).cell (j := 9) (v := .int .u8 pr) rfl
              refine bodyPost_ret (v := .tuple #[.agg #[.string wa, .string wb, .slice Ai ps.length ci, .slice none 0 0, .int .i64 K, .int .i64 L, .int .u64 Tn, .int .u64 fo, .int .u64 ke, .int .u8 pr], .int .i64 27]) ?_ rfl ⟨⟨wa, wb, .slice Ai ps.length ci, ps, K, L, Tn, fo, ke, pr, .slice none 0 0, []⟩, by rw [E.out]; rfl, (fun h => by rw [E.out] at h; cases h), ⟨hz1, hz2, hps, (fun p hp => by cases hp), hK, hpr8, (U6.rowBase 2 rfl), World.ownsRow_nil _ _ _ _⟩, U6.below⟩
              simp [results, Tryz.results81, go_sem, a0, a1, a2, a3, a4, a5, a6, a7, a8, a9]
            | true =>
              have HQ := Lib.hid (q2 rfl)
              have hle := hno rfl
              have hcutx := Rd.cut1 (k := 2) HR6.out (by simp)
              rw [show (wsC (kPrio :: x :: r)).drop 2 = wsC r from rfl, show (kPrio :: x :: r).length - 2 = r.length from rfl] at hcutx
              have HCX := Lib.hid hcutx
              have hzr : ∀ s ∈ r, s.size ≤ maxLen := fun s hs => hz6 s (.tail _ (.tail _ hs))
              go_wp2_with fail
              go_region
              go_wp2_with fail
              refine wp_gen fun V hV => ?_
              have UV := U8.drew.same hV
              have FC : ∀ w', Below V.heap.size V w' → w'.cell? ⟨b6, o6 + 1, none⟩ = some (.string x) ∧ w'.cell? ⟨W6.heap.size + 1, 2, none⟩ = some (.int .u64 7) := fun w' h => ⟨cell_below (UV.grow h).below y1w, ((UV.grow h).blk 3 rfl).cell (j := 2) (v := .int .u64 7) rfl⟩
              have hUV := UV.below.size
              clear hV
              refine FreeSl.region_free (fun w' => Below V.heap.size V w') [] [] (List.range 13) (by kernel_rfl) (by kernel_rfl) (by kernel_rfl) (Below.refl _ _).drew ?_
              simp only [List.range, List.range.loop]
              repeat (first
                | (refine FreeSl.RelSeq.pure_ (c := ?_) rfl rfl ?_ ?_; rotate_left; (focus (intro x w'; dsimp only; go_simp; (repeat' apply And.intro) <;> first | with_reducible rfl | assumption)); simp only [Act.put, List.setIfInBounds_toArray, List.set_cons_zero, List.set_cons_succ])
                | (refine FreeSl.RelSeq.grow_ (c := ?_) rfl rfl ?_ ?_; rotate_left; (focus (intro x w' hw _; dsimp only; obtain ⟨d0, d1⟩ := FC w' hw; have hbr := Below.refl w'.heap.size w'; go_simp; (repeat' apply And.intro) <;> first | with_reducible rfl | assumption)); simp only [Act.put, List.setIfInBounds_toArray, List.set_cons_zero, List.set_cons_succ])
                | (refine FreeSl.RelSeq.grow_ (c := ?_) rfl rfl ?_ ?_; rotate_left; (focus (intro x w' hw _; dsimp only; go_simp; (with_reducible refine (NN w').mono ?_); rintro e w2 ⟨rfl, rfl⟩; have hbr := Below.refl w2.heap.size w2; go_simp; (repeat' apply And.intro) <;> first | with_reducible rfl | assumption)); simp only [Act.put, List.setIfInBounds_toArray, List.set_cons_zero, List.set_cons_succ]))
              refine FreeSl.RelSeq.nil_ fun x2 w9 hw9 _ _ => ?_
              refine FreeSl.TailSeq.nil_ ?_
              have U8 := UV.grow hw9
              clear FC NN UV hUV
              have U9 := U8.put 0 rfl 9 (.int .u8 nn)
              simp only [List.setIfInBounds_toArray, List.set_cons_zero, List.set_cons_succ, List.eraseIdx_cons_zero] at U9
              have sx := (U8.blk 0 rfl).cell (j := 9) (v := .int .u8 pr) rfl
              have fx := (U8.blk 0 rfl).frozen 9
              have wx8 : IntKind.u8.wrap (nn : Int) = (nn : Int) := by simp only [IntKind.wrap, IntKind.bits, IntKind.signed]; simp; omega
              simp only [List.length_cons] at hq1
              clear q2 q3 hno hcutx U8 hz6
              by_cases e2 : c6 = 2
              · subst e2
                obtain rfl : r = [] := List.eq_nil_of_length_eq_zero (by omega)
                rw [if_pos rfl] at HCX
                go_wp2_with fail
                go_roundw
                case rel => exact ⟨3, [], some ⟨b6, o6, none⟩, 0, by decide, by first | rfl | go_num, rfl, HCX.out, hzr, q1, HQ.out.1, by rw [show atV (wa :: wb :: wt) 3 0 = fo from HV.out.1.symm, show atV (wa :: wb :: wt) 3 1 = ke from HV.out.2.1.symm, show atV (wa :: wb :: wt) 3 2 = nn from HQ.out.2]; exact U9⟩
                case measure => simp [intOf]
              · rw [if_neg e2] at HCX
                go_wp2_with fail
                go_roundw
                case rel => exact ⟨3, r, some ⟨b6, o6 + 2, none⟩, c6 - 2, by decide, by first | rfl | go_num, rfl, HCX.out, hzr, q1, HQ.out.1, by rw [show atV (wa :: wb :: wt) 3 0 = fo from HV.out.1.symm, show atV (wa :: wb :: wt) 3 1 = ke from HV.out.2.1.symm, show atV (wa :: wb :: wt) 3 2 = nn from HQ.out.2]; exact U9⟩
                case measure => simp [intOf]
          · have hE1 : (k0 == ⟨#[112, 114, 105, 111]⟩) = false := by rw [beqS]; simpa [kIf, kFor, kKeep, kPrio, kWith] using HK
            have hE2 : (k0.toList == (⟨#[112, 114, 105, 111]⟩ : ByteArray).toList) = false := by rw [eqS_eq]; simpa [kIf, kFor, kKeep, kPrio, kWith] using HK
            have hE3 : (k0.toList == [112, 114, 105, 111]) = false := by rw [← hTL]; exact hE2
            have E := Lib.hid (st_end (by decide) hE6 (.inl (by rw [hW6]; simpa [keyA] using HK)))
            clear hW6 hE6 hat6
            have cc0 := (U8.blk 0 rfl).cell (j := 0) (v := .string wa) rfl
            have cc1 := (U8.blk 0 rfl).cell (j := 1) (v := .string wb) rfl
            have cc2 := (U8.blk 0 rfl).cell (j := 2) (v := .slice Ai ps.length ci) rfl
            have cc3 := (U8.blk 0 rfl).cell (j := 3) (v := .slice none 0 0) rfl
            have cc4 := (U8.blk 0 rfl).cell (j := 4) (v := .int .i64 K) rfl
            have cc5 := (U8.blk 0 rfl).cell (j := 5) (v := .int .i64 L) rfl
            have cc6 := (U8.blk 0 rfl).cell (j := 6) (v := .int .u64 Tn) rfl
            have cc7 := (U8.blk 0 rfl).cell (j := 7) (v := .int .u64 fo) rfl
            have cc8 := (U8.blk 0 rfl).cell (j := 8) (v := .int .u64 ke) rfl
            have cc9 := (U8.blk 0 rfl).cell (j := 9) (v := .int .u8 pr) rfl
            have yy0 := (U8.blk 2 rfl).frozen 0
            have yy1 := (U8.blk 2 rfl).frozen 1
            have yy2 := (U8.blk 2 rfl).frozen 2
            have yy3 := (U8.blk 2 rfl).frozen 3
            have yy4 := (U8.blk 2 rfl).frozen 4
            have yy5 := (U8.blk 2 rfl).frozen 5
            have yy6 := (U8.blk 2 rfl).frozen 6
            have yy7 := (U8.blk 2 rfl).frozen 7
            have yy8 := (U8.blk 2 rfl).frozen 8
            have yy9 := (U8.blk 2 rfl).frozen 9
            have rr0 := (U8.blk 2 rfl).cell (j := 0) (v := .string ⟨#[]⟩) rfl
            have rr1 := (U8.blk 2 rfl).cell (j := 1) (v := .string ⟨#[]⟩) rfl
            have rr2 := (U8.blk 2 rfl).cell (j := 2) (v := .slice none 0 0) rfl
            have rr3 := (U8.blk 2 rfl).cell (j := 3) (v := .slice none 0 0) rfl
            have rr4 := (U8.blk 2 rfl).cell (j := 4) (v := .int .i64 0) rfl
            have rr5 := (U8.blk 2 rfl).cell (j := 5) (v := .int .i64 0) rfl
            have rr6 := (U8.blk 2 rfl).cell (j := 6) (v := .int .u64 0) rfl
            have rr7 := (U8.blk 2 rfl).cell (j := 7) (v := .int .u64 0) rfl
            have rr8 := (U8.blk 2 rfl).cell (j := 8) (v := .int .u64 0) rfl
            have rr9 := (U8.blk 2 rfl).cell (j := 9) (v := .int .u8 0) rfl
            go_wp2_with fail
            go_region
            go_wp2_with fail
            refine bodyPost_gen fun w6 hw6 => ?_
            have U6 := (((((((((((U8.put 2 rfl 0 (.string wa)).put 0 rfl 1 (.string wb)).put 0 rfl 2 (.slice Ai ps.length ci)).put 0 rfl 3 (.slice none 0 0)).put 0 rfl 4 (.int .i64 K)).put 0 rfl 5 (.int .i64 L)).put 0 rfl 6 (.int .u64 Tn)).put 0 rfl 7 (.int .u64 fo)).put 0 rfl 8 (.int .u64 ke)).put 0 rfl 9 (.int .u8 pr))).drew.same hw6
            simp only [List.setIfInBounds_toArray, List.set_cons_zero, List.set_cons_succ, List.eraseIdx_cons_zero, List.eraseIdx_cons_succ] at U6
            clear hw6
            have a0 := (U6.blk 0 rfl).cell (j := 0) (v := .string wa) rfl
            have a1 := (U6.blk 0 rfl).cell (j := 1) (v := .string wb) rfl
            have a2 := (U6.blk 0 rfl).cell (j := 2) (v := .slice Ai ps.length ci) rfl
            have a3 := (U6.blk 0 rfl).cell (j := 3) (v := .slice none 0 0) rfl
            have a4 := (U6.blk 0 rfl).cell (j := 4) (v := .int .i64 K) rfl
            have a5 := (U6.blk 0 rfl).cell (j := 5) (v := .int .i64 L) rfl
            have a6 := (U6.blk 0 rfl).cell (j := 6) (v := .int .u64 Tn) rfl
            have a7 := (U6.blk 0 rfl).cell (j := 7) (v := .int .u64 fo) rfl
            have a8 := (U6.blk 0 rfl).cell (j := 8) (v := .int .u64 ke) rfl
            have a9 := (U6.blk 0 rfl).cell (j := 9) (v := .int .u8 pr) rfl
            refine bodyPost_ret (v := .tuple #[.agg #[.string wa, .string wb, .slice Ai ps.length ci, .slice none 0 0, .int .i64 K, .int .i64 L, .int .u64 Tn, .int .u64 fo, .int .u64 ke, .int .u8 pr], .int .i64 2]) ?_ rfl ⟨⟨wa, wb, .slice Ai ps.length ci, ps, K, L, Tn, fo, ke, pr, .slice none 0 0, []⟩, by rw [E.out]; rfl, (fun h => by rw [E.out] at h; cases h), ⟨hz1, hz2, hps, (fun p hp => by cases hp), hK, hpr8, (U6.rowBase 2 rfl), World.ownsRow_nil _ _ _ _⟩, U6.below⟩
            simp [results, Tryz.results81, go_sem, a0, a1, a2, a3, a4, a5, a6, a7, a8, a9]
      · obtain rfl : k = 3 := by omega
        have hE11 : lnE11 (wa :: wb :: wt) = 0 := hE6
        obtain ⟨fo, hfo⟩ : ∃ y, y = atV (wa :: wb :: wt) 3 0 := ⟨_, rfl⟩
        obtain ⟨ke, hke⟩ : ∃ y, y = atV (wa :: wb :: wt) 3 1 := ⟨_, rfl⟩
        obtain ⟨pr, hpr⟩ : ∃ y, y = atV (wa :: wb :: wt) 3 2 := ⟨_, rfl⟩
        rw [← hfo, ← hke, ← hpr] at U8
        have hpr8 : pr < 256 := by
          have h := nmV_le (lnW10 (wa :: wb :: wt)) 7
          have h2 : pr = nmV (lnW10 (wa :: wb :: wt)) 7 := hpr
          omega
        have hfo2 : lnFo (wa :: wb :: wt) = fo := hfo.symm
        have hke2 : lnKe (wa :: wb :: wt) = ke := hke.symm
        have hpr2 : lnPr (wa :: wb :: wt) = pr := hpr.symm
        have HV := Lib.hid (And.intro hfo2 (And.intro hke2 hpr2))
        have HE := Lib.hid hE11
        have HW6 := Lib.hid hW6
        clear hfo hke hpr hfo2 hke2 hpr2 hE11 hE6 hW6 hlt hk
        have U8 := U8.pick [0, 1, 2] (by decide)
        simp only [List.filterMap_cons, List.filterMap_nil, List.getElem?_cons_zero, List.getElem?_cons_succ] at U8
        go_upto_region 42 with fail
        go_cut [150] from 142 to 150 (fun b wx => b = .bool (isW kWith w6) ∧ wx = wr)
        case first =>
          cases w6 with
          | nil =>
            go_wp2_with fail
            go_meet
            exact ⟨rfl, rfl⟩
          | cons k0 r0 =>
            obtain ⟨b2, o2, rfl, hat2⟩ := Rd.pos HR6.out (by simp)
            have y0 := cell_below U8.below (hat2 0 (.string k0) rfl)
            rw [Nat.add_zero] at y0
            clear hat2
            have g0 : decide ((0 : Int) < (r0.length : Int) + 1) = true := decide_eq_true (by omega)
            have g1 : (0 : Int) < (r0.length : Int) + 1 := by omega
            have hTL : (⟨#[119, 105, 116, 104]⟩ : ByteArray).toList = [119, 105, 116, 104] := by decide +kernel
            by_cases HK : k0 = kWith
            · have hE1 : (k0 == ⟨#[119, 105, 116, 104]⟩) = true := by rw [beqS]; simpa [kIf, kFor, kKeep, kPrio, kWith] using HK
              have hE2 : (k0.toList == (⟨#[119, 105, 116, 104]⟩ : ByteArray).toList) = true := by rw [eqS_eq]; simpa [kIf, kFor, kKeep, kPrio, kWith] using HK
              have hE3 : (k0.toList == [119, 105, 116, 104]) = true := by rw [← hTL]; exact hE2
              go_wp2_with fail
              go_meet
              have hiw : isW kWith (k0 :: r0) = true := by simp [isW, HK]
              exact ⟨by first | (rw [hiw]; done) | (rw [hiw, hE3]; done) | (rw [hiw, ← HK, hE3]; done) | (rw [hiw, hE2]; done), rfl⟩
            · have hE1 : (k0 == ⟨#[119, 105, 116, 104]⟩) = false := by rw [beqS]; simpa [kIf, kFor, kKeep, kPrio, kWith] using HK
              have hE2 : (k0.toList == (⟨#[119, 105, 116, 104]⟩ : ByteArray).toList) = false := by rw [eqS_eq]; simpa [kIf, kFor, kKeep, kPrio, kWith] using HK
              have hE3 : (k0.toList == [119, 105, 116, 104]) = false := by rw [← hTL]; exact hE2
              go_wp2_with fail
              go_meet
              have hiw : isW kWith (k0 :: r0) = false := by simp [isW, HK]
              exact ⟨by first | (rw [hiw]; done) | (rw [hiw, hE3]; done) | (rw [hiw, ← HK, hE3]; done) | (rw [hiw, hE2]; done), rfl⟩
        obtain ⟨rfl, hcw⟩ := hcut
        rw [hcw]
        clear hcw
        go_upto_if 150 with fail
        go_cut [0] from 142 to 169 (fun s wx => ∃ (w8 : List ByteArray) (A8 : Option Addr) (c8 : Nat) (Aw : Option Addr) (cw : Nat) (qs : List Pr), s = .slice A8 w8.length c8 ∧ (lnQ (wa :: wb :: wt) = qs ∧ (w8 = [] → lnE14 (wa :: wb :: wt) = 0) ∧ (w8 ≠ [] → lineE (wa :: wb :: wt) = 2)) ∧ (∀ p ∈ qs, p.1.size ≤ maxLen ∧ p.2.size ≤ maxLen) ∧ Upd [] w [chRow 138 2 (.slice Aw qs.length cw) qs.length (pairCells qs), chBlk (w.heap.size + 1) #[.string wa, .string wb, .slice Ai ps.length ci, .slice Aw qs.length cw, .int .i64 K, .int .i64 L, .int .u64 Tn, .int .u64 fo, .int .u64 ke, .int .u8 pr] 77, chRow 138 2 (.slice Ai ps.length ci) ps.length (pairCells ps), chBlk w.heap.size #[.string ⟨#[]⟩, .string ⟨#[]⟩, .slice none 0 0, .slice none 0 0, .int .i64 0, .int .i64 0, .int .u64 0, .int .u64 0, .int .u64 0, .int .u8 0] 77] wx)
        case first =>
          cases hw : isW kWith w6 with
          | false =>
            have L8 := en_nowith HE.out (by rw [HW6.out]; exact hw)
            rw [HW6.out] at L8
            have HL8 := Lib.hid L8
            have U9 := U8.nilRow 138 2
            clear hw L8
            go_wp2_with fail
            go_meet
            exact ⟨w6, A6, c6, none, 0, [], rfl, HL8.out, (fun p hp => by cases hp), U9⟩
          | true =>
            rcases w6 with _ | ⟨k0, _ | ⟨x, r⟩⟩
            · cases hw
            · have hk0 : k0 = kWith := by simpa [isW] using hw
              have E := Lib.hid (en_with0 HE.out (by rw [HW6.out, hk0]))
              clear hw hk0
              have cc0 := (U8.blk 0 rfl).cell (j := 0) (v := .string wa) rfl
              have cc1 := (U8.blk 0 rfl).cell (j := 1) (v := .string wb) rfl
              have cc2 := (U8.blk 0 rfl).cell (j := 2) (v := .slice Ai ps.length ci) rfl
              have cc3 := (U8.blk 0 rfl).cell (j := 3) (v := .slice none 0 0) rfl
              have cc4 := (U8.blk 0 rfl).cell (j := 4) (v := .int .i64 K) rfl
              have cc5 := (U8.blk 0 rfl).cell (j := 5) (v := .int .i64 L) rfl
              have cc6 := (U8.blk 0 rfl).cell (j := 6) (v := .int .u64 Tn) rfl
              have cc7 := (U8.blk 0 rfl).cell (j := 7) (v := .int .u64 fo) rfl
              have cc8 := (U8.blk 0 rfl).cell (j := 8) (v := .int .u64 ke) rfl
              have cc9 := (U8.blk 0 rfl).cell (j := 9) (v := .int .u8 pr) rfl
              have yy0 := (U8.blk 2 rfl).frozen 0
              have yy1 := (U8.blk 2 rfl).frozen 1
              have yy2 := (U8.blk 2 rfl).frozen 2
              have yy3 := (U8.blk 2 rfl).frozen 3
              have yy4 := (U8.blk 2 rfl).frozen 4
              have yy5 := (U8.blk 2 rfl).frozen 5
              have yy6 := (U8.blk 2 rfl).frozen 6
              have yy7 := (U8.blk 2 rfl).frozen 7
              have yy8 := (U8.blk 2 rfl).frozen 8
              have yy9 := (U8.blk 2 rfl).frozen 9
              have rr0 := (U8.blk 2 rfl).cell (j := 0) (v := .string ⟨#[]⟩) rfl
              have rr1 := (U8.blk 2 rfl).cell (j := 1) (v := .string ⟨#[]⟩) rfl
              have rr2 := (U8.blk 2 rfl).cell (j := 2) (v := .slice none 0 0) rfl
              have rr3 := (U8.blk 2 rfl).cell (j := 3) (v := .slice none 0 0) rfl
              have rr4 := (U8.blk 2 rfl).cell (j := 4) (v := .int .i64 0) rfl
              have rr5 := (U8.blk 2 rfl).cell (j := 5) (v := .int .i64 0) rfl
              have rr6 := (U8.blk 2 rfl).cell (j := 6) (v := .int .u64 0) rfl
              have rr7 := (U8.blk 2 rfl).cell (j := 7) (v := .int .u64 0) rfl
              have rr8 := (U8.blk 2 rfl).cell (j := 8) (v := .int .u64 0) rfl
              have rr9 := (U8.blk 2 rfl).cell (j := 9) (v := .int .u8 0) rfl
              go_wp2_with fail
              refine bodyPost_gen fun w6 hw6 => ?_
              have U6 := (((((((((((U8.put 2 rfl 0 (.string wa)).put 0 rfl 1 (.string wb)).put 0 rfl 2 (.slice Ai ps.length ci)).put 0 rfl 3 (.slice none 0 0)).put 0 rfl 4 (.int .i64 K)).put 0 rfl 5 (.int .i64 L)).put 0 rfl 6 (.int .u64 Tn)).put 0 rfl 7 (.int .u64 fo)).put 0 rfl 8 (.int .u64 ke)).put 0 rfl 9 (.int .u8 pr))).same hw6
              simp only [List.setIfInBounds_toArray, List.set_cons_zero, List.set_cons_succ, List.eraseIdx_cons_zero, List.eraseIdx_cons_succ] at U6
              clear hw6
              have a0 := (U6.blk 0 rfl).cell (j := 0) (v := .string wa) rfl
              have a1 := (U6.blk 0 rfl).cell (j := 1) (v := .string wb) rfl
              have a2 := (U6.blk 0 rfl).cell (j := 2) (v := .slice Ai ps.length ci) rfl
              have a3 := (U6.blk 0 rfl).cell (j := 3) (v := .slice none 0 0) rfl
              have a4 := (U6.blk 0 rfl).cell (j := 4) (v := .int .i64 K) rfl
              have a5 := (U6.blk 0 rfl).cell (j := 5) (v := .int .i64 L) rfl
              have a6 := (U6.blk 0 rfl).cell (j := 6) (v := .int .u64 Tn) rfl
              have a7 := (U6.blk 0 rfl).cell (j := 7) (v := .int .u64 fo) rfl
              have a8 := (U6.blk 0 rfl).cell (j := 8) (v := .int .u64 ke) rfl
              have a9 := (U6.blk 0 rfl).cell (j := 9) (v := .int .u8 pr) rfl
              refine bodyPost_ret (v := .tuple #[.agg #[.string wa, .string wb, .slice Ai ps.length ci, .slice none 0 0, .int .i64 K, .int .i64 L, .int .u64 Tn, .int .u64 fo, .int .u64 ke, .int .u8 pr], .int .i64 2]) ?_ rfl ⟨⟨wa, wb, .slice Ai ps.length ci, ps, K, L, Tn, fo, ke, pr, .slice none 0 0, []⟩, by rw [E.out]; rfl, (fun h => by rw [E.out] at h; cases h), ⟨hz1, hz2, hps, (fun p hp => by cases hp), hK, hpr8, (U6.rowBase 2 rfl), World.ownsRow_nil _ _ _ _⟩, U6.below⟩
              simp [results, Tryz.results81, go_sem, a0, a1, a2, a3, a4, a5, a6, a7, a8, a9]
            · have hk0 : k0 = kWith := by simpa [isW] using hw
              subst hk0
              have L8 := en_with HE.out HW6.out
              have hzx := hz6 x (.tail _ (.head _))
              obtain ⟨b2, o2, rfl, hat2⟩ := Rd.pos HR6.out (by simp)
              have hcap := Rd.cap HR6.out
              simp only [List.length_cons] at hcap
              have y1 := cell_below U8.below (hat2 1 (.string x) rfl)
              have KP := refParse x wr hzx
              have hpz := parseC_small x maxLen hzx
              obtain ⟨pe, hpe⟩ : ∃ y, y = (parseC x).1 := ⟨_, rfl⟩
              obtain ⟨qs, hpp⟩ : ∃ y, y = (parseC x).2 := ⟨_, rfl⟩
              rw [← hpe, ← hpp] at KP L8
              rw [← hpp] at hpz
              have g2 : decide ((r.length : Int) + 1 + 1 < 2) = false := decide_eq_false (by omega)
              have g3 : (1 : Int) < (r.length : Int) + 1 + 1 := by omega
              have HL8 := Lib.hid L8
              clear hat2 hpe hpp hw hzx HR6 L8
              go_wp2_with fail
              (with_reducible refine KP.mono ?_)
              rintro en w3 ⟨v3, rfl, ho3, hb3⟩
              have U3 := U8.addRow hb3 ho3 (Nat.le_refl _)
              obtain ⟨Aw, cw, rfl⟩ := owns_slice ho3
              have s0 := (U3.blk 1 rfl).cell (j := 3) (v := .slice none 0 0) rfl
              have f0 := (U3.blk 1 rfl).frozen 3
              clear KP ho3 hb3
              by_cases hp0 : pe = 0
              · subst hp0
                have L9 := HL8.out.2.2 rfl
                have HL9 := Lib.hid (And.intro HL8.out.1 L9)
                have U4 := U3.put 1 rfl 3 (.slice Aw qs.length cw)
                simp only [List.setIfInBounds_toArray, List.set_cons_zero, List.set_cons_succ, List.eraseIdx_cons_zero, List.eraseIdx_cons_succ] at U4
                clear U3 L9
                by_cases q2 : c6 = 2
                · subst q2
                  obtain rfl : r = [] := List.eq_nil_of_length_eq_zero (by omega)
                  go_wp2_with fail
                  go_meet
                  exact ⟨[], some ⟨b2, o2, none⟩, 0, Aw, cw, qs, rfl, ⟨HL9.out.1, fun _ => HL9.out.2.1 trivial, HL9.out.2.2⟩, hpz, U4.perm (List.Perm.swap _ _ _)⟩
                · go_wp2_with fail
                  go_meet
                  exact ⟨r, some ⟨b2, o2 + 2, none⟩, c6 - 2, Aw, cw, qs, rfl, HL9.out, hpz, U4.perm (List.Perm.swap _ _ _)⟩
              · have hpf : ((pe : Int) == 0) = false := by rw [beq_eq_false_iff_ne]; omega
                have E := Lib.hid (HL8.out.2.1 hp0)
                have Z := Lib.hid hp0
                clear hp0 HL8
                go_upto_region 46 with fail
                refine wp_gen fun W5 hW5 => ?_
                have U4 := (U3.put 1 rfl 3 (.slice Aw qs.length cw)).same hW5
                simp only [List.setIfInBounds_toArray, List.set_cons_zero, List.set_cons_succ, List.eraseIdx_cons_zero, List.eraseIdx_cons_succ] at U4
                clear hW5 s0 f0
                have cc0 := (U4.blk 0 rfl).cell (j := 0) (v := .string wa) rfl
                have cc1 := (U4.blk 0 rfl).cell (j := 1) (v := .string wb) rfl
                have cc2 := (U4.blk 0 rfl).cell (j := 2) (v := .slice Ai ps.length ci) rfl
                have cc3 := (U4.blk 0 rfl).cell (j := 3) (v := .slice Aw qs.length cw) rfl
                have cc4 := (U4.blk 0 rfl).cell (j := 4) (v := .int .i64 K) rfl
                have cc5 := (U4.blk 0 rfl).cell (j := 5) (v := .int .i64 L) rfl
                have cc6 := (U4.blk 0 rfl).cell (j := 6) (v := .int .u64 Tn) rfl
                have cc7 := (U4.blk 0 rfl).cell (j := 7) (v := .int .u64 fo) rfl
                have cc8 := (U4.blk 0 rfl).cell (j := 8) (v := .int .u64 ke) rfl
                have cc9 := (U4.blk 0 rfl).cell (j := 9) (v := .int .u8 pr) rfl
                have yy0 := (U4.blk 3 rfl).frozen 0
                have yy1 := (U4.blk 3 rfl).frozen 1
                have yy2 := (U4.blk 3 rfl).frozen 2
                have yy3 := (U4.blk 3 rfl).frozen 3
                have yy4 := (U4.blk 3 rfl).frozen 4
                have yy5 := (U4.blk 3 rfl).frozen 5
                have yy6 := (U4.blk 3 rfl).frozen 6
                have yy7 := (U4.blk 3 rfl).frozen 7
                have yy8 := (U4.blk 3 rfl).frozen 8
                have yy9 := (U4.blk 3 rfl).frozen 9
                have rr0 := (U4.blk 3 rfl).cell (j := 0) (v := .string ⟨#[]⟩) rfl
                have rr1 := (U4.blk 3 rfl).cell (j := 1) (v := .string ⟨#[]⟩) rfl
                have rr2 := (U4.blk 3 rfl).cell (j := 2) (v := .slice none 0 0) rfl
                have rr3 := (U4.blk 3 rfl).cell (j := 3) (v := .slice none 0 0) rfl
                have rr4 := (U4.blk 3 rfl).cell (j := 4) (v := .int .i64 0) rfl
                have rr5 := (U4.blk 3 rfl).cell (j := 5) (v := .int .i64 0) rfl
                have rr6 := (U4.blk 3 rfl).cell (j := 6) (v := .int .u64 0) rfl
                have rr7 := (U4.blk 3 rfl).cell (j := 7) (v := .int .u64 0) rfl
                have rr8 := (U4.blk 3 rfl).cell (j := 8) (v := .int .u64 0) rfl
                have rr9 := (U4.blk 3 rfl).cell (j := 9) (v := .int .u8 0) rfl
                go_wp2_with fail
                refine bodyPost_gen fun w6 hw6 => ?_
                have U6 := (((((((((((U4.put 3 rfl 0 (.string wa)).put 0 rfl 1 (.string wb)).put 0 rfl 2 (.slice Ai ps.length ci)).put 0 rfl 3 (.slice Aw qs.length cw)).put 0 rfl 4 (.int .i64 K)).put 0 rfl 5 (.int .i64 L)).put 0 rfl 6 (.int .u64 Tn)).put 0 rfl 7 (.int .u64 fo)).put 0 rfl 8 (.int .u64 ke)).put 0 rfl 9 (.int .u8 pr))).same hw6
                simp only [List.setIfInBounds_toArray, List.set_cons_zero, List.set_cons_succ, List.eraseIdx_cons_zero, List.eraseIdx_cons_succ] at U6
                clear hw6
                have a0 := (U6.blk 0 rfl).cell (j := 0) (v := .string wa) rfl
                have a1 := (U6.blk 0 rfl).cell (j := 1) (v := .string wb) rfl
                have a2 := (U6.blk 0 rfl).cell (j := 2) (v := .slice Ai ps.length ci) rfl
                have a3 := (U6.blk 0 rfl).cell (j := 3) (v := .slice Aw qs.length cw) rfl
                have a4 := (U6.blk 0 rfl).cell (j := 4) (v := .int .i64 K) rfl
                have a5 := (U6.blk 0 rfl).cell (j := 5) (v := .int .i64 L) rfl
                have a6 := (U6.blk 0 rfl).cell (j := 6) (v := .int .u64 Tn) rfl
                have a7 := (U6.blk 0 rfl).cell (j := 7) (v := .int .u64 fo) rfl
                have a8 := (U6.blk 0 rfl).cell (j := 8) (v := .int .u64 ke) rfl
                have a9 := (U6.blk 0 rfl).cell (j := 9) (v := .int .u8 pr) rfl
                refine bodyPost_ret (v := .tuple #[.agg #[.string wa, .string wb, .slice Ai ps.length ci, .slice Aw qs.length cw, .int .i64 K, .int .i64 L, .int .u64 Tn, .int .u64 fo, .int .u64 ke, .int .u8 pr], .int .i64 pe]) ?_ rfl ⟨⟨wa, wb, .slice Ai ps.length ci, ps, K, L, Tn, fo, ke, pr, .slice Aw qs.length cw, qs⟩, by rw [E.out]; rfl, (fun h => by rw [E.out] at h; exact absurd h Z.out), ⟨hz1, hz2, hps, hpz, hK, hpr8, (U6.rowBase 3 rfl), (U6.rowBase 2 rfl)⟩, U6.below⟩
                simp [results, Tryz.results81, go_sem, a0, a1, a2, a3, a4, a5, a6, a7, a8, a9]
        obtain ⟨w8, A8, c8, Aw, cw, qs, rfl, L8, hqz, U9⟩ := hcut
        clear U8
        by_cases h8 : w8 = []
        · subst h8
          have HL := Lib.hid (And.intro L8.1 (L8.2.1 rfl))
          clear L8
          have g4 : decide ((0 : Int) < (([] : List ByteArray).length : Int)) = false := by decide
          rename World => W9
          have KR := fun w' (h : Below W9.heap.size W9 w') => refRuCheckA wa wb Ai ps.length ci ps K L Tn fo ke pr Aw qs.length cw qs w' hz1 hz2 (rd_of_owns (Upd.rowBase (U9.grow h) 2 rfl)) hps (rd_of_owns (Upd.rowBase (U9.grow h) 0 rfl)) hqz
          have E0 : lineE (wa :: wb :: wt) = chkR (nameB wa) (nameB wb) (ownName wa) (chkL ps) (chkL qs) (chkC K L Tn) (chkW fo ke) pr := by
            unfold lineE
            rw [if_pos HL.out.2]
            unfold lnChk
            rw [HL.out.1, hWS.out.1, L4.2.2, HV.out.1, HV.out.2.1, HV.out.2.2, ← HKLT.out.1, ← HKLT.out.2.1, ← HKLT.out.2.2]
            rfl
          have E := Lib.hid E0
          have R0 : (⟨wa, wb, .slice Ai ps.length ci, ps, K, L, Tn, fo, ke, pr, .slice Aw qs.length cw, qs⟩ : RuV) = lineR (wa :: wb :: wt) (.slice Ai ps.length ci) (.slice Aw qs.length cw) := by
            unfold lineR
            rw [HL.out.1, hWS.out.1, L4.2.2, HV.out.1, HV.out.2.1, HV.out.2.2, ← HKLT.out.1, ← HKLT.out.2.1, ← HKLT.out.2.2]
            rfl
          have RR := Lib.hid R0
          obtain ⟨er, her⟩ : ∃ y, y = chkR (nameB wa) (nameB wb) (ownName wa) (chkL ps) (chkL qs) (chkC K L Tn) (chkW fo ke) pr := ⟨_, rfl⟩
          rw [← her] at KR E
          clear E0 R0 her
          go_upto_region 51 with fail
          have FC : ∀ w', Below W9.heap.size W9 w' → w'.cell? ⟨w.heap.size + 1, 0, none⟩ = some (.string wa) ∧ w'.cell? ⟨w.heap.size + 1, 1, none⟩ = some (.string wb) ∧ w'.cell? ⟨w.heap.size + 1, 2, none⟩ = some (.slice Ai ps.length ci) ∧ w'.cell? ⟨w.heap.size + 1, 3, none⟩ = some (.slice Aw qs.length cw) ∧ w'.cell? ⟨w.heap.size + 1, 4, none⟩ = some (.int .i64 K) ∧ w'.cell? ⟨w.heap.size + 1, 5, none⟩ = some (.int .i64 L) ∧ w'.cell? ⟨w.heap.size + 1, 6, none⟩ = some (.int .u64 Tn) ∧ w'.cell? ⟨w.heap.size + 1, 7, none⟩ = some (.int .u64 fo) ∧ w'.cell? ⟨w.heap.size + 1, 8, none⟩ = some (.int .u64 ke) ∧ w'.cell? ⟨w.heap.size + 1, 9, none⟩ = some (.int .u8 pr) := fun w' h => ⟨((U9.grow h).blk 1 rfl).cell (j := 0) (v := .string wa) rfl, ((U9.grow h).blk 1 rfl).cell (j := 1) (v := .string wb) rfl, ((U9.grow h).blk 1 rfl).cell (j := 2) (v := .slice Ai ps.length ci) rfl, ((U9.grow h).blk 1 rfl).cell (j := 3) (v := .slice Aw qs.length cw) rfl, ((U9.grow h).blk 1 rfl).cell (j := 4) (v := .int .i64 K) rfl, ((U9.grow h).blk 1 rfl).cell (j := 5) (v := .int .i64 L) rfl, ((U9.grow h).blk 1 rfl).cell (j := 6) (v := .int .u64 Tn) rfl, ((U9.grow h).blk 1 rfl).cell (j := 7) (v := .int .u64 fo) rfl, ((U9.grow h).blk 1 rfl).cell (j := 8) (v := .int .u64 ke) rfl, ((U9.grow h).blk 1 rfl).cell (j := 9) (v := .int .u8 pr) rfl⟩
          refine FreeSl.region_free (fun w' => Below W9.heap.size W9 w') [] [3, 4] (List.range 3) (by kernel_rfl) (by kernel_rfl) (by kernel_rfl) (Below.refl _ _).drew ?_
          simp only [List.range, List.range.loop]
          have ext : ∀ w' w'', Below W9.heap.size W9 w' → Below w'.heap.size w' w'' → Below W9.heap.size W9 w'' := fun w' w'' h h2 => h.trans (h2.mono h.size)
          repeat (first
            | (refine FreeSl.RelSeq.grow_ (c := ?_) rfl rfl ?_ ?_; rotate_left; (focus (intro x w' hw _; dsimp only; obtain ⟨d0, d1, d2, d3, d4, d5, d6, d7, d8, d9⟩ := FC w' hw; have hbr := Below.refl w'.heap.size w'; go_simp; (repeat' apply And.intro) <;> first | with_reducible rfl | assumption)); simp only [Act.put, List.setIfInBounds_toArray, List.set_cons_zero, List.set_cons_succ])
            | (refine FreeSl.RelSeq.grow_ (c := ?_) rfl rfl ?_ ?_; rotate_left; (focus (intro x w' hw _; dsimp only; go_simp; (with_reducible refine (KR w' hw).mono ?_); rintro e w2 ⟨rfl, hb2⟩; have hI := ext w' w2 hw hb2; go_simp; (repeat' apply And.intro) <;> first | with_reducible rfl | assumption)); simp only [Act.put, List.setIfInBounds_toArray, List.set_cons_zero, List.set_cons_succ]))
          refine FreeSl.RelSeq.nil_ fun x w10 hw _ _ => ?_
          have U10 := U9.grow hw
          clear FC ext KR hw U9
          refine FreeSl.TailSeq.cons_ rfl ?_
          have z0 := (U10.blk 3 rfl).cell (j := 0) (v := .string ⟨#[]⟩) rfl
          have f0 := (U10.blk 3 rfl).frozen 0
          have z1 := (U10.blk 3 rfl).cell (j := 1) (v := .string ⟨#[]⟩) rfl
          have f1 := (U10.blk 3 rfl).frozen 1
          have z2 := (U10.blk 3 rfl).cell (j := 2) (v := .slice none 0 0) rfl
          have f2 := (U10.blk 3 rfl).frozen 2
          have z3 := (U10.blk 3 rfl).cell (j := 3) (v := .slice none 0 0) rfl
          have f3 := (U10.blk 3 rfl).frozen 3
          have z4 := (U10.blk 3 rfl).cell (j := 4) (v := .int .i64 0) rfl
          have f4 := (U10.blk 3 rfl).frozen 4
          have z5 := (U10.blk 3 rfl).cell (j := 5) (v := .int .i64 0) rfl
          have f5 := (U10.blk 3 rfl).frozen 5
          have z6 := (U10.blk 3 rfl).cell (j := 6) (v := .int .u64 0) rfl
          have f6 := (U10.blk 3 rfl).frozen 6
          have z7 := (U10.blk 3 rfl).cell (j := 7) (v := .int .u64 0) rfl
          have f7 := (U10.blk 3 rfl).frozen 7
          have z8 := (U10.blk 3 rfl).cell (j := 8) (v := .int .u64 0) rfl
          have f8 := (U10.blk 3 rfl).frozen 8
          have z9 := (U10.blk 3 rfl).cell (j := 9) (v := .int .u8 0) rfl
          have f9 := (U10.blk 3 rfl).frozen 9
          dsimp only
          go_simp
          refine FreeSl.TailSeq.cons_ rfl ?_
          dsimp only
          go_simp
          refine FreeSl.TailSeq.nil_gen fun w11 hw11 => ?_
          have U11 := (((((((((((U10.put 3 rfl 0 (.string wa)).put 0 rfl 1 (.string wb)).put 0 rfl 2 (.slice Ai ps.length ci)).put 0 rfl 3 (.slice Aw qs.length cw)).put 0 rfl 4 (.int .i64 K)).put 0 rfl 5 (.int .i64 L)).put 0 rfl 6 (.int .u64 Tn)).put 0 rfl 7 (.int .u64 fo)).put 0 rfl 8 (.int .u64 ke)).put 0 rfl 9 (.int .u8 pr))).same hw11
          simp only [List.setIfInBounds_toArray, List.set_cons_zero, List.set_cons_succ, List.eraseIdx_cons_zero, List.eraseIdx_cons_succ] at U11
          clear hw11 U10 z0 f0 z1 f1 z2 f2 z3 f3 z4 f4 z5 f5 z6 f6 z7 f7 z8 f8 z9 f9
          go_wp2_with fail
          have a0 := (U11.blk 0 rfl).cell (j := 0) (v := .string wa) rfl
          have a1 := (U11.blk 0 rfl).cell (j := 1) (v := .string wb) rfl
          have a2 := (U11.blk 0 rfl).cell (j := 2) (v := .slice Ai ps.length ci) rfl
          have a3 := (U11.blk 0 rfl).cell (j := 3) (v := .slice Aw qs.length cw) rfl
          have a4 := (U11.blk 0 rfl).cell (j := 4) (v := .int .i64 K) rfl
          have a5 := (U11.blk 0 rfl).cell (j := 5) (v := .int .i64 L) rfl
          have a6 := (U11.blk 0 rfl).cell (j := 6) (v := .int .u64 Tn) rfl
          have a7 := (U11.blk 0 rfl).cell (j := 7) (v := .int .u64 fo) rfl
          have a8 := (U11.blk 0 rfl).cell (j := 8) (v := .int .u64 ke) rfl
          have a9 := (U11.blk 0 rfl).cell (j := 9) (v := .int .u8 pr) rfl
          refine bodyPost_ret (v := .tuple #[.agg #[.string wa, .string wb, .slice Ai ps.length ci, .slice Aw qs.length cw, .int .i64 K, .int .i64 L, .int .u64 Tn, .int .u64 fo, .int .u64 ke, .int .u8 pr], .int .i64 er]) ?_ rfl ⟨(⟨wa, wb, .slice Ai ps.length ci, ps, K, L, Tn, fo, ke, pr, .slice Aw qs.length cw, qs⟩ : RuV), by rw [E.out]; rfl, (fun _ => RR.out), ⟨hz1, hz2, hps, hqz, hK, hpr8, (U11.rowBase 3 rfl), (U11.rowBase 1 rfl)⟩, U11.below⟩
          simp [results, Tryz.results81, go_sem, a0, a1, a2, a3, a4, a5, a6, a7, a8, a9]
        · have E := Lib.hid (L8.2.2 h8)
          have g4 : (0 : Int) < (w8.length : Int) := by
            have : w8.length ≠ 0 := fun h => h8 (List.eq_nil_of_length_eq_zero h)
            omega
          have hqs2 := hqz
          clear L8 h8
          have cc0 := (U9.blk 1 rfl).cell (j := 0) (v := .string wa) rfl
          have cc1 := (U9.blk 1 rfl).cell (j := 1) (v := .string wb) rfl
          have cc2 := (U9.blk 1 rfl).cell (j := 2) (v := .slice Ai ps.length ci) rfl
          have cc3 := (U9.blk 1 rfl).cell (j := 3) (v := .slice Aw qs.length cw) rfl
          have cc4 := (U9.blk 1 rfl).cell (j := 4) (v := .int .i64 K) rfl
          have cc5 := (U9.blk 1 rfl).cell (j := 5) (v := .int .i64 L) rfl
          have cc6 := (U9.blk 1 rfl).cell (j := 6) (v := .int .u64 Tn) rfl
          have cc7 := (U9.blk 1 rfl).cell (j := 7) (v := .int .u64 fo) rfl
          have cc8 := (U9.blk 1 rfl).cell (j := 8) (v := .int .u64 ke) rfl
          have cc9 := (U9.blk 1 rfl).cell (j := 9) (v := .int .u8 pr) rfl
          have yy0 := (U9.blk 3 rfl).frozen 0
          have yy1 := (U9.blk 3 rfl).frozen 1
          have yy2 := (U9.blk 3 rfl).frozen 2
          have yy3 := (U9.blk 3 rfl).frozen 3
          have yy4 := (U9.blk 3 rfl).frozen 4
          have yy5 := (U9.blk 3 rfl).frozen 5
          have yy6 := (U9.blk 3 rfl).frozen 6
          have yy7 := (U9.blk 3 rfl).frozen 7
          have yy8 := (U9.blk 3 rfl).frozen 8
          have yy9 := (U9.blk 3 rfl).frozen 9
          have rr0 := (U9.blk 3 rfl).cell (j := 0) (v := .string ⟨#[]⟩) rfl
          have rr1 := (U9.blk 3 rfl).cell (j := 1) (v := .string ⟨#[]⟩) rfl
          have rr2 := (U9.blk 3 rfl).cell (j := 2) (v := .slice none 0 0) rfl
          have rr3 := (U9.blk 3 rfl).cell (j := 3) (v := .slice none 0 0) rfl
          have rr4 := (U9.blk 3 rfl).cell (j := 4) (v := .int .i64 0) rfl
          have rr5 := (U9.blk 3 rfl).cell (j := 5) (v := .int .i64 0) rfl
          have rr6 := (U9.blk 3 rfl).cell (j := 6) (v := .int .u64 0) rfl
          have rr7 := (U9.blk 3 rfl).cell (j := 7) (v := .int .u64 0) rfl
          have rr8 := (U9.blk 3 rfl).cell (j := 8) (v := .int .u64 0) rfl
          have rr9 := (U9.blk 3 rfl).cell (j := 9) (v := .int .u8 0) rfl
          go_wp2_with fail
          refine bodyPost_gen fun w6 hw6 => ?_
          have U6 := (((((((((((U9.put 3 rfl 0 (.string wa)).put 0 rfl 1 (.string wb)).put 0 rfl 2 (.slice Ai ps.length ci)).put 0 rfl 3 (.slice Aw qs.length cw)).put 0 rfl 4 (.int .i64 K)).put 0 rfl 5 (.int .i64 L)).put 0 rfl 6 (.int .u64 Tn)).put 0 rfl 7 (.int .u64 fo)).put 0 rfl 8 (.int .u64 ke)).put 0 rfl 9 (.int .u8 pr))).same hw6
          simp only [List.setIfInBounds_toArray, List.set_cons_zero, List.set_cons_succ, List.eraseIdx_cons_zero, List.eraseIdx_cons_succ] at U6
          clear hw6
          have a0 := (U6.blk 0 rfl).cell (j := 0) (v := .string wa) rfl
          have a1 := (U6.blk 0 rfl).cell (j := 1) (v := .string wb) rfl
          have a2 := (U6.blk 0 rfl).cell (j := 2) (v := .slice Ai ps.length ci) rfl
          have a3 := (U6.blk 0 rfl).cell (j := 3) (v := .slice Aw qs.length cw) rfl
          have a4 := (U6.blk 0 rfl).cell (j := 4) (v := .int .i64 K) rfl
          have a5 := (U6.blk 0 rfl).cell (j := 5) (v := .int .i64 L) rfl
          have a6 := (U6.blk 0 rfl).cell (j := 6) (v := .int .u64 Tn) rfl
          have a7 := (U6.blk 0 rfl).cell (j := 7) (v := .int .u64 fo) rfl
          have a8 := (U6.blk 0 rfl).cell (j := 8) (v := .int .u64 ke) rfl
          have a9 := (U6.blk 0 rfl).cell (j := 9) (v := .int .u8 pr) rfl
          refine bodyPost_ret (v := .tuple #[.agg #[.string wa, .string wb, .slice Ai ps.length ci, .slice Aw qs.length cw, .int .i64 K, .int .i64 L, .int .u64 Tn, .int .u64 fo, .int .u64 ke, .int .u8 pr], .int .i64 2]) ?_ rfl ⟨⟨wa, wb, .slice Ai ps.length ci, ps, K, L, Tn, fo, ke, pr, .slice Aw qs.length cw, qs⟩, by rw [E.out]; rfl, (fun h => by rw [E.out] at h; cases h), ⟨hz1, hz2, hps, hqs2, hK, hpr8, (U6.rowBase 3 rfl), (U6.rowBase 1 rfl)⟩, U6.below⟩
          simp [results, Tryz.results81, go_sem, a0, a1, a2, a3, a4, a5, a6, a7, a8, a9]
  · have hcf : ((ce : Int) == 0) = false := by rw [beq_eq_false_iff_ne]; omega
    have E := Lib.hid ((st5 (by rw [hWS.out.2.2]; exact hc0)).trans hWS.out.2.2)
    have Z := Lib.hid hc0
    clear hc0
    have cc0 := (U6.blk 0 rfl).cell (j := 0) (v := .string wa) rfl
    have cc1 := (U6.blk 0 rfl).cell (j := 1) (v := .string wb) rfl
    have cc2 := (U6.blk 0 rfl).cell (j := 2) (v := .slice Ai ps.length ci) rfl
    have cc3 := (U6.blk 0 rfl).cell (j := 3) (v := .slice none 0 0) rfl
    have cc4 := (U6.blk 0 rfl).cell (j := 4) (v := .int .i64 K) rfl
    have cc5 := (U6.blk 0 rfl).cell (j := 5) (v := .int .i64 L) rfl
    have cc6 := (U6.blk 0 rfl).cell (j := 6) (v := .int .u64 Tn) rfl
    have cc7 := (U6.blk 0 rfl).cell (j := 7) (v := .int .u64 0) rfl
    have cc8 := (U6.blk 0 rfl).cell (j := 8) (v := .int .u64 0) rfl
    have cc9 := (U6.blk 0 rfl).cell (j := 9) (v := .int .u8 0) rfl
    have yy0 := (U6.blk 2 rfl).frozen 0
    have yy1 := (U6.blk 2 rfl).frozen 1
    have yy2 := (U6.blk 2 rfl).frozen 2
    have yy3 := (U6.blk 2 rfl).frozen 3
    have yy4 := (U6.blk 2 rfl).frozen 4
    have yy5 := (U6.blk 2 rfl).frozen 5
    have yy6 := (U6.blk 2 rfl).frozen 6
    have yy7 := (U6.blk 2 rfl).frozen 7
    have yy8 := (U6.blk 2 rfl).frozen 8
    have yy9 := (U6.blk 2 rfl).frozen 9
    have rr0 := (U6.blk 2 rfl).cell (j := 0) (v := .string ⟨#[]⟩) rfl
    have rr1 := (U6.blk 2 rfl).cell (j := 1) (v := .string ⟨#[]⟩) rfl
    have rr2 := (U6.blk 2 rfl).cell (j := 2) (v := .slice none 0 0) rfl
    have rr3 := (U6.blk 2 rfl).cell (j := 3) (v := .slice none 0 0) rfl
    have rr4 := (U6.blk 2 rfl).cell (j := 4) (v := .int .i64 0) rfl
    have rr5 := (U6.blk 2 rfl).cell (j := 5) (v := .int .i64 0) rfl
    have rr6 := (U6.blk 2 rfl).cell (j := 6) (v := .int .u64 0) rfl
    have rr7 := (U6.blk 2 rfl).cell (j := 7) (v := .int .u64 0) rfl
    have rr8 := (U6.blk 2 rfl).cell (j := 8) (v := .int .u64 0) rfl
    have rr9 := (U6.blk 2 rfl).cell (j := 9) (v := .int .u8 0) rfl
    go_wp2_with fail
    refine bodyPost_gen fun w6 hw6 => ?_
    have U6 := (((((((((((U6.put 2 rfl 0 (.string wa)).put 0 rfl 1 (.string wb)).put 0 rfl 2 (.slice Ai ps.length ci)).put 0 rfl 3 (.slice none 0 0)).put 0 rfl 4 (.int .i64 K)).put 0 rfl 5 (.int .i64 L)).put 0 rfl 6 (.int .u64 Tn)).put 0 rfl 7 (.int .u64 0)).put 0 rfl 8 (.int .u64 0)).put 0 rfl 9 (.int .u8 0))).same hw6
    simp only [List.setIfInBounds_toArray, List.set_cons_zero, List.set_cons_succ, List.eraseIdx_cons_zero, List.eraseIdx_cons_succ] at U6
    clear hw6
    have a0 := (U6.blk 0 rfl).cell (j := 0) (v := .string wa) rfl
    have a1 := (U6.blk 0 rfl).cell (j := 1) (v := .string wb) rfl
    have a2 := (U6.blk 0 rfl).cell (j := 2) (v := .slice Ai ps.length ci) rfl
    have a3 := (U6.blk 0 rfl).cell (j := 3) (v := .slice none 0 0) rfl
    have a4 := (U6.blk 0 rfl).cell (j := 4) (v := .int .i64 K) rfl
    have a5 := (U6.blk 0 rfl).cell (j := 5) (v := .int .i64 L) rfl
    have a6 := (U6.blk 0 rfl).cell (j := 6) (v := .int .u64 Tn) rfl
    have a7 := (U6.blk 0 rfl).cell (j := 7) (v := .int .u64 0) rfl
    have a8 := (U6.blk 0 rfl).cell (j := 8) (v := .int .u64 0) rfl
    have a9 := (U6.blk 0 rfl).cell (j := 9) (v := .int .u8 0) rfl
    refine bodyPost_ret (v := .tuple #[.agg #[.string wa, .string wb, .slice Ai ps.length ci, .slice none 0 0, .int .i64 K, .int .i64 L, .int .u64 Tn, .int .u64 0, .int .u64 0, .int .u8 0], .int .i64 ce]) ?_ rfl ⟨⟨wa, wb, .slice Ai ps.length ci, ps, K, L, Tn, 0, 0, 0, .slice none 0 0, []⟩, by rw [E.out]; rfl, (fun h => by rw [E.out] at h; exact absurd h Z.out), ⟨hz1, hz2, hps, (fun p hp => by cases hp), hK, (show (0 : Nat) < 256 by decide), (U6.rowBase 2 rfl), World.ownsRow_nil _ _ _ _⟩, U6.below⟩
    simp [results, Tryz.results81, go_sem, a0, a1, a2, a3, a4, a5, a6, a7, a8, a9]
end Go.Proofs.YtebnbbbiobaneaaGreatDoor
