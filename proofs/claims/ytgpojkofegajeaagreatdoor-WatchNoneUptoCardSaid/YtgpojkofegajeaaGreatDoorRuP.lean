/-
  cond.Parse: words as a condition.
-/
import Derived.Test.YtgpojkofegajeaaGreatDoorRuN
import Derived.RegionTactic
import Derived.BigRegion
import Derived.OwnWalk
namespace Go.Proofs.YtgpojkofegajeaaGreatDoor
open Go.RowKit
set_option maxRecDepth 100000

def wsC (ws : List ByteArray) : List Value := ws.map .string
def kd : Nat → ByteArray
  | 0 => ⟨#[97, 98, 111, 118, 101]⟩
  | 1 => ⟨#[98, 101, 108, 111, 119]⟩
  | 2 => ⟨#[97, 98, 115, 101, 110, 116]⟩
  | 3 => ⟨#[114, 105, 115, 101, 115]⟩
  | _ => ⟨#[102, 97, 108, 108, 115]⟩
def kdA : Array Value := #[.string ⟨#[97, 98, 111, 118, 101]⟩, .string ⟨#[98, 101, 108, 111, 119]⟩, .string ⟨#[97, 98, 115, 101, 110, 116]⟩, .string ⟨#[114, 105, 115, 101, 115]⟩, .string ⟨#[102, 97, 108, 108, 115]⟩]
theorem kdA_at (k : Nat) (h : k < 5) : kdA[k]? = some (.string (kd k)) := by
  have h : k = 0 ∨ k = 1 ∨ k = 2 ∨ k = 3 ∨ k = 4 := by omega
  rcases h with h | h | h | h | h <;> subst h <;> rfl
def kindS (s : ByteArray) : Nat := if s = kd 0 then 1 else if s = kd 1 then 2 else if s = kd 2 then 3 else if s = kd 3 then 4 else if s = kd 4 then 5 else 0
/-- Which condition words name first: 0: none. -/
def kindF : List ByteArray → Nat
  | [] => 0
  | s :: _ => kindS s
theorem kindF_le (ws : List ByteArray) : kindF ws ≤ 5 := by
  cases ws with
  | nil => decide
  | cons s r =>
    rw [show kindF (s :: r) = kindS s from rfl]
    unfold kindS
    repeat' split
    all_goals decide
theorem kindF_iff (s : ByteArray) (r : List ByteArray) (k : Nat) (hk : k < 5) : kindF (s :: r) = k + 1 ↔ s = kd k := by
  have n01 : kd 0 ≠ kd 1 := by decide
  have n02 : kd 0 ≠ kd 2 := by decide
  have n03 : kd 0 ≠ kd 3 := by decide
  have n04 : kd 0 ≠ kd 4 := by decide
  have n12 : kd 1 ≠ kd 2 := by decide
  have n13 : kd 1 ≠ kd 3 := by decide
  have n14 : kd 1 ≠ kd 4 := by decide
  have n23 : kd 2 ≠ kd 3 := by decide
  have n24 : kd 2 ≠ kd 4 := by decide
  have n34 : kd 3 ≠ kd 4 := by decide
  have h : k = 0 ∨ k = 1 ∨ k = 2 ∨ k = 3 ∨ k = 4 := by omega
  rw [show kindF (s :: r) = kindS s from rfl]
  unfold kindS
  rcases h with h | h | h | h | h <;> subst h <;> constructor
  all_goals first
    | (intro h; (repeat' split at h) <;> first | assumption | (exfalso; omega))
    | (rintro rfl; simp [*, Ne.symm n01, Ne.symm n02, Ne.symm n03, Ne.symm n04, Ne.symm n12, Ne.symm n13, Ne.symm n14, Ne.symm n23, Ne.symm n24, Ne.symm n34])
def kAt (ws : List ByteArray) (k : Nat) : Nat := if kindF ws ≤ k then kindF ws else 0
theorem kAt_5 (ws : List ByteArray) : kAt ws 5 = kindF ws := if_pos (kindF_le ws)
theorem kAt_hit (s : ByteArray) (r : List ByteArray) (k : Nat) (hk : k < 5) (h : s = kd k) : kAt (s :: r) (k + 1) = k + 1 := by
  unfold kAt
  rw [(kindF_iff s r k hk).2 h, if_pos (Nat.le_refl _)]
theorem kAt_miss (s : ByteArray) (r : List ByteArray) (k : Nat) (hk : k < 5) (h : s ≠ kd k) : kAt (s :: r) (k + 1) = kAt (s :: r) k := by
  have h9 : kindF (s :: r) ≠ k + 1 := fun h2 => h ((kindF_iff s r k hk).1 h2)
  unfold kAt
  by_cases h1 : kindF (s :: r) ≤ k
  · rw [if_pos h1, if_pos (by omega)]
  · rw [if_neg h1, if_neg (by omega)]
theorem kAt_nil (k : Nat) : kAt [] k = 0 := by unfold kAt; split <;> rfl
theorem kAt_zero (ws : List ByteArray) : kAt ws 0 = 0 := by unfold kAt; split <;> omega
theorem cell_below {w w' : World} {b o : Nat} {v : Value} (h : Below w.heap.size w w') (hc : w.cell? ⟨b, o, none⟩ = some v) : w'.cell? ⟨b, o, none⟩ = some v := by
  have h1 : RdAt w b o [v] := fun j u hj => by
    cases j with
    | zero => cases hj; exact hc
    | succ j => simp at hj
  exact h1.below h 0 _ rfl
theorem allocSz (w : World) (o : Obj) : (w.alloc o).heap.size = w.heap.size + 1 := by show (w.heap.push _).size = _; exact Array.size_push _
theorem condCheckI (k : Nat) (lim : Int) (tk : Nat) (ki ti : Int) (e1 : ki = (k : Int)) (e2 : ti = (tk : Int)) (w : World) (hk : k < 256) : Calls Tryz.prog 76 #[.agg #[.int .u8 ki, .int .i64 lim, .int .u64 ti]] w fun e w' => e = .returned (.int .i64 (chkC k lim tk : Nat)) ∧ Below w.heap.size w w' := by
  subst e1 e2
  exact condCheck k lim tk w hk
def zeroB : ByteArray := ⟨#[48]⟩
/-- What words are as a condition: kind, limit, ticks; an error's number. -/
def condE (ws : List ByteArray) : Nat :=
  if kindF ws = 0 ∨ ws.length ≠ (if kindF ws = 4 ∨ kindF ws = 5 then 3 else 2) then 2
  else if sgnO (if kindF ws = 3 then zeroB else ws.getD 1 zeroB) = false then 27
  else if numO (if kindF ws = 1 ∨ kindF ws = 2 then zeroB else ws.getD (ws.length - 1) zeroB) 1048576 = false then 27
  else chkC (kindF ws) (sgnV (if kindF ws = 3 then zeroB else ws.getD 1 zeroB)) (numN (if kindF ws = 1 ∨ kindF ws = 2 then zeroB else ws.getD (ws.length - 1) zeroB))
def condK (ws : List ByteArray) : Nat := if condE ws = 0 then kindF ws else 0
def condL (ws : List ByteArray) : Int := if condE ws = 0 then sgnV (if kindF ws = 3 then zeroB else ws.getD 1 zeroB) else 0
def condT (ws : List ByteArray) : Nat := if condE ws = 0 then numN (if kindF ws = 1 ∨ kindF ws = 2 then zeroB else ws.getD (ws.length - 1) zeroB) else 0
def condA (ws : List ByteArray) : Value := .agg #[.int .u8 (condK ws : Nat), .int .i64 (condL ws), .int .u64 (condT ws : Nat)]
theorem condA_bad (ws : List ByteArray) (h : condE ws ≠ 0) : condA ws = .agg #[.int .u8 0, .int .i64 0, .int .u64 0] := by
  unfold condA condK condL condT
  rw [if_neg h, if_neg h, if_neg h]; rfl
set_option maxHeartbeats 8000000 in
theorem condParse (v : Value) (ws : List ByteArray) (w : World) (hr : Rd w 1 v ws.length (wsC ws)) (hz : ∀ s ∈ ws, s.size ≤ maxLen) :
    Calls Tryz.prog 93 #[v] w fun e w' => e = .returned (.tuple #[condA ws, .int .i64 (condE ws : Nat)]) ∧ Below w.heap.size w w' := by
  obtain ⟨A, c, rfl, h1, h2, h3, h4⟩ := hr
  unfold maxLen at h3
  have hK5 := kindF_le ws
  have W0 : ∀ s r, ws = s :: r → ∃ b o, A = some ⟨b, o, none⟩ ∧ w.cell? ⟨b, o, none⟩ = some (.string s) := fun s r hs => by
    obtain ⟨b, o, rfl, hat⟩ := h4 (by rw [hs]; simp)
    exact ⟨b, o, rfl, hat 0 _ (by rw [hs]; rfl)⟩
  have HW0 := Lib.hid W0
  have H4 := Lib.hid h4
  clear h4 W0
  go_enter Tryz.func93, Tryz.ntmps93
  go_wp2_with fail
  go_loopw [16] (fun i wr => ∃ k : Nat, k ≤ 5 ∧ i = .int .i64 k ∧ Upd [] w [chBlk (w.heap.size + 1 + 1) #[.int .u8 (kAt ws k : Nat), .int .i64 0, .int .u64 0] 28, chBlk (w.heap.size + 1) kdA 9, chBlk w.heap.size #[.int .u8 0, .int .i64 0, .int .u64 0] 28] wr) (fun i _ => 5 - (intOf i).toNat)
  case atStart => exact ⟨0, by omega, rfl, by have h := (((Upd.nil [] w).alloc #[.int .u8 0, .int .i64 0, .int .u64 0] 28).alloc kdA 9).alloc #[.int .u8 0, .int .i64 0, .int .u64 0] 28; simp only [allocSz] at h; rw [kAt_zero]; exact h⟩
  case round =>
    obtain ⟨k, hk, rfl, U0⟩ := hrel
    have HU := Lib.hid U0
    by_cases hlt : k < 5
    · have ck := (U0.blk 1 rfl).cell (j := k) (v := .string (kd k)) (kdA_at k hlt)
      have c0 := (U0.blk 0 rfl).cell (j := 0) (v := .int .u8 (kAt ws k : Nat)) rfl
      have z0 := (U0.blk 0 rfl).frozen 0
      have i1 : (k : Int) < 5 := by omega
      have w8 : IntKind.u8.wrap ((k : Int) + 1) = ((k + 1 : Nat) : Int) := by simp only [IntKind.wrap, IntKind.bits, IntKind.signed]; simp; omega
      match ws, HW0, HU with
      | [], _, HU =>
        clear U0
        go_wp2_with fail
        go_roundw
        case rel => exact ⟨k + 1, by omega, by go_num, by have h := HU.out; rw [kAt_nil] at h ⊢; exact h⟩
        case measure => simp [intOf]; omega
      | s :: r, HW0, HU =>
        obtain ⟨b, oo, rfl, x0⟩ := HW0.out s r rfl
        have x1 := cell_below U0.below x0
        clear x0
        by_cases hx : s = kd k
        · have hE : (s == kd k) = true := by rw [beqS]; simpa using hx
          have hT : (s.toList == (kd k).toList) = true := by rw [eqS_eq]; simpa using hx
          have U1 := U0.put 0 rfl 0 (.int .u8 (k + 1 : Nat))
          simp only [List.setIfInBounds_toArray, List.set_cons_zero, List.eraseIdx_cons_zero] at U1
          have HU1 := Lib.hid U1
          have hk1 := kAt_hit s r k hlt hx
          clear U0 U1 HU
          go_wp2_with fail
          go_roundw
          case rel => exact ⟨k + 1, by omega, by go_num, by rw [hk1]; exact HU1.out⟩
          case measure => simp [intOf]; omega
        · have hE : (s == kd k) = false := by rw [beqS]; simpa using hx
          have hT : (s.toList == (kd k).toList) = false := by rw [eqS_eq]; simpa using hx
          have hk1 := kAt_miss s r k hlt hx
          clear U0
          go_wp2_with fail
          go_roundw
          case rel => exact ⟨k + 1, by omega, by go_num, by rw [hk1]; exact HU.out⟩
          case measure => simp [intOf]; omega
    · obtain rfl : k = 5 := by omega
      clear hlt hk
      rw [kAt_5] at U0 HU
      obtain ⟨K, hK⟩ : ∃ K, K = kindF ws := ⟨_, rfl⟩
      rw [← hK] at U0 hK5 HU
      have z0 := (U0.blk 0 rfl).frozen 0
      have z1 := (U0.blk 0 rfl).frozen 1
      have z2 := (U0.blk 0 rfl).frozen 2
      have y0 := (U0.blk 2 rfl).frozen 0
      have y1 := (U0.blk 2 rfl).frozen 1
      have y2 := (U0.blk 2 rfl).frozen 2
      have c0 := (U0.blk 0 rfl).cell (j := 0) (v := .int .u8 (K : Nat)) rfl
      have c1 := (U0.blk 0 rfl).cell (j := 1) (v := .int .i64 0) rfl
      have c2 := (U0.blk 0 rfl).cell (j := 2) (v := .int .u64 0) rfl
      have r0 := (U0.blk 2 rfl).cell (j := 0) (v := .int .u8 0) rfl
      have r1 := (U0.blk 2 rfl).cell (j := 1) (v := .int .i64 0) rfl
      have r2 := (U0.blk 2 rfl).cell (j := 2) (v := .int .u64 0) rfl
      have hKc : K = 0 ∨ K = 1 ∨ K = 2 ∨ K = 3 ∨ K = 4 ∨ K = 5 := by omega
      clear hK5 U0
      rcases hKc with rfl | rfl | rfl | rfl | rfl | rfl
      · have E := Lib.hid (show condE ws = 2 by unfold condE; rw [if_pos (.inl hK.symm)])
        clear hK H4 HW0
        go_wp2_with fail
        refine bodyPost_gen fun w6 hw6 => ?_
        have U6 := (((HU.out.put 2 rfl 0 (.int .u8 0)).put 0 rfl 1 (.int .i64 0)).put 0 rfl 2 (.int .u64 0)).same hw6
        simp only [List.setIfInBounds_toArray, List.set_cons_zero, List.set_cons_succ, List.eraseIdx_cons_zero, List.eraseIdx_cons_succ] at U6
        clear hw6
        have a0 := (U6.blk 0 rfl).cell (j := 0) (v := .int .u8 0) rfl
        have a1 := (U6.blk 0 rfl).cell (j := 1) (v := .int .i64 0) rfl
        have a2 := (U6.blk 0 rfl).cell (j := 2) (v := .int .u64 0) rfl
        refine bodyPost_ret (v := .tuple #[.agg #[.int .u8 0, .int .i64 0, .int .u64 0], .int .i64 (2)]) ?_ rfl ⟨by rw [condA_bad ws (by rw [E.out]; decide), E.out] <;> rfl, U6.below⟩
        simp [results, Tryz.results93, go_sem, a0, a1, a2]
      · have hw : (if kindF ws = 4 ∨ kindF ws = 5 then 3 else 2) = 2 := by rw [← hK]; rfl
        by_cases hn : ws.length = 2
        · obtain ⟨s0, s1, rfl⟩ : ∃ s0 s1, ws = [s0, s1] := by
            match ws, hn with
            | [s0, s1], _ => exact ⟨_, _, rfl⟩
          obtain ⟨b, oo, rfl, hat⟩ := H4.out (by simp)
          have x0 := cell_below HU.out.below (hat 0 _ (show (wsC [s0, s1])[0]? = some (.string s0) from rfl))
          have x1 := cell_below HU.out.below (hat 1 _ (show (wsC [s0, s1])[1]? = some (.string s1) from rfl))
          have l1 : (if kindF [s0, s1] = 3 then zeroB else [s0, s1].getD 1 zeroB) = s1 := by rw [← hK]; rfl
          have l2 : (if kindF [s0, s1] = 1 ∨ kindF [s0, s1] = 2 then zeroB else [s0, s1].getD ([s0, s1].length - 1) zeroB) = zeroB := by rw [← hK]; rfl
          have hg : ¬ (kindF [s0, s1] = 0 ∨ [s0, s1].length ≠ (if kindF [s0, s1] = 4 ∨ kindF [s0, s1] = 5 then 3 else 2)) := by rw [← hK]; simp
          have N1 := fun w' => condSigned s1 w' (hz s1 (by simp))
          have N2 := fun w' => condNumberI zeroB 1048576 1048576 rfl w' (by decide)
          unfold zeroB at N2
          have EE : condE [s0, s1] = if sgnO s1 = false then 27 else if numO zeroB 1048576 = false then 27 else chkC 1 (sgnV s1) (numN zeroB) := by unfold condE; rw [if_neg hg, l1, l2, ← hK]
          have EV : condE [s0, s1] = 0 → condA [s0, s1] = .agg #[.int .u8 1, .int .i64 (sgnV s1), .int .u64 (numN zeroB : Nat)] := fun h => by unfold condA condK condL condT; rw [if_pos h, if_pos h, if_pos h, l1, l2, ← hK]; rfl
          obtain ⟨L, hL⟩ : ∃ x, x = sgnV s1 := ⟨_, rfl⟩
          obtain ⟨LO, hLO⟩ : ∃ x, x = sgnO s1 := ⟨_, rfl⟩
          obtain ⟨Tn, hTn⟩ : ∃ x, x = numN zeroB := ⟨_, rfl⟩
          obtain ⟨TO, hTO⟩ : ∃ x, x = numO zeroB 1048576 := ⟨_, rfl⟩
          have hTn0 : Tn = 0 := by rw [hTn]; decide +kernel
          have hTO0 : TO = true := by rw [hTO]; decide +kernel
          have hTlt : Tn < 10000000000000000000 := by rw [hTn]; exact numN_lt _
          rw [← hL, ← hTn] at EV
          rw [← hLO, ← hTO, ← hL, ← hTn] at EE
          unfold zeroB at hTn hTO
          rw [← hL, ← hLO] at N1
          rw [← hTn, ← hTO] at N2
          clear hL hLO hTn hTO l1 l2 hg hn hw hK HW0 hat H4 hz h1 h2
          subst hTn0
          cases LO with
          | false =>
            have E := Lib.hid (EE.trans (if_pos rfl))
            clear EE EV N2
            go_wp2_with fail
            go_region
            go_wp2_with fail
            (with_reducible refine (N1 _).mono ?_)
            rintro e w1 ⟨rfl, rfl⟩
            go_wp2_with fail
            refine bodyPost_gen fun w6 hw6 => ?_
            have U6 := ((((HU.out.put 0 rfl 1 (.int .i64 L)).put 2 rfl 0 (.int .u8 0)).put 0 rfl 1 (.int .i64 0)).put 0 rfl 2 (.int .u64 0)).drew.same hw6
            simp only [List.setIfInBounds_toArray, List.set_cons_zero, List.set_cons_succ, List.eraseIdx_cons_zero, List.eraseIdx_cons_succ] at U6
            clear hw6
            have a0 := (U6.blk 0 rfl).cell (j := 0) (v := .int .u8 0) rfl
            have a1 := (U6.blk 0 rfl).cell (j := 1) (v := .int .i64 0) rfl
            have a2 := (U6.blk 0 rfl).cell (j := 2) (v := .int .u64 0) rfl
            refine bodyPost_ret (v := .tuple #[.agg #[.int .u8 0, .int .i64 0, .int .u64 0], .int .i64 (27)]) ?_ rfl ⟨by rw [condA_bad [s0, s1] (by rw [E.out]; decide), E.out] <;> rfl, U6.below⟩
            simp [results, Tryz.results93, go_sem, a0, a1, a2]
          | true =>
            rw [if_neg (by decide : ¬ true = false)] at EE
            subst hTO0
            rw [if_neg (by decide : ¬ true = false)] at EE
            have C := fun w' => condCheckI 1 L 0 1 0 rfl rfl w' (by decide)
            obtain ⟨ce, hce⟩ : ∃ x, x = chkC 1 L 0 := ⟨_, rfl⟩
            rw [← hce] at EE C
            clear hce
            by_cases hce : ce = 0
            · subst hce
              have E := Lib.hid EE
              have EV2 := Lib.hid (EV EE)
              clear EE EV
              go_wp2_with fail
              go_region
              go_wp2_with fail
              (with_reducible refine (N1 _).mono ?_)
              rintro e w1 ⟨rfl, rfl⟩
              go_wp2_with fail
              (with_reducible refine (N2 _).mono ?_)
              rintro e w2 ⟨rfl, rfl⟩
              go_wp2_with fail
              refine calls_genP fun w3 hw3 => ?_
              have U5 := ((HU.out.put 0 rfl 1 (.int .i64 L)).put 0 rfl 2 (.int .u64 0)).drew.same hw3
              simp only [List.setIfInBounds_toArray, List.set_cons_zero, List.set_cons_succ, List.eraseIdx_cons_zero] at U5
              clear hw3
              (with_reducible refine (C _).mono ?_)
              rintro e w4 ⟨rfl, hb4⟩
              have U5 := U5.grow hb4
              have d0 := (U5.blk 0 rfl).cell (j := 0) (v := .int .u8 1) rfl
              have d1 := (U5.blk 0 rfl).cell (j := 1) (v := .int .i64 L) rfl
              have d2 := (U5.blk 0 rfl).cell (j := 2) (v := .int .u64 0) rfl
              have e0 := (U5.blk 2 rfl).frozen 0
              have e1 := (U5.blk 2 rfl).frozen 1
              have e2 := (U5.blk 2 rfl).frozen 2
              have f0 := (U5.blk 2 rfl).cell (j := 0) (v := .int .u8 0) rfl
              have f1 := (U5.blk 2 rfl).cell (j := 1) (v := .int .i64 0) rfl
              have f2 := (U5.blk 2 rfl).cell (j := 2) (v := .int .u64 0) rfl
              have HU5 := Lib.hid U5
              clear U5 hb4
              go_wp2_with fail
              refine bodyPost_gen fun w6 hw6 => ?_
              have U6 := (((HU5.out.put 2 rfl 0 (.int .u8 1)).put 0 rfl 1 (.int .i64 L)).put 0 rfl 2 (.int .u64 0)).same hw6
              simp only [List.setIfInBounds_toArray, List.set_cons_zero, List.set_cons_succ, List.eraseIdx_cons_zero, List.eraseIdx_cons_succ] at U6
              clear hw6
              have a0 := (U6.blk 0 rfl).cell (j := 0) (v := .int .u8 1) rfl
              have a1 := (U6.blk 0 rfl).cell (j := 1) (v := .int .i64 L) rfl
              have a2 := (U6.blk 0 rfl).cell (j := 2) (v := .int .u64 0) rfl
              refine bodyPost_ret (v := .tuple #[.agg #[.int .u8 1, .int .i64 L, .int .u64 0], .int .i64 0]) ?_ rfl ⟨by rw [EV2.out, E.out] <;> rfl, U6.below⟩
              simp [results, Tryz.results93, go_sem, a0, a1, a2]
            · have hce2 : ((ce : Int) == 0) = false := by simp; omega
              have E := Lib.hid EE
              clear EE EV
              go_wp2_with fail
              go_region
              go_wp2_with fail
              (with_reducible refine (N1 _).mono ?_)
              rintro e w1 ⟨rfl, rfl⟩
              go_wp2_with fail
              (with_reducible refine (N2 _).mono ?_)
              rintro e w2 ⟨rfl, rfl⟩
              go_wp2_with fail
              refine calls_genP fun w3 hw3 => ?_
              have U5 := ((HU.out.put 0 rfl 1 (.int .i64 L)).put 0 rfl 2 (.int .u64 0)).drew.same hw3
              simp only [List.setIfInBounds_toArray, List.set_cons_zero, List.set_cons_succ, List.eraseIdx_cons_zero] at U5
              clear hw3
              (with_reducible refine (C _).mono ?_)
              rintro e w4 ⟨rfl, hb4⟩
              have U5 := U5.grow hb4
              have d0 := (U5.blk 0 rfl).cell (j := 0) (v := .int .u8 1) rfl
              have d1 := (U5.blk 0 rfl).cell (j := 1) (v := .int .i64 L) rfl
              have d2 := (U5.blk 0 rfl).cell (j := 2) (v := .int .u64 0) rfl
              have e0 := (U5.blk 2 rfl).frozen 0
              have e1 := (U5.blk 2 rfl).frozen 1
              have e2 := (U5.blk 2 rfl).frozen 2
              have f0 := (U5.blk 2 rfl).cell (j := 0) (v := .int .u8 0) rfl
              have f1 := (U5.blk 2 rfl).cell (j := 1) (v := .int .i64 0) rfl
              have f2 := (U5.blk 2 rfl).cell (j := 2) (v := .int .u64 0) rfl
              have HU5 := Lib.hid U5
              clear U5 hb4
              go_wp2_with fail
              refine bodyPost_gen fun w6 hw6 => ?_
              have U6 := (((HU5.out.put 2 rfl 0 (.int .u8 0)).put 0 rfl 1 (.int .i64 0)).put 0 rfl 2 (.int .u64 0)).same hw6
              simp only [List.setIfInBounds_toArray, List.set_cons_zero, List.set_cons_succ, List.eraseIdx_cons_zero, List.eraseIdx_cons_succ] at U6
              clear hw6
              have a0 := (U6.blk 0 rfl).cell (j := 0) (v := .int .u8 0) rfl
              have a1 := (U6.blk 0 rfl).cell (j := 1) (v := .int .i64 0) rfl
              have a2 := (U6.blk 0 rfl).cell (j := 2) (v := .int .u64 0) rfl
              refine bodyPost_ret (v := .tuple #[.agg #[.int .u8 0, .int .i64 0, .int .u64 0], .int .i64 (ce)]) ?_ rfl ⟨by rw [condA_bad [s0, s1] (by rw [E.out]; exact hce), E.out] <;> rfl, U6.below⟩
              simp [results, Tryz.results93, go_sem, a0, a1, a2]
        · have E := Lib.hid (show condE ws = 2 by unfold condE; rw [hw, if_pos (.inr hn)])
          have hnf : ((ws.length : Int) == 2) = false := by simp; omega
          clear hK H4 HW0 hw hn
          go_wp2_with fail
          refine bodyPost_gen fun w6 hw6 => ?_
          have U6 := (((HU.out.put 2 rfl 0 (.int .u8 0)).put 0 rfl 1 (.int .i64 0)).put 0 rfl 2 (.int .u64 0)).same hw6
          simp only [List.setIfInBounds_toArray, List.set_cons_zero, List.set_cons_succ, List.eraseIdx_cons_zero, List.eraseIdx_cons_succ] at U6
          clear hw6
          have a0 := (U6.blk 0 rfl).cell (j := 0) (v := .int .u8 0) rfl
          have a1 := (U6.blk 0 rfl).cell (j := 1) (v := .int .i64 0) rfl
          have a2 := (U6.blk 0 rfl).cell (j := 2) (v := .int .u64 0) rfl
          refine bodyPost_ret (v := .tuple #[.agg #[.int .u8 0, .int .i64 0, .int .u64 0], .int .i64 (2)]) ?_ rfl ⟨by rw [condA_bad ws (by rw [E.out]; decide), E.out] <;> rfl, U6.below⟩
          simp [results, Tryz.results93, go_sem, a0, a1, a2]
      · have hw : (if kindF ws = 4 ∨ kindF ws = 5 then 3 else 2) = 2 := by rw [← hK]; rfl
        by_cases hn : ws.length = 2
        · obtain ⟨s0, s1, rfl⟩ : ∃ s0 s1, ws = [s0, s1] := by
            match ws, hn with
            | [s0, s1], _ => exact ⟨_, _, rfl⟩
          obtain ⟨b, oo, rfl, hat⟩ := H4.out (by simp)
          have x0 := cell_below HU.out.below (hat 0 _ (show (wsC [s0, s1])[0]? = some (.string s0) from rfl))
          have x1 := cell_below HU.out.below (hat 1 _ (show (wsC [s0, s1])[1]? = some (.string s1) from rfl))
          have l1 : (if kindF [s0, s1] = 3 then zeroB else [s0, s1].getD 1 zeroB) = s1 := by rw [← hK]; rfl
          have l2 : (if kindF [s0, s1] = 1 ∨ kindF [s0, s1] = 2 then zeroB else [s0, s1].getD ([s0, s1].length - 1) zeroB) = zeroB := by rw [← hK]; rfl
          have hg : ¬ (kindF [s0, s1] = 0 ∨ [s0, s1].length ≠ (if kindF [s0, s1] = 4 ∨ kindF [s0, s1] = 5 then 3 else 2)) := by rw [← hK]; simp
          have N1 := fun w' => condSigned s1 w' (hz s1 (by simp))
          have N2 := fun w' => condNumberI zeroB 1048576 1048576 rfl w' (by decide)
          unfold zeroB at N2
          have EE : condE [s0, s1] = if sgnO s1 = false then 27 else if numO zeroB 1048576 = false then 27 else chkC 2 (sgnV s1) (numN zeroB) := by unfold condE; rw [if_neg hg, l1, l2, ← hK]
          have EV : condE [s0, s1] = 0 → condA [s0, s1] = .agg #[.int .u8 2, .int .i64 (sgnV s1), .int .u64 (numN zeroB : Nat)] := fun h => by unfold condA condK condL condT; rw [if_pos h, if_pos h, if_pos h, l1, l2, ← hK]; rfl
          obtain ⟨L, hL⟩ : ∃ x, x = sgnV s1 := ⟨_, rfl⟩
          obtain ⟨LO, hLO⟩ : ∃ x, x = sgnO s1 := ⟨_, rfl⟩
          obtain ⟨Tn, hTn⟩ : ∃ x, x = numN zeroB := ⟨_, rfl⟩
          obtain ⟨TO, hTO⟩ : ∃ x, x = numO zeroB 1048576 := ⟨_, rfl⟩
          have hTn0 : Tn = 0 := by rw [hTn]; decide +kernel
          have hTO0 : TO = true := by rw [hTO]; decide +kernel
          have hTlt : Tn < 10000000000000000000 := by rw [hTn]; exact numN_lt _
          rw [← hL, ← hTn] at EV
          rw [← hLO, ← hTO, ← hL, ← hTn] at EE
          unfold zeroB at hTn hTO
          rw [← hL, ← hLO] at N1
          rw [← hTn, ← hTO] at N2
          clear hL hLO hTn hTO l1 l2 hg hn hw hK HW0 hat H4 hz h1 h2
          subst hTn0
          cases LO with
          | false =>
            have E := Lib.hid (EE.trans (if_pos rfl))
            clear EE EV N2
            go_wp2_with fail
            go_region
            go_wp2_with fail
            (with_reducible refine (N1 _).mono ?_)
            rintro e w1 ⟨rfl, rfl⟩
            go_wp2_with fail
            refine bodyPost_gen fun w6 hw6 => ?_
            have U6 := ((((HU.out.put 0 rfl 1 (.int .i64 L)).put 2 rfl 0 (.int .u8 0)).put 0 rfl 1 (.int .i64 0)).put 0 rfl 2 (.int .u64 0)).drew.same hw6
            simp only [List.setIfInBounds_toArray, List.set_cons_zero, List.set_cons_succ, List.eraseIdx_cons_zero, List.eraseIdx_cons_succ] at U6
            clear hw6
            have a0 := (U6.blk 0 rfl).cell (j := 0) (v := .int .u8 0) rfl
            have a1 := (U6.blk 0 rfl).cell (j := 1) (v := .int .i64 0) rfl
            have a2 := (U6.blk 0 rfl).cell (j := 2) (v := .int .u64 0) rfl
            refine bodyPost_ret (v := .tuple #[.agg #[.int .u8 0, .int .i64 0, .int .u64 0], .int .i64 (27)]) ?_ rfl ⟨by rw [condA_bad [s0, s1] (by rw [E.out]; decide), E.out] <;> rfl, U6.below⟩
            simp [results, Tryz.results93, go_sem, a0, a1, a2]
          | true =>
            rw [if_neg (by decide : ¬ true = false)] at EE
            subst hTO0
            rw [if_neg (by decide : ¬ true = false)] at EE
            have C := fun w' => condCheckI 2 L 0 2 0 rfl rfl w' (by decide)
            obtain ⟨ce, hce⟩ : ∃ x, x = chkC 2 L 0 := ⟨_, rfl⟩
            rw [← hce] at EE C
            clear hce
            by_cases hce : ce = 0
            · subst hce
              have E := Lib.hid EE
              have EV2 := Lib.hid (EV EE)
              clear EE EV
              go_wp2_with fail
              go_region
              go_wp2_with fail
              (with_reducible refine (N1 _).mono ?_)
              rintro e w1 ⟨rfl, rfl⟩
              go_wp2_with fail
              (with_reducible refine (N2 _).mono ?_)
              rintro e w2 ⟨rfl, rfl⟩
              go_wp2_with fail
              refine calls_genP fun w3 hw3 => ?_
              have U5 := ((HU.out.put 0 rfl 1 (.int .i64 L)).put 0 rfl 2 (.int .u64 0)).drew.same hw3
              simp only [List.setIfInBounds_toArray, List.set_cons_zero, List.set_cons_succ, List.eraseIdx_cons_zero] at U5
              clear hw3
              (with_reducible refine (C _).mono ?_)
              rintro e w4 ⟨rfl, hb4⟩
              have U5 := U5.grow hb4
              have d0 := (U5.blk 0 rfl).cell (j := 0) (v := .int .u8 2) rfl
              have d1 := (U5.blk 0 rfl).cell (j := 1) (v := .int .i64 L) rfl
              have d2 := (U5.blk 0 rfl).cell (j := 2) (v := .int .u64 0) rfl
              have e0 := (U5.blk 2 rfl).frozen 0
              have e1 := (U5.blk 2 rfl).frozen 1
              have e2 := (U5.blk 2 rfl).frozen 2
              have f0 := (U5.blk 2 rfl).cell (j := 0) (v := .int .u8 0) rfl
              have f1 := (U5.blk 2 rfl).cell (j := 1) (v := .int .i64 0) rfl
              have f2 := (U5.blk 2 rfl).cell (j := 2) (v := .int .u64 0) rfl
              have HU5 := Lib.hid U5
              clear U5 hb4
              go_wp2_with fail
              refine bodyPost_gen fun w6 hw6 => ?_
              have U6 := (((HU5.out.put 2 rfl 0 (.int .u8 2)).put 0 rfl 1 (.int .i64 L)).put 0 rfl 2 (.int .u64 0)).same hw6
              simp only [List.setIfInBounds_toArray, List.set_cons_zero, List.set_cons_succ, List.eraseIdx_cons_zero, List.eraseIdx_cons_succ] at U6
              clear hw6
              have a0 := (U6.blk 0 rfl).cell (j := 0) (v := .int .u8 2) rfl
              have a1 := (U6.blk 0 rfl).cell (j := 1) (v := .int .i64 L) rfl
              have a2 := (U6.blk 0 rfl).cell (j := 2) (v := .int .u64 0) rfl
              refine bodyPost_ret (v := .tuple #[.agg #[.int .u8 2, .int .i64 L, .int .u64 0], .int .i64 0]) ?_ rfl ⟨by rw [EV2.out, E.out] <;> rfl, U6.below⟩
              simp [results, Tryz.results93, go_sem, a0, a1, a2]
            · have hce2 : ((ce : Int) == 0) = false := by simp; omega
              have E := Lib.hid EE
              clear EE EV
              go_wp2_with fail
              go_region
              go_wp2_with fail
              (with_reducible refine (N1 _).mono ?_)
              rintro e w1 ⟨rfl, rfl⟩
              go_wp2_with fail
              (with_reducible refine (N2 _).mono ?_)
              rintro e w2 ⟨rfl, rfl⟩
              go_wp2_with fail
              refine calls_genP fun w3 hw3 => ?_
              have U5 := ((HU.out.put 0 rfl 1 (.int .i64 L)).put 0 rfl 2 (.int .u64 0)).drew.same hw3
              simp only [List.setIfInBounds_toArray, List.set_cons_zero, List.set_cons_succ, List.eraseIdx_cons_zero] at U5
              clear hw3
              (with_reducible refine (C _).mono ?_)
              rintro e w4 ⟨rfl, hb4⟩
              have U5 := U5.grow hb4
              have d0 := (U5.blk 0 rfl).cell (j := 0) (v := .int .u8 2) rfl
              have d1 := (U5.blk 0 rfl).cell (j := 1) (v := .int .i64 L) rfl
              have d2 := (U5.blk 0 rfl).cell (j := 2) (v := .int .u64 0) rfl
              have e0 := (U5.blk 2 rfl).frozen 0
              have e1 := (U5.blk 2 rfl).frozen 1
              have e2 := (U5.blk 2 rfl).frozen 2
              have f0 := (U5.blk 2 rfl).cell (j := 0) (v := .int .u8 0) rfl
              have f1 := (U5.blk 2 rfl).cell (j := 1) (v := .int .i64 0) rfl
              have f2 := (U5.blk 2 rfl).cell (j := 2) (v := .int .u64 0) rfl
              have HU5 := Lib.hid U5
              clear U5 hb4
              go_wp2_with fail
              refine bodyPost_gen fun w6 hw6 => ?_
              have U6 := (((HU5.out.put 2 rfl 0 (.int .u8 0)).put 0 rfl 1 (.int .i64 0)).put 0 rfl 2 (.int .u64 0)).same hw6
              simp only [List.setIfInBounds_toArray, List.set_cons_zero, List.set_cons_succ, List.eraseIdx_cons_zero, List.eraseIdx_cons_succ] at U6
              clear hw6
              have a0 := (U6.blk 0 rfl).cell (j := 0) (v := .int .u8 0) rfl
              have a1 := (U6.blk 0 rfl).cell (j := 1) (v := .int .i64 0) rfl
              have a2 := (U6.blk 0 rfl).cell (j := 2) (v := .int .u64 0) rfl
              refine bodyPost_ret (v := .tuple #[.agg #[.int .u8 0, .int .i64 0, .int .u64 0], .int .i64 (ce)]) ?_ rfl ⟨by rw [condA_bad [s0, s1] (by rw [E.out]; exact hce), E.out] <;> rfl, U6.below⟩
              simp [results, Tryz.results93, go_sem, a0, a1, a2]
        · have E := Lib.hid (show condE ws = 2 by unfold condE; rw [hw, if_pos (.inr hn)])
          have hnf : ((ws.length : Int) == 2) = false := by simp; omega
          clear hK H4 HW0 hw hn
          go_wp2_with fail
          refine bodyPost_gen fun w6 hw6 => ?_
          have U6 := (((HU.out.put 2 rfl 0 (.int .u8 0)).put 0 rfl 1 (.int .i64 0)).put 0 rfl 2 (.int .u64 0)).same hw6
          simp only [List.setIfInBounds_toArray, List.set_cons_zero, List.set_cons_succ, List.eraseIdx_cons_zero, List.eraseIdx_cons_succ] at U6
          clear hw6
          have a0 := (U6.blk 0 rfl).cell (j := 0) (v := .int .u8 0) rfl
          have a1 := (U6.blk 0 rfl).cell (j := 1) (v := .int .i64 0) rfl
          have a2 := (U6.blk 0 rfl).cell (j := 2) (v := .int .u64 0) rfl
          refine bodyPost_ret (v := .tuple #[.agg #[.int .u8 0, .int .i64 0, .int .u64 0], .int .i64 (2)]) ?_ rfl ⟨by rw [condA_bad ws (by rw [E.out]; decide), E.out] <;> rfl, U6.below⟩
          simp [results, Tryz.results93, go_sem, a0, a1, a2]
      · have hw : (if kindF ws = 4 ∨ kindF ws = 5 then 3 else 2) = 2 := by rw [← hK]; rfl
        by_cases hn : ws.length = 2
        · obtain ⟨s0, s1, rfl⟩ : ∃ s0 s1, ws = [s0, s1] := by
            match ws, hn with
            | [s0, s1], _ => exact ⟨_, _, rfl⟩
          obtain ⟨b, oo, rfl, hat⟩ := H4.out (by simp)
          have x0 := cell_below HU.out.below (hat 0 _ (show (wsC [s0, s1])[0]? = some (.string s0) from rfl))
          have x1 := cell_below HU.out.below (hat 1 _ (show (wsC [s0, s1])[1]? = some (.string s1) from rfl))
          have l1 : (if kindF [s0, s1] = 3 then zeroB else [s0, s1].getD 1 zeroB) = zeroB := by rw [← hK]; rfl
          have l2 : (if kindF [s0, s1] = 1 ∨ kindF [s0, s1] = 2 then zeroB else [s0, s1].getD ([s0, s1].length - 1) zeroB) = s1 := by rw [← hK]; rfl
          have hg : ¬ (kindF [s0, s1] = 0 ∨ [s0, s1].length ≠ (if kindF [s0, s1] = 4 ∨ kindF [s0, s1] = 5 then 3 else 2)) := by rw [← hK]; simp
          have N1 := fun w' => condSigned zeroB w' (by decide)
          have N2 := fun w' => condNumberI s1 1048576 1048576 rfl w' (hz s1 (by simp))
          unfold zeroB at N1
          have EE : condE [s0, s1] = if sgnO zeroB = false then 27 else if numO s1 1048576 = false then 27 else chkC 3 (sgnV zeroB) (numN s1) := by unfold condE; rw [if_neg hg, l1, l2, ← hK]
          have EV : condE [s0, s1] = 0 → condA [s0, s1] = .agg #[.int .u8 3, .int .i64 (sgnV zeroB), .int .u64 (numN s1 : Nat)] := fun h => by unfold condA condK condL condT; rw [if_pos h, if_pos h, if_pos h, l1, l2, ← hK]; rfl
          obtain ⟨L, hL⟩ : ∃ x, x = sgnV zeroB := ⟨_, rfl⟩
          obtain ⟨LO, hLO⟩ : ∃ x, x = sgnO zeroB := ⟨_, rfl⟩
          obtain ⟨Tn, hTn⟩ : ∃ x, x = numN s1 := ⟨_, rfl⟩
          obtain ⟨TO, hTO⟩ : ∃ x, x = numO s1 1048576 := ⟨_, rfl⟩
          have hL0 : L = 0 := by rw [hL]; decide +kernel
          have hLO0 : LO = true := by rw [hLO]; decide +kernel
          have hTlt : Tn < 10000000000000000000 := by rw [hTn]; exact numN_lt _
          rw [← hL, ← hTn] at EV
          rw [← hLO, ← hTO, ← hL, ← hTn] at EE
          unfold zeroB at hL hLO
          rw [← hL, ← hLO] at N1
          rw [← hTn, ← hTO] at N2
          clear hL hLO hTn hTO l1 l2 hg hn hw hK HW0 hat H4 hz h1 h2
          subst hL0
          subst hLO0
          rw [if_neg (by decide : ¬ true = false)] at EE
          cases TO with
          | false =>
            have E := Lib.hid (EE.trans (if_pos rfl))
            clear EE EV
            go_wp2_with fail
            go_region
            go_wp2_with fail
            (with_reducible refine (N1 _).mono ?_)
            rintro e w1 ⟨rfl, rfl⟩
            go_wp2_with fail
            (with_reducible refine (N2 _).mono ?_)
            rintro e w2 ⟨rfl, rfl⟩
            go_wp2_with fail
            refine bodyPost_gen fun w6 hw6 => ?_
            have U6 := (((((HU.out.put 0 rfl 1 (.int .i64 0)).put 0 rfl 2 (.int .u64 (Tn : Nat))).put 2 rfl 0 (.int .u8 0)).put 0 rfl 1 (.int .i64 0)).put 0 rfl 2 (.int .u64 0)).drew.same hw6
            simp only [List.setIfInBounds_toArray, List.set_cons_zero, List.set_cons_succ, List.eraseIdx_cons_zero, List.eraseIdx_cons_succ] at U6
            clear hw6
            have a0 := (U6.blk 0 rfl).cell (j := 0) (v := .int .u8 0) rfl
            have a1 := (U6.blk 0 rfl).cell (j := 1) (v := .int .i64 0) rfl
            have a2 := (U6.blk 0 rfl).cell (j := 2) (v := .int .u64 0) rfl
            refine bodyPost_ret (v := .tuple #[.agg #[.int .u8 0, .int .i64 0, .int .u64 0], .int .i64 (27)]) ?_ rfl ⟨by rw [condA_bad [s0, s1] (by rw [E.out]; decide), E.out] <;> rfl, U6.below⟩
            simp [results, Tryz.results93, go_sem, a0, a1, a2]
          | true =>
            rw [if_neg (by decide : ¬ true = false)] at EE
            have C := fun w' => condCheckI 3 0 Tn 3 Tn rfl rfl w' (by decide)
            obtain ⟨ce, hce⟩ : ∃ x, x = chkC 3 0 Tn := ⟨_, rfl⟩
            rw [← hce] at EE C
            clear hce
            by_cases hce : ce = 0
            · subst hce
              have E := Lib.hid EE
              have EV2 := Lib.hid (EV EE)
              clear EE EV
              go_wp2_with fail
              go_region
              go_wp2_with fail
              (with_reducible refine (N1 _).mono ?_)
              rintro e w1 ⟨rfl, rfl⟩
              go_wp2_with fail
              (with_reducible refine (N2 _).mono ?_)
              rintro e w2 ⟨rfl, rfl⟩
              go_wp2_with fail
              refine calls_genP fun w3 hw3 => ?_
              have U5 := ((HU.out.put 0 rfl 1 (.int .i64 0)).put 0 rfl 2 (.int .u64 (Tn : Nat))).drew.same hw3
              simp only [List.setIfInBounds_toArray, List.set_cons_zero, List.set_cons_succ, List.eraseIdx_cons_zero] at U5
              clear hw3
              (with_reducible refine (C _).mono ?_)
              rintro e w4 ⟨rfl, hb4⟩
              have U5 := U5.grow hb4
              have d0 := (U5.blk 0 rfl).cell (j := 0) (v := .int .u8 3) rfl
              have d1 := (U5.blk 0 rfl).cell (j := 1) (v := .int .i64 0) rfl
              have d2 := (U5.blk 0 rfl).cell (j := 2) (v := .int .u64 (Tn : Nat)) rfl
              have e0 := (U5.blk 2 rfl).frozen 0
              have e1 := (U5.blk 2 rfl).frozen 1
              have e2 := (U5.blk 2 rfl).frozen 2
              have f0 := (U5.blk 2 rfl).cell (j := 0) (v := .int .u8 0) rfl
              have f1 := (U5.blk 2 rfl).cell (j := 1) (v := .int .i64 0) rfl
              have f2 := (U5.blk 2 rfl).cell (j := 2) (v := .int .u64 0) rfl
              have HU5 := Lib.hid U5
              clear U5 hb4
              go_wp2_with fail
              refine bodyPost_gen fun w6 hw6 => ?_
              have U6 := (((HU5.out.put 2 rfl 0 (.int .u8 3)).put 0 rfl 1 (.int .i64 0)).put 0 rfl 2 (.int .u64 (Tn : Nat))).same hw6
              simp only [List.setIfInBounds_toArray, List.set_cons_zero, List.set_cons_succ, List.eraseIdx_cons_zero, List.eraseIdx_cons_succ] at U6
              clear hw6
              have a0 := (U6.blk 0 rfl).cell (j := 0) (v := .int .u8 3) rfl
              have a1 := (U6.blk 0 rfl).cell (j := 1) (v := .int .i64 0) rfl
              have a2 := (U6.blk 0 rfl).cell (j := 2) (v := .int .u64 (Tn : Nat)) rfl
              refine bodyPost_ret (v := .tuple #[.agg #[.int .u8 3, .int .i64 0, .int .u64 (Tn : Nat)], .int .i64 0]) ?_ rfl ⟨by rw [EV2.out, E.out] <;> rfl, U6.below⟩
              simp [results, Tryz.results93, go_sem, a0, a1, a2]
            · have hce2 : ((ce : Int) == 0) = false := by simp; omega
              have E := Lib.hid EE
              clear EE EV
              go_wp2_with fail
              go_region
              go_wp2_with fail
              (with_reducible refine (N1 _).mono ?_)
              rintro e w1 ⟨rfl, rfl⟩
              go_wp2_with fail
              (with_reducible refine (N2 _).mono ?_)
              rintro e w2 ⟨rfl, rfl⟩
              go_wp2_with fail
              refine calls_genP fun w3 hw3 => ?_
              have U5 := ((HU.out.put 0 rfl 1 (.int .i64 0)).put 0 rfl 2 (.int .u64 (Tn : Nat))).drew.same hw3
              simp only [List.setIfInBounds_toArray, List.set_cons_zero, List.set_cons_succ, List.eraseIdx_cons_zero] at U5
              clear hw3
              (with_reducible refine (C _).mono ?_)
              rintro e w4 ⟨rfl, hb4⟩
              have U5 := U5.grow hb4
              have d0 := (U5.blk 0 rfl).cell (j := 0) (v := .int .u8 3) rfl
              have d1 := (U5.blk 0 rfl).cell (j := 1) (v := .int .i64 0) rfl
              have d2 := (U5.blk 0 rfl).cell (j := 2) (v := .int .u64 (Tn : Nat)) rfl
              have e0 := (U5.blk 2 rfl).frozen 0
              have e1 := (U5.blk 2 rfl).frozen 1
              have e2 := (U5.blk 2 rfl).frozen 2
              have f0 := (U5.blk 2 rfl).cell (j := 0) (v := .int .u8 0) rfl
              have f1 := (U5.blk 2 rfl).cell (j := 1) (v := .int .i64 0) rfl
              have f2 := (U5.blk 2 rfl).cell (j := 2) (v := .int .u64 0) rfl
              have HU5 := Lib.hid U5
              clear U5 hb4
              go_wp2_with fail
              refine bodyPost_gen fun w6 hw6 => ?_
              have U6 := (((HU5.out.put 2 rfl 0 (.int .u8 0)).put 0 rfl 1 (.int .i64 0)).put 0 rfl 2 (.int .u64 0)).same hw6
              simp only [List.setIfInBounds_toArray, List.set_cons_zero, List.set_cons_succ, List.eraseIdx_cons_zero, List.eraseIdx_cons_succ] at U6
              clear hw6
              have a0 := (U6.blk 0 rfl).cell (j := 0) (v := .int .u8 0) rfl
              have a1 := (U6.blk 0 rfl).cell (j := 1) (v := .int .i64 0) rfl
              have a2 := (U6.blk 0 rfl).cell (j := 2) (v := .int .u64 0) rfl
              refine bodyPost_ret (v := .tuple #[.agg #[.int .u8 0, .int .i64 0, .int .u64 0], .int .i64 (ce)]) ?_ rfl ⟨by rw [condA_bad [s0, s1] (by rw [E.out]; exact hce), E.out] <;> rfl, U6.below⟩
              simp [results, Tryz.results93, go_sem, a0, a1, a2]
        · have E := Lib.hid (show condE ws = 2 by unfold condE; rw [hw, if_pos (.inr hn)])
          have hnf : ((ws.length : Int) == 2) = false := by simp; omega
          clear hK H4 HW0 hw hn
          go_wp2_with fail
          refine bodyPost_gen fun w6 hw6 => ?_
          have U6 := (((HU.out.put 2 rfl 0 (.int .u8 0)).put 0 rfl 1 (.int .i64 0)).put 0 rfl 2 (.int .u64 0)).same hw6
          simp only [List.setIfInBounds_toArray, List.set_cons_zero, List.set_cons_succ, List.eraseIdx_cons_zero, List.eraseIdx_cons_succ] at U6
          clear hw6
          have a0 := (U6.blk 0 rfl).cell (j := 0) (v := .int .u8 0) rfl
          have a1 := (U6.blk 0 rfl).cell (j := 1) (v := .int .i64 0) rfl
          have a2 := (U6.blk 0 rfl).cell (j := 2) (v := .int .u64 0) rfl
          refine bodyPost_ret (v := .tuple #[.agg #[.int .u8 0, .int .i64 0, .int .u64 0], .int .i64 (2)]) ?_ rfl ⟨by rw [condA_bad ws (by rw [E.out]; decide), E.out] <;> rfl, U6.below⟩
          simp [results, Tryz.results93, go_sem, a0, a1, a2]
      · have hw : (if kindF ws = 4 ∨ kindF ws = 5 then 3 else 2) = 3 := by rw [← hK]; rfl
        by_cases hn : ws.length = 3
        · obtain ⟨s0, s1, s2, rfl⟩ : ∃ s0 s1 s2, ws = [s0, s1, s2] := by
            match ws, hn with
            | [s0, s1, s2], _ => exact ⟨_, _, _, rfl⟩
          obtain ⟨b, oo, rfl, hat⟩ := H4.out (by simp)
          have x0 := cell_below HU.out.below (hat 0 _ (show (wsC [s0, s1, s2])[0]? = some (.string s0) from rfl))
          have x1 := cell_below HU.out.below (hat 1 _ (show (wsC [s0, s1, s2])[1]? = some (.string s1) from rfl))
          have x2 := cell_below HU.out.below (hat 2 _ (show (wsC [s0, s1, s2])[2]? = some (.string s2) from rfl))
          have l1 : (if kindF [s0, s1, s2] = 3 then zeroB else [s0, s1, s2].getD 1 zeroB) = s1 := by rw [← hK]; rfl
          have l2 : (if kindF [s0, s1, s2] = 1 ∨ kindF [s0, s1, s2] = 2 then zeroB else [s0, s1, s2].getD ([s0, s1, s2].length - 1) zeroB) = s2 := by rw [← hK]; rfl
          have hg : ¬ (kindF [s0, s1, s2] = 0 ∨ [s0, s1, s2].length ≠ (if kindF [s0, s1, s2] = 4 ∨ kindF [s0, s1, s2] = 5 then 3 else 2)) := by rw [← hK]; simp
          have N1 := fun w' => condSigned s1 w' (hz s1 (by simp))
          have N2 := fun w' => condNumberI s2 1048576 1048576 rfl w' (hz s2 (by simp))
          have EE : condE [s0, s1, s2] = if sgnO s1 = false then 27 else if numO s2 1048576 = false then 27 else chkC 4 (sgnV s1) (numN s2) := by unfold condE; rw [if_neg hg, l1, l2, ← hK]
          have EV : condE [s0, s1, s2] = 0 → condA [s0, s1, s2] = .agg #[.int .u8 4, .int .i64 (sgnV s1), .int .u64 (numN s2 : Nat)] := fun h => by unfold condA condK condL condT; rw [if_pos h, if_pos h, if_pos h, l1, l2, ← hK]; rfl
          obtain ⟨L, hL⟩ : ∃ x, x = sgnV s1 := ⟨_, rfl⟩
          obtain ⟨LO, hLO⟩ : ∃ x, x = sgnO s1 := ⟨_, rfl⟩
          obtain ⟨Tn, hTn⟩ : ∃ x, x = numN s2 := ⟨_, rfl⟩
          obtain ⟨TO, hTO⟩ : ∃ x, x = numO s2 1048576 := ⟨_, rfl⟩
          have hTlt : Tn < 10000000000000000000 := by rw [hTn]; exact numN_lt _
          rw [← hL, ← hTn] at EV
          rw [← hLO, ← hTO, ← hL, ← hTn] at EE
          rw [← hL, ← hLO] at N1
          rw [← hTn, ← hTO] at N2
          clear hL hLO hTn hTO l1 l2 hg hn hw hK HW0 hat H4 hz h1 h2
          cases LO with
          | false =>
            have E := Lib.hid (EE.trans (if_pos rfl))
            clear EE EV N2
            go_wp2_with fail
            go_region
            go_wp2_with fail
            (with_reducible refine (N1 _).mono ?_)
            rintro e w1 ⟨rfl, rfl⟩
            go_wp2_with fail
            refine bodyPost_gen fun w6 hw6 => ?_
            have U6 := ((((HU.out.put 0 rfl 1 (.int .i64 L)).put 2 rfl 0 (.int .u8 0)).put 0 rfl 1 (.int .i64 0)).put 0 rfl 2 (.int .u64 0)).drew.same hw6
            simp only [List.setIfInBounds_toArray, List.set_cons_zero, List.set_cons_succ, List.eraseIdx_cons_zero, List.eraseIdx_cons_succ] at U6
            clear hw6
            have a0 := (U6.blk 0 rfl).cell (j := 0) (v := .int .u8 0) rfl
            have a1 := (U6.blk 0 rfl).cell (j := 1) (v := .int .i64 0) rfl
            have a2 := (U6.blk 0 rfl).cell (j := 2) (v := .int .u64 0) rfl
            refine bodyPost_ret (v := .tuple #[.agg #[.int .u8 0, .int .i64 0, .int .u64 0], .int .i64 (27)]) ?_ rfl ⟨by rw [condA_bad [s0, s1, s2] (by rw [E.out]; decide), E.out] <;> rfl, U6.below⟩
            simp [results, Tryz.results93, go_sem, a0, a1, a2]
          | true =>
            rw [if_neg (by decide : ¬ true = false)] at EE
            cases TO with
            | false =>
              have E := Lib.hid (EE.trans (if_pos rfl))
              clear EE EV
              go_wp2_with fail
              go_region
              go_wp2_with fail
              (with_reducible refine (N1 _).mono ?_)
              rintro e w1 ⟨rfl, rfl⟩
              go_wp2_with fail
              (with_reducible refine (N2 _).mono ?_)
              rintro e w2 ⟨rfl, rfl⟩
              go_wp2_with fail
              refine bodyPost_gen fun w6 hw6 => ?_
              have U6 := (((((HU.out.put 0 rfl 1 (.int .i64 L)).put 0 rfl 2 (.int .u64 (Tn : Nat))).put 2 rfl 0 (.int .u8 0)).put 0 rfl 1 (.int .i64 0)).put 0 rfl 2 (.int .u64 0)).drew.same hw6
              simp only [List.setIfInBounds_toArray, List.set_cons_zero, List.set_cons_succ, List.eraseIdx_cons_zero, List.eraseIdx_cons_succ] at U6
              clear hw6
              have a0 := (U6.blk 0 rfl).cell (j := 0) (v := .int .u8 0) rfl
              have a1 := (U6.blk 0 rfl).cell (j := 1) (v := .int .i64 0) rfl
              have a2 := (U6.blk 0 rfl).cell (j := 2) (v := .int .u64 0) rfl
              refine bodyPost_ret (v := .tuple #[.agg #[.int .u8 0, .int .i64 0, .int .u64 0], .int .i64 (27)]) ?_ rfl ⟨by rw [condA_bad [s0, s1, s2] (by rw [E.out]; decide), E.out] <;> rfl, U6.below⟩
              simp [results, Tryz.results93, go_sem, a0, a1, a2]
            | true =>
              rw [if_neg (by decide : ¬ true = false)] at EE
              have C := fun w' => condCheckI 4 L Tn 4 Tn rfl rfl w' (by decide)
              obtain ⟨ce, hce⟩ : ∃ x, x = chkC 4 L Tn := ⟨_, rfl⟩
              rw [← hce] at EE C
              clear hce
              by_cases hce : ce = 0
              · subst hce
                have E := Lib.hid EE
                have EV2 := Lib.hid (EV EE)
                clear EE EV
                go_wp2_with fail
                go_region
                go_wp2_with fail
                (with_reducible refine (N1 _).mono ?_)
                rintro e w1 ⟨rfl, rfl⟩
                go_wp2_with fail
                (with_reducible refine (N2 _).mono ?_)
                rintro e w2 ⟨rfl, rfl⟩
                go_wp2_with fail
                refine calls_genP fun w3 hw3 => ?_
                have U5 := ((HU.out.put 0 rfl 1 (.int .i64 L)).put 0 rfl 2 (.int .u64 (Tn : Nat))).drew.same hw3
                simp only [List.setIfInBounds_toArray, List.set_cons_zero, List.set_cons_succ, List.eraseIdx_cons_zero] at U5
                clear hw3
                (with_reducible refine (C _).mono ?_)
                rintro e w4 ⟨rfl, hb4⟩
                have U5 := U5.grow hb4
                have d0 := (U5.blk 0 rfl).cell (j := 0) (v := .int .u8 4) rfl
                have d1 := (U5.blk 0 rfl).cell (j := 1) (v := .int .i64 L) rfl
                have d2 := (U5.blk 0 rfl).cell (j := 2) (v := .int .u64 (Tn : Nat)) rfl
                have e0 := (U5.blk 2 rfl).frozen 0
                have e1 := (U5.blk 2 rfl).frozen 1
                have e2 := (U5.blk 2 rfl).frozen 2
                have f0 := (U5.blk 2 rfl).cell (j := 0) (v := .int .u8 0) rfl
                have f1 := (U5.blk 2 rfl).cell (j := 1) (v := .int .i64 0) rfl
                have f2 := (U5.blk 2 rfl).cell (j := 2) (v := .int .u64 0) rfl
                have HU5 := Lib.hid U5
                clear U5 hb4
                go_wp2_with fail
                refine bodyPost_gen fun w6 hw6 => ?_
                have U6 := (((HU5.out.put 2 rfl 0 (.int .u8 4)).put 0 rfl 1 (.int .i64 L)).put 0 rfl 2 (.int .u64 (Tn : Nat))).same hw6
                simp only [List.setIfInBounds_toArray, List.set_cons_zero, List.set_cons_succ, List.eraseIdx_cons_zero, List.eraseIdx_cons_succ] at U6
                clear hw6
                have a0 := (U6.blk 0 rfl).cell (j := 0) (v := .int .u8 4) rfl
                have a1 := (U6.blk 0 rfl).cell (j := 1) (v := .int .i64 L) rfl
                have a2 := (U6.blk 0 rfl).cell (j := 2) (v := .int .u64 (Tn : Nat)) rfl
                refine bodyPost_ret (v := .tuple #[.agg #[.int .u8 4, .int .i64 L, .int .u64 (Tn : Nat)], .int .i64 0]) ?_ rfl ⟨by rw [EV2.out, E.out] <;> rfl, U6.below⟩
                simp [results, Tryz.results93, go_sem, a0, a1, a2]
              · have hce2 : ((ce : Int) == 0) = false := by simp; omega
                have E := Lib.hid EE
                clear EE EV
                go_wp2_with fail
                go_region
                go_wp2_with fail
                (with_reducible refine (N1 _).mono ?_)
                rintro e w1 ⟨rfl, rfl⟩
                go_wp2_with fail
                (with_reducible refine (N2 _).mono ?_)
                rintro e w2 ⟨rfl, rfl⟩
                go_wp2_with fail
                refine calls_genP fun w3 hw3 => ?_
                have U5 := ((HU.out.put 0 rfl 1 (.int .i64 L)).put 0 rfl 2 (.int .u64 (Tn : Nat))).drew.same hw3
                simp only [List.setIfInBounds_toArray, List.set_cons_zero, List.set_cons_succ, List.eraseIdx_cons_zero] at U5
                clear hw3
                (with_reducible refine (C _).mono ?_)
                rintro e w4 ⟨rfl, hb4⟩
                have U5 := U5.grow hb4
                have d0 := (U5.blk 0 rfl).cell (j := 0) (v := .int .u8 4) rfl
                have d1 := (U5.blk 0 rfl).cell (j := 1) (v := .int .i64 L) rfl
                have d2 := (U5.blk 0 rfl).cell (j := 2) (v := .int .u64 (Tn : Nat)) rfl
                have e0 := (U5.blk 2 rfl).frozen 0
                have e1 := (U5.blk 2 rfl).frozen 1
                have e2 := (U5.blk 2 rfl).frozen 2
                have f0 := (U5.blk 2 rfl).cell (j := 0) (v := .int .u8 0) rfl
                have f1 := (U5.blk 2 rfl).cell (j := 1) (v := .int .i64 0) rfl
                have f2 := (U5.blk 2 rfl).cell (j := 2) (v := .int .u64 0) rfl
                have HU5 := Lib.hid U5
                clear U5 hb4
                go_wp2_with fail
                refine bodyPost_gen fun w6 hw6 => ?_
                have U6 := (((HU5.out.put 2 rfl 0 (.int .u8 0)).put 0 rfl 1 (.int .i64 0)).put 0 rfl 2 (.int .u64 0)).same hw6
                simp only [List.setIfInBounds_toArray, List.set_cons_zero, List.set_cons_succ, List.eraseIdx_cons_zero, List.eraseIdx_cons_succ] at U6
                clear hw6
                have a0 := (U6.blk 0 rfl).cell (j := 0) (v := .int .u8 0) rfl
                have a1 := (U6.blk 0 rfl).cell (j := 1) (v := .int .i64 0) rfl
                have a2 := (U6.blk 0 rfl).cell (j := 2) (v := .int .u64 0) rfl
                refine bodyPost_ret (v := .tuple #[.agg #[.int .u8 0, .int .i64 0, .int .u64 0], .int .i64 (ce)]) ?_ rfl ⟨by rw [condA_bad [s0, s1, s2] (by rw [E.out]; exact hce), E.out] <;> rfl, U6.below⟩
                simp [results, Tryz.results93, go_sem, a0, a1, a2]
        · have E := Lib.hid (show condE ws = 2 by unfold condE; rw [hw, if_pos (.inr hn)])
          have hnf : ((ws.length : Int) == 3) = false := by simp; omega
          clear hK H4 HW0 hw hn
          go_wp2_with fail
          refine bodyPost_gen fun w6 hw6 => ?_
          have U6 := (((HU.out.put 2 rfl 0 (.int .u8 0)).put 0 rfl 1 (.int .i64 0)).put 0 rfl 2 (.int .u64 0)).same hw6
          simp only [List.setIfInBounds_toArray, List.set_cons_zero, List.set_cons_succ, List.eraseIdx_cons_zero, List.eraseIdx_cons_succ] at U6
          clear hw6
          have a0 := (U6.blk 0 rfl).cell (j := 0) (v := .int .u8 0) rfl
          have a1 := (U6.blk 0 rfl).cell (j := 1) (v := .int .i64 0) rfl
          have a2 := (U6.blk 0 rfl).cell (j := 2) (v := .int .u64 0) rfl
          refine bodyPost_ret (v := .tuple #[.agg #[.int .u8 0, .int .i64 0, .int .u64 0], .int .i64 (2)]) ?_ rfl ⟨by rw [condA_bad ws (by rw [E.out]; decide), E.out] <;> rfl, U6.below⟩
          simp [results, Tryz.results93, go_sem, a0, a1, a2]
      · have hw : (if kindF ws = 4 ∨ kindF ws = 5 then 3 else 2) = 3 := by rw [← hK]; rfl
        by_cases hn : ws.length = 3
        · obtain ⟨s0, s1, s2, rfl⟩ : ∃ s0 s1 s2, ws = [s0, s1, s2] := by
            match ws, hn with
            | [s0, s1, s2], _ => exact ⟨_, _, _, rfl⟩
          obtain ⟨b, oo, rfl, hat⟩ := H4.out (by simp)
          have x0 := cell_below HU.out.below (hat 0 _ (show (wsC [s0, s1, s2])[0]? = some (.string s0) from rfl))
          have x1 := cell_below HU.out.below (hat 1 _ (show (wsC [s0, s1, s2])[1]? = some (.string s1) from rfl))
          have x2 := cell_below HU.out.below (hat 2 _ (show (wsC [s0, s1, s2])[2]? = some (.string s2) from rfl))
          have l1 : (if kindF [s0, s1, s2] = 3 then zeroB else [s0, s1, s2].getD 1 zeroB) = s1 := by rw [← hK]; rfl
          have l2 : (if kindF [s0, s1, s2] = 1 ∨ kindF [s0, s1, s2] = 2 then zeroB else [s0, s1, s2].getD ([s0, s1, s2].length - 1) zeroB) = s2 := by rw [← hK]; rfl
          have hg : ¬ (kindF [s0, s1, s2] = 0 ∨ [s0, s1, s2].length ≠ (if kindF [s0, s1, s2] = 4 ∨ kindF [s0, s1, s2] = 5 then 3 else 2)) := by rw [← hK]; simp
          have N1 := fun w' => condSigned s1 w' (hz s1 (by simp))
          have N2 := fun w' => condNumberI s2 1048576 1048576 rfl w' (hz s2 (by simp))
          have EE : condE [s0, s1, s2] = if sgnO s1 = false then 27 else if numO s2 1048576 = false then 27 else chkC 5 (sgnV s1) (numN s2) := by unfold condE; rw [if_neg hg, l1, l2, ← hK]
          have EV : condE [s0, s1, s2] = 0 → condA [s0, s1, s2] = .agg #[.int .u8 5, .int .i64 (sgnV s1), .int .u64 (numN s2 : Nat)] := fun h => by unfold condA condK condL condT; rw [if_pos h, if_pos h, if_pos h, l1, l2, ← hK]; rfl
          obtain ⟨L, hL⟩ : ∃ x, x = sgnV s1 := ⟨_, rfl⟩
          obtain ⟨LO, hLO⟩ : ∃ x, x = sgnO s1 := ⟨_, rfl⟩
          obtain ⟨Tn, hTn⟩ : ∃ x, x = numN s2 := ⟨_, rfl⟩
          obtain ⟨TO, hTO⟩ : ∃ x, x = numO s2 1048576 := ⟨_, rfl⟩
          have hTlt : Tn < 10000000000000000000 := by rw [hTn]; exact numN_lt _
          rw [← hL, ← hTn] at EV
          rw [← hLO, ← hTO, ← hL, ← hTn] at EE
          rw [← hL, ← hLO] at N1
          rw [← hTn, ← hTO] at N2
          clear hL hLO hTn hTO l1 l2 hg hn hw hK HW0 hat H4 hz h1 h2
          cases LO with
          | false =>
            have E := Lib.hid (EE.trans (if_pos rfl))
            clear EE EV N2
            go_wp2_with fail
            go_region
            go_wp2_with fail
            (with_reducible refine (N1 _).mono ?_)
            rintro e w1 ⟨rfl, rfl⟩
            go_wp2_with fail
            refine bodyPost_gen fun w6 hw6 => ?_
            have U6 := ((((HU.out.put 0 rfl 1 (.int .i64 L)).put 2 rfl 0 (.int .u8 0)).put 0 rfl 1 (.int .i64 0)).put 0 rfl 2 (.int .u64 0)).drew.same hw6
            simp only [List.setIfInBounds_toArray, List.set_cons_zero, List.set_cons_succ, List.eraseIdx_cons_zero, List.eraseIdx_cons_succ] at U6
            clear hw6
            have a0 := (U6.blk 0 rfl).cell (j := 0) (v := .int .u8 0) rfl
            have a1 := (U6.blk 0 rfl).cell (j := 1) (v := .int .i64 0) rfl
            have a2 := (U6.blk 0 rfl).cell (j := 2) (v := .int .u64 0) rfl
            refine bodyPost_ret (v := .tuple #[.agg #[.int .u8 0, .int .i64 0, .int .u64 0], .int .i64 (27)]) ?_ rfl ⟨by rw [condA_bad [s0, s1, s2] (by rw [E.out]; decide), E.out] <;> rfl, U6.below⟩
            simp [results, Tryz.results93, go_sem, a0, a1, a2]
          | true =>
            rw [if_neg (by decide : ¬ true = false)] at EE
            cases TO with
            | false =>
              have E := Lib.hid (EE.trans (if_pos rfl))
              clear EE EV
              go_wp2_with fail
              go_region
              go_wp2_with fail
              (with_reducible refine (N1 _).mono ?_)
              rintro e w1 ⟨rfl, rfl⟩
              go_wp2_with fail
              (with_reducible refine (N2 _).mono ?_)
              rintro e w2 ⟨rfl, rfl⟩
              go_wp2_with fail
              refine bodyPost_gen fun w6 hw6 => ?_
              have U6 := (((((HU.out.put 0 rfl 1 (.int .i64 L)).put 0 rfl 2 (.int .u64 (Tn : Nat))).put 2 rfl 0 (.int .u8 0)).put 0 rfl 1 (.int .i64 0)).put 0 rfl 2 (.int .u64 0)).drew.same hw6
              simp only [List.setIfInBounds_toArray, List.set_cons_zero, List.set_cons_succ, List.eraseIdx_cons_zero, List.eraseIdx_cons_succ] at U6
              clear hw6
              have a0 := (U6.blk 0 rfl).cell (j := 0) (v := .int .u8 0) rfl
              have a1 := (U6.blk 0 rfl).cell (j := 1) (v := .int .i64 0) rfl
              have a2 := (U6.blk 0 rfl).cell (j := 2) (v := .int .u64 0) rfl
              refine bodyPost_ret (v := .tuple #[.agg #[.int .u8 0, .int .i64 0, .int .u64 0], .int .i64 (27)]) ?_ rfl ⟨by rw [condA_bad [s0, s1, s2] (by rw [E.out]; decide), E.out] <;> rfl, U6.below⟩
              simp [results, Tryz.results93, go_sem, a0, a1, a2]
            | true =>
              rw [if_neg (by decide : ¬ true = false)] at EE
              have C := fun w' => condCheckI 5 L Tn 5 Tn rfl rfl w' (by decide)
              obtain ⟨ce, hce⟩ : ∃ x, x = chkC 5 L Tn := ⟨_, rfl⟩
              rw [← hce] at EE C
              clear hce
              by_cases hce : ce = 0
              · subst hce
                have E := Lib.hid EE
                have EV2 := Lib.hid (EV EE)
                clear EE EV
                go_wp2_with fail
                go_region
                go_wp2_with fail
                (with_reducible refine (N1 _).mono ?_)
                rintro e w1 ⟨rfl, rfl⟩
                go_wp2_with fail
                (with_reducible refine (N2 _).mono ?_)
                rintro e w2 ⟨rfl, rfl⟩
                go_wp2_with fail
                refine calls_genP fun w3 hw3 => ?_
                have U5 := ((HU.out.put 0 rfl 1 (.int .i64 L)).put 0 rfl 2 (.int .u64 (Tn : Nat))).drew.same hw3
                simp only [List.setIfInBounds_toArray, List.set_cons_zero, List.set_cons_succ, List.eraseIdx_cons_zero] at U5
                clear hw3
                (with_reducible refine (C _).mono ?_)
                rintro e w4 ⟨rfl, hb4⟩
                have U5 := U5.grow hb4
                have d0 := (U5.blk 0 rfl).cell (j := 0) (v := .int .u8 5) rfl
                have d1 := (U5.blk 0 rfl).cell (j := 1) (v := .int .i64 L) rfl
                have d2 := (U5.blk 0 rfl).cell (j := 2) (v := .int .u64 (Tn : Nat)) rfl
                have e0 := (U5.blk 2 rfl).frozen 0
                have e1 := (U5.blk 2 rfl).frozen 1
                have e2 := (U5.blk 2 rfl).frozen 2
                have f0 := (U5.blk 2 rfl).cell (j := 0) (v := .int .u8 0) rfl
                have f1 := (U5.blk 2 rfl).cell (j := 1) (v := .int .i64 0) rfl
                have f2 := (U5.blk 2 rfl).cell (j := 2) (v := .int .u64 0) rfl
                have HU5 := Lib.hid U5
                clear U5 hb4
                go_wp2_with fail
                refine bodyPost_gen fun w6 hw6 => ?_
                have U6 := (((HU5.out.put 2 rfl 0 (.int .u8 5)).put 0 rfl 1 (.int .i64 L)).put 0 rfl 2 (.int .u64 (Tn : Nat))).same hw6
                simp only [List.setIfInBounds_toArray, List.set_cons_zero, List.set_cons_succ, List.eraseIdx_cons_zero, List.eraseIdx_cons_succ] at U6
                clear hw6
                have a0 := (U6.blk 0 rfl).cell (j := 0) (v := .int .u8 5) rfl
                have a1 := (U6.blk 0 rfl).cell (j := 1) (v := .int .i64 L) rfl
                have a2 := (U6.blk 0 rfl).cell (j := 2) (v := .int .u64 (Tn : Nat)) rfl
                refine bodyPost_ret (v := .tuple #[.agg #[.int .u8 5, .int .i64 L, .int .u64 (Tn : Nat)], .int .i64 0]) ?_ rfl ⟨by rw [EV2.out, E.out] <;> rfl, U6.below⟩
                simp [results, Tryz.results93, go_sem, a0, a1, a2]
              · have hce2 : ((ce : Int) == 0) = false := by simp; omega
                have E := Lib.hid EE
                clear EE EV
                go_wp2_with fail
                go_region
                go_wp2_with fail
                (with_reducible refine (N1 _).mono ?_)
                rintro e w1 ⟨rfl, rfl⟩
                go_wp2_with fail
                (with_reducible refine (N2 _).mono ?_)
                rintro e w2 ⟨rfl, rfl⟩
                go_wp2_with fail
                refine calls_genP fun w3 hw3 => ?_
                have U5 := ((HU.out.put 0 rfl 1 (.int .i64 L)).put 0 rfl 2 (.int .u64 (Tn : Nat))).drew.same hw3
                simp only [List.setIfInBounds_toArray, List.set_cons_zero, List.set_cons_succ, List.eraseIdx_cons_zero] at U5
                clear hw3
                (with_reducible refine (C _).mono ?_)
                rintro e w4 ⟨rfl, hb4⟩
                have U5 := U5.grow hb4
                have d0 := (U5.blk 0 rfl).cell (j := 0) (v := .int .u8 5) rfl
                have d1 := (U5.blk 0 rfl).cell (j := 1) (v := .int .i64 L) rfl
                have d2 := (U5.blk 0 rfl).cell (j := 2) (v := .int .u64 (Tn : Nat)) rfl
                have e0 := (U5.blk 2 rfl).frozen 0
                have e1 := (U5.blk 2 rfl).frozen 1
                have e2 := (U5.blk 2 rfl).frozen 2
                have f0 := (U5.blk 2 rfl).cell (j := 0) (v := .int .u8 0) rfl
                have f1 := (U5.blk 2 rfl).cell (j := 1) (v := .int .i64 0) rfl
                have f2 := (U5.blk 2 rfl).cell (j := 2) (v := .int .u64 0) rfl
                have HU5 := Lib.hid U5
                clear U5 hb4
                go_wp2_with fail
                refine bodyPost_gen fun w6 hw6 => ?_
                have U6 := (((HU5.out.put 2 rfl 0 (.int .u8 0)).put 0 rfl 1 (.int .i64 0)).put 0 rfl 2 (.int .u64 0)).same hw6
                simp only [List.setIfInBounds_toArray, List.set_cons_zero, List.set_cons_succ, List.eraseIdx_cons_zero, List.eraseIdx_cons_succ] at U6
                clear hw6
                have a0 := (U6.blk 0 rfl).cell (j := 0) (v := .int .u8 0) rfl
                have a1 := (U6.blk 0 rfl).cell (j := 1) (v := .int .i64 0) rfl
                have a2 := (U6.blk 0 rfl).cell (j := 2) (v := .int .u64 0) rfl
                refine bodyPost_ret (v := .tuple #[.agg #[.int .u8 0, .int .i64 0, .int .u64 0], .int .i64 (ce)]) ?_ rfl ⟨by rw [condA_bad [s0, s1, s2] (by rw [E.out]; exact hce), E.out] <;> rfl, U6.below⟩
                simp [results, Tryz.results93, go_sem, a0, a1, a2]
        · have E := Lib.hid (show condE ws = 2 by unfold condE; rw [hw, if_pos (.inr hn)])
          have hnf : ((ws.length : Int) == 3) = false := by simp; omega
          clear hK H4 HW0 hw hn
          go_wp2_with fail
          refine bodyPost_gen fun w6 hw6 => ?_
          have U6 := (((HU.out.put 2 rfl 0 (.int .u8 0)).put 0 rfl 1 (.int .i64 0)).put 0 rfl 2 (.int .u64 0)).same hw6
          simp only [List.setIfInBounds_toArray, List.set_cons_zero, List.set_cons_succ, List.eraseIdx_cons_zero, List.eraseIdx_cons_succ] at U6
          clear hw6
          have a0 := (U6.blk 0 rfl).cell (j := 0) (v := .int .u8 0) rfl
          have a1 := (U6.blk 0 rfl).cell (j := 1) (v := .int .i64 0) rfl
          have a2 := (U6.blk 0 rfl).cell (j := 2) (v := .int .u64 0) rfl
          refine bodyPost_ret (v := .tuple #[.agg #[.int .u8 0, .int .i64 0, .int .u64 0], .int .i64 (2)]) ?_ rfl ⟨by rw [condA_bad ws (by rw [E.out]; decide), E.out] <;> rfl, U6.below⟩
          simp [results, Tryz.results93, go_sem, a0, a1, a2]
end Go.Proofs.YtgpojkofegajeaaGreatDoor
