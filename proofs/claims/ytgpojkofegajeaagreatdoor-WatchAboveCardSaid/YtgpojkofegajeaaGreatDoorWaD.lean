/-
  The walk of WatchAbove.
-/
import Derived.Test.YtgpojkofegajeaaGreatDoorWaB
import Derived.Test.YtgpojkofegajeaaGreatDoorMg48
namespace Go.Proofs.YtgpojkofegajeaaGreatDoor
open Go.RowKit
set_option maxRecDepth 100000

def intOfW : Value → Int
  | .int _ x => x
  | _ => 0
def zeroSm : SmR := ⟨0, 0, 0, 0, 0, 0, 0, 0, 0, 0⟩
theorem zeroSm_ok : zeroSm.ok := by unfold SmR.ok zeroSm; decide
theorem zeroSm_rule (v1 v2 : Value) : (smV zeroSm v1 v2).agg = .agg #[.string ⟨#[104, 111, 116]⟩, .string ⟨#[116, 101, 109, 112]⟩, v1, .int .u8 1, .int .i64 (condLim 0 0), .int .u64 (condTicks 0 0 : Nat), .int .u64 0, .int .u64 0, .int .u8 0, v2] := by rfl
theorem zeroSm_call (w : World) : Calls Tryz.prog 7 #[.agg #[.int .u8 0, .int .u8 0, .int .u8 0, .int .u8 0, .int .u8 0, .int .i16 0, .int .u8 0, .int .u8 0, .int .u8 0, .int .u8 0]] w fun e w' => ∃ (A1 : Option Addr) (q1 : Nat) (A2 : Option Addr) (q2 : Nat),
      e = .returned (.agg #[.string ⟨#[104, 111, 116]⟩, .string ⟨#[116, 101, 109, 112]⟩, .slice A1 0 q1, .int .u8 1, .int .i64 (condLim 0 0), .int .u64 (condTicks 0 0 : Nat), .int .u64 0, .int .u64 0, .int .u8 0, .slice A2 0 q2]) ∧ Below w.heap.size w w' := by
  refine (smallRuleS zeroSm zeroSm_ok w).mono ?_
  rintro e w' ⟨A1, q1, A2, q2, rfl, _, hb⟩
  exact ⟨A1, q1, A2, q2, by rw [zeroSm_rule]; rfl, hb⟩
theorem aboveChk (lim : Int) : chkRs [(rW ⟨#[104, 111, 116]⟩ ⟨#[116, 101, 109, 112]⟩ none 0 lim 0 0 none 0)] = 0 := by
  simp only [chkRs, goL, RuV.err, rW]
  rfl
set_option maxHeartbeats 8000000 in
theorem watchAboveWalk (lim : Int) (vs : List Int) (v : Value) (mx : Int) (w : World) (hv : Rd w 1 v vs.length (vs.map (Value.int .i64))) (hm : w.cell? ⟨2, 0, none⟩ = some (.int .i64 mx)) (hT : Lib.TabIs Tryz.prog w "strings.asciiSpace" .u8 Lib.asciiSpaceTab) :
    Calls Tryz.prog 3 #[.int .i64 lim, v] w fun e w' => e = .returned (.bool true) ∧ Below w.heap.size w w' := by
  have KA := awake16 mx w hm hT
  clear hm hT
  obtain ⟨A, c, rfl, h1, h2, h3, h4⟩ := id hv
  unfold maxLen at h3
  obtain ⟨n, hn⟩ : ∃ n, n = vs.length := ⟨_, rfl⟩
  rw [← hn] at h2 h4 hv ⊢
  by_cases h60 : 60 < n
  · have d : decide ((60 : Int) < n) = true := by simp; omega
    clear h1 h2 h3 h4 hv hn h60
    go_enter Tryz.func3, Tryz.ntmps3
    go_wp2_with fail
    (with_reducible refine KA.mono ?_)
    rintro e w1 ⟨rfl, hb1⟩
    go_wp2_with fail
    go_ret
    exact ⟨rfl, hb1⟩
  have d : decide ((60 : Int) < n) = false := by simp; omega
  have HN := Lib.hid hn
  clear hn h1 h2
  go_enter Tryz.func3, Tryz.ntmps3
  go_wp2_with fail
  (with_reducible refine KA.mono ?_)
  rintro e w1 ⟨rfl, hb1⟩
  go_wp2_with fail
  (with_reducible refine (zeroSm_call w1).mono ?_)
  rintro e w2 ⟨A1, q1, A2, q2, rfl, hb2⟩
  generalize condLim 0 0 = L0
  generalize condTicks 0 0 = T0
  have U0 := ((Upd.nil [] w).grow hb1).grow hb2
  clear KA hb1 hb2
  go_upto_region 8 with fail
  refine wp_gen fun w3 hw3 => ?_
  have U1 := (U0.alloc #[.string ⟨#[104, 111, 116]⟩, .string ⟨#[116, 101, 109, 112]⟩, .slice none 0 0, .int .u8 1, .int .i64 lim, .int .u64 0, .int .u64 0, .int .u64 0, .int .u8 0, .slice none 0 0] 32).same hw3
  clear hw3 U0
  have y0 := (U1.blk 0 rfl).cell (j := 0) (v := .string ⟨#[104, 111, 116]⟩) rfl
  have y1 := (U1.blk 0 rfl).cell (j := 1) (v := .string ⟨#[116, 101, 109, 112]⟩) rfl
  have y2 := (U1.blk 0 rfl).cell (j := 2) (v := .slice none 0 0) rfl
  have y3 := (U1.blk 0 rfl).cell (j := 3) (v := .int .u8 1) rfl
  have y4 := (U1.blk 0 rfl).cell (j := 4) (v := .int .i64 lim) rfl
  have y5 := (U1.blk 0 rfl).cell (j := 5) (v := .int .u64 0) rfl
  have y6 := (U1.blk 0 rfl).cell (j := 6) (v := .int .u64 0) rfl
  have y7 := (U1.blk 0 rfl).cell (j := 7) (v := .int .u64 0) rfl
  have y8 := (U1.blk 0 rfl).cell (j := 8) (v := .int .u8 0) rfl
  have y9 := (U1.blk 0 rfl).cell (j := 9) (v := .slice none 0 0) rfl
  go_wp2_with fail
  refine calls_genP fun w4 hw4 => ?_
  have U2 := (U1.alloc #[.string ⟨#[104, 111, 116]⟩, .string ⟨#[116, 101, 109, 112]⟩, .slice none 0 0, .int .u8 1, .int .i64 lim, .int .u64 0, .int .u64 0, .int .u64 0, .int .u8 0, .slice none 0 0] 32).same hw4
  clear hw4 U1 y0 y1 y2 y3 y4 y5 y6 y7 y8 y9
  have KN : Calls Tryz.prog 8 #[.slice (some ⟨w3.heap.size, 0, none⟩) 1 1, .slice none 0 0] w4 fun e w' => ∃ b rv ms mp mk, e = .returned (.tuple #[.pointer (some ⟨b, 0, none⟩), .int .i64 0]) ∧ Upd [] w4 (wParts b rv [(rW ⟨#[104, 111, 116]⟩ ⟨#[116, 101, 109, 112]⟩ none 0 lim 0 0 none 0)] ms [] (.slice none 0 0) [] mp [] mk []) w' :=
    wNew_ok (.slice (some ⟨w3.heap.size, 0, none⟩) 1 1) [(rW ⟨#[104, 111, 116]⟩ ⟨#[116, 101, 109, 112]⟩ none 0 lim 0 0 none 0)] w4 (rd_oneW (U2.blk 0 rfl) (n := 10) rfl) (by
      intro r hr
      rw [List.mem_singleton.1 hr]
      exact ⟨by show (⟨#[104, 111, 116]⟩ : ByteArray).size ≤ maxLen; unfold maxLen; decide, by show (⟨#[116, 101, 109, 112]⟩ : ByteArray).size ≤ maxLen; unfold maxLen; decide, rd_nilW _ _ _ _ (Nat.zero_le _), (fun _ h => nomatch h), rd_nilW _ _ _ _ (Nat.zero_le _), (fun _ h => nomatch h), by show 1 < 256; decide, by show 0 < 256; decide⟩) (aboveChk lim) (by simp)
  (with_reducible refine KN.mono ?_)
  rintro e w5 ⟨b, rv, ms, mp, mk, rfl, hu⟩
  have U3 := (Upd.grp (l := wParts b rv _ ms [] (.slice none 0 0) [] mp [] mk []) (U2.call hu)).drop 1
  simp only [List.eraseIdx_cons_succ, List.eraseIdx_cons_zero] at U3
  clear U2 hu KN
  have hvb : ∀ w' (C : List Chunk), Upd [] w C w' → Rd w' 1 (.slice A n c) n (vs.map (Value.int .i64)) := fun w' C h => hv.below h.below
  go_wp2_with fail
  go_loopw [37] (fun i wr => ∃ (k : Nat) (C : List Chunk), k ≤ n ∧ i = .int .i64 k ∧ ((k = 0 ∧ WS0 (rW ⟨#[104, 111, 116]⟩ ⟨#[116, 101, 109, 112]⟩ none 0 lim 0 0 none 0) b C) ∨ (∃ x, 0 < k ∧ WS1 (rW ⟨#[104, 111, 116]⟩ ⟨#[116, 101, 109, 112]⟩ none 0 lim 0 0 none 0) b (k - 1) x C)) ∧ Upd [] w [chGrp C, chBlk w2.heap.size #[.string ⟨#[104, 111, 116]⟩, .string ⟨#[116, 101, 109, 112]⟩, .slice none 0 0, .int .u8 1, .int .i64 lim, .int .u64 0, .int .u64 0, .int .u64 0, .int .u8 0, .slice none 0 0] 32] wr) (fun i _ => n - (intOfW i).toNat)
  case atStart => exact ⟨0, _, Nat.zero_le _, rfl, .inl ⟨rfl, rv, ms, mp, mk, rfl⟩, U3⟩
  case round =>
    obtain ⟨q, C, hq, rfl, hS, U⟩ := hrel
    by_cases hqn : q < n
    · have hd : decide (q < n) = true := by simp [hqn]
      obtain ⟨bb, o, rfl, hat⟩ := h4 (by omega)
      have hat := hat.below U.below
      obtain ⟨xv, hxv⟩ : ∃ x, vs[q]? = some x := ⟨_, List.getElem?_eq_getElem (by rw [← HN.out]; exact hqn)⟩
      have cx : wr.cell? ⟨bb, o + q, none⟩ = some (.int .i64 xv) := hat q _ (by rw [List.getElem?_map, hxv]; rfl)
      have cm := (U.blk 1 rfl).cell (j := 1) (v := .string ⟨#[116, 101, 109, 112]⟩) rfl
      have wq : IntKind.u64.wrap (q : Int) = q := by rw [IntKind.wrap_u64]; omega
      have KAd : Calls Tryz.prog 9 #[.pointer (some ⟨b, 0, none⟩), .int .u64 q, .agg #[.string ⟨#[116, 101, 109, 112]⟩, .slice none 0 0, .int .i64 xv]] wr fun e w' => e = .returned (.int .i64 0) ∧ ∃ C', WS1 (rW ⟨#[104, 111, 116]⟩ ⟨#[116, 101, 109, 112]⟩ none 0 lim 0 0 none 0) b q xv C' ∧ Upd (chGrp C).fp wr [chGrp C'] w' := by
        have hm1 : (⟨#[116, 101, 109, 112]⟩ : ByteArray).size ≤ maxLen := by unfold maxLen; decide
        have hn1 : nameB ⟨#[116, 101, 109, 112]⟩ = true := by decide +kernel
        rcases hS with ⟨rfl, h0⟩ | ⟨x0, hk0, h1⟩
        · exact wAddFirst _ _ _ _ _ _ _ _ _ b 0 xv C wr h0 (U.get 0 rfl) hm1 hn1 (by omega)
        · exact wAddNext _ _ _ _ _ _ _ _ _ b q xv C wr (q - 1) x0 h1 (by omega) (U.get 0 rfl) hm1 hn1 (by omega)
      clear hS hat hxv
      go_wp2_with fail
      (with_reducible refine KAd.mono ?_)
      rintro e w6 ⟨rfl, C6, hS6, hu⟩
      have U6 := U.turn 0 rfl hu
      have KT := wTickW _ _ _ _ _ _ _ _ _ b q xv C6 w6 q hS6 (U6.get 0 rfl) (by unfold maxLen; decide) (Nat.zero_le _) (Nat.zero_le _) (by omega)
      clear hu U KAd hS6 cx cm
      go_wp2_with fail
      (with_reducible refine KT.mono ?_)
      rintro e w7 ⟨v7, v8, va, C7, rfl, hS7, _, hu⟩
      have U7 := U6.turn 0 rfl hu
      obtain ⟨g7, c7, rfl⟩ := row_some (U7.row 1 rfl) (by decide)
      have y2 := row_cell (U7.row 1 rfl) (by decide) 2 (.bool (decide (lim < xv))) rfl
      have hbb : ∀ b : Bool, (b == b) = true := by decide
      have U8 := U7.drop 1
      simp only [List.cons_append, List.nil_append, List.eraseIdx_cons_succ, List.eraseIdx_cons_zero] at U8
      clear hu U6 KT U7
      go_wp2_with fail
      go_roundw
      case rel => exact ⟨q + 1, C7, by omega, by simp, .inr ⟨xv, by omega, hS7⟩, U8⟩
      case measure => simp [intOfW]; omega
    · have hd : decide (q < n) = false := by simp; omega
      have hB := U.below
      clear hS U hv hvb U3
      go_wp2_with fail
      go_ret
      exact ⟨rfl, hB⟩
end Go.Proofs.YtgpojkofegajeaaGreatDoor
