/-
  Rules compared; whether a rule asks of a series; an alert's labels.
-/
import Derived.Test.YtebnbbbiobaneaaGreatDoorRuC
import Derived.Test.YtebnbbbiobaneaaGreatDoorLEq
import Derived.Test.YtebnbbbiobaneaaGreatDoorLRef
import Derived.Test.YtebnbbbiobaneaaGreatDoorLClo
import Derived.Test.YtebnbbbiobaneaaGreatDoorLParse
import Derived.Test.YtebnbbbiobaneaaGreatDoorFreeS
import Derived.Deep.AppendSrc
import Derived.RegionTactic
import Derived.BigRegion
import Derived.Laws.StructEq
import Derived.Deep.CutRange
namespace Go.Proofs.YtebnbbbiobaneaaGreatDoor
open Go.RowKit
set_option maxRecDepth 100000

theorem eqCSt : Tryz.prog.underlying 59 = some (.struct (Tryz.prog.fieldsOf 59)) := by kernel_rfl
theorem eqCHeld : Tryz.prog.stoodInHeld 59 = false := by kernel_rfl
theorem eqCFs : (Tryz.prog.fieldsOf 59).toList.map (fun f => (f.name == "_", f.type, f.offset)) = [(false, 57, 0), (false, 2, 1), (false, 35, 2)] := by kernel_rfl
theorem eqCEq (a b c a' b' c' : Int) (w : World) : (binOp .eql 59 (.agg #[.int .u8 a, .int .i64 b, .int .u64 c]) (.agg #[.int .u8 a', .int .i64 b', .int .u64 c'])).run Tryz.prog w = .ok (.bool ((a == a') && (b == b') && (c == c'))) w := by
  rw [run_eql_struct, run_equalIn_struct w 9999 59 _ _ eqCSt eqCHeld]
  have h := eqCFs
  generalize (Tryz.prog.fieldsOf 59).toList = fs at h ⊢
  obtain ⟨f0, f1, f2, rfl⟩ : ∃ f0 f1 f2, fs = [f0, f1, f2] := by
    rcases fs with _ | ⟨f0, _ | ⟨f1, _ | ⟨f2, _ | ⟨fx, r⟩⟩⟩⟩
    · simp at h
    · simp at h
    · simp at h
    · exact ⟨_, _, _, rfl⟩
    · simp at h
  simp only [List.map_cons, List.map_nil, List.cons.injEq, Prod.mk.injEq, and_true] at h
  obtain ⟨⟨n0, t0, o0⟩, ⟨n1, t1, o1⟩, ⟨n2, t2, o2⟩⟩ := h
  have n0' : f0.name ≠ "_" := by simpa using n0
  have n1' : f1.name ≠ "_" := by simpa using n1
  have n2' : f2.name ≠ "_" := by simpa using n2
  simp [Op.eqFields, n0', n1', n2', t0, t1, t2, o0, o1, o2, part, Tryz.isAgg57, Tryz.isAgg2, Tryz.isAgg35, go_sem]
  by_cases h0 : a = a' <;> by_cases h1 : b = b' <;> by_cases h2 : c = c' <;> simp [h0, h1, h2]
theorem eqWSt : Tryz.prog.underlying 61 = some (.struct (Tryz.prog.fieldsOf 61)) := by kernel_rfl
theorem eqWHeld : Tryz.prog.stoodInHeld 61 = false := by kernel_rfl
theorem eqWFs : (Tryz.prog.fieldsOf 61).toList.map (fun f => (f.name == "_", f.type, f.offset)) = [(false, 35, 0), (false, 35, 1)] := by kernel_rfl
theorem eqWEq (a b a' b' : Int) (w : World) : (binOp .eql 61 (.agg #[.int .u64 a, .int .u64 b]) (.agg #[.int .u64 a', .int .u64 b'])).run Tryz.prog w = .ok (.bool ((a == a') && (b == b'))) w := by
  rw [run_eql_struct, run_equalIn_struct w 9999 61 _ _ eqWSt eqWHeld]
  have h := eqWFs
  generalize (Tryz.prog.fieldsOf 61).toList = fs at h ⊢
  obtain ⟨f0, f1, rfl⟩ : ∃ f0 f1, fs = [f0, f1] := by
    rcases fs with _ | ⟨f0, _ | ⟨f1, _ | ⟨fx, r⟩⟩⟩
    · simp at h
    · simp at h
    · exact ⟨_, _, rfl⟩
    · simp at h
  simp only [List.map_cons, List.map_nil, List.cons.injEq, Prod.mk.injEq, and_true] at h
  obtain ⟨⟨n0, t0, o0⟩, ⟨n1, t1, o1⟩⟩ := h
  have n0' : f0.name ≠ "_" := by simpa using n0
  have n1' : f1.name ≠ "_" := by simpa using n1
  simp [Op.eqFields, n0', n1', t0, t1, o0, o1, part, Tryz.isAgg35, go_sem]
  by_cases h0 : a = a' <;> by_cases h1 : b = b' <;> simp [h0, h1]
theorem eqRSt : Tryz.prog.underlying 75 = some (.struct (Tryz.prog.fieldsOf 75)) := by kernel_rfl
theorem eqRHeld : Tryz.prog.stoodInHeld 75 = false := by kernel_rfl
theorem eqRFs : (Tryz.prog.fieldsOf 75).toList.map (fun f => (f.name == "_", f.type, f.offset)) = [(false, 3, 0), (false, 2, 1), (false, 35, 2)] := by kernel_rfl
theorem eqREq (a b c a' b' c' : Int) (w : World) : (binOp .eql 75 (.agg #[.int .i64 a, .int .i64 b, .int .u64 c]) (.agg #[.int .i64 a', .int .i64 b', .int .u64 c'])).run Tryz.prog w = .ok (.bool ((a == a') && (b == b') && (c == c'))) w := by
  rw [run_eql_struct, run_equalIn_struct w 9999 75 _ _ eqRSt eqRHeld]
  have h := eqRFs
  generalize (Tryz.prog.fieldsOf 75).toList = fs at h ⊢
  obtain ⟨f0, f1, f2, rfl⟩ : ∃ f0 f1 f2, fs = [f0, f1, f2] := by
    rcases fs with _ | ⟨f0, _ | ⟨f1, _ | ⟨f2, _ | ⟨fx, r⟩⟩⟩⟩
    · simp at h
    · simp at h
    · simp at h
    · exact ⟨_, _, _, rfl⟩
    · simp at h
  simp only [List.map_cons, List.map_nil, List.cons.injEq, Prod.mk.injEq, and_true] at h
  obtain ⟨⟨n0, t0, o0⟩, ⟨n1, t1, o1⟩, ⟨n2, t2, o2⟩⟩ := h
  have n0' : f0.name ≠ "_" := by simpa using n0
  have n1' : f1.name ≠ "_" := by simpa using n1
  have n2' : f2.name ≠ "_" := by simpa using n2
  simp [Op.eqFields, n0', n1', n2', t0, t1, t2, o0, o1, o2, part, Tryz.isAgg3, Tryz.isAgg2, Tryz.isAgg35, go_sem]
  by_cases h0 : a = a' <;> by_cases h1 : b = b' <;> by_cases h2 : c = c' <;> simp [h0, h1, h2]
/-- Are two rules the same? -/
def sm7 (b1 b2 b3 b4 b5 b6 b7 : Bool) : Bool := b1 && b2 && b3 && b4 && b5 && b6 && b7
set_option maxHeartbeats 4000000 in
theorem ruSame (nm me : ByteArray) (A1 : Option Addr) (q1 : Nat) (ps1 : List Pr) (k : Nat) (lim : Int) (tk fo ke pr : Nat) (A2 : Option Addr) (q2 : Nat) (ps2 : List Pr) (nm' me' : ByteArray) (A1' : Option Addr) (q1' : Nat) (ps1' : List Pr) (k' : Nat) (lim' : Int) (tk' fo' ke' pr' : Nat) (A2' : Option Addr) (q2' : Nat) (ps2' : List Pr) (w : World) (hr1 : Rd w 2 (.slice A1 ps1.length q1) ps1.length (pairCells ps1)) (hs1 : Rd w 2 (.slice A1' ps1'.length q1') ps1'.length (pairCells ps1')) (hr2 : Rd w 2 (.slice A2 ps2.length q2) ps2.length (pairCells ps2)) (hs2 : Rd w 2 (.slice A2' ps2'.length q2') ps2'.length (pairCells ps2')) :
    Calls Tryz.prog 26 #[.agg #[.string nm, .string me, .slice A1 ps1.length q1, .int .u8 k, .int .i64 lim, .int .u64 tk, .int .u64 fo, .int .u64 ke, .int .u8 pr, .slice A2 ps2.length q2], .agg #[.string nm', .string me', .slice A1' ps1'.length q1', .int .u8 k', .int .i64 lim', .int .u64 tk', .int .u64 fo', .int .u64 ke', .int .u8 pr', .slice A2' ps2'.length q2']] w fun e w' => e = .returned (.bool (sm7 (decide (nm = nm')) (decide (me = me')) (sameB ps1 ps1') (((k : Int) == k') && (lim == lim') && ((tk : Int) == tk')) (((fo : Int) == fo') && ((ke : Int) == ke')) ((pr : Int) == pr') (sameB ps2 ps2'))) ∧ Below w.heap.size w w' := by
  have U0 := ((Upd.nil [] w).alloc #[.string nm, .string me, .slice A1 ps1.length q1, .int .u8 k, .int .i64 lim, .int .u64 tk, .int .u64 fo, .int .u64 ke, .int .u8 pr, .slice A2 ps2.length q2] 63).alloc #[.string nm', .string me', .slice A1' ps1'.length q1', .int .u8 k', .int .i64 lim', .int .u64 tk', .int .u64 fo', .int .u64 ke', .int .u8 pr', .slice A2' ps2'.length q2'] 63
  rw [allocSzC] at U0
  have K3 := fun w' (hb : Below w.heap.size w w') => lSame _ _ ps1 ps1' w' (hr1.below hb) (hs1.below hb)
  have K7 := fun w' (hb : Below w.heap.size w w') => lSame _ _ ps2 ps2' w' (hr2.below hb) (hs2.below hb)
  have K4 := fun w' => eqCEq k lim tk k' lim' tk' w'
  have K5 := fun w' => eqWEq fo ke fo' ke' w'
  obtain ⟨b1, h1⟩ : ∃ b, b = decide (nm = nm') := ⟨_, rfl⟩
  obtain ⟨b2, h2⟩ : ∃ b, b = decide (me = me') := ⟨_, rfl⟩
  obtain ⟨b3, h3⟩ : ∃ b, b = sameB ps1 ps1' := ⟨_, rfl⟩
  obtain ⟨b4, h4⟩ : ∃ b, b = (((k : Int) == k') && (lim == lim') && ((tk : Int) == tk')) := ⟨_, rfl⟩
  obtain ⟨b5, h5⟩ : ∃ b, b = (((fo : Int) == fo') && ((ke : Int) == ke')) := ⟨_, rfl⟩
  obtain ⟨b6, h6⟩ : ∃ b, b = ((pr : Int) == pr') := ⟨_, rfl⟩
  obtain ⟨b7, h7⟩ : ∃ b, b = sameB ps2 ps2' := ⟨_, rfl⟩
  rw [← h3] at K3 ⊢
  rw [← h7] at K7 ⊢
  rw [← h4] at K4 ⊢
  rw [← h5] at K5 ⊢
  rw [← h1, ← h2, ← h6]
  have E1 : (nm == nm') = b1 := by rw [beqS, h1]
  have T1 : (nm.toList == nm'.toList) = b1 := by rw [eqS_eq, h1]
  have E2 : (me == me') = b2 := by rw [beqS, h2]
  have T2 : (me.toList == me'.toList) = b2 := by rw [eqS_eq, h2]
  have E6 : ((pr : Int) == pr') = b6 := h6.symm
  clear h1 h2 h3 h4 h5 h6 h7 hr1 hs1 hr2 hs2
  go_enter Tryz.func26, Tryz.ntmps26
  go_upto_region 1 with fail
  refine wp_gen fun W1 hW => ?_
  have U1 := U0.same hW
  clear hW U0
  cases b1 with
  | false =>
    have c0 := (U1.blk 1 rfl).cell (j := 0) (v := .string nm) rfl
    have d0 := (U1.blk 0 rfl).cell (j := 0) (v := .string nm') rfl
    have c1 := (U1.blk 1 rfl).cell (j := 1) (v := .string me) rfl
    have d1 := (U1.blk 0 rfl).cell (j := 1) (v := .string me') rfl
    have c2 := (U1.blk 1 rfl).cell (j := 2) (v := .slice A1 ps1.length q1) rfl
    have d2 := (U1.blk 0 rfl).cell (j := 2) (v := .slice A1' ps1'.length q1') rfl
    have c3 := (U1.blk 1 rfl).cell (j := 3) (v := .int .u8 k) rfl
    have d3 := (U1.blk 0 rfl).cell (j := 3) (v := .int .u8 k') rfl
    have c4 := (U1.blk 1 rfl).cell (j := 4) (v := .int .i64 lim) rfl
    have d4 := (U1.blk 0 rfl).cell (j := 4) (v := .int .i64 lim') rfl
    have c5 := (U1.blk 1 rfl).cell (j := 5) (v := .int .u64 tk) rfl
    have d5 := (U1.blk 0 rfl).cell (j := 5) (v := .int .u64 tk') rfl
    have c6 := (U1.blk 1 rfl).cell (j := 6) (v := .int .u64 fo) rfl
    have d6 := (U1.blk 0 rfl).cell (j := 6) (v := .int .u64 fo') rfl
    have c7 := (U1.blk 1 rfl).cell (j := 7) (v := .int .u64 ke) rfl
    have d7 := (U1.blk 0 rfl).cell (j := 7) (v := .int .u64 ke') rfl
    have c8 := (U1.blk 1 rfl).cell (j := 8) (v := .int .u8 pr) rfl
    have d8 := (U1.blk 0 rfl).cell (j := 8) (v := .int .u8 pr') rfl
    have c9 := (U1.blk 1 rfl).cell (j := 9) (v := .slice A2 ps2.length q2) rfl
    have d9 := (U1.blk 0 rfl).cell (j := 9) (v := .slice A2' ps2'.length q2') rfl
    go_wp2_with fail
    go_ret
    exact ⟨by simp [sm7], U1.below⟩
  | true =>
    cases b2 with
    | false =>
      have c0 := (U1.blk 1 rfl).cell (j := 0) (v := .string nm) rfl
      have d0 := (U1.blk 0 rfl).cell (j := 0) (v := .string nm') rfl
      have c1 := (U1.blk 1 rfl).cell (j := 1) (v := .string me) rfl
      have d1 := (U1.blk 0 rfl).cell (j := 1) (v := .string me') rfl
      have c2 := (U1.blk 1 rfl).cell (j := 2) (v := .slice A1 ps1.length q1) rfl
      have d2 := (U1.blk 0 rfl).cell (j := 2) (v := .slice A1' ps1'.length q1') rfl
      have c3 := (U1.blk 1 rfl).cell (j := 3) (v := .int .u8 k) rfl
      have d3 := (U1.blk 0 rfl).cell (j := 3) (v := .int .u8 k') rfl
      have c4 := (U1.blk 1 rfl).cell (j := 4) (v := .int .i64 lim) rfl
      have d4 := (U1.blk 0 rfl).cell (j := 4) (v := .int .i64 lim') rfl
      have c5 := (U1.blk 1 rfl).cell (j := 5) (v := .int .u64 tk) rfl
      have d5 := (U1.blk 0 rfl).cell (j := 5) (v := .int .u64 tk') rfl
      have c6 := (U1.blk 1 rfl).cell (j := 6) (v := .int .u64 fo) rfl
      have d6 := (U1.blk 0 rfl).cell (j := 6) (v := .int .u64 fo') rfl
      have c7 := (U1.blk 1 rfl).cell (j := 7) (v := .int .u64 ke) rfl
      have d7 := (U1.blk 0 rfl).cell (j := 7) (v := .int .u64 ke') rfl
      have c8 := (U1.blk 1 rfl).cell (j := 8) (v := .int .u8 pr) rfl
      have d8 := (U1.blk 0 rfl).cell (j := 8) (v := .int .u8 pr') rfl
      have c9 := (U1.blk 1 rfl).cell (j := 9) (v := .slice A2 ps2.length q2) rfl
      have d9 := (U1.blk 0 rfl).cell (j := 9) (v := .slice A2' ps2'.length q2') rfl
      go_wp2_with fail
      go_ret
      exact ⟨by simp [sm7], U1.below⟩
    | true =>
      cases b3 with
      | false =>
        have c0 := (U1.blk 1 rfl).cell (j := 0) (v := .string nm) rfl
        have d0 := (U1.blk 0 rfl).cell (j := 0) (v := .string nm') rfl
        have c1 := (U1.blk 1 rfl).cell (j := 1) (v := .string me) rfl
        have d1 := (U1.blk 0 rfl).cell (j := 1) (v := .string me') rfl
        have c2 := (U1.blk 1 rfl).cell (j := 2) (v := .slice A1 ps1.length q1) rfl
        have d2 := (U1.blk 0 rfl).cell (j := 2) (v := .slice A1' ps1'.length q1') rfl
        have c3 := (U1.blk 1 rfl).cell (j := 3) (v := .int .u8 k) rfl
        have d3 := (U1.blk 0 rfl).cell (j := 3) (v := .int .u8 k') rfl
        have c4 := (U1.blk 1 rfl).cell (j := 4) (v := .int .i64 lim) rfl
        have d4 := (U1.blk 0 rfl).cell (j := 4) (v := .int .i64 lim') rfl
        have c5 := (U1.blk 1 rfl).cell (j := 5) (v := .int .u64 tk) rfl
        have d5 := (U1.blk 0 rfl).cell (j := 5) (v := .int .u64 tk') rfl
        have c6 := (U1.blk 1 rfl).cell (j := 6) (v := .int .u64 fo) rfl
        have d6 := (U1.blk 0 rfl).cell (j := 6) (v := .int .u64 fo') rfl
        have c7 := (U1.blk 1 rfl).cell (j := 7) (v := .int .u64 ke) rfl
        have d7 := (U1.blk 0 rfl).cell (j := 7) (v := .int .u64 ke') rfl
        have c8 := (U1.blk 1 rfl).cell (j := 8) (v := .int .u8 pr) rfl
        have d8 := (U1.blk 0 rfl).cell (j := 8) (v := .int .u8 pr') rfl
        have c9 := (U1.blk 1 rfl).cell (j := 9) (v := .slice A2 ps2.length q2) rfl
        have d9 := (U1.blk 0 rfl).cell (j := 9) (v := .slice A2' ps2'.length q2') rfl
        have K := K3 _ U1.below
        go_wp2_with fail
        (with_reducible refine K.mono ?_)
        rintro e w23 ⟨rfl, hb3⟩
        have U23 := U1.grow hb3
        clear hb3 K
        clear c0 d0 c1 d1 c2 d2 c3 d3 c4 d4 c5 d5 c6 d6 c7 d7 c8 d8 c9 d9
        have c0 := (U23.blk 1 rfl).cell (j := 0) (v := .string nm) rfl
        have d0 := (U23.blk 0 rfl).cell (j := 0) (v := .string nm') rfl
        have c1 := (U23.blk 1 rfl).cell (j := 1) (v := .string me) rfl
        have d1 := (U23.blk 0 rfl).cell (j := 1) (v := .string me') rfl
        have c2 := (U23.blk 1 rfl).cell (j := 2) (v := .slice A1 ps1.length q1) rfl
        have d2 := (U23.blk 0 rfl).cell (j := 2) (v := .slice A1' ps1'.length q1') rfl
        have c3 := (U23.blk 1 rfl).cell (j := 3) (v := .int .u8 k) rfl
        have d3 := (U23.blk 0 rfl).cell (j := 3) (v := .int .u8 k') rfl
        have c4 := (U23.blk 1 rfl).cell (j := 4) (v := .int .i64 lim) rfl
        have d4 := (U23.blk 0 rfl).cell (j := 4) (v := .int .i64 lim') rfl
        have c5 := (U23.blk 1 rfl).cell (j := 5) (v := .int .u64 tk) rfl
        have d5 := (U23.blk 0 rfl).cell (j := 5) (v := .int .u64 tk') rfl
        have c6 := (U23.blk 1 rfl).cell (j := 6) (v := .int .u64 fo) rfl
        have d6 := (U23.blk 0 rfl).cell (j := 6) (v := .int .u64 fo') rfl
        have c7 := (U23.blk 1 rfl).cell (j := 7) (v := .int .u64 ke) rfl
        have d7 := (U23.blk 0 rfl).cell (j := 7) (v := .int .u64 ke') rfl
        have c8 := (U23.blk 1 rfl).cell (j := 8) (v := .int .u8 pr) rfl
        have d8 := (U23.blk 0 rfl).cell (j := 8) (v := .int .u8 pr') rfl
        have c9 := (U23.blk 1 rfl).cell (j := 9) (v := .slice A2 ps2.length q2) rfl
        have d9 := (U23.blk 0 rfl).cell (j := 9) (v := .slice A2' ps2'.length q2') rfl
        go_wp2_with fail
        go_ret
        exact ⟨by simp [sm7], U23.below⟩
      | true =>
        cases b4 with
        | false =>
          have c0 := (U1.blk 1 rfl).cell (j := 0) (v := .string nm) rfl
          have d0 := (U1.blk 0 rfl).cell (j := 0) (v := .string nm') rfl
          have c1 := (U1.blk 1 rfl).cell (j := 1) (v := .string me) rfl
          have d1 := (U1.blk 0 rfl).cell (j := 1) (v := .string me') rfl
          have c2 := (U1.blk 1 rfl).cell (j := 2) (v := .slice A1 ps1.length q1) rfl
          have d2 := (U1.blk 0 rfl).cell (j := 2) (v := .slice A1' ps1'.length q1') rfl
          have c3 := (U1.blk 1 rfl).cell (j := 3) (v := .int .u8 k) rfl
          have d3 := (U1.blk 0 rfl).cell (j := 3) (v := .int .u8 k') rfl
          have c4 := (U1.blk 1 rfl).cell (j := 4) (v := .int .i64 lim) rfl
          have d4 := (U1.blk 0 rfl).cell (j := 4) (v := .int .i64 lim') rfl
          have c5 := (U1.blk 1 rfl).cell (j := 5) (v := .int .u64 tk) rfl
          have d5 := (U1.blk 0 rfl).cell (j := 5) (v := .int .u64 tk') rfl
          have c6 := (U1.blk 1 rfl).cell (j := 6) (v := .int .u64 fo) rfl
          have d6 := (U1.blk 0 rfl).cell (j := 6) (v := .int .u64 fo') rfl
          have c7 := (U1.blk 1 rfl).cell (j := 7) (v := .int .u64 ke) rfl
          have d7 := (U1.blk 0 rfl).cell (j := 7) (v := .int .u64 ke') rfl
          have c8 := (U1.blk 1 rfl).cell (j := 8) (v := .int .u8 pr) rfl
          have d8 := (U1.blk 0 rfl).cell (j := 8) (v := .int .u8 pr') rfl
          have c9 := (U1.blk 1 rfl).cell (j := 9) (v := .slice A2 ps2.length q2) rfl
          have d9 := (U1.blk 0 rfl).cell (j := 9) (v := .slice A2' ps2'.length q2') rfl
          have K := K3 _ U1.below
          go_wp2_with fail
          (with_reducible refine K.mono ?_)
          rintro e w23 ⟨rfl, hb3⟩
          have U23 := U1.grow hb3
          clear hb3 K
          clear c0 d0 c1 d1 c2 d2 c3 d3 c4 d4 c5 d5 c6 d6 c7 d7 c8 d8 c9 d9
          have c0 := (U23.blk 1 rfl).cell (j := 0) (v := .string nm) rfl
          have d0 := (U23.blk 0 rfl).cell (j := 0) (v := .string nm') rfl
          have c1 := (U23.blk 1 rfl).cell (j := 1) (v := .string me) rfl
          have d1 := (U23.blk 0 rfl).cell (j := 1) (v := .string me') rfl
          have c2 := (U23.blk 1 rfl).cell (j := 2) (v := .slice A1 ps1.length q1) rfl
          have d2 := (U23.blk 0 rfl).cell (j := 2) (v := .slice A1' ps1'.length q1') rfl
          have c3 := (U23.blk 1 rfl).cell (j := 3) (v := .int .u8 k) rfl
          have d3 := (U23.blk 0 rfl).cell (j := 3) (v := .int .u8 k') rfl
          have c4 := (U23.blk 1 rfl).cell (j := 4) (v := .int .i64 lim) rfl
          have d4 := (U23.blk 0 rfl).cell (j := 4) (v := .int .i64 lim') rfl
          have c5 := (U23.blk 1 rfl).cell (j := 5) (v := .int .u64 tk) rfl
          have d5 := (U23.blk 0 rfl).cell (j := 5) (v := .int .u64 tk') rfl
          have c6 := (U23.blk 1 rfl).cell (j := 6) (v := .int .u64 fo) rfl
          have d6 := (U23.blk 0 rfl).cell (j := 6) (v := .int .u64 fo') rfl
          have c7 := (U23.blk 1 rfl).cell (j := 7) (v := .int .u64 ke) rfl
          have d7 := (U23.blk 0 rfl).cell (j := 7) (v := .int .u64 ke') rfl
          have c8 := (U23.blk 1 rfl).cell (j := 8) (v := .int .u8 pr) rfl
          have d8 := (U23.blk 0 rfl).cell (j := 8) (v := .int .u8 pr') rfl
          have c9 := (U23.blk 1 rfl).cell (j := 9) (v := .slice A2 ps2.length q2) rfl
          have d9 := (U23.blk 0 rfl).cell (j := 9) (v := .slice A2' ps2'.length q2') rfl
          go_wp2_with fail
          go_ret
          exact ⟨by simp [sm7], U23.below⟩
        | true =>
          cases b5 with
          | false =>
            have c0 := (U1.blk 1 rfl).cell (j := 0) (v := .string nm) rfl
            have d0 := (U1.blk 0 rfl).cell (j := 0) (v := .string nm') rfl
            have c1 := (U1.blk 1 rfl).cell (j := 1) (v := .string me) rfl
            have d1 := (U1.blk 0 rfl).cell (j := 1) (v := .string me') rfl
            have c2 := (U1.blk 1 rfl).cell (j := 2) (v := .slice A1 ps1.length q1) rfl
            have d2 := (U1.blk 0 rfl).cell (j := 2) (v := .slice A1' ps1'.length q1') rfl
            have c3 := (U1.blk 1 rfl).cell (j := 3) (v := .int .u8 k) rfl
            have d3 := (U1.blk 0 rfl).cell (j := 3) (v := .int .u8 k') rfl
            have c4 := (U1.blk 1 rfl).cell (j := 4) (v := .int .i64 lim) rfl
            have d4 := (U1.blk 0 rfl).cell (j := 4) (v := .int .i64 lim') rfl
            have c5 := (U1.blk 1 rfl).cell (j := 5) (v := .int .u64 tk) rfl
            have d5 := (U1.blk 0 rfl).cell (j := 5) (v := .int .u64 tk') rfl
            have c6 := (U1.blk 1 rfl).cell (j := 6) (v := .int .u64 fo) rfl
            have d6 := (U1.blk 0 rfl).cell (j := 6) (v := .int .u64 fo') rfl
            have c7 := (U1.blk 1 rfl).cell (j := 7) (v := .int .u64 ke) rfl
            have d7 := (U1.blk 0 rfl).cell (j := 7) (v := .int .u64 ke') rfl
            have c8 := (U1.blk 1 rfl).cell (j := 8) (v := .int .u8 pr) rfl
            have d8 := (U1.blk 0 rfl).cell (j := 8) (v := .int .u8 pr') rfl
            have c9 := (U1.blk 1 rfl).cell (j := 9) (v := .slice A2 ps2.length q2) rfl
            have d9 := (U1.blk 0 rfl).cell (j := 9) (v := .slice A2' ps2'.length q2') rfl
            have K := K3 _ U1.below
            go_wp2_with fail
            (with_reducible refine K.mono ?_)
            rintro e w23 ⟨rfl, hb3⟩
            have U23 := U1.grow hb3
            clear hb3 K
            clear c0 d0 c1 d1 c2 d2 c3 d3 c4 d4 c5 d5 c6 d6 c7 d7 c8 d8 c9 d9
            have c0 := (U23.blk 1 rfl).cell (j := 0) (v := .string nm) rfl
            have d0 := (U23.blk 0 rfl).cell (j := 0) (v := .string nm') rfl
            have c1 := (U23.blk 1 rfl).cell (j := 1) (v := .string me) rfl
            have d1 := (U23.blk 0 rfl).cell (j := 1) (v := .string me') rfl
            have c2 := (U23.blk 1 rfl).cell (j := 2) (v := .slice A1 ps1.length q1) rfl
            have d2 := (U23.blk 0 rfl).cell (j := 2) (v := .slice A1' ps1'.length q1') rfl
            have c3 := (U23.blk 1 rfl).cell (j := 3) (v := .int .u8 k) rfl
            have d3 := (U23.blk 0 rfl).cell (j := 3) (v := .int .u8 k') rfl
            have c4 := (U23.blk 1 rfl).cell (j := 4) (v := .int .i64 lim) rfl
            have d4 := (U23.blk 0 rfl).cell (j := 4) (v := .int .i64 lim') rfl
            have c5 := (U23.blk 1 rfl).cell (j := 5) (v := .int .u64 tk) rfl
            have d5 := (U23.blk 0 rfl).cell (j := 5) (v := .int .u64 tk') rfl
            have c6 := (U23.blk 1 rfl).cell (j := 6) (v := .int .u64 fo) rfl
            have d6 := (U23.blk 0 rfl).cell (j := 6) (v := .int .u64 fo') rfl
            have c7 := (U23.blk 1 rfl).cell (j := 7) (v := .int .u64 ke) rfl
            have d7 := (U23.blk 0 rfl).cell (j := 7) (v := .int .u64 ke') rfl
            have c8 := (U23.blk 1 rfl).cell (j := 8) (v := .int .u8 pr) rfl
            have d8 := (U23.blk 0 rfl).cell (j := 8) (v := .int .u8 pr') rfl
            have c9 := (U23.blk 1 rfl).cell (j := 9) (v := .slice A2 ps2.length q2) rfl
            have d9 := (U23.blk 0 rfl).cell (j := 9) (v := .slice A2' ps2'.length q2') rfl
            go_wp2_with fail
            go_ret
            exact ⟨by simp [sm7], U23.below⟩
          | true =>
            cases b6 with
            | false =>
              have c0 := (U1.blk 1 rfl).cell (j := 0) (v := .string nm) rfl
              have d0 := (U1.blk 0 rfl).cell (j := 0) (v := .string nm') rfl
              have c1 := (U1.blk 1 rfl).cell (j := 1) (v := .string me) rfl
              have d1 := (U1.blk 0 rfl).cell (j := 1) (v := .string me') rfl
              have c2 := (U1.blk 1 rfl).cell (j := 2) (v := .slice A1 ps1.length q1) rfl
              have d2 := (U1.blk 0 rfl).cell (j := 2) (v := .slice A1' ps1'.length q1') rfl
              have c3 := (U1.blk 1 rfl).cell (j := 3) (v := .int .u8 k) rfl
              have d3 := (U1.blk 0 rfl).cell (j := 3) (v := .int .u8 k') rfl
              have c4 := (U1.blk 1 rfl).cell (j := 4) (v := .int .i64 lim) rfl
              have d4 := (U1.blk 0 rfl).cell (j := 4) (v := .int .i64 lim') rfl
              have c5 := (U1.blk 1 rfl).cell (j := 5) (v := .int .u64 tk) rfl
              have d5 := (U1.blk 0 rfl).cell (j := 5) (v := .int .u64 tk') rfl
              have c6 := (U1.blk 1 rfl).cell (j := 6) (v := .int .u64 fo) rfl
              have d6 := (U1.blk 0 rfl).cell (j := 6) (v := .int .u64 fo') rfl
              have c7 := (U1.blk 1 rfl).cell (j := 7) (v := .int .u64 ke) rfl
              have d7 := (U1.blk 0 rfl).cell (j := 7) (v := .int .u64 ke') rfl
              have c8 := (U1.blk 1 rfl).cell (j := 8) (v := .int .u8 pr) rfl
              have d8 := (U1.blk 0 rfl).cell (j := 8) (v := .int .u8 pr') rfl
              have c9 := (U1.blk 1 rfl).cell (j := 9) (v := .slice A2 ps2.length q2) rfl
              have d9 := (U1.blk 0 rfl).cell (j := 9) (v := .slice A2' ps2'.length q2') rfl
              have K := K3 _ U1.below
              go_wp2_with fail
              (with_reducible refine K.mono ?_)
              rintro e w23 ⟨rfl, hb3⟩
              have U23 := U1.grow hb3
              clear hb3 K
              clear c0 d0 c1 d1 c2 d2 c3 d3 c4 d4 c5 d5 c6 d6 c7 d7 c8 d8 c9 d9
              have c0 := (U23.blk 1 rfl).cell (j := 0) (v := .string nm) rfl
              have d0 := (U23.blk 0 rfl).cell (j := 0) (v := .string nm') rfl
              have c1 := (U23.blk 1 rfl).cell (j := 1) (v := .string me) rfl
              have d1 := (U23.blk 0 rfl).cell (j := 1) (v := .string me') rfl
              have c2 := (U23.blk 1 rfl).cell (j := 2) (v := .slice A1 ps1.length q1) rfl
              have d2 := (U23.blk 0 rfl).cell (j := 2) (v := .slice A1' ps1'.length q1') rfl
              have c3 := (U23.blk 1 rfl).cell (j := 3) (v := .int .u8 k) rfl
              have d3 := (U23.blk 0 rfl).cell (j := 3) (v := .int .u8 k') rfl
              have c4 := (U23.blk 1 rfl).cell (j := 4) (v := .int .i64 lim) rfl
              have d4 := (U23.blk 0 rfl).cell (j := 4) (v := .int .i64 lim') rfl
              have c5 := (U23.blk 1 rfl).cell (j := 5) (v := .int .u64 tk) rfl
              have d5 := (U23.blk 0 rfl).cell (j := 5) (v := .int .u64 tk') rfl
              have c6 := (U23.blk 1 rfl).cell (j := 6) (v := .int .u64 fo) rfl
              have d6 := (U23.blk 0 rfl).cell (j := 6) (v := .int .u64 fo') rfl
              have c7 := (U23.blk 1 rfl).cell (j := 7) (v := .int .u64 ke) rfl
              have d7 := (U23.blk 0 rfl).cell (j := 7) (v := .int .u64 ke') rfl
              have c8 := (U23.blk 1 rfl).cell (j := 8) (v := .int .u8 pr) rfl
              have d8 := (U23.blk 0 rfl).cell (j := 8) (v := .int .u8 pr') rfl
              have c9 := (U23.blk 1 rfl).cell (j := 9) (v := .slice A2 ps2.length q2) rfl
              have d9 := (U23.blk 0 rfl).cell (j := 9) (v := .slice A2' ps2'.length q2') rfl
              go_wp2_with fail
              go_ret
              exact ⟨by simp [sm7], U23.below⟩
            | true =>
              cases b7 with
              | false =>
                have c0 := (U1.blk 1 rfl).cell (j := 0) (v := .string nm) rfl
                have d0 := (U1.blk 0 rfl).cell (j := 0) (v := .string nm') rfl
                have c1 := (U1.blk 1 rfl).cell (j := 1) (v := .string me) rfl
                have d1 := (U1.blk 0 rfl).cell (j := 1) (v := .string me') rfl
                have c2 := (U1.blk 1 rfl).cell (j := 2) (v := .slice A1 ps1.length q1) rfl
                have d2 := (U1.blk 0 rfl).cell (j := 2) (v := .slice A1' ps1'.length q1') rfl
                have c3 := (U1.blk 1 rfl).cell (j := 3) (v := .int .u8 k) rfl
                have d3 := (U1.blk 0 rfl).cell (j := 3) (v := .int .u8 k') rfl
                have c4 := (U1.blk 1 rfl).cell (j := 4) (v := .int .i64 lim) rfl
                have d4 := (U1.blk 0 rfl).cell (j := 4) (v := .int .i64 lim') rfl
                have c5 := (U1.blk 1 rfl).cell (j := 5) (v := .int .u64 tk) rfl
                have d5 := (U1.blk 0 rfl).cell (j := 5) (v := .int .u64 tk') rfl
                have c6 := (U1.blk 1 rfl).cell (j := 6) (v := .int .u64 fo) rfl
                have d6 := (U1.blk 0 rfl).cell (j := 6) (v := .int .u64 fo') rfl
                have c7 := (U1.blk 1 rfl).cell (j := 7) (v := .int .u64 ke) rfl
                have d7 := (U1.blk 0 rfl).cell (j := 7) (v := .int .u64 ke') rfl
                have c8 := (U1.blk 1 rfl).cell (j := 8) (v := .int .u8 pr) rfl
                have d8 := (U1.blk 0 rfl).cell (j := 8) (v := .int .u8 pr') rfl
                have c9 := (U1.blk 1 rfl).cell (j := 9) (v := .slice A2 ps2.length q2) rfl
                have d9 := (U1.blk 0 rfl).cell (j := 9) (v := .slice A2' ps2'.length q2') rfl
                have K := K3 _ U1.below
                go_wp2_with fail
                (with_reducible refine K.mono ?_)
                rintro e w23 ⟨rfl, hb3⟩
                have U23 := U1.grow hb3
                clear hb3 K
                clear c0 d0 c1 d1 c2 d2 c3 d3 c4 d4 c5 d5 c6 d6 c7 d7 c8 d8 c9 d9
                have c0 := (U23.blk 1 rfl).cell (j := 0) (v := .string nm) rfl
                have d0 := (U23.blk 0 rfl).cell (j := 0) (v := .string nm') rfl
                have c1 := (U23.blk 1 rfl).cell (j := 1) (v := .string me) rfl
                have d1 := (U23.blk 0 rfl).cell (j := 1) (v := .string me') rfl
                have c2 := (U23.blk 1 rfl).cell (j := 2) (v := .slice A1 ps1.length q1) rfl
                have d2 := (U23.blk 0 rfl).cell (j := 2) (v := .slice A1' ps1'.length q1') rfl
                have c3 := (U23.blk 1 rfl).cell (j := 3) (v := .int .u8 k) rfl
                have d3 := (U23.blk 0 rfl).cell (j := 3) (v := .int .u8 k') rfl
                have c4 := (U23.blk 1 rfl).cell (j := 4) (v := .int .i64 lim) rfl
                have d4 := (U23.blk 0 rfl).cell (j := 4) (v := .int .i64 lim') rfl
                have c5 := (U23.blk 1 rfl).cell (j := 5) (v := .int .u64 tk) rfl
                have d5 := (U23.blk 0 rfl).cell (j := 5) (v := .int .u64 tk') rfl
                have c6 := (U23.blk 1 rfl).cell (j := 6) (v := .int .u64 fo) rfl
                have d6 := (U23.blk 0 rfl).cell (j := 6) (v := .int .u64 fo') rfl
                have c7 := (U23.blk 1 rfl).cell (j := 7) (v := .int .u64 ke) rfl
                have d7 := (U23.blk 0 rfl).cell (j := 7) (v := .int .u64 ke') rfl
                have c8 := (U23.blk 1 rfl).cell (j := 8) (v := .int .u8 pr) rfl
                have d8 := (U23.blk 0 rfl).cell (j := 8) (v := .int .u8 pr') rfl
                have c9 := (U23.blk 1 rfl).cell (j := 9) (v := .slice A2 ps2.length q2) rfl
                have d9 := (U23.blk 0 rfl).cell (j := 9) (v := .slice A2' ps2'.length q2') rfl
                have K := K7 _ U23.below
                go_wp2_with fail
                (with_reducible refine K.mono ?_)
                rintro e w27 ⟨rfl, hb7⟩
                have U27 := U23.grow hb7
                clear hb7 K
                clear c0 d0 c1 d1 c2 d2 c3 d3 c4 d4 c5 d5 c6 d6 c7 d7 c8 d8 c9 d9
                have c0 := (U27.blk 1 rfl).cell (j := 0) (v := .string nm) rfl
                have d0 := (U27.blk 0 rfl).cell (j := 0) (v := .string nm') rfl
                have c1 := (U27.blk 1 rfl).cell (j := 1) (v := .string me) rfl
                have d1 := (U27.blk 0 rfl).cell (j := 1) (v := .string me') rfl
                have c2 := (U27.blk 1 rfl).cell (j := 2) (v := .slice A1 ps1.length q1) rfl
                have d2 := (U27.blk 0 rfl).cell (j := 2) (v := .slice A1' ps1'.length q1') rfl
                have c3 := (U27.blk 1 rfl).cell (j := 3) (v := .int .u8 k) rfl
                have d3 := (U27.blk 0 rfl).cell (j := 3) (v := .int .u8 k') rfl
                have c4 := (U27.blk 1 rfl).cell (j := 4) (v := .int .i64 lim) rfl
                have d4 := (U27.blk 0 rfl).cell (j := 4) (v := .int .i64 lim') rfl
                have c5 := (U27.blk 1 rfl).cell (j := 5) (v := .int .u64 tk) rfl
                have d5 := (U27.blk 0 rfl).cell (j := 5) (v := .int .u64 tk') rfl
                have c6 := (U27.blk 1 rfl).cell (j := 6) (v := .int .u64 fo) rfl
                have d6 := (U27.blk 0 rfl).cell (j := 6) (v := .int .u64 fo') rfl
                have c7 := (U27.blk 1 rfl).cell (j := 7) (v := .int .u64 ke) rfl
                have d7 := (U27.blk 0 rfl).cell (j := 7) (v := .int .u64 ke') rfl
                have c8 := (U27.blk 1 rfl).cell (j := 8) (v := .int .u8 pr) rfl
                have d8 := (U27.blk 0 rfl).cell (j := 8) (v := .int .u8 pr') rfl
                have c9 := (U27.blk 1 rfl).cell (j := 9) (v := .slice A2 ps2.length q2) rfl
                have d9 := (U27.blk 0 rfl).cell (j := 9) (v := .slice A2' ps2'.length q2') rfl
                go_wp2_with fail
                go_ret
                exact ⟨by simp [sm7], U27.below⟩
              | true =>
                have c0 := (U1.blk 1 rfl).cell (j := 0) (v := .string nm) rfl
                have d0 := (U1.blk 0 rfl).cell (j := 0) (v := .string nm') rfl
                have c1 := (U1.blk 1 rfl).cell (j := 1) (v := .string me) rfl
                have d1 := (U1.blk 0 rfl).cell (j := 1) (v := .string me') rfl
                have c2 := (U1.blk 1 rfl).cell (j := 2) (v := .slice A1 ps1.length q1) rfl
                have d2 := (U1.blk 0 rfl).cell (j := 2) (v := .slice A1' ps1'.length q1') rfl
                have c3 := (U1.blk 1 rfl).cell (j := 3) (v := .int .u8 k) rfl
                have d3 := (U1.blk 0 rfl).cell (j := 3) (v := .int .u8 k') rfl
                have c4 := (U1.blk 1 rfl).cell (j := 4) (v := .int .i64 lim) rfl
                have d4 := (U1.blk 0 rfl).cell (j := 4) (v := .int .i64 lim') rfl
                have c5 := (U1.blk 1 rfl).cell (j := 5) (v := .int .u64 tk) rfl
                have d5 := (U1.blk 0 rfl).cell (j := 5) (v := .int .u64 tk') rfl
                have c6 := (U1.blk 1 rfl).cell (j := 6) (v := .int .u64 fo) rfl
                have d6 := (U1.blk 0 rfl).cell (j := 6) (v := .int .u64 fo') rfl
                have c7 := (U1.blk 1 rfl).cell (j := 7) (v := .int .u64 ke) rfl
                have d7 := (U1.blk 0 rfl).cell (j := 7) (v := .int .u64 ke') rfl
                have c8 := (U1.blk 1 rfl).cell (j := 8) (v := .int .u8 pr) rfl
                have d8 := (U1.blk 0 rfl).cell (j := 8) (v := .int .u8 pr') rfl
                have c9 := (U1.blk 1 rfl).cell (j := 9) (v := .slice A2 ps2.length q2) rfl
                have d9 := (U1.blk 0 rfl).cell (j := 9) (v := .slice A2' ps2'.length q2') rfl
                have K := K3 _ U1.below
                go_wp2_with fail
                (with_reducible refine K.mono ?_)
                rintro e w23 ⟨rfl, hb3⟩
                have U23 := U1.grow hb3
                clear hb3 K
                clear c0 d0 c1 d1 c2 d2 c3 d3 c4 d4 c5 d5 c6 d6 c7 d7 c8 d8 c9 d9
                have c0 := (U23.blk 1 rfl).cell (j := 0) (v := .string nm) rfl
                have d0 := (U23.blk 0 rfl).cell (j := 0) (v := .string nm') rfl
                have c1 := (U23.blk 1 rfl).cell (j := 1) (v := .string me) rfl
                have d1 := (U23.blk 0 rfl).cell (j := 1) (v := .string me') rfl
                have c2 := (U23.blk 1 rfl).cell (j := 2) (v := .slice A1 ps1.length q1) rfl
                have d2 := (U23.blk 0 rfl).cell (j := 2) (v := .slice A1' ps1'.length q1') rfl
                have c3 := (U23.blk 1 rfl).cell (j := 3) (v := .int .u8 k) rfl
                have d3 := (U23.blk 0 rfl).cell (j := 3) (v := .int .u8 k') rfl
                have c4 := (U23.blk 1 rfl).cell (j := 4) (v := .int .i64 lim) rfl
                have d4 := (U23.blk 0 rfl).cell (j := 4) (v := .int .i64 lim') rfl
                have c5 := (U23.blk 1 rfl).cell (j := 5) (v := .int .u64 tk) rfl
                have d5 := (U23.blk 0 rfl).cell (j := 5) (v := .int .u64 tk') rfl
                have c6 := (U23.blk 1 rfl).cell (j := 6) (v := .int .u64 fo) rfl
                have d6 := (U23.blk 0 rfl).cell (j := 6) (v := .int .u64 fo') rfl
                have c7 := (U23.blk 1 rfl).cell (j := 7) (v := .int .u64 ke) rfl
                have d7 := (U23.blk 0 rfl).cell (j := 7) (v := .int .u64 ke') rfl
                have c8 := (U23.blk 1 rfl).cell (j := 8) (v := .int .u8 pr) rfl
                have d8 := (U23.blk 0 rfl).cell (j := 8) (v := .int .u8 pr') rfl
                have c9 := (U23.blk 1 rfl).cell (j := 9) (v := .slice A2 ps2.length q2) rfl
                have d9 := (U23.blk 0 rfl).cell (j := 9) (v := .slice A2' ps2'.length q2') rfl
                have K := K7 _ U23.below
                go_wp2_with fail
                (with_reducible refine K.mono ?_)
                rintro e w27 ⟨rfl, hb7⟩
                have U27 := U23.grow hb7
                clear hb7 K
                clear c0 d0 c1 d1 c2 d2 c3 d3 c4 d4 c5 d5 c6 d6 c7 d7 c8 d8 c9 d9
                have c0 := (U27.blk 1 rfl).cell (j := 0) (v := .string nm) rfl
                have d0 := (U27.blk 0 rfl).cell (j := 0) (v := .string nm') rfl
                have c1 := (U27.blk 1 rfl).cell (j := 1) (v := .string me) rfl
                have d1 := (U27.blk 0 rfl).cell (j := 1) (v := .string me') rfl
                have c2 := (U27.blk 1 rfl).cell (j := 2) (v := .slice A1 ps1.length q1) rfl
                have d2 := (U27.blk 0 rfl).cell (j := 2) (v := .slice A1' ps1'.length q1') rfl
                have c3 := (U27.blk 1 rfl).cell (j := 3) (v := .int .u8 k) rfl
                have d3 := (U27.blk 0 rfl).cell (j := 3) (v := .int .u8 k') rfl
                have c4 := (U27.blk 1 rfl).cell (j := 4) (v := .int .i64 lim) rfl
                have d4 := (U27.blk 0 rfl).cell (j := 4) (v := .int .i64 lim') rfl
                have c5 := (U27.blk 1 rfl).cell (j := 5) (v := .int .u64 tk) rfl
                have d5 := (U27.blk 0 rfl).cell (j := 5) (v := .int .u64 tk') rfl
                have c6 := (U27.blk 1 rfl).cell (j := 6) (v := .int .u64 fo) rfl
                have d6 := (U27.blk 0 rfl).cell (j := 6) (v := .int .u64 fo') rfl
                have c7 := (U27.blk 1 rfl).cell (j := 7) (v := .int .u64 ke) rfl
                have d7 := (U27.blk 0 rfl).cell (j := 7) (v := .int .u64 ke') rfl
                have c8 := (U27.blk 1 rfl).cell (j := 8) (v := .int .u8 pr) rfl
                have d8 := (U27.blk 0 rfl).cell (j := 8) (v := .int .u8 pr') rfl
                have c9 := (U27.blk 1 rfl).cell (j := 9) (v := .slice A2 ps2.length q2) rfl
                have d9 := (U27.blk 0 rfl).cell (j := 9) (v := .slice A2' ps2'.length q2') rfl
                go_wp2_with fail
                go_ret
                exact ⟨by simp [sm7], U27.below⟩
set_option maxHeartbeats 4000000 in
theorem refRuSame (nm me : ByteArray) (A1 : Option Addr) (q1 : Nat) (ps1 : List Pr) (k : Nat) (lim : Int) (tk fo ke pr : Nat) (A2 : Option Addr) (q2 : Nat) (ps2 : List Pr) (nm' me' : ByteArray) (A1' : Option Addr) (q1' : Nat) (ps1' : List Pr) (k' : Nat) (lim' : Int) (tk' fo' ke' pr' : Nat) (A2' : Option Addr) (q2' : Nat) (ps2' : List Pr) (w : World) (hr1 : Rd w 2 (.slice A1 ps1.length q1) ps1.length (pairCells ps1)) (hs1 : Rd w 2 (.slice A1' ps1'.length q1') ps1'.length (pairCells ps1')) (hr2 : Rd w 2 (.slice A2 ps2.length q2) ps2.length (pairCells ps2)) (hs2 : Rd w 2 (.slice A2' ps2'.length q2') ps2'.length (pairCells ps2')) :
    Calls Tryz.prog 27 #[.agg #[.string nm, .string me, .slice A1 ps1.length q1, .slice A2 ps2.length q2, .int .i64 k, .int .i64 lim, .int .u64 tk, .int .u64 fo, .int .u64 ke, .int .u8 pr], .agg #[.string nm', .string me', .slice A1' ps1'.length q1', .slice A2' ps2'.length q2', .int .i64 k', .int .i64 lim', .int .u64 tk', .int .u64 fo', .int .u64 ke', .int .u8 pr']] w fun e w' => e = .returned (.bool (sm7 (decide (nm = nm')) (decide (me = me')) (sameB ps1 ps1') (((k : Int) == k') && (lim == lim') && ((tk : Int) == tk')) (((fo : Int) == fo') && ((ke : Int) == ke')) ((pr : Int) == pr') (sameB ps2 ps2'))) ∧ Below w.heap.size w w' := by
  have U0 := ((Upd.nil [] w).alloc #[.string nm, .string me, .slice A1 ps1.length q1, .slice A2 ps2.length q2, .int .i64 k, .int .i64 lim, .int .u64 tk, .int .u64 fo, .int .u64 ke, .int .u8 pr] 77).alloc #[.string nm', .string me', .slice A1' ps1'.length q1', .slice A2' ps2'.length q2', .int .i64 k', .int .i64 lim', .int .u64 tk', .int .u64 fo', .int .u64 ke', .int .u8 pr'] 77
  rw [allocSzC] at U0
  have K3 := fun w' (hb : Below w.heap.size w w') => refSame _ _ ps1 ps1' w' (hr1.below hb) (hs1.below hb)
  have K7 := fun w' (hb : Below w.heap.size w w') => refSame _ _ ps2 ps2' w' (hr2.below hb) (hs2.below hb)
  have K4 := fun w' => eqREq k lim tk k' lim' tk' w'
  obtain ⟨b1, h1⟩ : ∃ b, b = decide (nm = nm') := ⟨_, rfl⟩
  obtain ⟨b2, h2⟩ : ∃ b, b = decide (me = me') := ⟨_, rfl⟩
  obtain ⟨b3, h3⟩ : ∃ b, b = sameB ps1 ps1' := ⟨_, rfl⟩
  obtain ⟨b4, h4⟩ : ∃ b, b = (((k : Int) == k') && (lim == lim') && ((tk : Int) == tk')) := ⟨_, rfl⟩
  obtain ⟨b5, h5⟩ : ∃ b, b = ((fo : Int) == fo') := ⟨_, rfl⟩
  obtain ⟨b8, h8⟩ : ∃ b, b = ((ke : Int) == ke') := ⟨_, rfl⟩
  obtain ⟨b6, h6⟩ : ∃ b, b = ((pr : Int) == pr') := ⟨_, rfl⟩
  obtain ⟨b7, h7⟩ : ∃ b, b = sameB ps2 ps2' := ⟨_, rfl⟩
  rw [← h3] at K3 ⊢
  rw [← h7] at K7 ⊢
  rw [← h4] at K4 ⊢
  rw [← h5, ← h8]
  rw [← h1, ← h2, ← h6]
  have E1 : (nm == nm') = b1 := by rw [beqS, h1]
  have T1 : (nm.toList == nm'.toList) = b1 := by rw [eqS_eq, h1]
  have E2 : (me == me') = b2 := by rw [beqS, h2]
  have T2 : (me.toList == me'.toList) = b2 := by rw [eqS_eq, h2]
  have E6 : ((pr : Int) == pr') = b6 := h6.symm
  have E5 : ((fo : Int) == fo') = b5 := h5.symm
  have E8 : ((ke : Int) == ke') = b8 := h8.symm
  clear h1 h2 h3 h4 h5 h6 h7 hr1 hs1 hr2 hs2 h8
  go_enter Tryz.func27, Tryz.ntmps27
  go_upto_region 1 with fail
  refine wp_gen fun W1 hW => ?_
  have U1 := U0.same hW
  clear hW U0
  cases b1 with
  | false =>
    have c0 := (U1.blk 1 rfl).cell (j := 0) (v := .string nm) rfl
    have d0 := (U1.blk 0 rfl).cell (j := 0) (v := .string nm') rfl
    have c1 := (U1.blk 1 rfl).cell (j := 1) (v := .string me) rfl
    have d1 := (U1.blk 0 rfl).cell (j := 1) (v := .string me') rfl
    have c2 := (U1.blk 1 rfl).cell (j := 2) (v := .slice A1 ps1.length q1) rfl
    have d2 := (U1.blk 0 rfl).cell (j := 2) (v := .slice A1' ps1'.length q1') rfl
    have c3 := (U1.blk 1 rfl).cell (j := 3) (v := .slice A2 ps2.length q2) rfl
    have d3 := (U1.blk 0 rfl).cell (j := 3) (v := .slice A2' ps2'.length q2') rfl
    have c4 := (U1.blk 1 rfl).cell (j := 4) (v := .int .i64 k) rfl
    have d4 := (U1.blk 0 rfl).cell (j := 4) (v := .int .i64 k') rfl
    have c5 := (U1.blk 1 rfl).cell (j := 5) (v := .int .i64 lim) rfl
    have d5 := (U1.blk 0 rfl).cell (j := 5) (v := .int .i64 lim') rfl
    have c6 := (U1.blk 1 rfl).cell (j := 6) (v := .int .u64 tk) rfl
    have d6 := (U1.blk 0 rfl).cell (j := 6) (v := .int .u64 tk') rfl
    have c7 := (U1.blk 1 rfl).cell (j := 7) (v := .int .u64 fo) rfl
    have d7 := (U1.blk 0 rfl).cell (j := 7) (v := .int .u64 fo') rfl
    have c8 := (U1.blk 1 rfl).cell (j := 8) (v := .int .u64 ke) rfl
    have d8 := (U1.blk 0 rfl).cell (j := 8) (v := .int .u64 ke') rfl
    have c9 := (U1.blk 1 rfl).cell (j := 9) (v := .int .u8 pr) rfl
    have d9 := (U1.blk 0 rfl).cell (j := 9) (v := .int .u8 pr') rfl
    go_wp2_with fail
    go_ret
    exact ⟨by simp [sm7], U1.below⟩
  | true =>
    cases b2 with
    | false =>
      have c0 := (U1.blk 1 rfl).cell (j := 0) (v := .string nm) rfl
      have d0 := (U1.blk 0 rfl).cell (j := 0) (v := .string nm') rfl
      have c1 := (U1.blk 1 rfl).cell (j := 1) (v := .string me) rfl
      have d1 := (U1.blk 0 rfl).cell (j := 1) (v := .string me') rfl
      have c2 := (U1.blk 1 rfl).cell (j := 2) (v := .slice A1 ps1.length q1) rfl
      have d2 := (U1.blk 0 rfl).cell (j := 2) (v := .slice A1' ps1'.length q1') rfl
      have c3 := (U1.blk 1 rfl).cell (j := 3) (v := .slice A2 ps2.length q2) rfl
      have d3 := (U1.blk 0 rfl).cell (j := 3) (v := .slice A2' ps2'.length q2') rfl
      have c4 := (U1.blk 1 rfl).cell (j := 4) (v := .int .i64 k) rfl
      have d4 := (U1.blk 0 rfl).cell (j := 4) (v := .int .i64 k') rfl
      have c5 := (U1.blk 1 rfl).cell (j := 5) (v := .int .i64 lim) rfl
      have d5 := (U1.blk 0 rfl).cell (j := 5) (v := .int .i64 lim') rfl
      have c6 := (U1.blk 1 rfl).cell (j := 6) (v := .int .u64 tk) rfl
      have d6 := (U1.blk 0 rfl).cell (j := 6) (v := .int .u64 tk') rfl
      have c7 := (U1.blk 1 rfl).cell (j := 7) (v := .int .u64 fo) rfl
      have d7 := (U1.blk 0 rfl).cell (j := 7) (v := .int .u64 fo') rfl
      have c8 := (U1.blk 1 rfl).cell (j := 8) (v := .int .u64 ke) rfl
      have d8 := (U1.blk 0 rfl).cell (j := 8) (v := .int .u64 ke') rfl
      have c9 := (U1.blk 1 rfl).cell (j := 9) (v := .int .u8 pr) rfl
      have d9 := (U1.blk 0 rfl).cell (j := 9) (v := .int .u8 pr') rfl
      go_wp2_with fail
      go_ret
      exact ⟨by simp [sm7], U1.below⟩
    | true =>
      cases b3 with
      | false =>
        have c0 := (U1.blk 1 rfl).cell (j := 0) (v := .string nm) rfl
        have d0 := (U1.blk 0 rfl).cell (j := 0) (v := .string nm') rfl
        have c1 := (U1.blk 1 rfl).cell (j := 1) (v := .string me) rfl
        have d1 := (U1.blk 0 rfl).cell (j := 1) (v := .string me') rfl
        have c2 := (U1.blk 1 rfl).cell (j := 2) (v := .slice A1 ps1.length q1) rfl
        have d2 := (U1.blk 0 rfl).cell (j := 2) (v := .slice A1' ps1'.length q1') rfl
        have c3 := (U1.blk 1 rfl).cell (j := 3) (v := .slice A2 ps2.length q2) rfl
        have d3 := (U1.blk 0 rfl).cell (j := 3) (v := .slice A2' ps2'.length q2') rfl
        have c4 := (U1.blk 1 rfl).cell (j := 4) (v := .int .i64 k) rfl
        have d4 := (U1.blk 0 rfl).cell (j := 4) (v := .int .i64 k') rfl
        have c5 := (U1.blk 1 rfl).cell (j := 5) (v := .int .i64 lim) rfl
        have d5 := (U1.blk 0 rfl).cell (j := 5) (v := .int .i64 lim') rfl
        have c6 := (U1.blk 1 rfl).cell (j := 6) (v := .int .u64 tk) rfl
        have d6 := (U1.blk 0 rfl).cell (j := 6) (v := .int .u64 tk') rfl
        have c7 := (U1.blk 1 rfl).cell (j := 7) (v := .int .u64 fo) rfl
        have d7 := (U1.blk 0 rfl).cell (j := 7) (v := .int .u64 fo') rfl
        have c8 := (U1.blk 1 rfl).cell (j := 8) (v := .int .u64 ke) rfl
        have d8 := (U1.blk 0 rfl).cell (j := 8) (v := .int .u64 ke') rfl
        have c9 := (U1.blk 1 rfl).cell (j := 9) (v := .int .u8 pr) rfl
        have d9 := (U1.blk 0 rfl).cell (j := 9) (v := .int .u8 pr') rfl
        have K := K3 _ U1.below
        go_wp2_with fail
        (with_reducible refine K.mono ?_)
        rintro e w23 ⟨rfl, hb3⟩
        have U23 := U1.grow hb3
        clear hb3 K
        clear c0 d0 c1 d1 c2 d2 c3 d3 c4 d4 c5 d5 c6 d6 c7 d7 c8 d8 c9 d9
        have c0 := (U23.blk 1 rfl).cell (j := 0) (v := .string nm) rfl
        have d0 := (U23.blk 0 rfl).cell (j := 0) (v := .string nm') rfl
        have c1 := (U23.blk 1 rfl).cell (j := 1) (v := .string me) rfl
        have d1 := (U23.blk 0 rfl).cell (j := 1) (v := .string me') rfl
        have c2 := (U23.blk 1 rfl).cell (j := 2) (v := .slice A1 ps1.length q1) rfl
        have d2 := (U23.blk 0 rfl).cell (j := 2) (v := .slice A1' ps1'.length q1') rfl
        have c3 := (U23.blk 1 rfl).cell (j := 3) (v := .slice A2 ps2.length q2) rfl
        have d3 := (U23.blk 0 rfl).cell (j := 3) (v := .slice A2' ps2'.length q2') rfl
        have c4 := (U23.blk 1 rfl).cell (j := 4) (v := .int .i64 k) rfl
        have d4 := (U23.blk 0 rfl).cell (j := 4) (v := .int .i64 k') rfl
        have c5 := (U23.blk 1 rfl).cell (j := 5) (v := .int .i64 lim) rfl
        have d5 := (U23.blk 0 rfl).cell (j := 5) (v := .int .i64 lim') rfl
        have c6 := (U23.blk 1 rfl).cell (j := 6) (v := .int .u64 tk) rfl
        have d6 := (U23.blk 0 rfl).cell (j := 6) (v := .int .u64 tk') rfl
        have c7 := (U23.blk 1 rfl).cell (j := 7) (v := .int .u64 fo) rfl
        have d7 := (U23.blk 0 rfl).cell (j := 7) (v := .int .u64 fo') rfl
        have c8 := (U23.blk 1 rfl).cell (j := 8) (v := .int .u64 ke) rfl
        have d8 := (U23.blk 0 rfl).cell (j := 8) (v := .int .u64 ke') rfl
        have c9 := (U23.blk 1 rfl).cell (j := 9) (v := .int .u8 pr) rfl
        have d9 := (U23.blk 0 rfl).cell (j := 9) (v := .int .u8 pr') rfl
        go_wp2_with fail
        go_ret
        exact ⟨by simp [sm7], U23.below⟩
      | true =>
        cases b7 with
        | false =>
          have c0 := (U1.blk 1 rfl).cell (j := 0) (v := .string nm) rfl
          have d0 := (U1.blk 0 rfl).cell (j := 0) (v := .string nm') rfl
          have c1 := (U1.blk 1 rfl).cell (j := 1) (v := .string me) rfl
          have d1 := (U1.blk 0 rfl).cell (j := 1) (v := .string me') rfl
          have c2 := (U1.blk 1 rfl).cell (j := 2) (v := .slice A1 ps1.length q1) rfl
          have d2 := (U1.blk 0 rfl).cell (j := 2) (v := .slice A1' ps1'.length q1') rfl
          have c3 := (U1.blk 1 rfl).cell (j := 3) (v := .slice A2 ps2.length q2) rfl
          have d3 := (U1.blk 0 rfl).cell (j := 3) (v := .slice A2' ps2'.length q2') rfl
          have c4 := (U1.blk 1 rfl).cell (j := 4) (v := .int .i64 k) rfl
          have d4 := (U1.blk 0 rfl).cell (j := 4) (v := .int .i64 k') rfl
          have c5 := (U1.blk 1 rfl).cell (j := 5) (v := .int .i64 lim) rfl
          have d5 := (U1.blk 0 rfl).cell (j := 5) (v := .int .i64 lim') rfl
          have c6 := (U1.blk 1 rfl).cell (j := 6) (v := .int .u64 tk) rfl
          have d6 := (U1.blk 0 rfl).cell (j := 6) (v := .int .u64 tk') rfl
          have c7 := (U1.blk 1 rfl).cell (j := 7) (v := .int .u64 fo) rfl
          have d7 := (U1.blk 0 rfl).cell (j := 7) (v := .int .u64 fo') rfl
          have c8 := (U1.blk 1 rfl).cell (j := 8) (v := .int .u64 ke) rfl
          have d8 := (U1.blk 0 rfl).cell (j := 8) (v := .int .u64 ke') rfl
          have c9 := (U1.blk 1 rfl).cell (j := 9) (v := .int .u8 pr) rfl
          have d9 := (U1.blk 0 rfl).cell (j := 9) (v := .int .u8 pr') rfl
          have K := K3 _ U1.below
          go_wp2_with fail
          (with_reducible refine K.mono ?_)
          rintro e w23 ⟨rfl, hb3⟩
          have U23 := U1.grow hb3
          clear hb3 K
          clear c0 d0 c1 d1 c2 d2 c3 d3 c4 d4 c5 d5 c6 d6 c7 d7 c8 d8 c9 d9
          have c0 := (U23.blk 1 rfl).cell (j := 0) (v := .string nm) rfl
          have d0 := (U23.blk 0 rfl).cell (j := 0) (v := .string nm') rfl
          have c1 := (U23.blk 1 rfl).cell (j := 1) (v := .string me) rfl
          have d1 := (U23.blk 0 rfl).cell (j := 1) (v := .string me') rfl
          have c2 := (U23.blk 1 rfl).cell (j := 2) (v := .slice A1 ps1.length q1) rfl
          have d2 := (U23.blk 0 rfl).cell (j := 2) (v := .slice A1' ps1'.length q1') rfl
          have c3 := (U23.blk 1 rfl).cell (j := 3) (v := .slice A2 ps2.length q2) rfl
          have d3 := (U23.blk 0 rfl).cell (j := 3) (v := .slice A2' ps2'.length q2') rfl
          have c4 := (U23.blk 1 rfl).cell (j := 4) (v := .int .i64 k) rfl
          have d4 := (U23.blk 0 rfl).cell (j := 4) (v := .int .i64 k') rfl
          have c5 := (U23.blk 1 rfl).cell (j := 5) (v := .int .i64 lim) rfl
          have d5 := (U23.blk 0 rfl).cell (j := 5) (v := .int .i64 lim') rfl
          have c6 := (U23.blk 1 rfl).cell (j := 6) (v := .int .u64 tk) rfl
          have d6 := (U23.blk 0 rfl).cell (j := 6) (v := .int .u64 tk') rfl
          have c7 := (U23.blk 1 rfl).cell (j := 7) (v := .int .u64 fo) rfl
          have d7 := (U23.blk 0 rfl).cell (j := 7) (v := .int .u64 fo') rfl
          have c8 := (U23.blk 1 rfl).cell (j := 8) (v := .int .u64 ke) rfl
          have d8 := (U23.blk 0 rfl).cell (j := 8) (v := .int .u64 ke') rfl
          have c9 := (U23.blk 1 rfl).cell (j := 9) (v := .int .u8 pr) rfl
          have d9 := (U23.blk 0 rfl).cell (j := 9) (v := .int .u8 pr') rfl
          have K := K7 _ U23.below
          go_wp2_with fail
          (with_reducible refine K.mono ?_)
          rintro e w27 ⟨rfl, hb7⟩
          have U27 := U23.grow hb7
          clear hb7 K
          clear c0 d0 c1 d1 c2 d2 c3 d3 c4 d4 c5 d5 c6 d6 c7 d7 c8 d8 c9 d9
          have c0 := (U27.blk 1 rfl).cell (j := 0) (v := .string nm) rfl
          have d0 := (U27.blk 0 rfl).cell (j := 0) (v := .string nm') rfl
          have c1 := (U27.blk 1 rfl).cell (j := 1) (v := .string me) rfl
          have d1 := (U27.blk 0 rfl).cell (j := 1) (v := .string me') rfl
          have c2 := (U27.blk 1 rfl).cell (j := 2) (v := .slice A1 ps1.length q1) rfl
          have d2 := (U27.blk 0 rfl).cell (j := 2) (v := .slice A1' ps1'.length q1') rfl
          have c3 := (U27.blk 1 rfl).cell (j := 3) (v := .slice A2 ps2.length q2) rfl
          have d3 := (U27.blk 0 rfl).cell (j := 3) (v := .slice A2' ps2'.length q2') rfl
          have c4 := (U27.blk 1 rfl).cell (j := 4) (v := .int .i64 k) rfl
          have d4 := (U27.blk 0 rfl).cell (j := 4) (v := .int .i64 k') rfl
          have c5 := (U27.blk 1 rfl).cell (j := 5) (v := .int .i64 lim) rfl
          have d5 := (U27.blk 0 rfl).cell (j := 5) (v := .int .i64 lim') rfl
          have c6 := (U27.blk 1 rfl).cell (j := 6) (v := .int .u64 tk) rfl
          have d6 := (U27.blk 0 rfl).cell (j := 6) (v := .int .u64 tk') rfl
          have c7 := (U27.blk 1 rfl).cell (j := 7) (v := .int .u64 fo) rfl
          have d7 := (U27.blk 0 rfl).cell (j := 7) (v := .int .u64 fo') rfl
          have c8 := (U27.blk 1 rfl).cell (j := 8) (v := .int .u64 ke) rfl
          have d8 := (U27.blk 0 rfl).cell (j := 8) (v := .int .u64 ke') rfl
          have c9 := (U27.blk 1 rfl).cell (j := 9) (v := .int .u8 pr) rfl
          have d9 := (U27.blk 0 rfl).cell (j := 9) (v := .int .u8 pr') rfl
          go_wp2_with fail
          go_ret
          exact ⟨by simp [sm7], U27.below⟩
        | true =>
          cases b4 with
          | false =>
            have c0 := (U1.blk 1 rfl).cell (j := 0) (v := .string nm) rfl
            have d0 := (U1.blk 0 rfl).cell (j := 0) (v := .string nm') rfl
            have c1 := (U1.blk 1 rfl).cell (j := 1) (v := .string me) rfl
            have d1 := (U1.blk 0 rfl).cell (j := 1) (v := .string me') rfl
            have c2 := (U1.blk 1 rfl).cell (j := 2) (v := .slice A1 ps1.length q1) rfl
            have d2 := (U1.blk 0 rfl).cell (j := 2) (v := .slice A1' ps1'.length q1') rfl
            have c3 := (U1.blk 1 rfl).cell (j := 3) (v := .slice A2 ps2.length q2) rfl
            have d3 := (U1.blk 0 rfl).cell (j := 3) (v := .slice A2' ps2'.length q2') rfl
            have c4 := (U1.blk 1 rfl).cell (j := 4) (v := .int .i64 k) rfl
            have d4 := (U1.blk 0 rfl).cell (j := 4) (v := .int .i64 k') rfl
            have c5 := (U1.blk 1 rfl).cell (j := 5) (v := .int .i64 lim) rfl
            have d5 := (U1.blk 0 rfl).cell (j := 5) (v := .int .i64 lim') rfl
            have c6 := (U1.blk 1 rfl).cell (j := 6) (v := .int .u64 tk) rfl
            have d6 := (U1.blk 0 rfl).cell (j := 6) (v := .int .u64 tk') rfl
            have c7 := (U1.blk 1 rfl).cell (j := 7) (v := .int .u64 fo) rfl
            have d7 := (U1.blk 0 rfl).cell (j := 7) (v := .int .u64 fo') rfl
            have c8 := (U1.blk 1 rfl).cell (j := 8) (v := .int .u64 ke) rfl
            have d8 := (U1.blk 0 rfl).cell (j := 8) (v := .int .u64 ke') rfl
            have c9 := (U1.blk 1 rfl).cell (j := 9) (v := .int .u8 pr) rfl
            have d9 := (U1.blk 0 rfl).cell (j := 9) (v := .int .u8 pr') rfl
            have K := K3 _ U1.below
            go_wp2_with fail
            (with_reducible refine K.mono ?_)
            rintro e w23 ⟨rfl, hb3⟩
            have U23 := U1.grow hb3
            clear hb3 K
            clear c0 d0 c1 d1 c2 d2 c3 d3 c4 d4 c5 d5 c6 d6 c7 d7 c8 d8 c9 d9
            have c0 := (U23.blk 1 rfl).cell (j := 0) (v := .string nm) rfl
            have d0 := (U23.blk 0 rfl).cell (j := 0) (v := .string nm') rfl
            have c1 := (U23.blk 1 rfl).cell (j := 1) (v := .string me) rfl
            have d1 := (U23.blk 0 rfl).cell (j := 1) (v := .string me') rfl
            have c2 := (U23.blk 1 rfl).cell (j := 2) (v := .slice A1 ps1.length q1) rfl
            have d2 := (U23.blk 0 rfl).cell (j := 2) (v := .slice A1' ps1'.length q1') rfl
            have c3 := (U23.blk 1 rfl).cell (j := 3) (v := .slice A2 ps2.length q2) rfl
            have d3 := (U23.blk 0 rfl).cell (j := 3) (v := .slice A2' ps2'.length q2') rfl
            have c4 := (U23.blk 1 rfl).cell (j := 4) (v := .int .i64 k) rfl
            have d4 := (U23.blk 0 rfl).cell (j := 4) (v := .int .i64 k') rfl
            have c5 := (U23.blk 1 rfl).cell (j := 5) (v := .int .i64 lim) rfl
            have d5 := (U23.blk 0 rfl).cell (j := 5) (v := .int .i64 lim') rfl
            have c6 := (U23.blk 1 rfl).cell (j := 6) (v := .int .u64 tk) rfl
            have d6 := (U23.blk 0 rfl).cell (j := 6) (v := .int .u64 tk') rfl
            have c7 := (U23.blk 1 rfl).cell (j := 7) (v := .int .u64 fo) rfl
            have d7 := (U23.blk 0 rfl).cell (j := 7) (v := .int .u64 fo') rfl
            have c8 := (U23.blk 1 rfl).cell (j := 8) (v := .int .u64 ke) rfl
            have d8 := (U23.blk 0 rfl).cell (j := 8) (v := .int .u64 ke') rfl
            have c9 := (U23.blk 1 rfl).cell (j := 9) (v := .int .u8 pr) rfl
            have d9 := (U23.blk 0 rfl).cell (j := 9) (v := .int .u8 pr') rfl
            have K := K7 _ U23.below
            go_wp2_with fail
            (with_reducible refine K.mono ?_)
            rintro e w27 ⟨rfl, hb7⟩
            have U27 := U23.grow hb7
            clear hb7 K
            clear c0 d0 c1 d1 c2 d2 c3 d3 c4 d4 c5 d5 c6 d6 c7 d7 c8 d8 c9 d9
            have c0 := (U27.blk 1 rfl).cell (j := 0) (v := .string nm) rfl
            have d0 := (U27.blk 0 rfl).cell (j := 0) (v := .string nm') rfl
            have c1 := (U27.blk 1 rfl).cell (j := 1) (v := .string me) rfl
            have d1 := (U27.blk 0 rfl).cell (j := 1) (v := .string me') rfl
            have c2 := (U27.blk 1 rfl).cell (j := 2) (v := .slice A1 ps1.length q1) rfl
            have d2 := (U27.blk 0 rfl).cell (j := 2) (v := .slice A1' ps1'.length q1') rfl
            have c3 := (U27.blk 1 rfl).cell (j := 3) (v := .slice A2 ps2.length q2) rfl
            have d3 := (U27.blk 0 rfl).cell (j := 3) (v := .slice A2' ps2'.length q2') rfl
            have c4 := (U27.blk 1 rfl).cell (j := 4) (v := .int .i64 k) rfl
            have d4 := (U27.blk 0 rfl).cell (j := 4) (v := .int .i64 k') rfl
            have c5 := (U27.blk 1 rfl).cell (j := 5) (v := .int .i64 lim) rfl
            have d5 := (U27.blk 0 rfl).cell (j := 5) (v := .int .i64 lim') rfl
            have c6 := (U27.blk 1 rfl).cell (j := 6) (v := .int .u64 tk) rfl
            have d6 := (U27.blk 0 rfl).cell (j := 6) (v := .int .u64 tk') rfl
            have c7 := (U27.blk 1 rfl).cell (j := 7) (v := .int .u64 fo) rfl
            have d7 := (U27.blk 0 rfl).cell (j := 7) (v := .int .u64 fo') rfl
            have c8 := (U27.blk 1 rfl).cell (j := 8) (v := .int .u64 ke) rfl
            have d8 := (U27.blk 0 rfl).cell (j := 8) (v := .int .u64 ke') rfl
            have c9 := (U27.blk 1 rfl).cell (j := 9) (v := .int .u8 pr) rfl
            have d9 := (U27.blk 0 rfl).cell (j := 9) (v := .int .u8 pr') rfl
            go_wp2_with fail
            go_ret
            exact ⟨by simp [sm7], U27.below⟩
          | true =>
            cases b5 with
            | false =>
              have c0 := (U1.blk 1 rfl).cell (j := 0) (v := .string nm) rfl
              have d0 := (U1.blk 0 rfl).cell (j := 0) (v := .string nm') rfl
              have c1 := (U1.blk 1 rfl).cell (j := 1) (v := .string me) rfl
              have d1 := (U1.blk 0 rfl).cell (j := 1) (v := .string me') rfl
              have c2 := (U1.blk 1 rfl).cell (j := 2) (v := .slice A1 ps1.length q1) rfl
              have d2 := (U1.blk 0 rfl).cell (j := 2) (v := .slice A1' ps1'.length q1') rfl
              have c3 := (U1.blk 1 rfl).cell (j := 3) (v := .slice A2 ps2.length q2) rfl
              have d3 := (U1.blk 0 rfl).cell (j := 3) (v := .slice A2' ps2'.length q2') rfl
              have c4 := (U1.blk 1 rfl).cell (j := 4) (v := .int .i64 k) rfl
              have d4 := (U1.blk 0 rfl).cell (j := 4) (v := .int .i64 k') rfl
              have c5 := (U1.blk 1 rfl).cell (j := 5) (v := .int .i64 lim) rfl
              have d5 := (U1.blk 0 rfl).cell (j := 5) (v := .int .i64 lim') rfl
              have c6 := (U1.blk 1 rfl).cell (j := 6) (v := .int .u64 tk) rfl
              have d6 := (U1.blk 0 rfl).cell (j := 6) (v := .int .u64 tk') rfl
              have c7 := (U1.blk 1 rfl).cell (j := 7) (v := .int .u64 fo) rfl
              have d7 := (U1.blk 0 rfl).cell (j := 7) (v := .int .u64 fo') rfl
              have c8 := (U1.blk 1 rfl).cell (j := 8) (v := .int .u64 ke) rfl
              have d8 := (U1.blk 0 rfl).cell (j := 8) (v := .int .u64 ke') rfl
              have c9 := (U1.blk 1 rfl).cell (j := 9) (v := .int .u8 pr) rfl
              have d9 := (U1.blk 0 rfl).cell (j := 9) (v := .int .u8 pr') rfl
              have K := K3 _ U1.below
              go_wp2_with fail
              (with_reducible refine K.mono ?_)
              rintro e w23 ⟨rfl, hb3⟩
              have U23 := U1.grow hb3
              clear hb3 K
              clear c0 d0 c1 d1 c2 d2 c3 d3 c4 d4 c5 d5 c6 d6 c7 d7 c8 d8 c9 d9
              have c0 := (U23.blk 1 rfl).cell (j := 0) (v := .string nm) rfl
              have d0 := (U23.blk 0 rfl).cell (j := 0) (v := .string nm') rfl
              have c1 := (U23.blk 1 rfl).cell (j := 1) (v := .string me) rfl
              have d1 := (U23.blk 0 rfl).cell (j := 1) (v := .string me') rfl
              have c2 := (U23.blk 1 rfl).cell (j := 2) (v := .slice A1 ps1.length q1) rfl
              have d2 := (U23.blk 0 rfl).cell (j := 2) (v := .slice A1' ps1'.length q1') rfl
              have c3 := (U23.blk 1 rfl).cell (j := 3) (v := .slice A2 ps2.length q2) rfl
              have d3 := (U23.blk 0 rfl).cell (j := 3) (v := .slice A2' ps2'.length q2') rfl
              have c4 := (U23.blk 1 rfl).cell (j := 4) (v := .int .i64 k) rfl
              have d4 := (U23.blk 0 rfl).cell (j := 4) (v := .int .i64 k') rfl
              have c5 := (U23.blk 1 rfl).cell (j := 5) (v := .int .i64 lim) rfl
              have d5 := (U23.blk 0 rfl).cell (j := 5) (v := .int .i64 lim') rfl
              have c6 := (U23.blk 1 rfl).cell (j := 6) (v := .int .u64 tk) rfl
              have d6 := (U23.blk 0 rfl).cell (j := 6) (v := .int .u64 tk') rfl
              have c7 := (U23.blk 1 rfl).cell (j := 7) (v := .int .u64 fo) rfl
              have d7 := (U23.blk 0 rfl).cell (j := 7) (v := .int .u64 fo') rfl
              have c8 := (U23.blk 1 rfl).cell (j := 8) (v := .int .u64 ke) rfl
              have d8 := (U23.blk 0 rfl).cell (j := 8) (v := .int .u64 ke') rfl
              have c9 := (U23.blk 1 rfl).cell (j := 9) (v := .int .u8 pr) rfl
              have d9 := (U23.blk 0 rfl).cell (j := 9) (v := .int .u8 pr') rfl
              have K := K7 _ U23.below
              go_wp2_with fail
              (with_reducible refine K.mono ?_)
              rintro e w27 ⟨rfl, hb7⟩
              have U27 := U23.grow hb7
              clear hb7 K
              clear c0 d0 c1 d1 c2 d2 c3 d3 c4 d4 c5 d5 c6 d6 c7 d7 c8 d8 c9 d9
              have c0 := (U27.blk 1 rfl).cell (j := 0) (v := .string nm) rfl
              have d0 := (U27.blk 0 rfl).cell (j := 0) (v := .string nm') rfl
              have c1 := (U27.blk 1 rfl).cell (j := 1) (v := .string me) rfl
              have d1 := (U27.blk 0 rfl).cell (j := 1) (v := .string me') rfl
              have c2 := (U27.blk 1 rfl).cell (j := 2) (v := .slice A1 ps1.length q1) rfl
              have d2 := (U27.blk 0 rfl).cell (j := 2) (v := .slice A1' ps1'.length q1') rfl
              have c3 := (U27.blk 1 rfl).cell (j := 3) (v := .slice A2 ps2.length q2) rfl
              have d3 := (U27.blk 0 rfl).cell (j := 3) (v := .slice A2' ps2'.length q2') rfl
              have c4 := (U27.blk 1 rfl).cell (j := 4) (v := .int .i64 k) rfl
              have d4 := (U27.blk 0 rfl).cell (j := 4) (v := .int .i64 k') rfl
              have c5 := (U27.blk 1 rfl).cell (j := 5) (v := .int .i64 lim) rfl
              have d5 := (U27.blk 0 rfl).cell (j := 5) (v := .int .i64 lim') rfl
              have c6 := (U27.blk 1 rfl).cell (j := 6) (v := .int .u64 tk) rfl
              have d6 := (U27.blk 0 rfl).cell (j := 6) (v := .int .u64 tk') rfl
              have c7 := (U27.blk 1 rfl).cell (j := 7) (v := .int .u64 fo) rfl
              have d7 := (U27.blk 0 rfl).cell (j := 7) (v := .int .u64 fo') rfl
              have c8 := (U27.blk 1 rfl).cell (j := 8) (v := .int .u64 ke) rfl
              have d8 := (U27.blk 0 rfl).cell (j := 8) (v := .int .u64 ke') rfl
              have c9 := (U27.blk 1 rfl).cell (j := 9) (v := .int .u8 pr) rfl
              have d9 := (U27.blk 0 rfl).cell (j := 9) (v := .int .u8 pr') rfl
              go_wp2_with fail
              go_ret
              exact ⟨by simp [sm7], U27.below⟩
            | true =>
              cases b8 with
              | false =>
                have c0 := (U1.blk 1 rfl).cell (j := 0) (v := .string nm) rfl
                have d0 := (U1.blk 0 rfl).cell (j := 0) (v := .string nm') rfl
                have c1 := (U1.blk 1 rfl).cell (j := 1) (v := .string me) rfl
                have d1 := (U1.blk 0 rfl).cell (j := 1) (v := .string me') rfl
                have c2 := (U1.blk 1 rfl).cell (j := 2) (v := .slice A1 ps1.length q1) rfl
                have d2 := (U1.blk 0 rfl).cell (j := 2) (v := .slice A1' ps1'.length q1') rfl
                have c3 := (U1.blk 1 rfl).cell (j := 3) (v := .slice A2 ps2.length q2) rfl
                have d3 := (U1.blk 0 rfl).cell (j := 3) (v := .slice A2' ps2'.length q2') rfl
                have c4 := (U1.blk 1 rfl).cell (j := 4) (v := .int .i64 k) rfl
                have d4 := (U1.blk 0 rfl).cell (j := 4) (v := .int .i64 k') rfl
                have c5 := (U1.blk 1 rfl).cell (j := 5) (v := .int .i64 lim) rfl
                have d5 := (U1.blk 0 rfl).cell (j := 5) (v := .int .i64 lim') rfl
                have c6 := (U1.blk 1 rfl).cell (j := 6) (v := .int .u64 tk) rfl
                have d6 := (U1.blk 0 rfl).cell (j := 6) (v := .int .u64 tk') rfl
                have c7 := (U1.blk 1 rfl).cell (j := 7) (v := .int .u64 fo) rfl
                have d7 := (U1.blk 0 rfl).cell (j := 7) (v := .int .u64 fo') rfl
                have c8 := (U1.blk 1 rfl).cell (j := 8) (v := .int .u64 ke) rfl
                have d8 := (U1.blk 0 rfl).cell (j := 8) (v := .int .u64 ke') rfl
                have c9 := (U1.blk 1 rfl).cell (j := 9) (v := .int .u8 pr) rfl
                have d9 := (U1.blk 0 rfl).cell (j := 9) (v := .int .u8 pr') rfl
                have K := K3 _ U1.below
                go_wp2_with fail
                (with_reducible refine K.mono ?_)
                rintro e w23 ⟨rfl, hb3⟩
                have U23 := U1.grow hb3
                clear hb3 K
                clear c0 d0 c1 d1 c2 d2 c3 d3 c4 d4 c5 d5 c6 d6 c7 d7 c8 d8 c9 d9
                have c0 := (U23.blk 1 rfl).cell (j := 0) (v := .string nm) rfl
                have d0 := (U23.blk 0 rfl).cell (j := 0) (v := .string nm') rfl
                have c1 := (U23.blk 1 rfl).cell (j := 1) (v := .string me) rfl
                have d1 := (U23.blk 0 rfl).cell (j := 1) (v := .string me') rfl
                have c2 := (U23.blk 1 rfl).cell (j := 2) (v := .slice A1 ps1.length q1) rfl
                have d2 := (U23.blk 0 rfl).cell (j := 2) (v := .slice A1' ps1'.length q1') rfl
                have c3 := (U23.blk 1 rfl).cell (j := 3) (v := .slice A2 ps2.length q2) rfl
                have d3 := (U23.blk 0 rfl).cell (j := 3) (v := .slice A2' ps2'.length q2') rfl
                have c4 := (U23.blk 1 rfl).cell (j := 4) (v := .int .i64 k) rfl
                have d4 := (U23.blk 0 rfl).cell (j := 4) (v := .int .i64 k') rfl
                have c5 := (U23.blk 1 rfl).cell (j := 5) (v := .int .i64 lim) rfl
                have d5 := (U23.blk 0 rfl).cell (j := 5) (v := .int .i64 lim') rfl
                have c6 := (U23.blk 1 rfl).cell (j := 6) (v := .int .u64 tk) rfl
                have d6 := (U23.blk 0 rfl).cell (j := 6) (v := .int .u64 tk') rfl
                have c7 := (U23.blk 1 rfl).cell (j := 7) (v := .int .u64 fo) rfl
                have d7 := (U23.blk 0 rfl).cell (j := 7) (v := .int .u64 fo') rfl
                have c8 := (U23.blk 1 rfl).cell (j := 8) (v := .int .u64 ke) rfl
                have d8 := (U23.blk 0 rfl).cell (j := 8) (v := .int .u64 ke') rfl
                have c9 := (U23.blk 1 rfl).cell (j := 9) (v := .int .u8 pr) rfl
                have d9 := (U23.blk 0 rfl).cell (j := 9) (v := .int .u8 pr') rfl
                have K := K7 _ U23.below
                go_wp2_with fail
                (with_reducible refine K.mono ?_)
                rintro e w27 ⟨rfl, hb7⟩
                have U27 := U23.grow hb7
                clear hb7 K
                clear c0 d0 c1 d1 c2 d2 c3 d3 c4 d4 c5 d5 c6 d6 c7 d7 c8 d8 c9 d9
                have c0 := (U27.blk 1 rfl).cell (j := 0) (v := .string nm) rfl
                have d0 := (U27.blk 0 rfl).cell (j := 0) (v := .string nm') rfl
                have c1 := (U27.blk 1 rfl).cell (j := 1) (v := .string me) rfl
                have d1 := (U27.blk 0 rfl).cell (j := 1) (v := .string me') rfl
                have c2 := (U27.blk 1 rfl).cell (j := 2) (v := .slice A1 ps1.length q1) rfl
                have d2 := (U27.blk 0 rfl).cell (j := 2) (v := .slice A1' ps1'.length q1') rfl
                have c3 := (U27.blk 1 rfl).cell (j := 3) (v := .slice A2 ps2.length q2) rfl
                have d3 := (U27.blk 0 rfl).cell (j := 3) (v := .slice A2' ps2'.length q2') rfl
                have c4 := (U27.blk 1 rfl).cell (j := 4) (v := .int .i64 k) rfl
                have d4 := (U27.blk 0 rfl).cell (j := 4) (v := .int .i64 k') rfl
                have c5 := (U27.blk 1 rfl).cell (j := 5) (v := .int .i64 lim) rfl
                have d5 := (U27.blk 0 rfl).cell (j := 5) (v := .int .i64 lim') rfl
                have c6 := (U27.blk 1 rfl).cell (j := 6) (v := .int .u64 tk) rfl
                have d6 := (U27.blk 0 rfl).cell (j := 6) (v := .int .u64 tk') rfl
                have c7 := (U27.blk 1 rfl).cell (j := 7) (v := .int .u64 fo) rfl
                have d7 := (U27.blk 0 rfl).cell (j := 7) (v := .int .u64 fo') rfl
                have c8 := (U27.blk 1 rfl).cell (j := 8) (v := .int .u64 ke) rfl
                have d8 := (U27.blk 0 rfl).cell (j := 8) (v := .int .u64 ke') rfl
                have c9 := (U27.blk 1 rfl).cell (j := 9) (v := .int .u8 pr) rfl
                have d9 := (U27.blk 0 rfl).cell (j := 9) (v := .int .u8 pr') rfl
                go_wp2_with fail
                go_ret
                exact ⟨by simp [sm7], U27.below⟩
              | true =>
                cases b6 with
                | false =>
                  have c0 := (U1.blk 1 rfl).cell (j := 0) (v := .string nm) rfl
                  have d0 := (U1.blk 0 rfl).cell (j := 0) (v := .string nm') rfl
                  have c1 := (U1.blk 1 rfl).cell (j := 1) (v := .string me) rfl
                  have d1 := (U1.blk 0 rfl).cell (j := 1) (v := .string me') rfl
                  have c2 := (U1.blk 1 rfl).cell (j := 2) (v := .slice A1 ps1.length q1) rfl
                  have d2 := (U1.blk 0 rfl).cell (j := 2) (v := .slice A1' ps1'.length q1') rfl
                  have c3 := (U1.blk 1 rfl).cell (j := 3) (v := .slice A2 ps2.length q2) rfl
                  have d3 := (U1.blk 0 rfl).cell (j := 3) (v := .slice A2' ps2'.length q2') rfl
                  have c4 := (U1.blk 1 rfl).cell (j := 4) (v := .int .i64 k) rfl
                  have d4 := (U1.blk 0 rfl).cell (j := 4) (v := .int .i64 k') rfl
                  have c5 := (U1.blk 1 rfl).cell (j := 5) (v := .int .i64 lim) rfl
                  have d5 := (U1.blk 0 rfl).cell (j := 5) (v := .int .i64 lim') rfl
                  have c6 := (U1.blk 1 rfl).cell (j := 6) (v := .int .u64 tk) rfl
                  have d6 := (U1.blk 0 rfl).cell (j := 6) (v := .int .u64 tk') rfl
                  have c7 := (U1.blk 1 rfl).cell (j := 7) (v := .int .u64 fo) rfl
                  have d7 := (U1.blk 0 rfl).cell (j := 7) (v := .int .u64 fo') rfl
                  have c8 := (U1.blk 1 rfl).cell (j := 8) (v := .int .u64 ke) rfl
                  have d8 := (U1.blk 0 rfl).cell (j := 8) (v := .int .u64 ke') rfl
                  have c9 := (U1.blk 1 rfl).cell (j := 9) (v := .int .u8 pr) rfl
                  have d9 := (U1.blk 0 rfl).cell (j := 9) (v := .int .u8 pr') rfl
                  have K := K3 _ U1.below
                  go_wp2_with fail
                  (with_reducible refine K.mono ?_)
                  rintro e w23 ⟨rfl, hb3⟩
                  have U23 := U1.grow hb3
                  clear hb3 K
                  clear c0 d0 c1 d1 c2 d2 c3 d3 c4 d4 c5 d5 c6 d6 c7 d7 c8 d8 c9 d9
                  have c0 := (U23.blk 1 rfl).cell (j := 0) (v := .string nm) rfl
                  have d0 := (U23.blk 0 rfl).cell (j := 0) (v := .string nm') rfl
                  have c1 := (U23.blk 1 rfl).cell (j := 1) (v := .string me) rfl
                  have d1 := (U23.blk 0 rfl).cell (j := 1) (v := .string me') rfl
                  have c2 := (U23.blk 1 rfl).cell (j := 2) (v := .slice A1 ps1.length q1) rfl
                  have d2 := (U23.blk 0 rfl).cell (j := 2) (v := .slice A1' ps1'.length q1') rfl
                  have c3 := (U23.blk 1 rfl).cell (j := 3) (v := .slice A2 ps2.length q2) rfl
                  have d3 := (U23.blk 0 rfl).cell (j := 3) (v := .slice A2' ps2'.length q2') rfl
                  have c4 := (U23.blk 1 rfl).cell (j := 4) (v := .int .i64 k) rfl
                  have d4 := (U23.blk 0 rfl).cell (j := 4) (v := .int .i64 k') rfl
                  have c5 := (U23.blk 1 rfl).cell (j := 5) (v := .int .i64 lim) rfl
                  have d5 := (U23.blk 0 rfl).cell (j := 5) (v := .int .i64 lim') rfl
                  have c6 := (U23.blk 1 rfl).cell (j := 6) (v := .int .u64 tk) rfl
                  have d6 := (U23.blk 0 rfl).cell (j := 6) (v := .int .u64 tk') rfl
                  have c7 := (U23.blk 1 rfl).cell (j := 7) (v := .int .u64 fo) rfl
                  have d7 := (U23.blk 0 rfl).cell (j := 7) (v := .int .u64 fo') rfl
                  have c8 := (U23.blk 1 rfl).cell (j := 8) (v := .int .u64 ke) rfl
                  have d8 := (U23.blk 0 rfl).cell (j := 8) (v := .int .u64 ke') rfl
                  have c9 := (U23.blk 1 rfl).cell (j := 9) (v := .int .u8 pr) rfl
                  have d9 := (U23.blk 0 rfl).cell (j := 9) (v := .int .u8 pr') rfl
                  have K := K7 _ U23.below
                  go_wp2_with fail
                  (with_reducible refine K.mono ?_)
                  rintro e w27 ⟨rfl, hb7⟩
                  have U27 := U23.grow hb7
                  clear hb7 K
                  clear c0 d0 c1 d1 c2 d2 c3 d3 c4 d4 c5 d5 c6 d6 c7 d7 c8 d8 c9 d9
                  have c0 := (U27.blk 1 rfl).cell (j := 0) (v := .string nm) rfl
                  have d0 := (U27.blk 0 rfl).cell (j := 0) (v := .string nm') rfl
                  have c1 := (U27.blk 1 rfl).cell (j := 1) (v := .string me) rfl
                  have d1 := (U27.blk 0 rfl).cell (j := 1) (v := .string me') rfl
                  have c2 := (U27.blk 1 rfl).cell (j := 2) (v := .slice A1 ps1.length q1) rfl
                  have d2 := (U27.blk 0 rfl).cell (j := 2) (v := .slice A1' ps1'.length q1') rfl
                  have c3 := (U27.blk 1 rfl).cell (j := 3) (v := .slice A2 ps2.length q2) rfl
                  have d3 := (U27.blk 0 rfl).cell (j := 3) (v := .slice A2' ps2'.length q2') rfl
                  have c4 := (U27.blk 1 rfl).cell (j := 4) (v := .int .i64 k) rfl
                  have d4 := (U27.blk 0 rfl).cell (j := 4) (v := .int .i64 k') rfl
                  have c5 := (U27.blk 1 rfl).cell (j := 5) (v := .int .i64 lim) rfl
                  have d5 := (U27.blk 0 rfl).cell (j := 5) (v := .int .i64 lim') rfl
                  have c6 := (U27.blk 1 rfl).cell (j := 6) (v := .int .u64 tk) rfl
                  have d6 := (U27.blk 0 rfl).cell (j := 6) (v := .int .u64 tk') rfl
                  have c7 := (U27.blk 1 rfl).cell (j := 7) (v := .int .u64 fo) rfl
                  have d7 := (U27.blk 0 rfl).cell (j := 7) (v := .int .u64 fo') rfl
                  have c8 := (U27.blk 1 rfl).cell (j := 8) (v := .int .u64 ke) rfl
                  have d8 := (U27.blk 0 rfl).cell (j := 8) (v := .int .u64 ke') rfl
                  have c9 := (U27.blk 1 rfl).cell (j := 9) (v := .int .u8 pr) rfl
                  have d9 := (U27.blk 0 rfl).cell (j := 9) (v := .int .u8 pr') rfl
                  go_wp2_with fail
                  go_ret
                  exact ⟨by simp [sm7], U27.below⟩
                | true =>
                  have c0 := (U1.blk 1 rfl).cell (j := 0) (v := .string nm) rfl
                  have d0 := (U1.blk 0 rfl).cell (j := 0) (v := .string nm') rfl
                  have c1 := (U1.blk 1 rfl).cell (j := 1) (v := .string me) rfl
                  have d1 := (U1.blk 0 rfl).cell (j := 1) (v := .string me') rfl
                  have c2 := (U1.blk 1 rfl).cell (j := 2) (v := .slice A1 ps1.length q1) rfl
                  have d2 := (U1.blk 0 rfl).cell (j := 2) (v := .slice A1' ps1'.length q1') rfl
                  have c3 := (U1.blk 1 rfl).cell (j := 3) (v := .slice A2 ps2.length q2) rfl
                  have d3 := (U1.blk 0 rfl).cell (j := 3) (v := .slice A2' ps2'.length q2') rfl
                  have c4 := (U1.blk 1 rfl).cell (j := 4) (v := .int .i64 k) rfl
                  have d4 := (U1.blk 0 rfl).cell (j := 4) (v := .int .i64 k') rfl
                  have c5 := (U1.blk 1 rfl).cell (j := 5) (v := .int .i64 lim) rfl
                  have d5 := (U1.blk 0 rfl).cell (j := 5) (v := .int .i64 lim') rfl
                  have c6 := (U1.blk 1 rfl).cell (j := 6) (v := .int .u64 tk) rfl
                  have d6 := (U1.blk 0 rfl).cell (j := 6) (v := .int .u64 tk') rfl
                  have c7 := (U1.blk 1 rfl).cell (j := 7) (v := .int .u64 fo) rfl
                  have d7 := (U1.blk 0 rfl).cell (j := 7) (v := .int .u64 fo') rfl
                  have c8 := (U1.blk 1 rfl).cell (j := 8) (v := .int .u64 ke) rfl
                  have d8 := (U1.blk 0 rfl).cell (j := 8) (v := .int .u64 ke') rfl
                  have c9 := (U1.blk 1 rfl).cell (j := 9) (v := .int .u8 pr) rfl
                  have d9 := (U1.blk 0 rfl).cell (j := 9) (v := .int .u8 pr') rfl
                  have K := K3 _ U1.below
                  go_wp2_with fail
                  (with_reducible refine K.mono ?_)
                  rintro e w23 ⟨rfl, hb3⟩
                  have U23 := U1.grow hb3
                  clear hb3 K
                  clear c0 d0 c1 d1 c2 d2 c3 d3 c4 d4 c5 d5 c6 d6 c7 d7 c8 d8 c9 d9
                  have c0 := (U23.blk 1 rfl).cell (j := 0) (v := .string nm) rfl
                  have d0 := (U23.blk 0 rfl).cell (j := 0) (v := .string nm') rfl
                  have c1 := (U23.blk 1 rfl).cell (j := 1) (v := .string me) rfl
                  have d1 := (U23.blk 0 rfl).cell (j := 1) (v := .string me') rfl
                  have c2 := (U23.blk 1 rfl).cell (j := 2) (v := .slice A1 ps1.length q1) rfl
                  have d2 := (U23.blk 0 rfl).cell (j := 2) (v := .slice A1' ps1'.length q1') rfl
                  have c3 := (U23.blk 1 rfl).cell (j := 3) (v := .slice A2 ps2.length q2) rfl
                  have d3 := (U23.blk 0 rfl).cell (j := 3) (v := .slice A2' ps2'.length q2') rfl
                  have c4 := (U23.blk 1 rfl).cell (j := 4) (v := .int .i64 k) rfl
                  have d4 := (U23.blk 0 rfl).cell (j := 4) (v := .int .i64 k') rfl
                  have c5 := (U23.blk 1 rfl).cell (j := 5) (v := .int .i64 lim) rfl
                  have d5 := (U23.blk 0 rfl).cell (j := 5) (v := .int .i64 lim') rfl
                  have c6 := (U23.blk 1 rfl).cell (j := 6) (v := .int .u64 tk) rfl
                  have d6 := (U23.blk 0 rfl).cell (j := 6) (v := .int .u64 tk') rfl
                  have c7 := (U23.blk 1 rfl).cell (j := 7) (v := .int .u64 fo) rfl
                  have d7 := (U23.blk 0 rfl).cell (j := 7) (v := .int .u64 fo') rfl
                  have c8 := (U23.blk 1 rfl).cell (j := 8) (v := .int .u64 ke) rfl
                  have d8 := (U23.blk 0 rfl).cell (j := 8) (v := .int .u64 ke') rfl
                  have c9 := (U23.blk 1 rfl).cell (j := 9) (v := .int .u8 pr) rfl
                  have d9 := (U23.blk 0 rfl).cell (j := 9) (v := .int .u8 pr') rfl
                  have K := K7 _ U23.below
                  go_wp2_with fail
                  (with_reducible refine K.mono ?_)
                  rintro e w27 ⟨rfl, hb7⟩
                  have U27 := U23.grow hb7
                  clear hb7 K
                  clear c0 d0 c1 d1 c2 d2 c3 d3 c4 d4 c5 d5 c6 d6 c7 d7 c8 d8 c9 d9
                  have c0 := (U27.blk 1 rfl).cell (j := 0) (v := .string nm) rfl
                  have d0 := (U27.blk 0 rfl).cell (j := 0) (v := .string nm') rfl
                  have c1 := (U27.blk 1 rfl).cell (j := 1) (v := .string me) rfl
                  have d1 := (U27.blk 0 rfl).cell (j := 1) (v := .string me') rfl
                  have c2 := (U27.blk 1 rfl).cell (j := 2) (v := .slice A1 ps1.length q1) rfl
                  have d2 := (U27.blk 0 rfl).cell (j := 2) (v := .slice A1' ps1'.length q1') rfl
                  have c3 := (U27.blk 1 rfl).cell (j := 3) (v := .slice A2 ps2.length q2) rfl
                  have d3 := (U27.blk 0 rfl).cell (j := 3) (v := .slice A2' ps2'.length q2') rfl
                  have c4 := (U27.blk 1 rfl).cell (j := 4) (v := .int .i64 k) rfl
                  have d4 := (U27.blk 0 rfl).cell (j := 4) (v := .int .i64 k') rfl
                  have c5 := (U27.blk 1 rfl).cell (j := 5) (v := .int .i64 lim) rfl
                  have d5 := (U27.blk 0 rfl).cell (j := 5) (v := .int .i64 lim') rfl
                  have c6 := (U27.blk 1 rfl).cell (j := 6) (v := .int .u64 tk) rfl
                  have d6 := (U27.blk 0 rfl).cell (j := 6) (v := .int .u64 tk') rfl
                  have c7 := (U27.blk 1 rfl).cell (j := 7) (v := .int .u64 fo) rfl
                  have d7 := (U27.blk 0 rfl).cell (j := 7) (v := .int .u64 fo') rfl
                  have c8 := (U27.blk 1 rfl).cell (j := 8) (v := .int .u64 ke) rfl
                  have d8 := (U27.blk 0 rfl).cell (j := 8) (v := .int .u64 ke') rfl
                  have c9 := (U27.blk 1 rfl).cell (j := 9) (v := .int .u8 pr) rfl
                  have d9 := (U27.blk 0 rfl).cell (j := 9) (v := .int .u8 pr') rfl
                  go_wp2_with fail
                  go_ret
                  exact ⟨by simp [sm7], U27.below⟩
end Go.Proofs.YtebnbbbiobaneaaGreatDoor
