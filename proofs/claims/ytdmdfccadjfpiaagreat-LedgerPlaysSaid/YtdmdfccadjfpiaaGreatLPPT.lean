/-
  LedgerPlays: items of any origins, old ones, ones that jump, crashes at any place: whatever it is handed, it returns true, and what it was handed reads as it did. Conditions: none. Acts, handed in, opened. An item, handed in, opened.
-/
import Derived.Test.YtdmdfccadjfpiaaGreatDatT
import Derived.Test.YtdmdfccadjfpiaaGreatItT
import Derived.Test.YtdmdfccadjfpiaaGreatLPlT
import Derived.ChangeMaps5
namespace Go.Proofs.YtdmdfccadjfpiaaGreat
open Go.Joins Go.ChangeShapes Go.WideShapes Go.ChangeAt Go.RowKit Go.Deep
set_option maxRecDepth 100000
theorem nPairI : Tryz.prog.cellsOf 137 = 2 := by kernel_rfl
theorem nPairsI : Tryz.prog.cellsOf 29 = 1 := by kernel_rfl
theorem nStrI : Tryz.prog.cellsOf 9 = 1 := by kernel_rfl
theorem nU8I : Tryz.prog.cellsOf 5 = 1 := by kernel_rfl
theorem nU64I : Tryz.prog.cellsOf 28 = 1 := by kernel_rfl
theorem nI64I : Tryz.prog.cellsOf 2 = 1 := by kernel_rfl
theorem nBoolI : Tryz.prog.cellsOf 4 = 1 := by kernel_rfl
theorem nStateI : Tryz.prog.cellsOf 30 = 1 := by kernel_rfl
theorem nEventI : Tryz.prog.cellsOf 32 = 9 := by kernel_rfl
theorem nGapI : Tryz.prog.cellsOf 34 = 3 := by kernel_rfl
theorem nItemI : Tryz.prog.cellsOf 36 = 13 := by kernel_rfl
section
variable {H : Type} {enc : TypeId × Value → H} {W : World} {fuel : Nat} {cs : List Value} {x : DataW H × List MemPlace}
theorem op_pair (h : DataW.trod enc Tryz.prog W 0 (fun _ => true) true fuel 137 cs = some x) : ∃ p : Pr, cs = [.string p.1, .string p.2] ∧ p.1.size ≤ maxLen ∧ p.2.size ≤ maxLen := by
  obtain ⟨hl, n, hg⟩ := op_fields Tryz.underlying137 h
  rw [nPairI] at hl
  match cs, hl with
  | [c0, c1], _ =>
    obtain ⟨y0, g0⟩ := hg 0 9 0 rfl
    rw [nStrI] at g0
    dsimp only [List.drop, List.take] at g0
    obtain ⟨s0, b0, e0⟩ := op_str Tryz.underlying9 g0
    obtain ⟨y1, g1⟩ := hg 1 9 1 rfl
    rw [nStrI] at g1
    dsimp only [List.drop, List.take] at g1
    obtain ⟨s1, b1, e1⟩ := op_str Tryz.underlying9 g1
    clear hg h
    simp only [List.cons.injEq, and_true] at e0 e1
    exact ⟨(s0, s1), by rw [e0, e1], b0, b1⟩
theorem op_pairs (h : DataW.trod enc Tryz.prog W 0 (fun _ => true) true fuel 29 cs = some x) :
    ∃ (v : Value) (ps : List Pr), cs = [v] ∧ Rd W 2 v ps.length (pairCells ps) ∧ ∀ p ∈ ps, p.1.size ≤ maxLen ∧ p.2.size ≤ maxLen :=
  op_rows (fun p : Pr => [.string p.1, .string p.2]) 2 (by decide) (fun _ => rfl) Tryz.underlying29 nPairI h (fun p => p.1.size ≤ maxLen ∧ p.2.size ≤ maxLen) (fun _ _ _ h => op_pair h)
theorem op_event (h : DataW.trod enc Tryz.prog W 0 (fun _ => true) true fuel 32 cs = some x) : ∃ (o sq tm : Nat) (ru : ByteArray) (lv : Value) (ps : List Pr) (st pr : Nat) (va : Int) (ow : Nat), cs = [.int .u8 o, .int .u64 sq, .int .u64 tm, .string ru, lv, .int .u8 st, .int .u8 pr, .int .i64 va, .int .u8 ow] ∧ o < 256 ∧ sq < 18446744073709551616 ∧ tm < 18446744073709551616 ∧ ru.size ≤ maxLen ∧ Rd W 2 lv ps.length (pairCells ps) ∧ (∀ p ∈ ps, p.1.size ≤ maxLen ∧ p.2.size ≤ maxLen) ∧ st < 256 ∧ pr < 256 ∧ (-9223372036854775808 ≤ va ∧ va ≤ 9223372036854775807) ∧ ow < 256 := by
  obtain ⟨hl, n, hg⟩ := op_fields Tryz.underlying32 h
  rw [nEventI] at hl
  match cs, hl with
  | [c0, c1, c2, c3, c4, c5, c6, c7, c8], _ =>
    obtain ⟨y0, g0⟩ := hg 0 5 0 rfl
    rw [nU8I] at g0
    dsimp only [List.drop, List.take] at g0
    obtain ⟨k0, b0, e0⟩ := op_u8 Tryz.underlying5 g0
    obtain ⟨y1, g1⟩ := hg 1 28 1 rfl
    rw [nU64I] at g1
    dsimp only [List.drop, List.take] at g1
    obtain ⟨k1, b1, e1⟩ := op_u64 Tryz.underlying28 g1
    obtain ⟨y2, g2⟩ := hg 2 28 2 rfl
    rw [nU64I] at g2
    dsimp only [List.drop, List.take] at g2
    obtain ⟨k2, b2, e2⟩ := op_u64 Tryz.underlying28 g2
    obtain ⟨y3, g3⟩ := hg 3 9 3 rfl
    rw [nStrI] at g3
    dsimp only [List.drop, List.take] at g3
    obtain ⟨s3, b3, e3⟩ := op_str Tryz.underlying9 g3
    obtain ⟨y4, g4⟩ := hg 4 29 4 rfl
    rw [nPairsI] at g4
    dsimp only [List.drop, List.take] at g4
    obtain ⟨v4, l4, e4, r4, d4⟩ := op_pairs g4
    obtain ⟨y5, g5⟩ := hg 5 30 5 rfl
    rw [nStateI] at g5
    dsimp only [List.drop, List.take] at g5
    obtain ⟨k5, b5, e5⟩ := op_u8 Tryz.underlying30 g5
    obtain ⟨y6, g6⟩ := hg 6 5 6 rfl
    rw [nU8I] at g6
    dsimp only [List.drop, List.take] at g6
    obtain ⟨k6, b6, e6⟩ := op_u8 Tryz.underlying5 g6
    obtain ⟨y7, g7⟩ := hg 7 2 7 rfl
    rw [nI64I] at g7
    dsimp only [List.drop, List.take] at g7
    obtain ⟨k7, b7, d7, e7⟩ := op_i64 Tryz.underlying2 g7
    obtain ⟨y8, g8⟩ := hg 8 5 8 rfl
    rw [nU8I] at g8
    dsimp only [List.drop, List.take] at g8
    obtain ⟨k8, b8, e8⟩ := op_u8 Tryz.underlying5 g8
    clear hg h
    simp only [List.cons.injEq, and_true] at e0 e1 e2 e3 e4 e5 e6 e7 e8
    exact ⟨k0, k1, k2, s3, v4, l4, k5, k6, k7, k8, by rw [e0, e1, e2, e3, e4, e5, e6, e7, e8], b0, b1, b2, b3, r4, d4, b5, b6, ⟨b7, d7⟩, b8⟩
theorem op_gap (h : DataW.trod enc Tryz.prog W 0 (fun _ => true) true fuel 34 cs = some x) : ∃ (o f t : Nat), cs = [.int .u8 o, .int .u64 f, .int .u64 t] ∧ o < 256 ∧ f < 18446744073709551616 ∧ t < 18446744073709551616 := by
  obtain ⟨hl, n, hg⟩ := op_fields Tryz.underlying34 h
  rw [nGapI] at hl
  match cs, hl with
  | [c0, c1, c2], _ =>
    obtain ⟨y0, g0⟩ := hg 0 5 0 rfl
    rw [nU8I] at g0
    dsimp only [List.drop, List.take] at g0
    obtain ⟨k0, b0, e0⟩ := op_u8 Tryz.underlying5 g0
    obtain ⟨y1, g1⟩ := hg 1 28 1 rfl
    rw [nU64I] at g1
    dsimp only [List.drop, List.take] at g1
    obtain ⟨k1, b1, e1⟩ := op_u64 Tryz.underlying28 g1
    obtain ⟨y2, g2⟩ := hg 2 28 2 rfl
    rw [nU64I] at g2
    dsimp only [List.drop, List.take] at g2
    obtain ⟨k2, b2, e2⟩ := op_u64 Tryz.underlying28 g2
    clear hg h
    simp only [List.cons.injEq, and_true] at e0 e1 e2
    exact ⟨k0, k1, k2, by rw [e0, e1, e2], b0, b1, b2⟩
theorem op_item (h : DataW.trod enc Tryz.prog W 0 (fun _ => true) true fuel 36 cs = some x) : ∃ a : ItV, cs = it13 a ∧ a.ok W := by
  obtain ⟨hl, n, hg⟩ := op_fields Tryz.underlying36 h
  rw [nItemI] at hl
  match cs, hl with
  | [c0, c1, c2, c3, c4, c5, c6, c7, c8, c9, c10, c11, c12], _ =>
    obtain ⟨y0, g0⟩ := hg 0 4 0 rfl
    rw [nBoolI] at g0
    dsimp only [List.drop, List.take] at g0
    obtain ⟨b0, e0⟩ := op_bool Tryz.underlying4 g0
    obtain ⟨y1, g1⟩ := hg 1 32 1 rfl
    rw [nEventI] at g1
    dsimp only [List.drop, List.take] at g1
    obtain ⟨o1, sq1, tm1, ru1, lv1, ps1, st1, pr1, va1, ow1, e1, h1, h2, h3, h4, h5, h6, h7, h8, h9, h10⟩ := op_event g1
    obtain ⟨y2, g2⟩ := hg 2 34 10 rfl
    rw [nGapI] at g2
    dsimp only [List.drop, List.take] at g2
    obtain ⟨go2, gf2, gt2, e2, f1, f2, f3⟩ := op_gap g2
    clear hg h
    simp only [List.cons.injEq, and_true] at e0 e1 e2
    exact ⟨⟨b0, o1, sq1, tm1, ru1, lv1, ps1, st1, pr1, va1, ow1, go2, gf2, gt2⟩, by simp only [it13, evCells, gapCells, List.cons_append, List.nil_append, e0, e1.1, e1.2.1, e1.2.2.1, e1.2.2.2.1, e1.2.2.2.2.1, e1.2.2.2.2.2.1, e1.2.2.2.2.2.2.1, e1.2.2.2.2.2.2.2.1, e1.2.2.2.2.2.2.2.2, e2.1, e2.2.1, e2.2.2], ⟨h1, h2, h3, h4, h5, h6, h7, h8, h9, h10, f1, f2, f3⟩⟩
theorem open_item1 {W : World} {v : Value} {d : DataW H} {p : List MemPlace} (h : DataW.Trod enc Tryz.prog W 0 (fun _ => true) true 36 v d p) : ∃ a : ItV, a.ok W ∧ v = itV a := by
  obtain ⟨n, h⟩ := h
  obtain ⟨a, e, ha⟩ := op_item h
  refine ⟨a, ha, ?_⟩
  cases v with
  | agg cells =>
    obtain rfl : cells = (it13 a).toArray := Array.toList_inj.1 (by simpa [Value.cells] using e)
    rfl
  | _ =>
    exfalso
    have := congrArg List.length e
    simp [Value.cells, it13, evCells, gapCells] at this
end
end Go.Proofs.YtdmdfccadjfpiaaGreat
namespace Go.Proofs.YtdmdfccadjfpiaaGreat
open Go.Joins Go.ChangeShapes Go.WideShapes Go.ChangeAt Go.RowKit Go.Deep
set_option maxRecDepth 100000
theorem nActP : Tryz.prog.cellsOf 74 = 30 := by kernel_rfl
section
variable {H : Type} {enc : TypeId × Value → H} {W : World} {fuel : Nat} {cs : List Value} {x : DataW H × List MemPlace}
theorem op_actp (h : DataW.trod enc Tryz.prog W 0 (fun _ => true) true fuel 74 cs = some x) : ∃ a : ActP, cs = act30 a ∧ a.ok W := by
  obtain ⟨hl, n, hg⟩ := op_fields Tryz.underlying74 h
  rw [nActP] at hl
  match cs, hl with
  | [c0, c1, c2, c3, c4, c5, c6, c7, c8, c9, c10, c11, c12, c13, c14, c15, c16, c17, c18, c19, c20, c21, c22, c23, c24, c25, c26, c27, c28, c29], _ =>
    obtain ⟨y0, g0⟩ := hg 0 5 0 rfl
    rw [nU8I] at g0
    dsimp only [List.drop, List.take] at g0
    obtain ⟨k0, b0, e0⟩ := op_u8 Tryz.underlying5 g0
    obtain ⟨y1, g1⟩ := hg 1 27 1 rfl
    rw [nSm] at g1
    dsimp only [List.drop, List.take] at g1
    obtain ⟨k1, e1, b1⟩ := op_sm g1
    simp only [sm11] at e1
    obtain ⟨y2, g2⟩ := hg 2 36 12 rfl
    rw [nItemI] at g2
    dsimp only [List.drop, List.take] at g2
    obtain ⟨k2, e2, b2⟩ := op_item g2
    simp only [it13, evCells, gapCells, List.cons_append, List.nil_append] at e2
    obtain ⟨y3, g3⟩ := hg 3 5 25 rfl
    rw [nU8I] at g3
    dsimp only [List.drop, List.take] at g3
    obtain ⟨k3, b3, e3⟩ := op_u8 Tryz.underlying5 g3
    obtain ⟨y4, g4⟩ := hg 4 28 26 rfl
    rw [nU64I] at g4
    dsimp only [List.drop, List.take] at g4
    obtain ⟨k4, b4, e4⟩ := op_u64 Tryz.underlying28 g4
    obtain ⟨y5, g5⟩ := hg 5 4 27 rfl
    rw [nBoolI] at g5
    dsimp only [List.drop, List.take] at g5
    obtain ⟨b5, e5⟩ := op_bool Tryz.underlying4 g5
    obtain ⟨y6, g6⟩ := hg 6 68 28 rfl
    rw [nTear] at g6
    dsimp only [List.drop, List.take] at g6
    obtain ⟨k6, e6, b6⟩ := op_tearD g6
    simp only [tear2] at e6
    clear hg h
    simp only [List.cons.injEq, and_true] at e0 e1 e2 e3 e4 e5 e6
    exact ⟨⟨k0, k1, k2, k3, k4, b5, k6.1, k6.2⟩, by simp only [act30, sm11, it13, evCells, gapCells, List.cons_append, List.nil_append, e0, e1, e2, e3, e4, e5, e6], ⟨b0, b1, b2, b3, b4, b6.1, b6.2⟩⟩
theorem open_actps {W : World} {n : Nat} {v : Value} {x : DataW H × List MemPlace} (h : DataW.trod enc Tryz.prog W 0 (fun _ => true) true n 72 [v] = some x) :
    ∃ l : List ActP, Rd W 30 v l.length (l.flatMap act30) ∧ ∀ a ∈ l, a.ok W := by
  obtain ⟨v', l, e, h1, h2⟩ := op_rows act30 30 (by decide) (fun _ => rfl) Tryz.underlying72 nActP h (fun a => a.ok W) (fun _ _ _ h => op_actp h)
  simp only [List.cons.injEq, and_true] at e
  subst e
  exact ⟨l, h1, h2⟩
end
end Go.Proofs.YtdmdfccadjfpiaaGreat
namespace Go.Proofs.YtdmdfccadjfpiaaGreat
open Go.Joins Go.ChangeShapes Go.WideShapes Go.ChangeAt Go.RowKit Go.Deep Go.ChangeMaps
set_option maxRecDepth 100000

theorem ownKnobNone : ownKnob Tryz.prog.godebug = none := by kernel_rfl
theorem laidOut_ : laidOutB Tryz.prog = true := by kernel_rfl

theorem liftedLedgerPlays (os : Os) (started : os.Started) (H : Type) (enc : TypeId × Value → H) :
    ReturnsInHanded {} Tryz.checked os 6 .any (Rows.ledgerPlaysSpec.pre6 enc Tryz.prog Tryz.f6 Rows.ledgerPlaysRow.domain false) (Rows.ledgerPlaysSpec.post enc Tryz.prog Tryz.f6 false true false false) := by
  refine returnsInHanded_of_change (C := Tryz.checked) ownKnobNone started (by kernel_rfl) Tryz.func6
    (ChangeSpec.witness6 (enc := enc) (C := Tryz.checked) false ⟨#[], #[.slice none 0 0], []⟩ 8 (by kernel_rfl) (by kernel_rfl) (by kernel_rfl) (by kernel_rfl)) ?_
  intro W base args ds gs before hval0 hW _ _
  have hval : ∀ (j : Nat) t v, Tryz.f6.params[j]? = some t → args[j]? = some v → Value.okWide Tryz.prog W .any base t v := hval0
  have hW' := hW
  obtain ⟨p, q, hA0, hV, rfl, hfz, hnd⟩ := hW
  have hA : DataW.TrodAll enc Tryz.prog W 0 (fun _ => true) true Tryz.f6.params.toList args.toList ds p := hA0
  rw [Tryz.params6] at hA hval
  obtain ⟨v0, vs0, d0, ds0, p0, q0, hargs, rfl, rfl, h0, r0⟩ := trodAll_cons hA
  obtain ⟨rfl, rfl, rfl⟩ := trodAll_nil r0
  obtain rfl : args = #[v0] := by cases args; simp_all
  obtain ⟨rfl, rfl⟩ := trodVars_none hV
  obtain ⟨e0, h0⟩ := rows_of Tryz.underlying72 (hval 0 72 v0 rfl rfl) h0
  obtain ⟨y0, a0, c0⟩ := open_actps h0
  refine (lpWalk v0 y0 W a0 c0).mono fun e W' ⟨he, hb⟩ => ?_
  subst he
  exact ⟨_, rfl, post_true laidOut_ (by kernel_rfl) rfl hW' rfl (by kernel_rfl) Tryz.underlying4 hb⟩

theorem ledgerPlays_proved : Rows.LedgerPlaysSaid :=
  OpenClaim.holds_of_wide 6 Tryz.f6 rfl rfl rfl rfl rfl rfl rfl ⟨rfl, rfl, rfl, rfl, rfl⟩ rfl rfl rfl rfl rfl (by kernel_rfl) Tryz.func6 (by kernel_rfl)
    (of_decide_eq_true (by kernel_rfl)) (by unfold Func.isWrapper; first | (rw [if_pos (by decide +kernel)]; kernel_rfl) | (rw [if_neg (by decide +kernel)]; exact ⟨rfl, rfl⟩))
    (fun os started H enc _ => liftedLedgerPlays os started H enc)
end Go.Proofs.YtdmdfccadjfpiaaGreat
