/-
  Texts cut at a sign: plain law. Rules as they are handed in, opened; the lift of a row that lists variables. A rule of small numbers, its values left open.
-/
import Derived.Test.YtgpojkofegajeaaGreatDoorRuX
import Derived.Test.YtgpojkofegajeaaGreatDoorLParse
import Derived.Test.YtgpojkofegajeaaGreatDoorFree
import Derived.Lib.Hide
import Derived.Test.YtgpojkofegajeaaGreatDoorMg17
import Derived.RegionTactic
import Derived.BigRegion
import Derived.Test.YtgpojkofegajeaaGreatDoorDat
import Derived.ChangeMaps5
import Derived.Handed
import Derived.HandedShaped
import Derived.Shelf.Vars
import Derived.LaidLaws
import Derived.LaidSub
import Derived.MakeChecks
import Derived.Lib.LaidTab
import Derived.Lay
import Derived.PinnedBridge
import Derived.Test.YtgpojkofegajeaaGreatDoorLText
namespace Go.Proofs.YtgpojkofegajeaaGreatDoor
open Go.RowKit
set_option maxRecDepth 100000

structure SmR where
  nm : Nat
  me : Nat
  fi : Nat
  wi : Nat
  k : Nat
  t : Nat
  fo : Nat
  ke : Nat
  pr : Nat
  m : Int
def SmR.ok (s : SmR) : Prop := s.wi < 256 ∧ s.t < 256 ∧ (-32768 ≤ s.m ∧ s.m < 32768)
end Go.Proofs.YtgpojkofegajeaaGreatDoor
namespace Go.Proofs.YtgpojkofegajeaaGreatDoor
open Go.Joins Go.ChangeShapes Go.WideShapes Go.ChangeAt Go.RowKit Go.Deep Go.ChangeMaps
set_option maxRecDepth 100000

section
variable {H : Type} {enc : TypeId × Value → H}
end
theorem maxLen_cell {W : World} (h : W.ShapedOpen Tryz.prog) : ∃ m : Int, W.cell? ⟨2, 0, none⟩ = some (.int .i64 m) :=
  cell_of_shapedOpen_int (P := Tryz.prog) (g := 2) (t := 3) (zero := #[.int .i64 0]) h (of_decide_eq_true (by kernel_rfl)) (by kernel_rfl) rfl (by kernel_rfl) (by kernel_rfl) Tryz.underlying3

theorem nStrO : Tryz.prog.cellsOf 9 = 1 := by kernel_rfl
theorem nPairO : Tryz.prog.cellsOf 92 = 2 := by kernel_rfl
theorem nPairsO : Tryz.prog.cellsOf 24 = 1 := by kernel_rfl
theorem nU8O : Tryz.prog.cellsOf 5 = 1 := by kernel_rfl
theorem nU64O : Tryz.prog.cellsOf 26 = 1 := by kernel_rfl
theorem nI64O : Tryz.prog.cellsOf 2 = 1 := by kernel_rfl
theorem nKindO : Tryz.prog.cellsOf 25 = 1 := by kernel_rfl
theorem nCondO : Tryz.prog.cellsOf 28 = 3 := by kernel_rfl
theorem nWaitO : Tryz.prog.cellsOf 30 = 2 := by kernel_rfl
theorem nRuleO : Tryz.prog.cellsOf 32 = 10 := by kernel_rfl
section
variable {H : Type} {enc : TypeId × Value → H} {W : World} {fuel : Nat} {cs : List Value} {x : DataW H × List MemPlace}
theorem op_pair (h : DataW.trod enc Tryz.prog W 0 (fun _ => true) true fuel 92 cs = some x) : ∃ p : Pr, cs = [.string p.1, .string p.2] ∧ p.1.size ≤ maxLen ∧ p.2.size ≤ maxLen := by
  obtain ⟨hl, n, hg⟩ := op_fields Tryz.underlying92 h
  rw [nPairO] at hl
  match cs, hl with
  | [c0, c1], _ =>
    obtain ⟨y0, g0⟩ := hg 0 9 0 rfl
    rw [nStrO] at g0
    dsimp only [List.drop, List.take] at g0
    obtain ⟨s0, b0, e0⟩ := op_str Tryz.underlying9 g0
    obtain ⟨y1, g1⟩ := hg 1 9 1 rfl
    rw [nStrO] at g1
    dsimp only [List.drop, List.take] at g1
    obtain ⟨s1, b1, e1⟩ := op_str Tryz.underlying9 g1
    clear hg h
    simp only [List.cons.injEq, and_true] at e0 e1
    exact ⟨(s0, s1), by rw [e0, e1], b0, b1⟩
theorem op_pairs (h : DataW.trod enc Tryz.prog W 0 (fun _ => true) true fuel 24 cs = some x) :
    ∃ (v : Value) (ps : List Pr), Rd W 2 v ps.length (pairCells ps) ∧ (∀ p ∈ ps, p.1.size ≤ maxLen ∧ p.2.size ≤ maxLen) ∧ cs = [v] := by
  obtain ⟨v, ps, h1, h2, h3⟩ := op_rows (fun p : Pr => [.string p.1, .string p.2]) 2 (by decide) (fun _ => rfl) Tryz.underlying24 nPairO h (fun p => p.1.size ≤ maxLen ∧ p.2.size ≤ maxLen) (fun _ _ _ h => op_pair h)
  exact ⟨v, ps, h2, h3, h1⟩
theorem op_cond (h : DataW.trod enc Tryz.prog W 0 (fun _ => true) true fuel 28 cs = some x) : ∃ (k : Nat) (lim : Int) (tk : Nat), k < 256 ∧ cs = [.int .u8 k, .int .i64 lim, .int .u64 tk] := by
  obtain ⟨hl, n, hg⟩ := op_fields Tryz.underlying28 h
  rw [nCondO] at hl
  match cs, hl with
  | [c0, c1, c2], _ =>
    obtain ⟨y0, g0⟩ := hg 0 25 0 rfl
    rw [nKindO] at g0
    dsimp only [List.drop, List.take] at g0
    obtain ⟨k0, b0, e0⟩ := op_u8 Tryz.underlying25 g0
    obtain ⟨y1, g1⟩ := hg 1 2 1 rfl
    rw [nI64O] at g1
    dsimp only [List.drop, List.take] at g1
    obtain ⟨k1, b1, b2, e1⟩ := op_i64 Tryz.underlying2 g1
    obtain ⟨y2, g2⟩ := hg 2 26 2 rfl
    rw [nU64O] at g2
    dsimp only [List.drop, List.take] at g2
    obtain ⟨k2, b3, e2⟩ := op_u64 Tryz.underlying26 g2
    clear hg h
    simp only [List.cons.injEq, and_true] at e0 e1 e2
    exact ⟨k0, k1, k2, b0, by rw [e0, e1, e2]⟩
theorem op_waits (h : DataW.trod enc Tryz.prog W 0 (fun _ => true) true fuel 30 cs = some x) : ∃ fo ke : Nat, cs = [.int .u64 fo, .int .u64 ke] := by
  obtain ⟨hl, n, hg⟩ := op_fields Tryz.underlying30 h
  rw [nWaitO] at hl
  match cs, hl with
  | [c0, c1], _ =>
    obtain ⟨y0, g0⟩ := hg 0 26 0 rfl
    rw [nU64O] at g0
    dsimp only [List.drop, List.take] at g0
    obtain ⟨k0, b0, e0⟩ := op_u64 Tryz.underlying26 g0
    obtain ⟨y1, g1⟩ := hg 1 26 1 rfl
    rw [nU64O] at g1
    dsimp only [List.drop, List.take] at g1
    obtain ⟨k1, b1, e1⟩ := op_u64 Tryz.underlying26 g1
    clear hg h
    simp only [List.cons.injEq, and_true] at e0 e1
    exact ⟨k0, k1, by rw [e0, e1]⟩
theorem op_rule (h : DataW.trod enc Tryz.prog W 0 (fun _ => true) true fuel 32 cs = some x) : ∃ r : RuV, cs = r.cells ∧ r.ok W := by
  obtain ⟨hl, n, hg⟩ := op_fields Tryz.underlying32 h
  rw [nRuleO] at hl
  match cs, hl with
  | [c0, c1, c2, c3, c4, c5, c6, c7, c8, c9], _ =>
    obtain ⟨y0, g0⟩ := hg 0 9 0 rfl
    rw [nStrO] at g0
    dsimp only [List.drop, List.take] at g0
    obtain ⟨s0, b0, e0⟩ := op_str Tryz.underlying9 g0
    obtain ⟨y1, g1⟩ := hg 1 9 1 rfl
    rw [nStrO] at g1
    dsimp only [List.drop, List.take] at g1
    obtain ⟨s1, b1, e1⟩ := op_str Tryz.underlying9 g1
    obtain ⟨y2, g2⟩ := hg 2 24 2 rfl
    rw [nPairsO] at g2
    dsimp only [List.drop, List.take] at g2
    obtain ⟨v2, p2, r2, z2, e2⟩ := op_pairs g2
    obtain ⟨y3, g3⟩ := hg 3 28 3 rfl
    rw [nCondO] at g3
    dsimp only [List.drop, List.take] at g3
    obtain ⟨k3, l3, t3, b3, e3⟩ := op_cond g3
    obtain ⟨y4, g4⟩ := hg 4 30 6 rfl
    rw [nWaitO] at g4
    dsimp only [List.drop, List.take] at g4
    obtain ⟨f4, q4, e4⟩ := op_waits g4
    obtain ⟨y5, g5⟩ := hg 5 5 8 rfl
    rw [nU8O] at g5
    dsimp only [List.drop, List.take] at g5
    obtain ⟨k5, b5, e5⟩ := op_u8 Tryz.underlying5 g5
    obtain ⟨y6, g6⟩ := hg 6 24 9 rfl
    rw [nPairsO] at g6
    dsimp only [List.drop, List.take] at g6
    obtain ⟨v6, p6, r6, z6, e6⟩ := op_pairs g6
    clear hg h
    simp only [List.cons.injEq, and_true] at e0 e1 e2 e3 e4 e5 e6
    obtain ⟨e30, e31, e32⟩ := e3
    obtain ⟨e40, e41⟩ := e4
    exact ⟨⟨s0, s1, v2, p2, k3, l3, t3, f4, q4, k5, v6, p6⟩, by rw [e0, e1, e2, e30, e31, e32, e40, e41, e5, e6]; rfl, ⟨b0, b1, r2, z2, r6, z6, b3, b5⟩⟩
theorem open_rule1 {v : Value} {d : DataW H} {p : List MemPlace} (h : DataW.Trod enc Tryz.prog W 0 (fun _ => true) true 32 v d p) : ∃ r : RuV, r.ok W ∧ v = .agg #[.string r.nm, .string r.me, r.iv, .int .u8 r.k, .int .i64 r.lim, .int .u64 r.tk, .int .u64 r.fo, .int .u64 r.ke, .int .u8 r.pr, r.wv] := by
  obtain ⟨n, h⟩ := h
  obtain ⟨r, e, ok⟩ := op_rule h
  refine ⟨r, ok, ?_⟩
  cases v <;> simp [Value.cells, RuV.cells] at e
  rename_i cells
  have e2 : cells.toList = (#[.string r.nm, .string r.me, r.iv, .int .u8 r.k, .int .i64 r.lim, .int .u64 r.tk, .int .u64 r.fo, .int .u64 r.ke, .int .u8 r.pr, r.wv] : Array Value).toList := e
  rw [Array.toList_inj.1 e2]
end
end Go.Proofs.YtgpojkofegajeaaGreatDoor
namespace Go.Proofs.YtgpojkofegajeaaGreatDoor
open Go.RowKit
set_option maxRecDepth 100000

/-! ### A text of labels, parsed -/
theorem text_size (ps : List Pr) (B : Nat) (h : ∀ p ∈ ps, (pairL p).length ≤ B) : (textL ps).length ≤ (B + 1) * ps.length := by
  cases ps with
  | nil => simp [textL]
  | cons p r =>
    simp only [textL, List.length_append, List.length_cons]
    have h0 := h p (.head _)
    have : (r.flatMap fun q => 44 :: pairL q).length ≤ (B + 1) * r.length := by
      clear h0
      induction r with
      | nil => simp
      | cons q r ih =>
        simp only [List.flatMap_cons, List.length_append, List.length_cons, Nat.mul_add]
        have := h q (.tail _ (.head _))
        have := ih (fun x hx => h x (by rcases List.mem_cons.1 hx with rfl | hx; exact .head _; exact .tail _ (.tail _ hx)))
        omega
    rw [Nat.mul_add]
    omega
end Go.Proofs.YtgpojkofegajeaaGreatDoor
