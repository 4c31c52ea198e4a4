/-
  How long what is handed in may be; the lift of a row, with its weights and its listed variables at hand. Small nodes and small alerts as they are handed in, opened; the lift of a row that lists variables.
-/
import Derived.Test.YteiocplfmjkbkaaGreatDoorMg49
import Derived.Test.YteiocplfmjkbkaaGreatDoorMg43
import Derived.ChangeMaps5
import Derived.Handed
import Derived.HandedShaped
import Derived.Shelf.Vars
import Derived.LaidLaws
import Derived.LaidSub
import Derived.MakeChecks
import Derived.Lib.LaidTab
import Derived.Lay
import Derived.PinnedBridge
import Derived.Deep.DeepHandedRow
import Derived.SizedLaws
import Derived.ChangeArms
namespace Go.Proofs.YteiocplfmjkbkaaGreatDoor
open Go.Joins Go.ChangeShapes Go.WideShapes Go.ChangeAt Go.RowKit Go.Deep Go.ChangeMaps
set_option maxRecDepth 100000

section
variable {H : Type} {enc : TypeId × Value → H}
end
theorem maxLen_cell {W : World} (h : W.ShapedOpen Tryz.prog) : ∃ m : Int, W.cell? ⟨2, 0, none⟩ = some (.int .i64 m) :=
  cell_of_shapedOpen_int (P := Tryz.prog) (g := 2) (t := 3) (zero := #[.int .i64 0]) h (of_decide_eq_true (by kernel_rfl)) (by kernel_rfl) rfl (by kernel_rfl) (by kernel_rfl) Tryz.underlying3

theorem nU8O : Tryz.prog.cellsOf 5 = 1 := by kernel_rfl
theorem nBoolO : Tryz.prog.cellsOf 4 = 1 := by kernel_rfl
theorem nSm17O : Tryz.prog.cellsOf 102 = 3 := by kernel_rfl
theorem nSm17sO : Tryz.prog.cellsOf 57 = 1 := by kernel_rfl
theorem nSm20O : Tryz.prog.cellsOf 59 = 8 := by kernel_rfl
section
variable {H : Type} {enc : TypeId × Value → H} {W : World} {fuel : Nat} {cs : List Value} {x : DataW H × List MemPlace}
theorem op_sm17 (h : DataW.trod enc Tryz.prog W 0 (fun _ => true) true fuel 102 cs = some x) : ∃ t : Nat × Nat × Nat, cs = ask3 t := by
  obtain ⟨hl, n, hg⟩ := op_fields Tryz.underlying102 h
  rw [nSm17O] at hl
  match cs, hl with
  | [c0, c1, c2], _ =>
    obtain ⟨y0, g0⟩ := hg 0 5 0 rfl
    rw [nU8O] at g0
    dsimp only [List.drop, List.take] at g0
    obtain ⟨k0, b0, e0⟩ := op_u8 Tryz.underlying5 g0
    obtain ⟨y1, g1⟩ := hg 1 5 1 rfl
    rw [nU8O] at g1
    dsimp only [List.drop, List.take] at g1
    obtain ⟨k1, b1, e1⟩ := op_u8 Tryz.underlying5 g1
    obtain ⟨y2, g2⟩ := hg 2 5 2 rfl
    rw [nU8O] at g2
    dsimp only [List.drop, List.take] at g2
    obtain ⟨k2, b2, e2⟩ := op_u8 Tryz.underlying5 g2
    clear hg h
    simp only [List.cons.injEq, and_true] at e0 e1 e2
    exact ⟨(k0, k1, k2), by rw [e0, e1, e2]; rfl⟩
theorem op_sm17s (h : DataW.trod enc Tryz.prog W 0 (fun _ => true) true fuel 57 cs = some x) : ∃ (v : Value) (l : List (Nat × Nat × Nat)), Rd W 3 v l.length (smallCells l) ∧ cs = [v] := by
  obtain ⟨v', l, h1, h2, _⟩ := op_rows ask3 3 (by decide) (fun _ => rfl) Tryz.underlying57 nSm17O h (fun _ => True) (fun _ _ _ h => by obtain ⟨t, ht⟩ := op_sm17 h; exact ⟨t, ht, trivial⟩)
  exact ⟨v', l, h2, h1⟩
theorem op_sm20 (h : DataW.trod enc Tryz.prog W 0 (fun _ => true) true fuel 59 cs = some x) : ∃ s : SmN, cs = smn8 s ∧ s.ok ∧ Rd W 3 s.v s.asks.length (smallCells s.asks) := by
  obtain ⟨hl, n, hg⟩ := op_fields Tryz.underlying59 h
  rw [nSm20O] at hl
  match cs, hl with
  | [c0, c1, c2, c3, c4, c5, c6, c7], _ =>
    obtain ⟨y0, g0⟩ := hg 0 57 0 rfl
    rw [nSm17sO] at g0
    dsimp only [List.drop, List.take] at g0
    obtain ⟨v0, l0, r0, e0⟩ := op_sm17s g0
    obtain ⟨y1, g1⟩ := hg 1 5 1 rfl
    rw [nU8O] at g1
    dsimp only [List.drop, List.take] at g1
    obtain ⟨k1, b1, e1⟩ := op_u8 Tryz.underlying5 g1
    obtain ⟨y2, g2⟩ := hg 2 5 2 rfl
    rw [nU8O] at g2
    dsimp only [List.drop, List.take] at g2
    obtain ⟨k2, b2, e2⟩ := op_u8 Tryz.underlying5 g2
    obtain ⟨y3, g3⟩ := hg 3 5 3 rfl
    rw [nU8O] at g3
    dsimp only [List.drop, List.take] at g3
    obtain ⟨k3, b3, e3⟩ := op_u8 Tryz.underlying5 g3
    obtain ⟨y4, g4⟩ := hg 4 5 4 rfl
    rw [nU8O] at g4
    dsimp only [List.drop, List.take] at g4
    obtain ⟨k4, b4, e4⟩ := op_u8 Tryz.underlying5 g4
    obtain ⟨y5, g5⟩ := hg 5 5 5 rfl
    rw [nU8O] at g5
    dsimp only [List.drop, List.take] at g5
    obtain ⟨k5, b5, e5⟩ := op_u8 Tryz.underlying5 g5
    obtain ⟨y6, g6⟩ := hg 6 4 6 rfl
    rw [nBoolO] at g6
    dsimp only [List.drop, List.take] at g6
    obtain ⟨k6, e6⟩ := op_bool Tryz.underlying4 g6
    obtain ⟨y7, g7⟩ := hg 7 5 7 rfl
    rw [nU8O] at g7
    dsimp only [List.drop, List.take] at g7
    obtain ⟨k7, b7, e7⟩ := op_u8 Tryz.underlying5 g7
    clear hg h
    simp only [List.cons.injEq, and_true] at e0 e1 e2 e3 e4 e5 e6 e7
    exact ⟨⟨v0, l0, k1, k2, k3, k4, k5, k6, k7⟩, by rw [e0, e1, e2, e3, e4, e5, e6, e7]; rfl, ⟨b1, b2, b3, b4, b5, b7⟩, r0⟩
theorem open_sm20s {n : Nat} {v : Value} {y : DataW H × List MemPlace} (h : DataW.trod enc Tryz.prog W 0 (fun _ => true) true n 22 [v] = some y) : ∃ l : List SmN, Rd W 8 v l.length (l.flatMap smn8) ∧ ∀ s ∈ l, s.ok ∧ Rd W 3 s.v s.asks.length (smallCells s.asks) := by
  obtain ⟨v', l, h1, h2, h3⟩ := op_rows smn8 8 (by decide) (fun _ => rfl) Tryz.underlying22 nSm20O h (fun s : SmN => s.ok ∧ Rd W 3 s.v s.asks.length (smallCells s.asks)) (fun _ _ _ h => op_sm20 h)
  obtain rfl : v = v' := by simpa using h1
  exact ⟨l, h2, h3⟩
end
end Go.Proofs.YteiocplfmjkbkaaGreatDoor
namespace Go.Proofs.YteiocplfmjkbkaaGreatDoor
open Go.Joins Go.ChangeShapes Go.WideShapes Go.ChangeAt Go.RowKit Go.Deep Go.ChangeMaps
set_option maxRecDepth 100000

section
variable {H : Type} {enc : TypeId × Value → H}
theorem returns_row {C : Checked} {os : Os} {f : FuncId} {fn : Func} {s : OpenSpec} {F : Stop.Interp} {conds : List PathCond} {apart fresh handsOn again : Bool} {laid : List (String × DataW Unit)}
    (own : ownKnob C.prog.godebug = none) (started : os.Started) (noInit : C.prog.inits.idxOf? f = none) (hfn : C.prog.funcs[f]? = some fn) (w0 : World) (args0 : Array Value) (hos : w0.os = os)
    (hsh : (w0.forCall (fun _ _ => 0) ⟨#[], args0, []⟩).Shaped C.prog)
    (hok : Input.okWideB C.prog (w0.forCall (fun _ _ => 0) ⟨#[], args0, []⟩) f ⟨#[], args0, []⟩ = true)
    (hrow : s.preRow enc C.prog fn conds apart laid (w0.forCall (fun _ _ => 0) ⟨#[], args0, []⟩).memory args0)
    (walk : ∀ (W : World) (base : Nat) (args : Array Value) (ds gs : List (DataW H)) (before : List MemPlace), (∀ (j : Nat) t v, fn.params[j]? = some t → args[j]? = some v → Value.okWide C.prog W .any base t v) →
      DataW.Whole enc C.prog fn.params.toList s.vars apart W args.toList ds gs before → (DataW.weightsEach C.prog (fn.params.toList ++ s.bare.plain.varTypes C.prog) (ds ++ gs)).all (· ≤ reachBytes) = true → laidMetH C.prog laid W → W.ShapedOpen C.prog → Calls C.prog f args W fun e W' => ∃ v, e = .returned v ∧ (s.at F).post enc C.prog fn apart fresh handsOn again W args v W') :
    ReturnsInHanded {} C os f .any (s.preRow enc C.prog fn conds apart laid) ((s.at F).post enc C.prog fn apart fresh handsOn again) := by
  refine returnsInHanded_of_row own started noInit hfn ⟨w0, fun _ _ => 0, ⟨#[], args0, []⟩, hos, hsh, (Input.okWide_of_okWideB (base := 0) hok).1, (Input.okWide_of_okWideB hok).2, hrow, by
    simp only [Assume.holds]
    exact ⟨by simp, by simp, fun _ => Modest.zero, by simp, by simp⟩⟩ ?_
  intro W base args ds gs before hval hW _ _ hwt hld hs _
  exact walk W base args ds gs before hval hW hwt hld hs

theorem bytesSm20 : Tryz.prog.bytesOf 59 = 32 := by kernel_rfl
theorem sm20s_weight {W : World} {fuel : Nat} {v : Value} {x : DataW H × List MemPlace} (h : DataW.trod enc Tryz.prog W 0 (fun _ => true) true fuel 22 [v] = some x) {A : Option Addr} {n c B : Nat} (hv : v = .slice A n c) (hB : ∀ k ∈ x.1.weights Tryz.prog 22, k ≤ B) : n * 32 ≤ B := by
  rcases open_slice Tryz.underlying22 h with ⟨h0, _⟩ | ⟨a, len, cap, m, k, D, Pl, h0, _, hl, hm, hmm, hd, hx⟩
  · have : v = .slice none 0 0 := by simpa using h0
    rw [this] at hv
    cases hv
    omega
  · have h1 : v = .slice (some a) len cap := by simpa using h0
    rw [h1] at hv
    cases hv
    have h2 := hB ((((List.range n).map D).length + ((List.range (m - n)).map fun j => D (n + j)).length) * 32) (by
      rw [hd]
      simp [DataW.weights, Tryz.underlying22, bytesSm20])
    simp only [List.length_map, List.length_range] at h2
    omega
end
end Go.Proofs.YteiocplfmjkbkaaGreatDoor
