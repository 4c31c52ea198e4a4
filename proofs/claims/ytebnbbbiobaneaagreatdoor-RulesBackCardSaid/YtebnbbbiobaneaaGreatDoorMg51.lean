/-
  How long what is handed in may be; the lift of a row, with its weights and its listed variables at hand. Rules as they are handed in, opened; the lift of a row that lists variables.
-/
import Derived.Test.YtebnbbbiobaneaaGreatDoorDat
import Derived.Test.YtebnbbbiobaneaaGreatDoorMg41
import Derived.ChangeMaps5
import Derived.Handed
import Derived.HandedShaped
import Derived.Shelf.Vars
import Derived.LaidLaws
import Derived.LaidSub
import Derived.MakeChecks
import Derived.Lib.LaidTab
import Derived.Lay
import Derived.PinnedBridge
import Derived.Deep.DeepHandedRow
import Derived.SizedLaws
import Derived.ChangeArms
namespace Go.Proofs.YtebnbbbiobaneaaGreatDoor
open Go.Joins Go.ChangeShapes Go.WideShapes Go.ChangeAt Go.RowKit Go.Deep Go.ChangeMaps
set_option maxRecDepth 100000

section
variable {H : Type} {enc : TypeId × Value → H}
end
theorem maxLen_cell {W : World} (h : W.ShapedOpen Tryz.prog) : ∃ m : Int, W.cell? ⟨2, 0, none⟩ = some (.int .i64 m) :=
  cell_of_shapedOpen_int (P := Tryz.prog) (g := 2) (t := 3) (zero := #[.int .i64 0]) h (of_decide_eq_true (by kernel_rfl)) (by kernel_rfl) rfl (by kernel_rfl) (by kernel_rfl) Tryz.underlying3

theorem nU8O : Tryz.prog.cellsOf 5 = 1 := by kernel_rfl
theorem nI16O : Tryz.prog.cellsOf 64 = 1 := by kernel_rfl
theorem nSm13O : Tryz.prog.cellsOf 66 = 3 := by kernel_rfl
theorem nSm15O : Tryz.prog.cellsOf 68 = 10 := by kernel_rfl
theorem op_i16 {P : Program} {H : Type} {enc : TypeId × Value → H} {W : World} {base fuel : Nat} {spare : Nat → Bool} {held : Bool} {t : TypeId} {cs : List Value} {x : DataW H × List MemPlace} (ht : P.underlying t = some (.int .i16)) (h : DataW.trod enc P W base spare held fuel t cs = some x) : ∃ n : Int, -32768 ≤ n ∧ n < 32768 ∧ cs = [.int .i16 n] := by
  obtain ⟨k, e, _, hw⟩ := DataW.trod_int ht h
  have hx : -32768 ≤ k ∧ k ≤ 32767 := by simpa [Lit.wf, IntKind.min, IntKind.max, IntKind.signed, IntKind.bits] using hw
  exact ⟨k, hx.1, by omega, e⟩
section
variable {H : Type} {enc : TypeId × Value → H} {W : World} {fuel : Nat} {cs : List Value} {x : DataW H × List MemPlace}
theorem op_sm13 (h : DataW.trod enc Tryz.prog W 0 (fun _ => true) true fuel 66 cs = some x) : ∃ (k : Nat) (m : Int) (t : Nat), -32768 ≤ m ∧ m < 32768 ∧ t < 256 ∧ cs = [.int .u8 k, .int .i16 m, .int .u8 t] := by
  obtain ⟨hl, n, hg⟩ := op_fields Tryz.underlying66 h
  rw [nSm13O] at hl
  match cs, hl with
  | [c0, c1, c2], _ =>
    obtain ⟨y0, g0⟩ := hg 0 5 0 rfl
    rw [nU8O] at g0
    dsimp only [List.drop, List.take] at g0
    obtain ⟨k0, b0, e0⟩ := op_u8 Tryz.underlying5 g0
    obtain ⟨y1, g1⟩ := hg 1 64 1 rfl
    rw [nI16O] at g1
    dsimp only [List.drop, List.take] at g1
    obtain ⟨k1, b1, b2, e1⟩ := op_i16 Tryz.underlying64 g1
    obtain ⟨y2, g2⟩ := hg 2 5 2 rfl
    rw [nU8O] at g2
    dsimp only [List.drop, List.take] at g2
    obtain ⟨k2, b3, e2⟩ := op_u8 Tryz.underlying5 g2
    clear hg h
    simp only [List.cons.injEq, and_true] at e0 e1 e2
    exact ⟨k0, k1, k2, b1, b2, b3, by rw [e0, e1, e2]⟩
theorem op_sm15 (h : DataW.trod enc Tryz.prog W 0 (fun _ => true) true fuel 68 cs = some x) : ∃ s : SmR, cs = sm10 s ∧ s.ok := by
  obtain ⟨hl, n, hg⟩ := op_fields Tryz.underlying68 h
  rw [nSm15O] at hl
  match cs, hl with
  | [c0, c1, c2, c3, c4, c5, c6, c7, c8, c9], _ =>
    obtain ⟨y0, g0⟩ := hg 0 5 0 rfl
    rw [nU8O] at g0
    dsimp only [List.drop, List.take] at g0
    obtain ⟨k0, b0, e0⟩ := op_u8 Tryz.underlying5 g0
    obtain ⟨y1, g1⟩ := hg 1 5 1 rfl
    rw [nU8O] at g1
    dsimp only [List.drop, List.take] at g1
    obtain ⟨k1, b1, e1⟩ := op_u8 Tryz.underlying5 g1
    obtain ⟨y2, g2⟩ := hg 2 5 2 rfl
    rw [nU8O] at g2
    dsimp only [List.drop, List.take] at g2
    obtain ⟨k2, b2, e2⟩ := op_u8 Tryz.underlying5 g2
    obtain ⟨y3, g3⟩ := hg 3 5 3 rfl
    rw [nU8O] at g3
    dsimp only [List.drop, List.take] at g3
    obtain ⟨k3, b3, e3⟩ := op_u8 Tryz.underlying5 g3
    obtain ⟨y4, g4⟩ := hg 4 66 4 rfl
    rw [nSm13O] at g4
    dsimp only [List.drop, List.take] at g4
    obtain ⟨k4, m4, t4, b4, b4a, b4b, e4⟩ := op_sm13 g4
    obtain ⟨y5, g5⟩ := hg 5 5 7 rfl
    rw [nU8O] at g5
    dsimp only [List.drop, List.take] at g5
    obtain ⟨k5, b5, e5⟩ := op_u8 Tryz.underlying5 g5
    obtain ⟨y6, g6⟩ := hg 6 5 8 rfl
    rw [nU8O] at g6
    dsimp only [List.drop, List.take] at g6
    obtain ⟨k6, b6, e6⟩ := op_u8 Tryz.underlying5 g6
    obtain ⟨y7, g7⟩ := hg 7 5 9 rfl
    rw [nU8O] at g7
    dsimp only [List.drop, List.take] at g7
    obtain ⟨k7, b7, e7⟩ := op_u8 Tryz.underlying5 g7
    clear hg h
    simp only [List.cons.injEq, and_true] at e0 e1 e2 e3 e4 e5 e6 e7
    obtain ⟨e40, e41, e42⟩ := e4
    exact ⟨⟨k0, k1, k2, k3, k4, t4, k5, k6, k7, m4⟩, by rw [e0, e1, e2, e3, e40, e41, e42, e5, e6, e7]; rfl, ⟨b3, b4b, b4, b4a⟩⟩
theorem open_smalls {n : Nat} {v : Value} {y : DataW H × List MemPlace} (h : DataW.trod enc Tryz.prog W 0 (fun _ => true) true n 86 [v] = some y) : ∃ l : List SmR, Rd W 10 v l.length (l.flatMap sm10) ∧ ∀ s ∈ l, s.ok := by
  obtain ⟨v', l, h1, h2, h3⟩ := op_rows sm10 10 (by decide) (fun _ => rfl) Tryz.underlying86 nSm15O h SmR.ok (fun _ _ _ h => op_sm15 h)
  obtain rfl : v = v' := by simpa using h1
  exact ⟨l, h2, h3⟩
end
end Go.Proofs.YtebnbbbiobaneaaGreatDoor
namespace Go.Proofs.YtebnbbbiobaneaaGreatDoor
open Go.Joins Go.ChangeShapes Go.WideShapes Go.ChangeAt Go.RowKit Go.Deep Go.ChangeMaps
set_option maxRecDepth 100000

section
variable {H : Type} {enc : TypeId × Value → H}
theorem returns_row {C : Checked} {os : Os} {f : FuncId} {fn : Func} {s : OpenSpec} {F : Stop.Interp} {conds : List PathCond} {apart fresh handsOn again : Bool} {laid : List (String × DataW Unit)}
    (own : ownKnob C.prog.godebug = none) (started : os.Started) (noInit : C.prog.inits.idxOf? f = none) (hfn : C.prog.funcs[f]? = some fn) (w0 : World) (args0 : Array Value) (hos : w0.os = os)
    (hsh : (w0.forCall (fun _ _ => 0) ⟨#[], args0, []⟩).Shaped C.prog)
    (hok : Input.okWideB C.prog (w0.forCall (fun _ _ => 0) ⟨#[], args0, []⟩) f ⟨#[], args0, []⟩ = true)
    (hrow : s.preRow enc C.prog fn conds apart laid (w0.forCall (fun _ _ => 0) ⟨#[], args0, []⟩).memory args0)
    (walk : ∀ (W : World) (base : Nat) (args : Array Value) (ds gs : List (DataW H)) (before : List MemPlace), (∀ (j : Nat) t v, fn.params[j]? = some t → args[j]? = some v → Value.okWide C.prog W .any base t v) →
      DataW.Whole enc C.prog fn.params.toList s.vars apart W args.toList ds gs before → (DataW.weightsEach C.prog (fn.params.toList ++ s.bare.plain.varTypes C.prog) (ds ++ gs)).all (· ≤ reachBytes) = true → laidMetH C.prog laid W → W.ShapedOpen C.prog → Calls C.prog f args W fun e W' => ∃ v, e = .returned v ∧ (s.at F).post enc C.prog fn apart fresh handsOn again W args v W') :
    ReturnsInHanded {} C os f .any (s.preRow enc C.prog fn conds apart laid) ((s.at F).post enc C.prog fn apart fresh handsOn again) := by
  refine returnsInHanded_of_row own started noInit hfn ⟨w0, fun _ _ => 0, ⟨#[], args0, []⟩, hos, hsh, (Input.okWide_of_okWideB (base := 0) hok).1, (Input.okWide_of_okWideB hok).2, hrow, by
    simp only [Assume.holds]
    exact ⟨by simp, by simp, fun _ => Modest.zero, by simp, by simp⟩⟩ ?_
  intro W base args ds gs before hval hW _ _ hwt hld hs _
  exact walk W base args ds gs before hval hW hwt hld hs

end
end Go.Proofs.YtebnbbbiobaneaaGreatDoor
