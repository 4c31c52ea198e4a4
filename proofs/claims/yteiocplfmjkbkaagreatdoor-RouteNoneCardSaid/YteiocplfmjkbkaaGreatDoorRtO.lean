/-
  Small nodes and small alerts as they are handed in, opened; the lift of a row that lists variables.
-/
import Derived.Test.YteiocplfmjkbkaaGreatDoorDat
import Derived.Test.YteiocplfmjkbkaaGreatDoorRtD
import Derived.ChangeMaps5
import Derived.Handed
import Derived.HandedShaped
import Derived.Shelf.Vars
import Derived.LaidLaws
import Derived.LaidSub
import Derived.MakeChecks
import Derived.Lib.LaidTab
import Derived.Lay
import Derived.PinnedBridge
namespace Go.Proofs.YteiocplfmjkbkaaGreatDoor
open Go.Joins Go.ChangeShapes Go.WideShapes Go.ChangeAt Go.RowKit Go.Deep Go.ChangeMaps
set_option maxRecDepth 100000

section
variable {H : Type} {enc : TypeId × Value → H}
/-- The lift of a row that lists variables, the world's shape at hand. -/
theorem returns_listed {a : Assume} {C : Checked} {os : Os} {f : FuncId} {fn : Func} {s : ChangeSpec} {conds : List PathCond} {apart fresh handsOn again : Bool} {X : World → Array Value → Prop}
    (hX : ∀ (w w' : World) (args : Array Value), w.heap = w'.heap → X w args → X w' args) (own : ownKnob C.prog.godebug = none) (started : os.Started) (noInit : C.prog.inits.idxOf? f = none) (hfn : C.prog.funcs[f]? = some fn)
    (wit : ∃ (w : World) (tape : Tape) (i : Input), w.os = os ∧ (w.forCall tape i).Shaped C.prog ∧ i.vars = [] ∧ Input.okWide C.prog (w.forCall tape i) .any w.heap.size f i ∧
      ((s.pre enc C.prog fn conds apart (w.forCall tape i).memory i.args ∧ X (w.forCall tape i).memory i.args) ∧ sizedMet enc C.prog fn (OpenSpec.ofChange s) apart (w.forCall tape i).memory i.args) ∧ a.holds C.prog (lone (Frame.enter C.prog f i.args .normal) [] (w.forCall tape i)))
    (walk : ∀ (W : World) (base : Nat) (args : Array Value) (ds gs : List (DataW H)) (before : List MemPlace), (∀ (j : Nat) t v, fn.params[j]? = some t → args[j]? = some v → Value.okWide C.prog W .any base t v) →
      DataW.Whole enc C.prog fn.params.toList s.vars apart W args.toList ds gs before → X W args → W.ShapedOpen C.prog → Calls C.prog f args W fun e W' => ∃ v, e = .returned v ∧ s.post enc C.prog fn apart fresh handsOn again W args v W') :
    ReturnsInHanded a C os f .any (fun w args => (s.pre enc C.prog fn conds apart w args ∧ X w args) ∧ sizedMet enc C.prog fn (OpenSpec.ofChange s) apart w args) (s.post enc C.prog fn apart fresh handsOn again) := by
  refine returnsInHanded_of_calls own started noInit wit fun w tape i _ hsh _ hok hpre _ => ?_
  obtain ⟨_, _, _, fn', hfn', _, _, _, _, hval⟩ := hok
  obtain rfl : fn' = fn := Option.some.inj (hfn'.symm.trans hfn)
  obtain ⟨⟨⟨ds, gs, before, hw, _⟩, hx⟩, _⟩ := hpre
  refine (walk (w.forCall tape i) w.heap.size i.args ds gs before hval (DataW.Whole.of_heap (w' := w.forCall tape i) (by rfl) hw) (hX _ _ _ (by rfl) hx) hsh).mono ?_
  rintro e W' ⟨v, rfl, hp⟩
  exact ChangeSpec.post_blind hp

end
theorem maxLen_cell {W : World} (h : W.ShapedOpen Tryz.prog) : ∃ m : Int, W.cell? ⟨2, 0, none⟩ = some (.int .i64 m) :=
  cell_of_shapedOpen_int (P := Tryz.prog) (g := 2) (t := 3) (zero := #[.int .i64 0]) h (of_decide_eq_true (by kernel_rfl)) (by kernel_rfl) rfl (by kernel_rfl) (by kernel_rfl) Tryz.underlying3

theorem nU8O : Tryz.prog.cellsOf 5 = 1 := by kernel_rfl
theorem nBoolO : Tryz.prog.cellsOf 4 = 1 := by kernel_rfl
theorem nSm17O : Tryz.prog.cellsOf 102 = 3 := by kernel_rfl
theorem nSm17sO : Tryz.prog.cellsOf 57 = 1 := by kernel_rfl
theorem nSm20O : Tryz.prog.cellsOf 59 = 8 := by kernel_rfl
theorem nAl6O : Tryz.prog.cellsOf 32 = 6 := by kernel_rfl
section
variable {H : Type} {enc : TypeId × Value → H} {W : World} {fuel : Nat} {cs : List Value} {x : DataW H × List MemPlace}
theorem op_sm17 (h : DataW.trod enc Tryz.prog W 0 (fun _ => true) true fuel 102 cs = some x) : ∃ t : Nat × Nat × Nat, cs = ask3 t := by
  obtain ⟨hl, n, hg⟩ := op_fields Tryz.underlying102 h
  rw [nSm17O] at hl
  match cs, hl with
  | [c0, c1, c2], _ =>
    obtain ⟨y0, g0⟩ := hg 0 5 0 rfl
    rw [nU8O] at g0
    dsimp only [List.drop, List.take] at g0
    obtain ⟨k0, b0, e0⟩ := op_u8 Tryz.underlying5 g0
    obtain ⟨y1, g1⟩ := hg 1 5 1 rfl
    rw [nU8O] at g1
    dsimp only [List.drop, List.take] at g1
    obtain ⟨k1, b1, e1⟩ := op_u8 Tryz.underlying5 g1
    obtain ⟨y2, g2⟩ := hg 2 5 2 rfl
    rw [nU8O] at g2
    dsimp only [List.drop, List.take] at g2
    obtain ⟨k2, b2, e2⟩ := op_u8 Tryz.underlying5 g2
    clear hg h
    simp only [List.cons.injEq, and_true] at e0 e1 e2
    exact ⟨(k0, k1, k2), by rw [e0, e1, e2]; rfl⟩
theorem op_sm17s (h : DataW.trod enc Tryz.prog W 0 (fun _ => true) true fuel 57 cs = some x) : ∃ (v : Value) (l : List (Nat × Nat × Nat)), Rd W 3 v l.length (smallCells l) ∧ cs = [v] := by
  obtain ⟨v', l, h1, h2, _⟩ := op_rows ask3 3 (by decide) (fun _ => rfl) Tryz.underlying57 nSm17O h (fun _ => True) (fun _ _ _ h => by obtain ⟨t, ht⟩ := op_sm17 h; exact ⟨t, ht, trivial⟩)
  exact ⟨v', l, h2, h1⟩
theorem op_sm20 (h : DataW.trod enc Tryz.prog W 0 (fun _ => true) true fuel 59 cs = some x) : ∃ s : SmN, cs = smn8 s ∧ s.ok ∧ Rd W 3 s.v s.asks.length (smallCells s.asks) := by
  obtain ⟨hl, n, hg⟩ := op_fields Tryz.underlying59 h
  rw [nSm20O] at hl
  match cs, hl with
  | [c0, c1, c2, c3, c4, c5, c6, c7], _ =>
    obtain ⟨y0, g0⟩ := hg 0 57 0 rfl
    rw [nSm17sO] at g0
    dsimp only [List.drop, List.take] at g0
    obtain ⟨v0, l0, r0, e0⟩ := op_sm17s g0
    obtain ⟨y1, g1⟩ := hg 1 5 1 rfl
    rw [nU8O] at g1
    dsimp only [List.drop, List.take] at g1
    obtain ⟨k1, b1, e1⟩ := op_u8 Tryz.underlying5 g1
    obtain ⟨y2, g2⟩ := hg 2 5 2 rfl
    rw [nU8O] at g2
    dsimp only [List.drop, List.take] at g2
    obtain ⟨k2, b2, e2⟩ := op_u8 Tryz.underlying5 g2
    obtain ⟨y3, g3⟩ := hg 3 5 3 rfl
    rw [nU8O] at g3
    dsimp only [List.drop, List.take] at g3
    obtain ⟨k3, b3, e3⟩ := op_u8 Tryz.underlying5 g3
    obtain ⟨y4, g4⟩ := hg 4 5 4 rfl
    rw [nU8O] at g4
    dsimp only [List.drop, List.take] at g4
    obtain ⟨k4, b4, e4⟩ := op_u8 Tryz.underlying5 g4
    obtain ⟨y5, g5⟩ := hg 5 5 5 rfl
    rw [nU8O] at g5
    dsimp only [List.drop, List.take] at g5
    obtain ⟨k5, b5, e5⟩ := op_u8 Tryz.underlying5 g5
    obtain ⟨y6, g6⟩ := hg 6 4 6 rfl
    rw [nBoolO] at g6
    dsimp only [List.drop, List.take] at g6
    obtain ⟨k6, e6⟩ := op_bool Tryz.underlying4 g6
    obtain ⟨y7, g7⟩ := hg 7 5 7 rfl
    rw [nU8O] at g7
    dsimp only [List.drop, List.take] at g7
    obtain ⟨k7, b7, e7⟩ := op_u8 Tryz.underlying5 g7
    clear hg h
    simp only [List.cons.injEq, and_true] at e0 e1 e2 e3 e4 e5 e6 e7
    exact ⟨⟨v0, l0, k1, k2, k3, k4, k5, k6, k7⟩, by rw [e0, e1, e2, e3, e4, e5, e6, e7]; rfl, ⟨b1, b2, b3, b4, b5, b7⟩, r0⟩
theorem op_al6 (h : DataW.trod enc Tryz.prog W 0 (fun _ => true) true fuel 32 cs = some x) : ∃ a : Al6, cs = al6 a ∧ a.ok := by
  obtain ⟨hl, n, hg⟩ := op_fields Tryz.underlying32 h
  rw [nAl6O] at hl
  match cs, hl with
  | [c0, c1, c2, c3, c4, c5], _ =>
    obtain ⟨y0, g0⟩ := hg 0 5 0 rfl
    rw [nU8O] at g0
    dsimp only [List.drop, List.take] at g0
    obtain ⟨k0, b0, e0⟩ := op_u8 Tryz.underlying5 g0
    obtain ⟨y1, g1⟩ := hg 1 5 1 rfl
    rw [nU8O] at g1
    dsimp only [List.drop, List.take] at g1
    obtain ⟨k1, b1, e1⟩ := op_u8 Tryz.underlying5 g1
    obtain ⟨y2, g2⟩ := hg 2 5 2 rfl
    rw [nU8O] at g2
    dsimp only [List.drop, List.take] at g2
    obtain ⟨k2, b2, e2⟩ := op_u8 Tryz.underlying5 g2
    obtain ⟨y3, g3⟩ := hg 3 5 3 rfl
    rw [nU8O] at g3
    dsimp only [List.drop, List.take] at g3
    obtain ⟨k3, b3, e3⟩ := op_u8 Tryz.underlying5 g3
    obtain ⟨y4, g4⟩ := hg 4 5 4 rfl
    rw [nU8O] at g4
    dsimp only [List.drop, List.take] at g4
    obtain ⟨k4, b4, e4⟩ := op_u8 Tryz.underlying5 g4
    obtain ⟨y5, g5⟩ := hg 5 5 5 rfl
    rw [nU8O] at g5
    dsimp only [List.drop, List.take] at g5
    obtain ⟨k5, b5, e5⟩ := op_u8 Tryz.underlying5 g5
    clear hg h
    simp only [List.cons.injEq, and_true] at e0 e1 e2 e3 e4 e5
    exact ⟨⟨k0, k1, k2, k3, k4, k5⟩, by rw [e0, e1, e2, e3, e4, e5]; rfl, ⟨b0, b1, b2, b3, b4, b5⟩⟩
theorem open_sm20s {n : Nat} {v : Value} {y : DataW H × List MemPlace} (h : DataW.trod enc Tryz.prog W 0 (fun _ => true) true n 22 [v] = some y) : ∃ l : List SmN, Rd W 8 v l.length (l.flatMap smn8) ∧ ∀ s ∈ l, s.ok ∧ Rd W 3 s.v s.asks.length (smallCells s.asks) := by
  obtain ⟨v', l, h1, h2, h3⟩ := op_rows smn8 8 (by decide) (fun _ => rfl) Tryz.underlying22 nSm20O h (fun s : SmN => s.ok ∧ Rd W 3 s.v s.asks.length (smallCells s.asks)) (fun _ _ _ h => op_sm20 h)
  obtain rfl : v = v' := by simpa using h1
  exact ⟨l, h2, h3⟩
theorem open_al1 {v : Value} {d : DataW H} {p : List MemPlace} (h : DataW.Trod enc Tryz.prog W 0 (fun _ => true) true 32 v d p) : ∃ a : Al6, a.ok ∧ v = .agg #[.int .u8 a.o, .int .u8 a.r, .int .u8 a.a, .int .u8 a.b, .int .u8 a.n, .int .u8 a.s] := by
  obtain ⟨n, h⟩ := h
  obtain ⟨a, e, ok⟩ := op_al6 h
  refine ⟨a, ok, ?_⟩
  cases v <;> simp [Value.cells, al6] at e
  rename_i cells
  have e2 : cells.toList = (#[.int .u8 a.o, .int .u8 a.r, .int .u8 a.a, .int .u8 a.b, .int .u8 a.n, .int .u8 a.s] : Array Value).toList := e
  rw [Array.toList_inj.1 e2]
end
end Go.Proofs.YteiocplfmjkbkaaGreatDoor
