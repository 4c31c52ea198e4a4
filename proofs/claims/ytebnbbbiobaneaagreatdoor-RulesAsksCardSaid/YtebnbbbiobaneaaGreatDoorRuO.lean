/-
  Rules as they are handed in, opened; the lift of a row that lists variables.
-/
import Derived.Test.YtebnbbbiobaneaaGreatDoorDat
import Derived.Test.YtebnbbbiobaneaaGreatDoorRuS
import Derived.ChangeMaps5
import Derived.Handed
import Derived.HandedShaped
import Derived.Shelf.Vars
import Derived.LaidLaws
import Derived.LaidSub
import Derived.MakeChecks
import Derived.Lib.LaidTab
import Derived.Lay
import Derived.PinnedBridge
namespace Go.Proofs.YtebnbbbiobaneaaGreatDoor
open Go.Joins Go.ChangeShapes Go.WideShapes Go.ChangeAt Go.RowKit Go.Deep Go.ChangeMaps
set_option maxRecDepth 100000

section
variable {H : Type} {enc : TypeId × Value → H}
/-- The lift of a row that lists variables, the world's shape at hand. -/
theorem returns_listed {a : Assume} {C : Checked} {os : Os} {f : FuncId} {fn : Func} {s : ChangeSpec} {conds : List PathCond} {apart fresh handsOn again : Bool} {X : World → Array Value → Prop}
    (hX : ∀ (w w' : World) (args : Array Value), w.heap = w'.heap → X w args → X w' args) (own : ownKnob C.prog.godebug = none) (started : os.Started) (noInit : C.prog.inits.idxOf? f = none) (hfn : C.prog.funcs[f]? = some fn)
    (wit : ∃ (w : World) (tape : Tape) (i : Input), w.os = os ∧ (w.forCall tape i).Shaped C.prog ∧ i.vars = [] ∧ Input.okWide C.prog (w.forCall tape i) .any w.heap.size f i ∧
      ((s.pre enc C.prog fn conds apart (w.forCall tape i).memory i.args ∧ X (w.forCall tape i).memory i.args) ∧ sizedMet enc C.prog fn (OpenSpec.ofChange s) apart (w.forCall tape i).memory i.args) ∧ a.holds C.prog (lone (Frame.enter C.prog f i.args .normal) [] (w.forCall tape i)))
    (walk : ∀ (W : World) (base : Nat) (args : Array Value) (ds gs : List (DataW H)) (before : List MemPlace), (∀ (j : Nat) t v, fn.params[j]? = some t → args[j]? = some v → Value.okWide C.prog W .any base t v) →
      DataW.Whole enc C.prog fn.params.toList s.vars apart W args.toList ds gs before → X W args → W.ShapedOpen C.prog → Calls C.prog f args W fun e W' => ∃ v, e = .returned v ∧ s.post enc C.prog fn apart fresh handsOn again W args v W') :
    ReturnsInHanded a C os f .any (fun w args => (s.pre enc C.prog fn conds apart w args ∧ X w args) ∧ sizedMet enc C.prog fn (OpenSpec.ofChange s) apart w args) (s.post enc C.prog fn apart fresh handsOn again) := by
  refine returnsInHanded_of_calls own started noInit wit fun w tape i _ hsh _ hok hpre _ => ?_
  obtain ⟨_, _, _, fn', hfn', _, _, _, _, hval⟩ := hok
  obtain rfl : fn' = fn := Option.some.inj (hfn'.symm.trans hfn)
  obtain ⟨⟨⟨ds, gs, before, hw, _⟩, hx⟩, _⟩ := hpre
  refine (walk (w.forCall tape i) w.heap.size i.args ds gs before hval (DataW.Whole.of_heap (w' := w.forCall tape i) (by rfl) hw) (hX _ _ _ (by rfl) hx) hsh).mono ?_
  rintro e W' ⟨v, rfl, hp⟩
  exact ChangeSpec.post_blind hp

end
theorem maxLen_cell {W : World} (h : W.ShapedOpen Tryz.prog) : ∃ m : Int, W.cell? ⟨2, 0, none⟩ = some (.int .i64 m) :=
  cell_of_shapedOpen_int (P := Tryz.prog) (g := 2) (t := 3) (zero := #[.int .i64 0]) h (of_decide_eq_true (by kernel_rfl)) (by kernel_rfl) rfl (by kernel_rfl) (by kernel_rfl) Tryz.underlying3

theorem nStrO : Tryz.prog.cellsOf 9 = 1 := by kernel_rfl
theorem nPairO : Tryz.prog.cellsOf 138 = 2 := by kernel_rfl
theorem nPairsO : Tryz.prog.cellsOf 33 = 1 := by kernel_rfl
theorem nU8O : Tryz.prog.cellsOf 5 = 1 := by kernel_rfl
theorem nU64O : Tryz.prog.cellsOf 35 = 1 := by kernel_rfl
theorem nI64O : Tryz.prog.cellsOf 2 = 1 := by kernel_rfl
theorem nI16O : Tryz.prog.cellsOf 64 = 1 := by kernel_rfl
theorem nKindO : Tryz.prog.cellsOf 57 = 1 := by kernel_rfl
theorem nCondO : Tryz.prog.cellsOf 59 = 3 := by kernel_rfl
theorem nWaitO : Tryz.prog.cellsOf 61 = 2 := by kernel_rfl
theorem nRuleO : Tryz.prog.cellsOf 63 = 10 := by kernel_rfl
theorem nSm13O : Tryz.prog.cellsOf 66 = 3 := by kernel_rfl
theorem nSm15O : Tryz.prog.cellsOf 68 = 10 := by kernel_rfl
theorem op_i16 {P : Program} {H : Type} {enc : TypeId × Value → H} {W : World} {base fuel : Nat} {spare : Nat → Bool} {held : Bool} {t : TypeId} {cs : List Value} {x : DataW H × List MemPlace} (ht : P.underlying t = some (.int .i16)) (h : DataW.trod enc P W base spare held fuel t cs = some x) : ∃ n : Int, -32768 ≤ n ∧ n < 32768 ∧ cs = [.int .i16 n] := by
  obtain ⟨k, e, _, hw⟩ := DataW.trod_int ht h
  have hx : -32768 ≤ k ∧ k ≤ 32767 := by simpa [Lit.wf, IntKind.min, IntKind.max, IntKind.signed, IntKind.bits] using hw
  exact ⟨k, hx.1, by omega, e⟩
section
variable {H : Type} {enc : TypeId × Value → H} {W : World} {fuel : Nat} {cs : List Value} {x : DataW H × List MemPlace}
theorem op_pair (h : DataW.trod enc Tryz.prog W 0 (fun _ => true) true fuel 138 cs = some x) : ∃ p : Pr, cs = [.string p.1, .string p.2] ∧ p.1.size ≤ maxLen ∧ p.2.size ≤ maxLen := by
  obtain ⟨hl, n, hg⟩ := op_fields Tryz.underlying138 h
  rw [nPairO] at hl
  match cs, hl with
  | [c0, c1], _ =>
    obtain ⟨y0, g0⟩ := hg 0 9 0 rfl
    rw [nStrO] at g0
    dsimp only [List.drop, List.take] at g0
    obtain ⟨s0, b0, e0⟩ := op_str Tryz.underlying9 g0
    obtain ⟨y1, g1⟩ := hg 1 9 1 rfl
    rw [nStrO] at g1
    dsimp only [List.drop, List.take] at g1
    obtain ⟨s1, b1, e1⟩ := op_str Tryz.underlying9 g1
    clear hg h
    simp only [List.cons.injEq, and_true] at e0 e1
    exact ⟨(s0, s1), by rw [e0, e1], b0, b1⟩
theorem op_pairs (h : DataW.trod enc Tryz.prog W 0 (fun _ => true) true fuel 33 cs = some x) :
    ∃ (v : Value) (ps : List Pr), Rd W 2 v ps.length (pairCells ps) ∧ (∀ p ∈ ps, p.1.size ≤ maxLen ∧ p.2.size ≤ maxLen) ∧ cs = [v] := by
  obtain ⟨v, ps, h1, h2, h3⟩ := op_rows (fun p : Pr => [.string p.1, .string p.2]) 2 (by decide) (fun _ => rfl) Tryz.underlying33 nPairO h (fun p => p.1.size ≤ maxLen ∧ p.2.size ≤ maxLen) (fun _ _ _ h => op_pair h)
  exact ⟨v, ps, h2, h3, h1⟩
theorem op_cond (h : DataW.trod enc Tryz.prog W 0 (fun _ => true) true fuel 59 cs = some x) : ∃ (k : Nat) (lim : Int) (tk : Nat), k < 256 ∧ cs = [.int .u8 k, .int .i64 lim, .int .u64 tk] := by
  obtain ⟨hl, n, hg⟩ := op_fields Tryz.underlying59 h
  rw [nCondO] at hl
  match cs, hl with
  | [c0, c1, c2], _ =>
    obtain ⟨y0, g0⟩ := hg 0 57 0 rfl
    rw [nKindO] at g0
    dsimp only [List.drop, List.take] at g0
    obtain ⟨k0, b0, e0⟩ := op_u8 Tryz.underlying57 g0
    obtain ⟨y1, g1⟩ := hg 1 2 1 rfl
    rw [nI64O] at g1
    dsimp only [List.drop, List.take] at g1
    obtain ⟨k1, b1, b2, e1⟩ := op_i64 Tryz.underlying2 g1
    obtain ⟨y2, g2⟩ := hg 2 35 2 rfl
    rw [nU64O] at g2
    dsimp only [List.drop, List.take] at g2
    obtain ⟨k2, b3, e2⟩ := op_u64 Tryz.underlying35 g2
    clear hg h
    simp only [List.cons.injEq, and_true] at e0 e1 e2
    exact ⟨k0, k1, k2, b0, by rw [e0, e1, e2]⟩
theorem op_waits (h : DataW.trod enc Tryz.prog W 0 (fun _ => true) true fuel 61 cs = some x) : ∃ fo ke : Nat, cs = [.int .u64 fo, .int .u64 ke] := by
  obtain ⟨hl, n, hg⟩ := op_fields Tryz.underlying61 h
  rw [nWaitO] at hl
  match cs, hl with
  | [c0, c1], _ =>
    obtain ⟨y0, g0⟩ := hg 0 35 0 rfl
    rw [nU64O] at g0
    dsimp only [List.drop, List.take] at g0
    obtain ⟨k0, b0, e0⟩ := op_u64 Tryz.underlying35 g0
    obtain ⟨y1, g1⟩ := hg 1 35 1 rfl
    rw [nU64O] at g1
    dsimp only [List.drop, List.take] at g1
    obtain ⟨k1, b1, e1⟩ := op_u64 Tryz.underlying35 g1
    clear hg h
    simp only [List.cons.injEq, and_true] at e0 e1
    exact ⟨k0, k1, by rw [e0, e1]⟩
theorem op_rule (h : DataW.trod enc Tryz.prog W 0 (fun _ => true) true fuel 63 cs = some x) : ∃ r : RuV, cs = r.cells ∧ r.ok W := by
  obtain ⟨hl, n, hg⟩ := op_fields Tryz.underlying63 h
  rw [nRuleO] at hl
  match cs, hl with
  | [c0, c1, c2, c3, c4, c5, c6, c7, c8, c9], _ =>
    obtain ⟨y0, g0⟩ := hg 0 9 0 rfl
    rw [nStrO] at g0
    dsimp only [List.drop, List.take] at g0
    obtain ⟨s0, b0, e0⟩ := op_str Tryz.underlying9 g0
    obtain ⟨y1, g1⟩ := hg 1 9 1 rfl
    rw [nStrO] at g1
    dsimp only [List.drop, List.take] at g1
    obtain ⟨s1, b1, e1⟩ := op_str Tryz.underlying9 g1
    obtain ⟨y2, g2⟩ := hg 2 33 2 rfl
    rw [nPairsO] at g2
    dsimp only [List.drop, List.take] at g2
    obtain ⟨v2, p2, r2, z2, e2⟩ := op_pairs g2
    obtain ⟨y3, g3⟩ := hg 3 59 3 rfl
    rw [nCondO] at g3
    dsimp only [List.drop, List.take] at g3
    obtain ⟨k3, l3, t3, b3, e3⟩ := op_cond g3
    obtain ⟨y4, g4⟩ := hg 4 61 6 rfl
    rw [nWaitO] at g4
    dsimp only [List.drop, List.take] at g4
    obtain ⟨f4, q4, e4⟩ := op_waits g4
    obtain ⟨y5, g5⟩ := hg 5 5 8 rfl
    rw [nU8O] at g5
    dsimp only [List.drop, List.take] at g5
    obtain ⟨k5, b5, e5⟩ := op_u8 Tryz.underlying5 g5
    obtain ⟨y6, g6⟩ := hg 6 33 9 rfl
    rw [nPairsO] at g6
    dsimp only [List.drop, List.take] at g6
    obtain ⟨v6, p6, r6, z6, e6⟩ := op_pairs g6
    clear hg h
    simp only [List.cons.injEq, and_true] at e0 e1 e2 e3 e4 e5 e6
    obtain ⟨e30, e31, e32⟩ := e3
    obtain ⟨e40, e41⟩ := e4
    exact ⟨⟨s0, s1, v2, p2, k3, l3, t3, f4, q4, k5, v6, p6⟩, by rw [e0, e1, e2, e30, e31, e32, e40, e41, e5, e6]; rfl, ⟨b0, b1, r2, z2, r6, z6, b3, b5⟩⟩
theorem op_sm13 (h : DataW.trod enc Tryz.prog W 0 (fun _ => true) true fuel 66 cs = some x) : ∃ (k : Nat) (m : Int) (t : Nat), -32768 ≤ m ∧ m < 32768 ∧ t < 256 ∧ cs = [.int .u8 k, .int .i16 m, .int .u8 t] := by
  obtain ⟨hl, n, hg⟩ := op_fields Tryz.underlying66 h
  rw [nSm13O] at hl
  match cs, hl with
  | [c0, c1, c2], _ =>
    obtain ⟨y0, g0⟩ := hg 0 5 0 rfl
    rw [nU8O] at g0
    dsimp only [List.drop, List.take] at g0
    obtain ⟨k0, b0, e0⟩ := op_u8 Tryz.underlying5 g0
    obtain ⟨y1, g1⟩ := hg 1 64 1 rfl
    rw [nI16O] at g1
    dsimp only [List.drop, List.take] at g1
    obtain ⟨k1, b1, b2, e1⟩ := op_i16 Tryz.underlying64 g1
    obtain ⟨y2, g2⟩ := hg 2 5 2 rfl
    rw [nU8O] at g2
    dsimp only [List.drop, List.take] at g2
    obtain ⟨k2, b3, e2⟩ := op_u8 Tryz.underlying5 g2
    clear hg h
    simp only [List.cons.injEq, and_true] at e0 e1 e2
    exact ⟨k0, k1, k2, b1, b2, b3, by rw [e0, e1, e2]⟩
theorem op_sm15 (h : DataW.trod enc Tryz.prog W 0 (fun _ => true) true fuel 68 cs = some x) : ∃ s : SmR, cs = sm10 s ∧ s.ok := by
  obtain ⟨hl, n, hg⟩ := op_fields Tryz.underlying68 h
  rw [nSm15O] at hl
  match cs, hl with
  | [c0, c1, c2, c3, c4, c5, c6, c7, c8, c9], _ =>
    obtain ⟨y0, g0⟩ := hg 0 5 0 rfl
    rw [nU8O] at g0
    dsimp only [List.drop, List.take] at g0
    obtain ⟨k0, b0, e0⟩ := op_u8 Tryz.underlying5 g0
    obtain ⟨y1, g1⟩ := hg 1 5 1 rfl
    rw [nU8O] at g1
    dsimp only [List.drop, List.take] at g1
    obtain ⟨k1, b1, e1⟩ := op_u8 Tryz.underlying5 g1
    obtain ⟨y2, g2⟩ := hg 2 5 2 rfl
    rw [nU8O] at g2
    dsimp only [List.drop, List.take] at g2
    obtain ⟨k2, b2, e2⟩ := op_u8 Tryz.underlying5 g2
    obtain ⟨y3, g3⟩ := hg 3 5 3 rfl
    rw [nU8O] at g3
    dsimp only [List.drop, List.take] at g3
    obtain ⟨k3, b3, e3⟩ := op_u8 Tryz.underlying5 g3
    obtain ⟨y4, g4⟩ := hg 4 66 4 rfl
    rw [nSm13O] at g4
    dsimp only [List.drop, List.take] at g4
    obtain ⟨k4, m4, t4, b4, b4a, b4b, e4⟩ := op_sm13 g4
    obtain ⟨y5, g5⟩ := hg 5 5 7 rfl
    rw [nU8O] at g5
    dsimp only [List.drop, List.take] at g5
    obtain ⟨k5, b5, e5⟩ := op_u8 Tryz.underlying5 g5
    obtain ⟨y6, g6⟩ := hg 6 5 8 rfl
    rw [nU8O] at g6
    dsimp only [List.drop, List.take] at g6
    obtain ⟨k6, b6, e6⟩ := op_u8 Tryz.underlying5 g6
    obtain ⟨y7, g7⟩ := hg 7 5 9 rfl
    rw [nU8O] at g7
    dsimp only [List.drop, List.take] at g7
    obtain ⟨k7, b7, e7⟩ := op_u8 Tryz.underlying5 g7
    clear hg h
    simp only [List.cons.injEq, and_true] at e0 e1 e2 e3 e4 e5 e6 e7
    obtain ⟨e40, e41, e42⟩ := e4
    exact ⟨⟨k0, k1, k2, k3, k4, t4, k5, k6, k7, m4⟩, by rw [e0, e1, e2, e3, e40, e41, e42, e5, e6, e7]; rfl, ⟨b3, b4b, b4, b4a⟩⟩
theorem open_rule1 {v : Value} {d : DataW H} {p : List MemPlace} (h : DataW.Trod enc Tryz.prog W 0 (fun _ => true) true 63 v d p) : ∃ r : RuV, r.ok W ∧ v = .agg #[.string r.nm, .string r.me, r.iv, .int .u8 r.k, .int .i64 r.lim, .int .u64 r.tk, .int .u64 r.fo, .int .u64 r.ke, .int .u8 r.pr, r.wv] := by
  obtain ⟨n, h⟩ := h
  obtain ⟨r, e, ok⟩ := op_rule h
  refine ⟨r, ok, ?_⟩
  cases v <;> simp [Value.cells, RuV.cells] at e
  rename_i cells
  have e2 : cells.toList = (#[.string r.nm, .string r.me, r.iv, .int .u8 r.k, .int .i64 r.lim, .int .u64 r.tk, .int .u64 r.fo, .int .u64 r.ke, .int .u8 r.pr, r.wv] : Array Value).toList := e
  rw [Array.toList_inj.1 e2]
theorem open_smalls {n : Nat} {v : Value} {y : DataW H × List MemPlace} (h : DataW.trod enc Tryz.prog W 0 (fun _ => true) true n 86 [v] = some y) : ∃ l : List SmR, Rd W 10 v l.length (l.flatMap sm10) ∧ ∀ s ∈ l, s.ok := by
  obtain ⟨v', l, h1, h2, h3⟩ := op_rows sm10 10 (by decide) (fun _ => rfl) Tryz.underlying86 nSm15O h SmR.ok (fun _ _ _ h => op_sm15 h)
  obtain rfl : v = v' := by simpa using h1
  exact ⟨l, h2, h3⟩
end
end Go.Proofs.YtebnbbbiobaneaaGreatDoor
