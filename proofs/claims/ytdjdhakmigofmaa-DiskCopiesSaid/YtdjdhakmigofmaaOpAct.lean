/-
  Acts of the disk's law, handed in, opened.
-/
import Derived.Test.YtdjdhakmigofmaaDat
import Derived.Test.YtdjdhakmigofmaaAct
namespace Go.Proofs.Ytdjdhakmigofmaa
open Go.Joins Go.ChangeShapes Go.WideShapes Go.ChangeAt Go.RowKit Go.Deep
set_option maxRecDepth 100000
theorem nAct : Try.prog.cellsOf 38 = 8 := by kernel_rfl
theorem nU8 : Try.prog.cellsOf 5 = 1 := by kernel_rfl
theorem nU16 : Try.prog.cellsOf 55 = 1 := by kernel_rfl
theorem nBy : Try.prog.cellsOf 27 = 1 := by kernel_rfl
theorem nInt : Try.prog.cellsOf 3 = 1 := by kernel_rfl
theorem nStr : Try.prog.cellsOf 9 = 1 := by kernel_rfl
theorem nBool : Try.prog.cellsOf 4 = 1 := by kernel_rfl
theorem nTears : Try.prog.cellsOf 23 = 1 := by kernel_rfl
theorem nTear : Try.prog.cellsOf 57 = 2 := by kernel_rfl
section
variable {H : Type} {enc : TypeId × Value → H}
theorem op_tear {W : World} {fuel : Nat} {cs : List Value} {x : DataW H × List MemPlace} (h : DataW.trod enc Try.prog W 0 (fun _ => true) true fuel 57 cs = some x) : ∃ p : Nat × Nat, cs = [.int .u16 p.1, .int .u16 p.2] ∧ p.1 < 65536 ∧ p.2 < 65536 := by
  obtain ⟨hl, n, hg⟩ := op_fields Try.underlying57 h
  rw [nTear] at hl
  match cs, hl with
  | [c0, c1], _ =>
    obtain ⟨y0, g0⟩ := hg 0 55 0 rfl
    obtain ⟨y1, g1⟩ := hg 1 55 1 rfl
    rw [nU16] at g0 g1
    simp only [List.take_succ_cons, List.take_zero, List.drop_zero, List.drop_succ_cons] at g0 g1
    obtain ⟨k0, b0, e0⟩ := op_u16 Try.underlying55 g0
    obtain ⟨k1, b1, e1⟩ := op_u16 Try.underlying55 g1
    simp only [List.cons.injEq, and_true] at e0 e1
    exact ⟨(k0, k1), by rw [e0, e1], b0, b1⟩
theorem op_tears {W : World} {fuel : Nat} {cs : List Value} {x : DataW H × List MemPlace} (h : DataW.trod enc Try.prog W 0 (fun _ => true) true fuel 23 cs = some x) :
    ∃ (v : Value) (ts : List (Nat × Nat)), cs = [v] ∧ Rd W 2 v ts.length (tearCells ts) ∧ ∀ t ∈ ts, t.1 < 65536 ∧ t.2 < 65536 :=
  op_rows (fun p : Nat × Nat => [.int .u16 p.1, .int .u16 p.2]) 2 (by decide) (fun _ => rfl) Try.underlying23 nTear h (fun t => t.1 < 65536 ∧ t.2 < 65536) (fun _ _ _ h => op_tear h)
theorem op_act {W : World} {fuel : Nat} {cs : List Value} {x : DataW H × List MemPlace} (h : DataW.trod enc Try.prog W 0 (fun _ => true) true fuel 38 cs = some x) : ∃ a : ActV, cs = actCells a ∧ a.ok W := by
  obtain ⟨hl, n, hg⟩ := op_fields Try.underlying38 h
  rw [nAct] at hl
  match cs, hl with
  | [c0, c1, c2, c3, c4, c5, c6, c7], _ =>
    obtain ⟨y0, g0⟩ := hg 0 5 0 rfl
    rw [nU8] at g0
    simp only [List.take_succ_cons, List.take_zero, List.drop_zero] at g0
    obtain ⟨k0, b0, e0⟩ := op_u8 Try.underlying5 g0
    obtain ⟨y1, g1⟩ := hg 1 5 1 rfl
    rw [nU8] at g1
    simp only [List.drop_succ_cons, List.take_succ_cons, List.take_zero, List.drop_zero] at g1
    obtain ⟨k1, b1, e1⟩ := op_u8 Try.underlying5 g1
    obtain ⟨y2, g2⟩ := hg 2 5 2 rfl
    rw [nU8] at g2
    simp only [List.drop_succ_cons, List.take_succ_cons, List.take_zero, List.drop_zero] at g2
    obtain ⟨k2, b2, e2⟩ := op_u8 Try.underlying5 g2
    obtain ⟨y3, g3⟩ := hg 3 27 3 rfl
    rw [nBy] at g3
    simp only [List.drop_succ_cons, List.take_succ_cons, List.take_zero, List.drop_zero] at g3
    obtain ⟨v3, l3, e3, r3⟩ := op_bytes Try.underlying27 Try.underlying5 nU8 g3
    obtain ⟨y4, g4⟩ := hg 4 3 4 rfl
    rw [nInt] at g4
    simp only [List.drop_succ_cons, List.take_succ_cons, List.take_zero, List.drop_zero] at g4
    obtain ⟨k4, b4, d4, e4⟩ := op_i64 Try.underlying3 g4
    obtain ⟨y5, g5⟩ := hg 5 9 5 rfl
    rw [nStr] at g5
    simp only [List.drop_succ_cons, List.take_succ_cons, List.take_zero, List.drop_zero] at g5
    obtain ⟨s5, b5, e5⟩ := op_str Try.underlying9 g5
    obtain ⟨y6, g6⟩ := hg 6 4 6 rfl
    rw [nBool] at g6
    simp only [List.drop_succ_cons, List.take_succ_cons, List.take_zero, List.drop_zero] at g6
    obtain ⟨b6, e6⟩ := op_bool Try.underlying4 g6
    obtain ⟨y7, g7⟩ := hg 7 23 7 rfl
    rw [nTears] at g7
    simp only [List.drop_succ_cons, List.take_succ_cons, List.take_zero, List.drop_zero] at g7
    obtain ⟨v7, l7, e7, r7, d7⟩ := op_tears g7
    clear hg h
    simp only [List.cons.injEq, and_true] at e0 e1 e2 e3 e4 e5 e6 e7
    exact ⟨⟨k0, k1, k2, v3, l3, k4, s5, b6, v7, l7⟩, by simp only [actCells, e0, e1, e2, e3, e4, e5, e6, e7], b0, b1, b2, r3, b4, d4, b5, r7, d7⟩
theorem open_acts {W : World} {n : Nat} {v : Value} {x : DataW H × List MemPlace} (h : DataW.trod enc Try.prog W 0 (fun _ => true) true n 36 [v] = some x) :
    ∃ l : List ActV, Rd W 8 v l.length (l.flatMap actCells) ∧ ∀ a ∈ l, a.ok W := by
  obtain ⟨v', l, e, h1, h2⟩ := op_rows actCells 8 (by decide) (fun _ => rfl) Try.underlying36 nAct h (fun a => a.ok W) (fun _ _ _ h => op_act h)
  simp only [List.cons.injEq, and_true] at e
  subst e
  exact ⟨l, h1, h2⟩
end
end Go.Proofs.Ytdjdhakmigofmaa
