/-
  What the law ViewItems is handed, opened, under a bound on its bulk.
-/
import Derived.Test.YtdghpjkjhlankaaOpV
import Derived.Test.YtdghpjkjhlankaaItemsL
namespace Go.Proofs.Ytdghpjkjhlankaa
open Go.Joins Go.ChangeShapes Go.WideShapes Go.ChangeAt Go.RowKit Go.Deep
set_option maxRecDepth 100000
theorem vEvent : Try.prog.cellsOf 62 = 9 := by kernel_rfl
theorem vGap : Try.prog.cellsOf 64 = 3 := by kernel_rfl
theorem vItem : Try.prog.cellsOf 66 = 13 := by kernel_rfl
theorem vSm : Try.prog.cellsOf 71 = 11 := by kernel_rfl
theorem vSms : Try.prog.cellsOf 60 = 1 := by kernel_rfl
section
variable {H : Type} {enc : TypeId × Value → H}
theorem opb_event {W : World} {fuel : Nat} {cs : List Value} {x : DataW H × List MemPlace} (h : DataW.trod enc Try.prog W 0 (fun _ => true) true fuel 62 cs = some x) (_hb : Rows.uptoBulk x.1 ≤ 1048576) : ∃ (o sq tm : Nat) (ru : ByteArray) (lv : Value) (ps : List (ByteArray × ByteArray)) (st pr : Nat) (va : Int) (ow : Nat), cs = [.int .u8 o, .int .u64 sq, .int .u64 tm, .string ru, lv, .int .u8 st, .int .u8 pr, .int .i64 va, .int .u8 ow] ∧ o < 256 ∧ sq < 18446744073709551616 ∧ tm < 18446744073709551616 ∧ ru.size ≤ 1048576 ∧ Rd W 2 lv ps.length (pairCells ps) ∧ (ps.length ≤ 12 → (textL ps).length ≤ 100000000) ∧ st < 256 ∧ pr < 256 ∧ -9223372036854775808 ≤ va ∧ va ≤ 9223372036854775807 := by
  obtain ⟨hl, n, hg⟩ := opb_fields Try.underlying62 h
  rw [vEvent] at hl
  match cs, hl with
  | [c0, c1, c2, c3, c4, c5, c6, c7, c8], _ =>
    obtain ⟨y0, g0, kb0⟩ := hg 0 5 0 rfl
    have kb0 := Nat.le_trans kb0 _hb
    rw [vU8] at g0
    simp only [List.take_succ_cons, List.take_zero, List.drop_zero] at g0
    obtain ⟨k0, b0, e0⟩ := op_u8 Try.underlying5 g0
    obtain ⟨y1, g1, kb1⟩ := hg 1 27 1 rfl
    have kb1 := Nat.le_trans kb1 _hb
    rw [vU64] at g1
    simp only [List.drop_succ_cons, List.take_succ_cons, List.take_zero, List.drop_zero] at g1
    obtain ⟨k1, b1, e1⟩ := op_u64 Try.underlying27 g1
    obtain ⟨y2, g2, kb2⟩ := hg 2 27 2 rfl
    have kb2 := Nat.le_trans kb2 _hb
    rw [vU64] at g2
    simp only [List.drop_succ_cons, List.take_succ_cons, List.take_zero, List.drop_zero] at g2
    obtain ⟨k2, b2, e2⟩ := op_u64 Try.underlying27 g2
    obtain ⟨y3, g3, kb3⟩ := hg 3 9 3 rfl
    have kb3 := Nat.le_trans kb3 _hb
    rw [vStr] at g3
    simp only [List.drop_succ_cons, List.take_succ_cons, List.take_zero, List.drop_zero] at g3
    obtain ⟨s3, b3, e3⟩ := opb_str Try.underlying9 g3 kb3
    obtain ⟨y4, g4, kb4⟩ := hg 4 42 4 rfl
    have kb4 := Nat.le_trans kb4 _hb
    rw [vPairs] at g4
    simp only [List.drop_succ_cons, List.take_succ_cons, List.take_zero, List.drop_zero] at g4
    obtain ⟨v4, l4, e4, r4, d4, _⟩ := opb_pairs g4 kb4
    obtain ⟨y5, g5, kb5⟩ := hg 5 43 5 rfl
    have kb5 := Nat.le_trans kb5 _hb
    rw [vState] at g5
    simp only [List.drop_succ_cons, List.take_succ_cons, List.take_zero, List.drop_zero] at g5
    obtain ⟨k5, b5, e5⟩ := op_u8 Try.underlying43 g5
    obtain ⟨y6, g6, kb6⟩ := hg 6 5 6 rfl
    have kb6 := Nat.le_trans kb6 _hb
    rw [vU8] at g6
    simp only [List.drop_succ_cons, List.take_succ_cons, List.take_zero, List.drop_zero] at g6
    obtain ⟨k6, b6, e6⟩ := op_u8 Try.underlying5 g6
    obtain ⟨y7, g7, kb7⟩ := hg 7 2 7 rfl
    have kb7 := Nat.le_trans kb7 _hb
    rw [vI64] at g7
    simp only [List.drop_succ_cons, List.take_succ_cons, List.take_zero, List.drop_zero] at g7
    obtain ⟨k7, b7, d7, e7⟩ := op_i64 Try.underlying2 g7
    obtain ⟨y8, g8, kb8⟩ := hg 8 5 8 rfl
    have kb8 := Nat.le_trans kb8 _hb
    rw [vU8] at g8
    simp only [List.drop_succ_cons, List.take_succ_cons, List.take_zero, List.drop_zero] at g8
    obtain ⟨k8, b8, e8⟩ := op_u8 Try.underlying5 g8
    clear hg h
    simp only [List.cons.injEq, and_true] at e0 e1 e2 e3 e4 e5 e6 e7 e8
    exact ⟨k0, k1, k2, s3, v4, l4, k5, k6, k7, k8, by rw [e0, e1, e2, e3, e4, e5, e6, e7, e8], b0, b1, b2, b3, r4, fun h12 => by
      have h1 := textL_bound 1048576 l4 d4
      calc (textL l4).length ≤ l4.length * (2 * 1048576 + 2) := h1
        _ ≤ 12 * (2 * 1048576 + 2) := Nat.mul_le_mul_right _ h12
        _ ≤ 100000000 := by decide, b5, b6, b7, d7⟩
theorem opb_gap {W : World} {fuel : Nat} {cs : List Value} {x : DataW H × List MemPlace} (h : DataW.trod enc Try.prog W 0 (fun _ => true) true fuel 64 cs = some x) (_hb : Rows.uptoBulk x.1 ≤ 1048576) : ∃ (o f t : Nat), cs = [.int .u8 o, .int .u64 f, .int .u64 t] ∧ o < 256 ∧ f < 18446744073709551616 ∧ t < 18446744073709551616 := by
  obtain ⟨hl, n, hg⟩ := opb_fields Try.underlying64 h
  rw [vGap] at hl
  match cs, hl with
  | [c0, c1, c2], _ =>
    obtain ⟨y0, g0, kb0⟩ := hg 0 5 0 rfl
    have kb0 := Nat.le_trans kb0 _hb
    rw [vU8] at g0
    simp only [List.take_succ_cons, List.take_zero, List.drop_zero] at g0
    obtain ⟨k0, b0, e0⟩ := op_u8 Try.underlying5 g0
    obtain ⟨y1, g1, kb1⟩ := hg 1 27 1 rfl
    have kb1 := Nat.le_trans kb1 _hb
    rw [vU64] at g1
    simp only [List.drop_succ_cons, List.take_succ_cons, List.take_zero, List.drop_zero] at g1
    obtain ⟨k1, b1, e1⟩ := op_u64 Try.underlying27 g1
    obtain ⟨y2, g2, kb2⟩ := hg 2 27 2 rfl
    have kb2 := Nat.le_trans kb2 _hb
    rw [vU64] at g2
    simp only [List.drop_succ_cons, List.take_succ_cons, List.take_zero, List.drop_zero] at g2
    obtain ⟨k2, b2, e2⟩ := op_u64 Try.underlying27 g2
    clear hg h
    simp only [List.cons.injEq, and_true] at e0 e1 e2
    exact ⟨k0, k1, k2, by rw [e0, e1, e2], b0, b1, b2⟩
theorem opb_item {W : World} {fuel : Nat} {cs : List Value} {x : DataW H × List MemPlace} (h : DataW.trod enc Try.prog W 0 (fun _ => true) true fuel 66 cs = some x) (_hb : Rows.uptoBulk x.1 ≤ 1048576) : ∃ a : ItV, cs = it13 a ∧ (a.ps.length ≤ 12 → a.fit) ∧ Rd W 2 a.lv a.ps.length (pairCells a.ps) := by
  obtain ⟨hl, n, hg⟩ := opb_fields Try.underlying66 h
  rw [vItem] at hl
  match cs, hl with
  | [c0, c1, c2, c3, c4, c5, c6, c7, c8, c9, c10, c11, c12], _ =>
    obtain ⟨y0, g0, kb0⟩ := hg 0 4 0 rfl
    have kb0 := Nat.le_trans kb0 _hb
    rw [vBool] at g0
    simp only [List.take_succ_cons, List.take_zero, List.drop_zero] at g0
    obtain ⟨b0, e0⟩ := op_bool Try.underlying4 g0
    obtain ⟨y1, g1, kb1⟩ := hg 1 62 1 rfl
    have kb1 := Nat.le_trans kb1 _hb
    rw [vEvent] at g1
    simp only [List.drop_succ_cons, List.take_succ_cons, List.take_zero, List.drop_zero] at g1
    obtain ⟨o1, sq1, tm1, ru1, lv1, ps1, st1, pr1, va1, ow1, e1, h1, h2, h3, h4, h5, h6, h7, h8, h9, h10⟩ := opb_event g1 kb1
    obtain ⟨y2, g2, kb2⟩ := hg 2 64 10 rfl
    have kb2 := Nat.le_trans kb2 _hb
    rw [vGap] at g2
    simp only [List.drop_succ_cons, List.take_succ_cons, List.take_zero, List.drop_zero] at g2
    obtain ⟨go2, gf2, gt2, e2, f1, f2, f3⟩ := opb_gap g2 kb2
    clear hg h
    simp only [List.cons.injEq, and_true] at e0 e1 e2
    exact ⟨⟨b0, o1, sq1, tm1, ru1, lv1, ps1, st1, pr1, va1, ow1, go2, gf2, gt2⟩, by simp only [it13, e0, e1.1, e1.2.1, e1.2.2.1, e1.2.2.2.1, e1.2.2.2.2.1, e1.2.2.2.2.2.1, e1.2.2.2.2.2.2.1, e1.2.2.2.2.2.2.2.1, e1.2.2.2.2.2.2.2.2, e2.1, e2.2.1, e2.2.2], fun h12 => ⟨h1, h2, h3, h4, h6 h12, h7, h8, ⟨h9, h10⟩, f1, f2, f3⟩, h5⟩
theorem opb_sm {W : World} {fuel : Nat} {cs : List Value} {x : DataW H × List MemPlace} (h : DataW.trod enc Try.prog W 0 (fun _ => true) true fuel 71 cs = some x) (_hb : Rows.uptoBulk x.1 ≤ 1048576) : ∃ s : Sm11, cs = sm11 s ∧ s.ok := by
  obtain ⟨hl, n, hg⟩ := opb_fields Try.underlying71 h
  rw [vSm] at hl
  match cs, hl with
  | [c0, c1, c2, c3, c4, c5, c6, c7, c8, c9, c10], _ =>
    obtain ⟨y0, g0, kb0⟩ := hg 0 4 0 rfl
    have kb0 := Nat.le_trans kb0 _hb
    rw [vBool] at g0
    simp only [List.take_succ_cons, List.take_zero, List.drop_zero] at g0
    obtain ⟨b0, e0⟩ := op_bool Try.underlying4 g0
    obtain ⟨y1, g1, kb1⟩ := hg 1 5 1 rfl
    have kb1 := Nat.le_trans kb1 _hb
    rw [vU8] at g1
    simp only [List.drop_succ_cons, List.take_succ_cons, List.take_zero, List.drop_zero] at g1
    obtain ⟨k1, b1, e1⟩ := op_u8 Try.underlying5 g1
    obtain ⟨y2, g2, kb2⟩ := hg 2 5 2 rfl
    have kb2 := Nat.le_trans kb2 _hb
    rw [vU8] at g2
    simp only [List.drop_succ_cons, List.take_succ_cons, List.take_zero, List.drop_zero] at g2
    obtain ⟨k2, b2, e2⟩ := op_u8 Try.underlying5 g2
    obtain ⟨y3, g3, kb3⟩ := hg 3 5 3 rfl
    have kb3 := Nat.le_trans kb3 _hb
    rw [vU8] at g3
    simp only [List.drop_succ_cons, List.take_succ_cons, List.take_zero, List.drop_zero] at g3
    obtain ⟨k3, b3, e3⟩ := op_u8 Try.underlying5 g3
    obtain ⟨y4, g4, kb4⟩ := hg 4 24 4 rfl
    have kb4 := Nat.le_trans kb4 _hb
    rw [vU16] at g4
    simp only [List.drop_succ_cons, List.take_succ_cons, List.take_zero, List.drop_zero] at g4
    obtain ⟨k4, b4, e4⟩ := op_u16 Try.underlying24 g4
    obtain ⟨y5, g5, kb5⟩ := hg 5 24 5 rfl
    have kb5 := Nat.le_trans kb5 _hb
    rw [vU16] at g5
    simp only [List.drop_succ_cons, List.take_succ_cons, List.take_zero, List.drop_zero] at g5
    obtain ⟨k5, b5, e5⟩ := op_u16 Try.underlying24 g5
    obtain ⟨y6, g6, kb6⟩ := hg 6 24 6 rfl
    have kb6 := Nat.le_trans kb6 _hb
    rw [vU16] at g6
    simp only [List.drop_succ_cons, List.take_succ_cons, List.take_zero, List.drop_zero] at g6
    obtain ⟨k6, b6, e6⟩ := op_u16 Try.underlying24 g6
    obtain ⟨y7, g7, kb7⟩ := hg 7 5 7 rfl
    have kb7 := Nat.le_trans kb7 _hb
    rw [vU8] at g7
    simp only [List.drop_succ_cons, List.take_succ_cons, List.take_zero, List.drop_zero] at g7
    obtain ⟨k7, b7, e7⟩ := op_u8 Try.underlying5 g7
    obtain ⟨y8, g8, kb8⟩ := hg 8 5 8 rfl
    have kb8 := Nat.le_trans kb8 _hb
    rw [vU8] at g8
    simp only [List.drop_succ_cons, List.take_succ_cons, List.take_zero, List.drop_zero] at g8
    obtain ⟨k8, b8, e8⟩ := op_u8 Try.underlying5 g8
    obtain ⟨y9, g9, kb9⟩ := hg 9 5 9 rfl
    have kb9 := Nat.le_trans kb9 _hb
    rw [vU8] at g9
    simp only [List.drop_succ_cons, List.take_succ_cons, List.take_zero, List.drop_zero] at g9
    obtain ⟨k9, b9, e9⟩ := op_u8 Try.underlying5 g9
    obtain ⟨y10, g10, kb10⟩ := hg 10 4 10 rfl
    have kb10 := Nat.le_trans kb10 _hb
    rw [vBool] at g10
    simp only [List.drop_succ_cons, List.take_succ_cons, List.take_zero, List.drop_zero] at g10
    obtain ⟨b10, e10⟩ := op_bool Try.underlying4 g10
    clear hg h
    simp only [List.cons.injEq, and_true] at e0 e1 e2 e3 e4 e5 e6 e7 e8 e9 e10
    exact ⟨⟨b0, k1, k2, k3, k4, k5, k6, k7, k8, k9, b10⟩, by simp only [sm11, e0, e1, e2, e3, e4, e5, e6, e7, e8, e9, e10], ⟨b1, b2, b3, b4, b5, b6, b7, b8, b9⟩⟩
theorem opb_sms {W : World} {fuel : Nat} {cs : List Value} {x : DataW H × List MemPlace} (h : DataW.trod enc Try.prog W 0 (fun _ => true) true fuel 60 cs = some x) (hb : Rows.uptoBulk x.1 ≤ 1048576) :
    ∃ (v : Value) (l : List (Sm11)), cs = [v] ∧ Rd W 11 v l.length (l.flatMap sm11) ∧ (∀ q ∈ l, q.ok) ∧ l.length ≤ 1048576 :=
  opb_rows (sm11) 11 (by decide) (fun _ => rfl) Try.underlying60 vSm h hb (fun q => q.ok) (fun _ _ _ h hb => opb_sm h hb)
end
end Go.Proofs.Ytdghpjkjhlankaa
