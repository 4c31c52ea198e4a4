/-
  LedgerWhole: whatever it is handed, it returns true, and what it was handed reads as it did. Conditions: none.
-/
import Derived.Test.YtdmdfccadjfpiaaGreatLWalkT
import Derived.Test.YtdmdfccadjfpiaaGreatLiftG
import Derived.Test.YtdmdfccadjfpiaaGreatDat
import Derived.ChangeMaps5
namespace Go.Proofs.YtdmdfccadjfpiaaGreat
open Go.Joins Go.ChangeShapes Go.WideShapes Go.ChangeAt Go.RowKit Go.Deep
set_option maxRecDepth 100000
theorem nSm : Tryz.prog.cellsOf 27 = 11 := by kernel_rfl
theorem nU8s : Tryz.prog.cellsOf 5 = 1 := by kernel_rfl
theorem nU16s : Tryz.prog.cellsOf 25 = 1 := by kernel_rfl
theorem nBoolS : Tryz.prog.cellsOf 4 = 1 := by kernel_rfl
section
variable {H : Type} {enc : TypeId × Value → H}
theorem op_sm {W : World} {fuel : Nat} {cs : List Value} {x : DataW H × List MemPlace} (h : DataW.trod enc Tryz.prog W 0 (fun _ => true) true fuel 27 cs = some x) : ∃ a : Sm, cs = sm11 a ∧ a.ok := by
  obtain ⟨hl, n, hg⟩ := op_fields Tryz.underlying27 h
  rw [nSm] at hl
  match cs, hl with
  | [c0, c1, c2, c3, c4, c5, c6, c7, c8, c9, c10], _ =>
    obtain ⟨y0, g0⟩ := hg 0 4 0 rfl
    rw [nBoolS] at g0
    simp only [List.take_succ_cons, List.take_zero, List.drop_zero] at g0
    obtain ⟨b0, e0⟩ := op_bool Tryz.underlying4 g0
    obtain ⟨y1, g1⟩ := hg 1 5 1 rfl
    rw [nU8s] at g1
    simp only [List.drop_succ_cons, List.take_succ_cons, List.take_zero, List.drop_zero] at g1
    obtain ⟨k1, b1, e1⟩ := op_u8 Tryz.underlying5 g1
    obtain ⟨y2, g2⟩ := hg 2 5 2 rfl
    rw [nU8s] at g2
    simp only [List.drop_succ_cons, List.take_succ_cons, List.take_zero, List.drop_zero] at g2
    obtain ⟨k2, b2, e2⟩ := op_u8 Tryz.underlying5 g2
    obtain ⟨y3, g3⟩ := hg 3 5 3 rfl
    rw [nU8s] at g3
    simp only [List.drop_succ_cons, List.take_succ_cons, List.take_zero, List.drop_zero] at g3
    obtain ⟨k3, b3, e3⟩ := op_u8 Tryz.underlying5 g3
    obtain ⟨y4, g4⟩ := hg 4 25 4 rfl
    rw [nU16s] at g4
    simp only [List.drop_succ_cons, List.take_succ_cons, List.take_zero, List.drop_zero] at g4
    obtain ⟨k4, b4, e4⟩ := op_u16 Tryz.underlying25 g4
    obtain ⟨y5, g5⟩ := hg 5 25 5 rfl
    rw [nU16s] at g5
    simp only [List.drop_succ_cons, List.take_succ_cons, List.take_zero, List.drop_zero] at g5
    obtain ⟨k5, b5, e5⟩ := op_u16 Tryz.underlying25 g5
    obtain ⟨y6, g6⟩ := hg 6 25 6 rfl
    rw [nU16s] at g6
    simp only [List.drop_succ_cons, List.take_succ_cons, List.take_zero, List.drop_zero] at g6
    obtain ⟨k6, b6, e6⟩ := op_u16 Tryz.underlying25 g6
    obtain ⟨y7, g7⟩ := hg 7 5 7 rfl
    rw [nU8s] at g7
    simp only [List.drop_succ_cons, List.take_succ_cons, List.take_zero, List.drop_zero] at g7
    obtain ⟨k7, b7, e7⟩ := op_u8 Tryz.underlying5 g7
    obtain ⟨y8, g8⟩ := hg 8 5 8 rfl
    rw [nU8s] at g8
    simp only [List.drop_succ_cons, List.take_succ_cons, List.take_zero, List.drop_zero] at g8
    obtain ⟨k8, b8, e8⟩ := op_u8 Tryz.underlying5 g8
    obtain ⟨y9, g9⟩ := hg 9 5 9 rfl
    rw [nU8s] at g9
    simp only [List.drop_succ_cons, List.take_succ_cons, List.take_zero, List.drop_zero] at g9
    obtain ⟨k9, b9, e9⟩ := op_u8 Tryz.underlying5 g9
    obtain ⟨y10, g10⟩ := hg 10 4 10 rfl
    rw [nBoolS] at g10
    simp only [List.drop_succ_cons, List.take_succ_cons, List.take_zero, List.drop_zero] at g10
    obtain ⟨b10, e10⟩ := op_bool Tryz.underlying4 g10
    clear hg h
    simp only [List.cons.injEq, and_true] at e0 e1 e2 e3 e4 e5 e6 e7 e8 e9 e10
    exact ⟨⟨b0, k1, k2, k3, k4, k5, k6, k7, k8, k9, b10⟩, by simp only [sm11, e0, e1, e2, e3, e4, e5, e6, e7, e8, e9, e10], ⟨b1, b3, b4, b5, b6, b8, b9⟩⟩
theorem open_sms {W : World} {n : Nat} {v : Value} {x : DataW H × List MemPlace} (h : DataW.trod enc Tryz.prog W 0 (fun _ => true) true n 22 [v] = some x) :
    ∃ l : List Sm, Rd W 11 v l.length (l.flatMap sm11) ∧ ∀ a ∈ l, a.ok := by
  obtain ⟨v', l, e, h1, h2⟩ := op_rows sm11 11 (by decide) (fun _ => rfl) Tryz.underlying22 nSm h (fun a => a.ok) (fun _ _ _ h => op_sm h)
  simp only [List.cons.injEq, and_true] at e
  subst e
  exact ⟨l, h1, h2⟩
end
end Go.Proofs.YtdmdfccadjfpiaaGreat
namespace Go.Proofs.YtdmdfccadjfpiaaGreat
open Go.Joins Go.ChangeShapes Go.WideShapes Go.ChangeAt Go.RowKit Go.Deep Go.ChangeMaps
set_option maxRecDepth 100000

theorem ownKnobNone : ownKnob Tryz.prog.godebug = none := by kernel_rfl
theorem laidOut_ : laidOutB Tryz.prog = true := by kernel_rfl

theorem liftedLedgerWhole (os : Os) (started : os.Started) (H : Type) (enc : TypeId × Value → H) :
    ReturnsInHanded {} Tryz.checked os 3 .any (Rows.ledgerWholeSpec.pre6 enc Tryz.prog Tryz.f3 Rows.ledgerWholeRow.domain false) (Rows.ledgerWholeSpec.post enc Tryz.prog Tryz.f3 false true false false) := by
  refine returnsInHanded_of_change (C := Tryz.checked) ownKnobNone started (by kernel_rfl) Tryz.func3
    (ChangeSpec.witness6 (enc := enc) (C := Tryz.checked) false ⟨#[], #[.slice none 0 0, .int .u8 0, .int .u8 0], []⟩ 8 (by kernel_rfl) (by kernel_rfl) (by kernel_rfl) (by kernel_rfl)) ?_
  intro W base args ds gs before hval0 hW _ _
  have hval : ∀ (j : Nat) t v, Tryz.f3.params[j]? = some t → args[j]? = some v → Value.okWide Tryz.prog W .any base t v := hval0
  have hW' := hW
  obtain ⟨p, q, hA0, hV, rfl, hfz, hnd⟩ := hW
  have hA : DataW.TrodAll enc Tryz.prog W 0 (fun _ => true) true Tryz.f3.params.toList args.toList ds p := hA0
  rw [Tryz.params3] at hA hval
  obtain ⟨v0, vs0, d0, ds0, p0, q0, hargs, rfl, rfl, h0, r0⟩ := trodAll_cons hA
  obtain ⟨v1, vs1, d1, ds1, p1, q1, rfl, rfl, rfl, h1, r1⟩ := trodAll_cons r0
  obtain ⟨v2, vs2, d2, ds2, p2, q2, rfl, rfl, rfl, h2, r2⟩ := trodAll_cons r1
  obtain ⟨rfl, rfl, rfl⟩ := trodAll_nil r2
  obtain rfl : args = #[v0, v1, v2] := by cases args; simp_all
  obtain ⟨rfl, rfl⟩ := trodVars_none hV
  obtain ⟨e0, h0⟩ := rows_of Tryz.underlying22 (hval 0 22 v0 rfl rfl) h0
  obtain ⟨y0, a0, c0⟩ := open_sms h0
  obtain ⟨x1, rfl, rfl, rfl, w1⟩ := open_int Tryz.underlying5 (hval 1 5 v1 rfl rfl) h1
  have b1 : 0 ≤ x1 ∧ x1 ≤ 255 := by simpa [Lit.wf, IntKind.min, IntKind.max, IntKind.signed, IntKind.bits] using w1
  obtain ⟨y1, rfl⟩ := Int.eq_ofNat_of_zero_le b1.1
  obtain ⟨x2, rfl, rfl, rfl, w2⟩ := open_int Tryz.underlying5 (hval 2 5 v2 rfl rfl) h2
  have b2 : 0 ≤ x2 ∧ x2 ≤ 255 := by simpa [Lit.wf, IntKind.min, IntKind.max, IntKind.signed, IntKind.bits] using w2
  obtain ⟨y2, rfl⟩ := Int.eq_ofNat_of_zero_le b2.1
  refine (lwWalk v0 y0 y1 y2 W a0 c0 (by omega) (by omega)).mono fun e W' ⟨he, hb⟩ => ?_
  subst he
  exact ⟨_, rfl, post_true laidOut_ (by kernel_rfl) rfl hW' rfl (by kernel_rfl) Tryz.underlying4 hb⟩

theorem ledgerWhole_proved : Rows.LedgerWholeSaid :=
  OpenClaim.holds_of_wide 3 Tryz.f3 rfl rfl rfl rfl rfl rfl rfl ⟨rfl, rfl, rfl, rfl, rfl⟩ rfl rfl rfl rfl rfl (by kernel_rfl) Tryz.func3 (by kernel_rfl)
    (of_decide_eq_true (by kernel_rfl)) (by unfold Func.isWrapper; first | (rw [if_pos (by decide +kernel)]; kernel_rfl) | (rw [if_neg (by decide +kernel)]; exact ⟨rfl, rfl⟩))
    (fun os started H enc _ => liftedLedgerWhole os started H enc)
end Go.Proofs.YtdmdfccadjfpiaaGreat
