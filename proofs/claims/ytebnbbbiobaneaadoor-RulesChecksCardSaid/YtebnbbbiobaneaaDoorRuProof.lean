/-
  RulesChecks: any rule: whether it may be one; lists of them: whatever it is handed, it returns true, and what it was handed reads as it did. Conditions: none beyond what the row lists.
-/
import Derived.Test.YtebnbbbiobaneaaDoorRuF
import Derived.Test.YtebnbbbiobaneaaDoorRuO
import Derived.Test.YtebnbbbiobaneaaDoorCards
import Derived.Test.YtebnbbbiobaneaaDoorTie
import Derived.SevenTiedAt
import Derived.LaidOnce
namespace Go.Proofs.YtebnbbbiobaneaaDoor
open Go.Joins Go.ChangeShapes Go.WideShapes Go.ChangeAt Go.RowKit Go.Deep Go.ChangeMaps
set_option maxRecDepth 100000

theorem ownKnobNone : ownKnob Tryd.prog.godebug = none := by kernel_rfl
theorem laidOut_ : laidOutB Tryd.prog = true := by kernel_rfl
theorem asciiTab {W : World} (h : laidMetH Tryd.prog Rows.rulesChecksRow.laid W) : Lib.TabIs Tryd.prog W "strings.asciiSpace" .u8 Lib.asciiSpaceTab := by
  have h1 := laidMetH.filter (fun x => x.1 == "strings.asciiSpace") h
  rw [show Rows.rulesChecksRow.laid.filter (fun x => x.1 == "strings.asciiSpace") = [("strings.asciiSpace", Lib.tabData .u8 Lib.asciiSpaceTab)] by kernel_rfl] at h1
  rw [MakeChecks.laidMetH_plain _ _ _ (by kernel_rfl)] at h1
  exact Lib.tabIs_of_head (g := 0) (t := 78) (e := 5) (n := 256) (by kernel_rfl) (by kernel_rfl) Tryd.underlying78 Tryd.underlying5 (by kernel_rfl) (by kernel_rfl) h1

theorem liftedRulesChecks (os : Os) (started : os.Started) (H : Type) (enc : TypeId × Value → H) :
    ReturnsInHanded {} Tryd.checked os 3 .any (fun w args => (Rows.rulesChecksSpec.pre enc Tryd.prog Tryd.f3 [] false w args ∧ laidMetH Tryd.prog Rows.rulesChecksRow.laid w) ∧ sizedMet enc Tryd.prog Tryd.f3 (OpenSpec.ofChange Rows.rulesChecksSpec) false w args)
      (Rows.rulesChecksSpec.post enc Tryd.prog Tryd.f3 false true false false) := by
  refine returns_listed (C := Tryd.checked) (X := fun w _ => laidMetH Tryd.prog Rows.rulesChecksRow.laid w) (fun _ _ _ hh h => h.of_heap hh) ownKnobNone started (by kernel_rfl) Tryd.func3
    (ChangeSpec.witness_shaped (enc := enc) (C := Tryd.checked) (os := os) (X := fun w _ => laidMetH Tryd.prog Rows.rulesChecksRow.laid w) false (World.laidAll Tryd.prog os Rows.rulesChecksRow.laid) #[.agg #[.string ⟨#[]⟩, .string ⟨#[]⟩, .slice none 0 0, .int .u8 0, .int .i64 0, .int .u64 0, .int .u64 0, .int .u64 0, .int .u8 0, .slice none 0 0], .slice none 0 0, .int .u8 0] 8 (World.laidAll_os _ _ _)
      (World.shaped_of_ZipB (by kernel_rfl) (by kernel_rfl)) (by kernel_rfl) (by kernel_rfl) (by kernel_rfl)
      (by rw [MakeChecks.laidMetH_plain _ _ _ (by kernel_rfl)]; exact laidMet_laidAll _ (by kernel_rfl) (by kernel_rfl))) ?_
  intro W base args ds gs before hval0 hW hX hsh
  obtain ⟨mx, hm⟩ := maxLen_cell hsh
  have hT := asciiTab hX
  have hval : ∀ (j : Nat) t v, Tryd.f3.params[j]? = some t → args[j]? = some v → Value.okWide Tryd.prog W .any base t v := hval0
  have hW' := hW
  obtain ⟨p, q, hA0, hV, rfl, hfz, hnd⟩ := hW
  have hA : DataW.TrodAll enc Tryd.prog W 0 (fun _ => true) true Tryd.f3.params.toList args.toList ds p := hA0
  rw [Tryd.params3] at hA hval
  obtain ⟨v0, vs0, d0, ds0, p0, q0, hargs, rfl, rfl, h0, r0⟩ := trodAll_cons hA
  obtain ⟨v1, vs1, d1, ds1, p1, q1, rfl, rfl, rfl, h1, r1⟩ := trodAll_cons r0
  obtain ⟨v2, vs2, d2, ds2, p2, q2, rfl, rfl, rfl, h2, r2⟩ := trodAll_cons r1
  obtain ⟨rfl, rfl, rfl⟩ := trodAll_nil r2
  obtain rfl : args = #[v0, v1, v2] := by cases args; simp_all
  obtain ⟨rfl, rfl⟩ := trodVars_none hV
  obtain ⟨y0, a0, rfl⟩ := open_rule1 h0
  obtain ⟨nm0, me0, iv0, ps10, k0, lim0, tk0, fo0, ke0, pr0, wv0, ps20⟩ := y0
  obtain ⟨A10, q10, e10, _⟩ := id a0.ir
  obtain ⟨A20, q20, e20, _⟩ := id a0.wr
  dsimp only at e10 e20
  subst e10 e20
  obtain ⟨e1, h1⟩ := rows_of Tryd.underlying31 (hval 1 31 v1 rfl rfl) h1
  obtain ⟨y1, a1, b1⟩ := open_smalls h1
  obtain ⟨x2, rfl, rfl, rfl, w2⟩ := open_int Tryd.underlying5 (hval 2 5 v2 rfl rfl) h2
  have b2 : 0 ≤ x2 ∧ x2 ≤ 255 := by simpa [Lit.wf, IntKind.min, IntKind.max, IntKind.signed, IntKind.bits] using w2
  obtain ⟨y2, rfl⟩ := Int.eq_ofNat_of_zero_le b2.1
  refine (rulesChecksWalk nm0 me0 A10 q10 ps10 k0 lim0 tk0 fo0 ke0 pr0 A20 q20 ps20 v1 y1 y2 mx W a0 a1 b1 (by omega) hm hT).mono fun e W' ⟨he, hb⟩ => ?_
  subst he
  exact ⟨_, rfl, post_true laidOut_ (by kernel_rfl) rfl hW' rfl (by kernel_rfl) Tryd.underlying4 hb⟩

theorem rulesChecks_row : Rows.RulesChecksSaid :=
  OpenClaim.holds_of_wide 3 Tryd.f3 rfl rfl rfl rfl rfl rfl rfl ⟨rfl, rfl, rfl, rfl, rfl⟩ rfl rfl rfl rfl rfl (by kernel_rfl) Tryd.func3 (by kernel_rfl)
    (of_decide_eq_true (by kernel_rfl)) (by unfold Func.isWrapper; first | (rw [if_pos (by decide +kernel)]; kernel_rfl) | (rw [if_neg (by decide +kernel)]; exact ⟨rfl, rfl⟩))
    (fun os started H enc _ => liftedRulesChecks os started H enc)
theorem rulesChecks_proved : Rows.RulesChecksCardSaid :=
  Claim7.holds_tied_plain_at .later [] [.data, .listed, .data, .pinned] true (true, "b3c95e1dd01a0f90f23049069376d83988d44b8a5f64287a45c641ef5c87f39f") false rulesChecks_row (fun _ h => by cases h) (by kernel_rfl) (fun _ h => by cases h) rulesChecks_row_tie rfl ⟨rfl, rfl⟩ (by kernel_rfl) rfl
    (fun f fn hf hfn => by
      obtain rfl : f = 3 := Option.some.inj ((show Tryd.prog.funcNamed "watchfire/watchfirelaw15.RulesChecks" = some 3 by kernel_rfl).symm.trans hf) |>.symm
      obtain rfl : fn = Tryd.f3 := (Option.some.inj (Tryd.func3.symm.trans hfn)).symm
      exact ⟨by kernel_rfl, fun j t ht => by
        rw [Tryd.params3] at ht
        have hm : t ∈ [30, 31, 5] := by simpa using Array.mem_of_getElem? ht
        have hall : ([30, 31, 5].all fun u => !Tryd.prog.wantsStandIn u) = true := by kernel_rfl
        exact (show Tryd.prog.wantsStandIn t = false by simpa using List.all_eq_true.1 hall t hm)⟩)
    (by kernel_rfl)
end Go.Proofs.YtebnbbbiobaneaaDoor
