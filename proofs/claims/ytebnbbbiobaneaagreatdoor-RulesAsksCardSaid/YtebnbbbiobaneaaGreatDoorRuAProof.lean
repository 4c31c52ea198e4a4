/-
  RulesAsks: any rule and series: whether it asks, the alert's labels, the same and unlike ones: whatever it is handed, it returns true, and what it was handed reads as it did. Conditions: none beyond what the row lists.
-/
import Derived.Test.YtebnbbbiobaneaaGreatDoorRuG
import Derived.Test.YtebnbbbiobaneaaGreatDoorRuU
import Derived.Test.YtebnbbbiobaneaaGreatDoorCards
import Derived.Test.YtebnbbbiobaneaaGreatDoorTie
import Derived.SevenTiedAt
import Derived.LaidOnce
import Derived.JoinedCond
namespace Go.Proofs.YtebnbbbiobaneaaGreatDoor
open Go.Joins Go.ChangeShapes Go.WideShapes Go.ChangeAt Go.RowKit Go.Deep Go.ChangeMaps
set_option maxRecDepth 100000

theorem ownKnobNone : ownKnob Tryz.prog.godebug = none := by kernel_rfl
theorem laidOut_ : laidOutB Tryz.prog = true := by kernel_rfl
theorem asciiTab {W : World} (h : laidMetH Tryz.prog Rows.rulesAsksRow.laid W) : Lib.TabIs Tryz.prog W "strings.asciiSpace" .u8 Lib.asciiSpaceTab := by
  have h1 := laidMetH.filter (fun x => x.1 == "strings.asciiSpace") h
  rw [show Rows.rulesAsksRow.laid.filter (fun x => x.1 == "strings.asciiSpace") = [("strings.asciiSpace", Lib.tabData .u8 Lib.asciiSpaceTab)] by kernel_rfl] at h1
  rw [MakeChecks.laidMetH_plain _ _ _ (by kernel_rfl)] at h1
  exact Lib.tabIs_of_head (g := 0) (t := 245) (e := 5) (n := 256) (by kernel_rfl) (by kernel_rfl) Tryz.underlying245 Tryz.underlying5 (by kernel_rfl) (by kernel_rfl) h1
theorem reads_rulesAsks (os : Os) {H : Type} (enc : TypeId × Value → H) : ∃ places, DataW.whole enc Tryz.prog (((World.laidAll Tryz.prog os Rows.rulesAsksRow.laid).forCall (fun _ _ => 0) ⟨#[], #[.agg #[.string ⟨#[]⟩, .string ⟨#[]⟩, .slice none 0 0, .int .u8 0, .int .i64 0, .int .u64 0, .int .u64 0, .int .u64 0, .int .u8 0, .slice none 0 0], .agg #[.string ⟨#[]⟩, .string ⟨#[]⟩, .slice none 0 0, .int .u8 0, .int .i64 0, .int .u64 0, .int .u64 0, .int .u64 0, .int .u8 0, .slice none 0 0], .agg #[.int .u8 0, .int .u8 0, .int .u8 0, .int .u8 0, .int .u8 0, .int .i16 0, .int .u8 0, .int .u8 0, .int .u8 0, .int .u8 0], .agg #[.int .u8 0, .int .u8 0, .int .u8 0, .int .u8 0, .int .u8 0, .int .i16 0, .int .u8 0, .int .u8 0, .int .u8 0, .int .u8 0], .string ⟨#[]⟩, .slice none 0 0], []⟩).memory) Tryz.f4.params.toList Rows.rulesAsksSpec.vars false (#[.agg #[.string ⟨#[]⟩, .string ⟨#[]⟩, .slice none 0 0, .int .u8 0, .int .i64 0, .int .u64 0, .int .u64 0, .int .u64 0, .int .u8 0, .slice none 0 0], .agg #[.string ⟨#[]⟩, .string ⟨#[]⟩, .slice none 0 0, .int .u8 0, .int .i64 0, .int .u64 0, .int .u64 0, .int .u64 0, .int .u8 0, .slice none 0 0], .agg #[.int .u8 0, .int .u8 0, .int .u8 0, .int .u8 0, .int .u8 0, .int .i16 0, .int .u8 0, .int .u8 0, .int .u8 0, .int .u8 0], .agg #[.int .u8 0, .int .u8 0, .int .u8 0, .int .u8 0, .int .u8 0, .int .i16 0, .int .u8 0, .int .u8 0, .int .u8 0, .int .u8 0], .string ⟨#[]⟩, .slice none 0 0] : Array Value).toList 8 = some ([.agg [.lit (.string []), .lit (.string []), .nil, .agg [.lit (.int .u8 0), .lit (.int .i64 0), .lit (.int .u64 0)], .agg [.lit (.int .u64 0), .lit (.int .u64 0)], .lit (.int .u8 0), .nil], .agg [.lit (.string []), .lit (.string []), .nil, .agg [.lit (.int .u8 0), .lit (.int .i64 0), .lit (.int .u64 0)], .agg [.lit (.int .u64 0), .lit (.int .u64 0)], .lit (.int .u8 0), .nil], .agg [.lit (.int .u8 0), .lit (.int .u8 0), .lit (.int .u8 0), .lit (.int .u8 0), .agg [.lit (.int .u8 0), .lit (.int .i16 0), .lit (.int .u8 0)], .lit (.int .u8 0), .lit (.int .u8 0), .lit (.int .u8 0)], .agg [.lit (.int .u8 0), .lit (.int .u8 0), .lit (.int .u8 0), .lit (.int .u8 0), .agg [.lit (.int .u8 0), .lit (.int .i16 0), .lit (.int .u8 0)], .lit (.int .u8 0), .lit (.int .u8 0), .lit (.int .u8 0)], .lit (.string []), .nil], [], places) :=
  ⟨[], by kernel_rfl⟩
theorem liftedRulesAsks (os : Os) (started : os.Started) (H : Type) (enc : TypeId × Value → H) (F : Stop.Interp) :
    ReturnsInHanded {} Tryz.checked os 4 .any ((OpenSpec.ofChange Rows.rulesAsksSpec).preRow enc Tryz.prog Tryz.f4 Rows.rulesAsksRow.domain false Rows.rulesAsksRow.laid) (((OpenSpec.ofChange Rows.rulesAsksSpec).at F).post enc Tryz.prog Tryz.f4 false true false false) := by
  obtain ⟨places, hx⟩ := reads_rulesAsks os enc
  refine returns_row (C := Tryz.checked) (s := (OpenSpec.ofChange Rows.rulesAsksSpec)) ownKnobNone started (by kernel_rfl) Tryz.func4 (World.laidAll Tryz.prog os Rows.rulesAsksRow.laid) #[.agg #[.string ⟨#[]⟩, .string ⟨#[]⟩, .slice none 0 0, .int .u8 0, .int .i64 0, .int .u64 0, .int .u64 0, .int .u64 0, .int .u8 0, .slice none 0 0], .agg #[.string ⟨#[]⟩, .string ⟨#[]⟩, .slice none 0 0, .int .u8 0, .int .i64 0, .int .u64 0, .int .u64 0, .int .u64 0, .int .u8 0, .slice none 0 0], .agg #[.int .u8 0, .int .u8 0, .int .u8 0, .int .u8 0, .int .u8 0, .int .i16 0, .int .u8 0, .int .u8 0, .int .u8 0, .int .u8 0], .agg #[.int .u8 0, .int .u8 0, .int .u8 0, .int .u8 0, .int .u8 0, .int .i16 0, .int .u8 0, .int .u8 0, .int .u8 0, .int .u8 0], .string ⟨#[]⟩, .slice none 0 0] (World.laidAll_os _ _ _)
    (World.shaped_of_ZipB (by kernel_rfl) (by kernel_rfl)) (by kernel_rfl)
    (OpenSpec.preRow_of_cond 8 hx (by kernel_rfl) (fun k hk => by cases hk) (by kernel_rfl) (by rw [MakeChecks.laidMetH_plain _ _ _ (by kernel_rfl)]; exact laidMet_laidAll _ (by kernel_rfl) (by kernel_rfl))) ?_
  intro W base args ds gs before hval0 hW hwt hX hsh
  obtain ⟨mx, hm⟩ := maxLen_cell hsh
  have hT := asciiTab hX
  have hrb : reachBytes = 140737488351232 := rfl
  have hval : ∀ (j : Nat) t v, Tryz.f4.params[j]? = some t → args[j]? = some v → Value.okWide Tryz.prog W .any base t v := hval0
  have hW' := hW
  obtain ⟨p, q, hA0, hV, rfl, hfz, hnd⟩ := hW
  have hA : DataW.TrodAll enc Tryz.prog W 0 (fun _ => true) true Tryz.f4.params.toList args.toList ds p := hA0
  rw [Tryz.params4] at hA hval
  have hwt2 : (DataW.weightsEach Tryz.prog (Tryz.f4.params.toList ++ _) (ds ++ gs)).all (· ≤ reachBytes) = true := hwt
  rw [Tryz.params4] at hwt2
  obtain ⟨v0, vs0, d0, ds0, p0, q0, hargs, rfl, rfl, h0, r0⟩ := trodAll_cons hA
  obtain ⟨v1, vs1, d1, ds1, p1, q1, rfl, rfl, rfl, h1, r1⟩ := trodAll_cons r0
  obtain ⟨v2, vs2, d2, ds2, p2, q2, rfl, rfl, rfl, h2, r2⟩ := trodAll_cons r1
  obtain ⟨v3, vs3, d3, ds3, p3, q3, rfl, rfl, rfl, h3, r3⟩ := trodAll_cons r2
  obtain ⟨v4, vs4, d4, ds4, p4, q4, rfl, rfl, rfl, h4, r4⟩ := trodAll_cons r3
  obtain ⟨v5, vs5, d5, ds5, p5, q5, rfl, rfl, rfl, h5, r5⟩ := trodAll_cons r4
  obtain ⟨rfl, rfl, rfl⟩ := trodAll_nil r5
  obtain rfl : args = #[v0, v1, v2, v3, v4, v5] := by cases args; simp_all
  obtain ⟨rfl, rfl⟩ := trodVars_none hV
  have hw0 : ∀ k ∈ d0.weights Tryz.prog 63, k ≤ reachBytes := fun k hk => by simpa using List.all_eq_true.1 hwt2 k (DataW.weights_mem_each (j := 0) (t := 63) rfl rfl k hk)
  have hw1 : ∀ k ∈ d1.weights Tryz.prog 63, k ≤ reachBytes := fun k hk => by simpa using List.all_eq_true.1 hwt2 k (DataW.weights_mem_each (j := 1) (t := 63) rfl rfl k hk)
  have hw5 : ∀ k ∈ d5.weights Tryz.prog 33, k ≤ reachBytes := fun k hk => by simpa using List.all_eq_true.1 hwt2 k (DataW.weights_mem_each (j := 5) (t := 33) rfl rfl k hk)
  obtain ⟨y0, a0, rfl, n10, n20⟩ := open_rule1w h0 hw0
  obtain ⟨nm0, me0, iv0, ps10, k0, lim0, tk0, fo0, ke0, pr0, wv0, ps20⟩ := y0
  obtain ⟨A10, q10, e10, _⟩ := id a0.ir
  obtain ⟨A20, q20, e20, _⟩ := id a0.wr
  dsimp only at e10 e20 n10 n20
  subst e10 e20
  obtain ⟨y1, a1, rfl, n11, n21⟩ := open_rule1w h1 hw1
  obtain ⟨nm1, me1, iv1, ps11, k1, lim1, tk1, fo1, ke1, pr1, wv1, ps21⟩ := y1
  obtain ⟨A11, q11, e11, _⟩ := id a1.ir
  obtain ⟨A21, q21, e21, _⟩ := id a1.wr
  dsimp only at e11 e21 n11 n21
  subst e11 e21
  obtain ⟨y2, a2, rfl⟩ := open_small1 h2
  obtain ⟨y3, a3, rfl⟩ := open_small1 h3
  obtain ⟨y4, rfl, rfl, rfl, w4⟩ := open_string Tryz.underlying9 (hval 4 9 v4 rfl rfl) h4
  obtain ⟨e5, h5⟩ := rows_of Tryz.underlying33 (hval 5 33 v5 rfl rfl) h5
  obtain ⟨vv5, y5, a5, b5, ee5⟩ := op_pairs h5
  obtain rfl : v5 = vv5 := by simpa using ee5
  obtain ⟨Ap5, cp5, ep5, _⟩ := id a5
  have n15 := pairs_weight h5 ep5 hw5
  refine (rulesAsksWalk nm0 me0 A10 q10 ps10 k0 lim0 tk0 fo0 ke0 pr0 A20 q20 ps20 nm1 me1 A11 q11 ps11 k1 lim1 tk1 fo1 ke1 pr1 A21 q21 ps21 y2 y3 y4 v5 y5 mx W a0 a1 a2 a3 w4 a5 b5 (by omega) hm hT).mono fun e W' ⟨he, hb⟩ => ?_
  subst he
  exact ⟨_, rfl, post_true laidOut_ (by kernel_rfl) rfl hW' rfl (by kernel_rfl) Tryz.underlying4 hb⟩

set_option maxHeartbeats 0 in
theorem joined_ : joinedFacts Tryz.prog 4 Tryz.f4 (OpenSpec.ofChange Rows.rulesAsksSpec).bare Rows.rulesAsksRow = true := by
  unfold joinedFacts
  with_reducible repeat' (refine Bool.and_eq_true_iff.2 ⟨?_, ?_⟩)
  all_goals (as_aux_lemma => kernel_rfl)
theorem rulesAsks_row : Rows.RulesAsksSaid :=
  OpenClaim.holds_of_cond 4 Tryz.f4 rfl rfl rfl rfl rfl rfl rfl ⟨rfl, rfl, rfl, rfl, rfl⟩ rfl rfl rfl rfl rfl (by kernel_rfl) Tryz.func4 joined_
    (of_decide_eq_true (by kernel_rfl)) (by unfold Func.isWrapper; first | (rw [if_pos (by decide +kernel)]; kernel_rfl) | (rw [if_neg (by decide +kernel)]; exact ⟨rfl, rfl⟩))
    (fun os started H enc _ F => by rw [OpenClaim.pre_eq_preRow]; exact liftedRulesAsks os started H enc F)
theorem rulesAsks_proved : Rows.RulesAsksCardSaid :=
  Claim7.holds_tied_plain_at .later [] [.data, .listed, .data, .pinned] true (true, "33167f9a38766b77e222fd6887a3db5641b3f6deda55c3af978d2fd6eff24565") false rulesAsks_row (fun _ h => by cases h) (by kernel_rfl) (fun _ h => by cases h) rulesAsks_row_tie rfl ⟨rfl, rfl⟩ (by kernel_rfl) rfl
    (fun f fn hf hfn => by
      obtain rfl : f = 4 := Option.some.inj ((show Tryz.prog.funcNamed "watchfire/watchfirelaw15.RulesAsks" = some 4 by kernel_rfl).symm.trans hf) |>.symm
      obtain rfl : fn = Tryz.f4 := (Option.some.inj (Tryz.func4.symm.trans hfn)).symm
      exact ⟨by kernel_rfl, fun j t ht => by
        rw [Tryz.params4] at ht
        have hm : t ∈ [63, 63, 68, 68, 9, 33] := by simpa using Array.mem_of_getElem? ht
        have hall : ([63, 63, 68, 68, 9, 33].all fun u => !Tryz.prog.wantsStandIn u) = true := by kernel_rfl
        exact (show Tryz.prog.wantsStandIn t = false by simpa using List.all_eq_true.1 hall t hm)⟩)
    (by kernel_rfl)
end Go.Proofs.YtebnbbbiobaneaaGreatDoor
