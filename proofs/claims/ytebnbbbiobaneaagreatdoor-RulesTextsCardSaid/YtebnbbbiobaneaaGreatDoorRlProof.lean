/-
  RulesTexts: any text of ASCII, lines put together: the rules that it says, or where and why it says none, as the document has it: whatever it is handed, it returns true, and what it was handed reads as it did. Conditions: none beyond what the row lists.
-/
import Derived.Test.YtebnbbbiobaneaaGreatDoorRl5
import Derived.Test.YtebnbbbiobaneaaGreatDoorMg51
import Derived.Test.YtebnbbbiobaneaaGreatDoorCards
import Derived.Test.YtebnbbbiobaneaaGreatDoorTie
import Derived.SevenTiedAt
import Derived.LaidOnce
import Derived.JoinedCond
namespace Go.Proofs.YtebnbbbiobaneaaGreatDoor
open Go.Joins Go.ChangeShapes Go.WideShapes Go.ChangeAt Go.RowKit Go.Deep Go.ChangeMaps
set_option maxRecDepth 100000

theorem ownKnobNone : ownKnob Tryz.prog.godebug = none := by kernel_rfl
theorem laidOut_ : laidOutB Tryz.prog = true := by kernel_rfl
theorem asciiTab {W : World} (h : laidMetH Tryz.prog Rows.rulesTextsRow.laid W) : Lib.TabIs Tryz.prog W "strings.asciiSpace" .u8 Lib.asciiSpaceTab := by
  have h1 := laidMetH.filter (fun x => x.1 == "strings.asciiSpace") h
  rw [show Rows.rulesTextsRow.laid.filter (fun x => x.1 == "strings.asciiSpace") = [("strings.asciiSpace", Lib.tabData .u8 Lib.asciiSpaceTab)] by kernel_rfl] at h1
  rw [MakeChecks.laidMetH_plain _ _ _ (by kernel_rfl)] at h1
  exact Lib.tabIs_of_head (g := 0) (t := 245) (e := 5) (n := 256) (by kernel_rfl) (by kernel_rfl) Tryz.underlying245 Tryz.underlying5 (by kernel_rfl) (by kernel_rfl) h1
theorem reads_rulesTexts (os : Os) {H : Type} (enc : TypeId × Value → H) : ∃ places, DataW.whole enc Tryz.prog (((World.laidAll Tryz.prog os Rows.rulesTextsRow.laid).forCall (fun _ _ => 0) ⟨#[], #[.string ⟨#[]⟩, .slice none 0 0, .slice none 0 0], []⟩).memory) Tryz.f5.params.toList Rows.rulesTextsSpec.vars false (#[.string ⟨#[]⟩, .slice none 0 0, .slice none 0 0] : Array Value).toList 8 = some ([.lit (.string []), .nil, .nil], [], places) :=
  ⟨[], by kernel_rfl⟩
theorem liftedRulesTexts (os : Os) (started : os.Started) (H : Type) (enc : TypeId × Value → H) (F : Stop.Interp) :
    ReturnsInHanded {} Tryz.checked os 5 .any ((OpenSpec.ofChange Rows.rulesTextsSpec).preRow enc Tryz.prog Tryz.f5 Rows.rulesTextsRow.domain false Rows.rulesTextsRow.laid) (((OpenSpec.ofChange Rows.rulesTextsSpec).at F).post enc Tryz.prog Tryz.f5 false true false false) := by
  obtain ⟨places, hx⟩ := reads_rulesTexts os enc
  refine returns_row (C := Tryz.checked) (s := (OpenSpec.ofChange Rows.rulesTextsSpec)) ownKnobNone started (by kernel_rfl) Tryz.func5 (World.laidAll Tryz.prog os Rows.rulesTextsRow.laid) #[.string ⟨#[]⟩, .slice none 0 0, .slice none 0 0] (World.laidAll_os _ _ _)
    (World.shaped_of_ZipB (by kernel_rfl) (by kernel_rfl)) (by kernel_rfl)
    (OpenSpec.preRow_of_cond 8 hx (by kernel_rfl) (fun k hk => by cases hk) (by kernel_rfl) (by rw [MakeChecks.laidMetH_plain _ _ _ (by kernel_rfl)]; exact laidMet_laidAll _ (by kernel_rfl) (by kernel_rfl))) ?_
  intro W base args ds gs before hval0 hW hwt hX hsh
  obtain ⟨mx, hm⟩ := maxLen_cell hsh
  have hT := asciiTab hX
  have hrb : reachBytes = 140737488351232 := rfl
  have hval : ∀ (j : Nat) t v, Tryz.f5.params[j]? = some t → args[j]? = some v → Value.okWide Tryz.prog W .any base t v := hval0
  have hW' := hW
  obtain ⟨p, q, hA0, hV, rfl, hfz, hnd⟩ := hW
  have hA : DataW.TrodAll enc Tryz.prog W 0 (fun _ => true) true Tryz.f5.params.toList args.toList ds p := hA0
  rw [Tryz.params5] at hA hval
  have hwt2 : (DataW.weightsEach Tryz.prog (Tryz.f5.params.toList ++ _) (ds ++ gs)).all (· ≤ reachBytes) = true := hwt
  rw [Tryz.params5] at hwt2
  obtain ⟨v0, vs0, d0, ds0, p0, q0, hargs, rfl, rfl, h0, r0⟩ := trodAll_cons hA
  obtain ⟨v1, vs1, d1, ds1, p1, q1, rfl, rfl, rfl, h1, r1⟩ := trodAll_cons r0
  obtain ⟨v2, vs2, d2, ds2, p2, q2, rfl, rfl, rfl, h2, r2⟩ := trodAll_cons r1
  obtain ⟨rfl, rfl, rfl⟩ := trodAll_nil r2
  obtain rfl : args = #[v0, v1, v2] := by cases args; simp_all
  obtain ⟨rfl, rfl⟩ := trodVars_none hV
  obtain ⟨y0, rfl, rfl, rfl, w0⟩ := open_string Tryz.underlying9 (hval 0 9 v0 rfl rfl) h0
  obtain ⟨e1, h1⟩ := rows_of Tryz.underlying85 (hval 1 85 v1 rfl rfl) h1
  obtain ⟨y1, a1⟩ := open_bytes h1
  obtain ⟨e2, h2⟩ := rows_of Tryz.underlying86 (hval 2 86 v2 rfl rfl) h2
  obtain ⟨y2, a2, b2⟩ := open_smalls h2
  refine (rulesTextsWalk y0 v1 v2 (y1.map (·.toNat)) y2 mx W w0 (by simpa [Function.comp_def] using a1) (fun b hb => by obtain ⟨c, _, rfl⟩ := List.mem_map.1 hb; exact c.toNat_lt) a2 b2 hm hT).mono fun e W' ⟨he, hb⟩ => ?_
  subst he
  exact ⟨_, rfl, post_true laidOut_ (by kernel_rfl) rfl hW' rfl (by kernel_rfl) Tryz.underlying4 hb⟩

set_option maxHeartbeats 0 in
theorem joined_ : joinedFacts Tryz.prog 5 Tryz.f5 (OpenSpec.ofChange Rows.rulesTextsSpec).bare Rows.rulesTextsRow = true := by
  unfold joinedFacts
  with_reducible repeat' (refine Bool.and_eq_true_iff.2 ⟨?_, ?_⟩)
  all_goals (as_aux_lemma => kernel_rfl)
theorem rulesTexts_row : Rows.RulesTextsSaid :=
  OpenClaim.holds_of_cond 5 Tryz.f5 rfl rfl rfl rfl rfl rfl rfl ⟨rfl, rfl, rfl, rfl, rfl⟩ rfl rfl rfl rfl rfl (by kernel_rfl) Tryz.func5 joined_
    (of_decide_eq_true (by kernel_rfl)) (by unfold Func.isWrapper; first | (rw [if_pos (by decide +kernel)]; kernel_rfl) | (rw [if_neg (by decide +kernel)]; exact ⟨rfl, rfl⟩))
    (fun os started H enc _ F => by rw [OpenClaim.pre_eq_preRow]; exact liftedRulesTexts os started H enc F)
theorem rulesTexts_proved : Rows.RulesTextsCardSaid :=
  Claim7.holds_tied_plain_at .later [] [.data, .listed, .data, .pinned] true (true, "33167f9a38766b77e222fd6887a3db5641b3f6deda55c3af978d2fd6eff24565") false rulesTexts_row (fun _ h => by cases h) (by kernel_rfl) (fun _ h => by cases h) rulesTexts_row_tie rfl ⟨rfl, rfl⟩ (by kernel_rfl) rfl
    (fun f fn hf hfn => by
      obtain rfl : f = 5 := Option.some.inj ((show Tryz.prog.funcNamed "watchfire/watchfirelaw15.RulesTexts" = some 5 by kernel_rfl).symm.trans hf) |>.symm
      obtain rfl : fn = Tryz.f5 := (Option.some.inj (Tryz.func5.symm.trans hfn)).symm
      exact ⟨by kernel_rfl, fun j t ht => by
        rw [Tryz.params5] at ht
        have hm : t ∈ [9, 85, 86] := by simpa using Array.mem_of_getElem? ht
        have hall : ([9, 85, 86].all fun u => !Tryz.prog.wantsStandIn u) = true := by kernel_rfl
        exact (show Tryz.prog.wantsStandIn t = false by simpa using List.all_eq_true.1 hall t hm)⟩)
    (by kernel_rfl)
end Go.Proofs.YtebnbbbiobaneaaGreatDoor
