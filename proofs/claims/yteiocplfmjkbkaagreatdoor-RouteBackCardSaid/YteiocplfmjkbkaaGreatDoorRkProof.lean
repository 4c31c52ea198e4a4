/-
  RouteBack: whatever the small nodes, it returns true, and what it was handed reads as it did. Conditions: none.
-/
import Derived.Test.YteiocplfmjkbkaaGreatDoorRkW
import Derived.Test.YteiocplfmjkbkaaGreatDoorMg50
import Derived.Test.YteiocplfmjkbkaaGreatDoorCards
import Derived.Test.YteiocplfmjkbkaaGreatDoorTie
import Derived.SevenTiedAt
import Derived.LaidOnce
import Derived.JoinedCond
namespace Go.Proofs.YteiocplfmjkbkaaGreatDoor
open Go.Joins Go.ChangeShapes Go.WideShapes Go.ChangeAt Go.RowKit Go.Deep Go.ChangeMaps
set_option maxRecDepth 100000

theorem ownKnobNone : ownKnob Tryz.prog.godebug = none := by kernel_rfl
theorem laidOut_ : laidOutB Tryz.prog = true := by kernel_rfl
theorem asciiTab {W : World} (h : laidMetH Tryz.prog Rows.routeBackRow.laid W) : Lib.TabIs Tryz.prog W "strings.asciiSpace" .u8 Lib.asciiSpaceTab := by
  have h1 := laidMetH.filter (fun x => x.1 == "strings.asciiSpace") h
  rw [show Rows.routeBackRow.laid.filter (fun x => x.1 == "strings.asciiSpace") = [("strings.asciiSpace", Lib.tabData .u8 Lib.asciiSpaceTab)] by kernel_rfl] at h1
  rw [MakeChecks.laidMetH_plain _ _ _ (by kernel_rfl)] at h1
  exact Lib.tabIs_of_head (g := 0) (t := 136) (e := 5) (n := 256) (by kernel_rfl) (by kernel_rfl) Tryz.underlying136 Tryz.underlying5 (by kernel_rfl) (by kernel_rfl) h1
theorem reads_routeBack (os : Os) {H : Type} (enc : TypeId × Value → H) : ∃ places, DataW.whole enc Tryz.prog (((World.laidAll Tryz.prog os Rows.routeBackRow.laid).forCall (fun _ _ => 0) ⟨#[], #[.slice none 0 0], []⟩).memory) Tryz.f4.params.toList Rows.routeBackSpec.vars false (#[.slice none 0 0] : Array Value).toList 8 = some ([.nil], [], places) :=
  ⟨[], by kernel_rfl⟩
theorem liftedRouteBack (os : Os) (started : os.Started) (H : Type) (enc : TypeId × Value → H) (F : Stop.Interp) :
    ReturnsInHanded {} Tryz.checked os 4 .any ((OpenSpec.ofChange Rows.routeBackSpec).preRow enc Tryz.prog Tryz.f4 Rows.routeBackRow.domain false Rows.routeBackRow.laid) (((OpenSpec.ofChange Rows.routeBackSpec).at F).post enc Tryz.prog Tryz.f4 false true false false) := by
  obtain ⟨places, hx⟩ := reads_routeBack os enc
  refine returns_row (C := Tryz.checked) (s := (OpenSpec.ofChange Rows.routeBackSpec)) ownKnobNone started (by kernel_rfl) Tryz.func4 (World.laidAll Tryz.prog os Rows.routeBackRow.laid) #[.slice none 0 0] (World.laidAll_os _ _ _)
    (World.shaped_of_ZipB (by kernel_rfl) (by kernel_rfl)) (by kernel_rfl)
    (OpenSpec.preRow_of_cond 8 hx (by kernel_rfl) (fun k hk => by cases hk) (by kernel_rfl) (by rw [MakeChecks.laidMetH_plain _ _ _ (by kernel_rfl)]; exact laidMet_laidAll _ (by kernel_rfl) (by kernel_rfl))) ?_
  intro W base args ds gs before hval0 hW hwt hX hsh
  obtain ⟨mx, hm⟩ := maxLen_cell hsh
  have hT := asciiTab hX
  have hrb : reachBytes = 140737488351232 := rfl
  have hval : ∀ (j : Nat) t v, Tryz.f4.params[j]? = some t → args[j]? = some v → Value.okWide Tryz.prog W .any base t v := hval0
  have hW' := hW
  obtain ⟨p, q, hA0, hV, rfl, hfz, hnd⟩ := hW
  have hA : DataW.TrodAll enc Tryz.prog W 0 (fun _ => true) true Tryz.f4.params.toList args.toList ds p := hA0
  rw [Tryz.params4] at hA hval
  have hwt2 : (DataW.weightsEach Tryz.prog (Tryz.f4.params.toList ++ _) (ds ++ gs)).all (· ≤ reachBytes) = true := hwt
  rw [Tryz.params4] at hwt2
  obtain ⟨v0, vs0, d0, ds0, p0, q0, hargs, rfl, rfl, h0, r0⟩ := trodAll_cons hA
  obtain ⟨rfl, rfl, rfl⟩ := trodAll_nil r0
  obtain rfl : args = #[v0] := by cases args; simp_all
  obtain ⟨rfl, rfl⟩ := trodVars_none hV
  obtain ⟨e0, h0⟩ := rows_of Tryz.underlying22 (hval 0 22 v0 rfl rfl) h0
  obtain ⟨y0, a0, b0⟩ := open_sm20s h0
  obtain ⟨A, c, hv0, _⟩ := id a0
  have hwl : y0.length * 32 ≤ 140737488351232 := by
    refine sm20s_weight h0 hv0 fun k hk => ?_
    have h5 := List.all_eq_true.1 hwt2 k (by simp only [List.cons_append, List.nil_append, DataW.weightsEach, List.mem_append]; exact .inl hk)
    rw [hrb] at h5
    simpa using h5
  refine (routeBackWalk v0 y0 mx W a0 b0 hwl hm hT).mono fun e W' ⟨he, hb⟩ => ?_
  subst he
  exact ⟨_, rfl, post_true laidOut_ (by kernel_rfl) rfl hW' rfl (by kernel_rfl) Tryz.underlying4 hb⟩

set_option maxHeartbeats 0 in
theorem joined_ : joinedFacts Tryz.prog 4 Tryz.f4 (OpenSpec.ofChange Rows.routeBackSpec).bare Rows.routeBackRow = true := by
  unfold joinedFacts
  with_reducible repeat' (refine Bool.and_eq_true_iff.2 ⟨?_, ?_⟩)
  all_goals (as_aux_lemma => kernel_rfl)
theorem routeBack_row : Rows.RouteBackSaid :=
  OpenClaim.holds_of_cond 4 Tryz.f4 rfl rfl rfl rfl rfl rfl rfl ⟨rfl, rfl, rfl, rfl, rfl⟩ rfl rfl rfl rfl rfl (by kernel_rfl) Tryz.func4 joined_
    (of_decide_eq_true (by kernel_rfl)) (by unfold Func.isWrapper; first | (rw [if_pos (by decide +kernel)]; kernel_rfl) | (rw [if_neg (by decide +kernel)]; exact ⟨rfl, rfl⟩))
    (fun os started H enc _ F => by rw [OpenClaim.pre_eq_preRow]; exact liftedRouteBack os started H enc F)
theorem routeBack_proved : Rows.RouteBackCardSaid :=
  Claim7.holds_tied_plain_at .later [] [.data, .listed, .data, .pinned] true (true, "f2093d5f1a1c9264c86bd7c5dc55a84c05158fd2ba3827c1fbf28526300f053c") false routeBack_row (fun _ h => by cases h) (by kernel_rfl) (fun _ h => by cases h) routeBack_row_tie rfl ⟨rfl, rfl⟩ (by kernel_rfl) rfl
    (fun f fn hf hfn => by
      obtain rfl : f = 4 := Option.some.inj ((show Tryz.prog.funcNamed "watchfire/watchfirelaw20.RouteBack" = some 4 by kernel_rfl).symm.trans hf) |>.symm
      obtain rfl : fn = Tryz.f4 := (Option.some.inj (Tryz.func4.symm.trans hfn)).symm
      exact ⟨by kernel_rfl, fun j t ht => by
        rw [Tryz.params4] at ht
        have hm : t ∈ [22] := by simpa using Array.mem_of_getElem? ht
        have hall : ([22].all fun u => !Tryz.prog.wantsStandIn u) = true := by kernel_rfl
        exact (show Tryz.prog.wantsStandIn t = false by simpa using List.all_eq_true.1 hall t hm)⟩)
    (by kernel_rfl)
end Go.Proofs.YteiocplfmjkbkaaGreatDoor
