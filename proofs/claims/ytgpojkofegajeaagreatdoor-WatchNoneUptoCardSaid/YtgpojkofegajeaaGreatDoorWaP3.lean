/-
  WatchNone: whatever rule, time, sample and name of bulk at most 1048576 it is handed, it returns true, and what it was handed reads as it did. Conditions: none beyond what the row and its bound list.
-/
import Derived.Test.YtgpojkofegajeaaGreatDoorWaH
import Derived.Test.YtgpojkofegajeaaGreatDoorWaU
import Derived.Test.YtgpojkofegajeaaGreatDoorCards
import Derived.Test.YtgpojkofegajeaaGreatDoorTie
import Derived.SevenTiedAt
import Derived.LaidOnce
import Derived.JoinedCond
namespace Go.Proofs.YtgpojkofegajeaaGreatDoor
open Go.Joins Go.ChangeShapes Go.WideShapes Go.ChangeAt Go.RowKit Go.Deep Go.ChangeMaps
set_option maxRecDepth 100000

theorem ownKnobNone : ownKnob Tryz.prog.godebug = none := by kernel_rfl
theorem laidOut_ : laidOutB Tryz.prog = true := by kernel_rfl
theorem asciiTab {W : World} (h : laidMetH Tryz.prog Rows.watchNoneUptoRow.laid W) : Lib.TabIs Tryz.prog W "strings.asciiSpace" .u8 Lib.asciiSpaceTab := by
  have h1 := laidMetH.filter (fun x => x.1 == "strings.asciiSpace") h
  rw [show Rows.watchNoneUptoRow.laid.filter (fun x => x.1 == "strings.asciiSpace") = [("strings.asciiSpace", Lib.tabData .u8 Lib.asciiSpaceTab)] by kernel_rfl] at h1
  rw [MakeChecks.laidMetH_plain _ _ _ (by kernel_rfl)] at h1
  exact Lib.tabIs_of_head (g := 0) (t := 154) (e := 5) (n := 256) (by kernel_rfl) (by kernel_rfl) Tryz.underlying154 Tryz.underlying5 (by kernel_rfl) (by kernel_rfl) h1
theorem reads_watchNone (os : Os) {H : Type} (enc : TypeId × Value → H) : ∃ places, DataW.whole enc Tryz.prog (((World.laidAll Tryz.prog os Rows.watchNoneUptoRow.laid).forCall (fun _ _ => 0) ⟨#[], #[.agg #[.string ⟨#[]⟩, .string ⟨#[]⟩, .slice none 0 0, .int .u8 0, .int .i64 0, .int .u64 0, .int .u64 0, .int .u64 0, .int .u8 0, .slice none 0 0], .int .u64 0, .agg #[.string ⟨#[]⟩, .slice none 0 0, .int .i64 0], .string ⟨#[]⟩], []⟩).memory) Tryz.f5.params.toList Rows.watchNoneSpec.vars false (#[.agg #[.string ⟨#[]⟩, .string ⟨#[]⟩, .slice none 0 0, .int .u8 0, .int .i64 0, .int .u64 0, .int .u64 0, .int .u64 0, .int .u8 0, .slice none 0 0], .int .u64 0, .agg #[.string ⟨#[]⟩, .slice none 0 0, .int .i64 0], .string ⟨#[]⟩] : Array Value).toList 8 = some ([.agg [.lit (.string []), .lit (.string []), .nil, .agg [.lit (.int .u8 0), .lit (.int .i64 0), .lit (.int .u64 0)], .agg [.lit (.int .u64 0), .lit (.int .u64 0)], .lit (.int .u8 0), .nil], .lit (.int .u64 0), .agg [.lit (.string []), .nil, .lit (.int .i64 0)], .lit (.string [])], [], places) :=
  ⟨[], by kernel_rfl⟩
theorem liftedWatchNone (os : Os) (started : os.Started) (H : Type) (enc : TypeId × Value → H) (F : Stop.Interp) :
    ReturnsInHanded {} Tryz.checked os 5 .any ((Rows.OpenSpec.upto Rows.watchNoneSpec).preRow enc Tryz.prog Tryz.f5 Rows.watchNoneUptoRow.domain false Rows.watchNoneUptoRow.laid) (((Rows.OpenSpec.upto Rows.watchNoneSpec).at F).post enc Tryz.prog Tryz.f5 false true false false) := by
  obtain ⟨places, hx⟩ := reads_watchNone os enc
  refine returns_bound (C := Tryz.checked) (s := (Rows.OpenSpec.upto Rows.watchNoneSpec)) ownKnobNone started (by kernel_rfl) Tryz.func5 (World.laidAll Tryz.prog os Rows.watchNoneUptoRow.laid) #[.agg #[.string ⟨#[]⟩, .string ⟨#[]⟩, .slice none 0 0, .int .u8 0, .int .i64 0, .int .u64 0, .int .u64 0, .int .u64 0, .int .u8 0, .slice none 0 0], .int .u64 0, .agg #[.string ⟨#[]⟩, .slice none 0 0, .int .i64 0], .string ⟨#[]⟩] (World.laidAll_os _ _ _)
    (World.shaped_of_ZipB (by kernel_rfl) (by kernel_rfl)) (by kernel_rfl)
    (OpenSpec.preRow_of_cond 8 hx (by kernel_rfl) (fun k hk => by cases hk; kernel_rfl) (by kernel_rfl) (by rw [MakeChecks.laidMetH_plain _ _ _ (by kernel_rfl)]; exact laidMet_laidAll _ (by kernel_rfl) (by kernel_rfl))) ?_
  intro W base args ds gs before hval0 hW hcond hX hsh
  have hk : Rows.uptoSmall H (ds ++ gs) = true := hcond _ rfl
  clear hcond
  obtain ⟨mx, hm⟩ := maxLen_cell hsh
  have hT := asciiTab hX
  have hval : ∀ (j : Nat) t v, Tryz.f5.params[j]? = some t → args[j]? = some v → Value.okWide Tryz.prog W .any base t v := hval0
  have hW' := hW
  obtain ⟨p, q, hA0, hV, rfl, hfz, hnd⟩ := hW
  have hA : DataW.TrodAll enc Tryz.prog W 0 (fun _ => true) true Tryz.f5.params.toList args.toList ds p := hA0
  rw [Tryz.params5] at hA hval
  obtain ⟨v0, vs0, d0, ds0, p0, q0, hargs, rfl, rfl, h0, r0⟩ := trodAll_cons hA
  obtain ⟨v1, vs1, d1, ds1, p1, q1, rfl, rfl, rfl, h1, r1⟩ := trodAll_cons r0
  obtain ⟨v2, vs2, d2, ds2, p2, q2, rfl, rfl, rfl, h2, r2⟩ := trodAll_cons r1
  obtain ⟨v3, vs3, d3, ds3, p3, q3, rfl, rfl, rfl, h3, r3⟩ := trodAll_cons r2
  obtain ⟨rfl, rfl, rfl⟩ := trodAll_nil r3
  obtain rfl : args = #[v0, v1, v2, v3] := by cases args; simp_all
  obtain ⟨rfl, rfl⟩ := trodVars_none hV
  have k2 : Rows.uptoBulk d2 ≤ 1048576 := bulk_arg hk (by simp)
  obtain ⟨y0, a0, rfl⟩ := open_rule1 h0
  obtain ⟨nm0, me0, iv0, ps10, k0, lim0, tk0, fo0, ke0, pr0, wv0, ps20⟩ := y0
  obtain ⟨A10, q10, e10, _⟩ := id a0.ir
  obtain ⟨A20, q20, e20, _⟩ := id a0.wr
  dsimp only at e10 e20
  subst e10 e20
  obtain ⟨x1, rfl, rfl, rfl, w1⟩ := open_int Tryz.underlying26 (hval 1 26 v1 rfl rfl) h1
  obtain ⟨mt2, u2, ps2, x2, rfl, a2, z2⟩ := open_sampleU h2 k2
  obtain ⟨x3, rfl, rfl, rfl, w3⟩ := open_string Tryz.underlying9 (hval 3 9 v3 rfl rfl) h3
  refine (watchNoneWalk nm0 me0 A10 q10 ps10 k0 lim0 tk0 fo0 ke0 pr0 A20 q20 ps20 x1 mt2 u2 ps2 x2 x3 mx W a0 a2 z2 hm hT).mono fun e W' ⟨he, hb⟩ => ?_
  subst he
  exact ⟨_, rfl, post_true laidOut_ (by kernel_rfl) rfl hW' rfl (by kernel_rfl) Tryz.underlying4 hb⟩

theorem watchNone_row : Rows.WatchNoneUptoSaid :=
  OpenClaim.holds_of_cond 5 Tryz.f5 rfl rfl rfl rfl rfl rfl rfl ⟨rfl, rfl, rfl, rfl, rfl⟩ rfl rfl rfl rfl rfl (by kernel_rfl) Tryz.func5 (by kernel_rfl)
    (of_decide_eq_true (by kernel_rfl)) (by unfold Func.isWrapper; first | (rw [if_pos (by decide +kernel)]; kernel_rfl) | (rw [if_neg (by decide +kernel)]; exact ⟨rfl, rfl⟩))
    (fun os started H enc _ F => by rw [OpenClaim.pre_eq_preRow]; exact liftedWatchNone os started H enc F)
theorem watchNone_proved : Rows.WatchNoneUptoCardSaid :=
  Claim7.holds_tied_plain_at .later [] [.data, .listed, .data, .pinned] true (true, "abbee90467c4d42aa45ac27b1bf0884ee8f9277e68593312c906447eb64cd1ad") false watchNone_row (fun _ h => by cases h) (by kernel_rfl) (fun _ h => by cases h) watchNoneUpto_row_tie rfl ⟨rfl, rfl⟩ (by kernel_rfl) rfl
    (fun f fn hf hfn => by
      obtain rfl : f = 5 := Option.some.inj ((show Tryz.prog.funcNamed "watchfire/watchfirelaw16.WatchNone" = some 5 by kernel_rfl).symm.trans hf) |>.symm
      obtain rfl : fn = Tryz.f5 := (Option.some.inj (Tryz.func5.symm.trans hfn)).symm
      exact ⟨by kernel_rfl, fun j t ht => by
        rw [Tryz.params5] at ht
        have hm : t ∈ [32, 26, 46, 9] := by simpa using Array.mem_of_getElem? ht
        have hall : ([32, 26, 46, 9].all fun u => !Tryz.prog.wantsStandIn u) = true := by kernel_rfl
        exact (show Tryz.prog.wantsStandIn t = false by simpa using List.all_eq_true.1 hall t hm)⟩)
    (by kernel_rfl)
end Go.Proofs.YtgpojkofegajeaaGreatDoor
