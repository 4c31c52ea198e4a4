/-
  LabMakes: whatever pairs and key of bulk at most 1048576 it is handed, it returns true, and what it was handed reads as it did. Conditions: none beyond what the row and its bound list.
-/
import Derived.Test.YtfmehjdlpfijbaaDoorLMakes
import Derived.Test.YtfmehjdlpfijbaaDoorLUpto
import Derived.Test.YtfmehjdlpfijbaaDoorCards
import Derived.Test.YtfmehjdlpfijbaaDoorTie
import Derived.SevenTiedAt
import Derived.LaidOnce
import Derived.JoinedCond
namespace Go.Proofs.YtfmehjdlpfijbaaDoor
open Go.Joins Go.ChangeShapes Go.WideShapes Go.ChangeAt Go.RowKit Go.Deep Go.ChangeMaps
set_option maxRecDepth 100000

theorem ownKnobNone : ownKnob Tryd.prog.godebug = none := by kernel_rfl
theorem laidOut_ : laidOutB Tryd.prog = true := by kernel_rfl

theorem reads_labMakes (os : Os) {H : Type} (enc : TypeId × Value → H) : ∃ places, DataW.whole enc Tryd.prog (((World.laidAll Tryd.prog os Rows.labMakesUptoRow.laid).forCall (fun _ _ => 0) ⟨#[], #[.slice none 0 0, .string ⟨#[]⟩], []⟩).memory) Tryd.f4.params.toList Rows.labMakesSpec.vars false (#[.slice none 0 0, .string ⟨#[]⟩] : Array Value).toList 8 = some ([.nil, .lit (.string [])], [], places) :=
  ⟨[], by kernel_rfl⟩
theorem liftedLabMakes (os : Os) (started : os.Started) (H : Type) (enc : TypeId × Value → H) (F : Stop.Interp) :
    ReturnsInHanded {} Tryd.checked os 4 .any ((Rows.OpenSpec.upto Rows.labMakesSpec).preRow enc Tryd.prog Tryd.f4 Rows.labMakesUptoRow.domain false Rows.labMakesUptoRow.laid) (((Rows.OpenSpec.upto Rows.labMakesSpec).at F).post enc Tryd.prog Tryd.f4 false true false false) := by
  obtain ⟨places, hx⟩ := reads_labMakes os enc
  refine returns_upto (C := Tryd.checked) (s := (Rows.OpenSpec.upto Rows.labMakesSpec)) ownKnobNone started (by kernel_rfl) Tryd.func4 (World.laidAll Tryd.prog os Rows.labMakesUptoRow.laid) #[.slice none 0 0, .string ⟨#[]⟩] (World.laidAll_os _ _ _)
    (World.shaped_of_ZipB (by kernel_rfl) (by kernel_rfl)) (by kernel_rfl)
    (OpenSpec.preRow_of_cond 8 hx (by kernel_rfl) (fun k hk => by cases hk; kernel_rfl) (by kernel_rfl) (by rw [MakeChecks.laidMetH_plain _ _ _ (by kernel_rfl)]; exact laidMet_laidAll _ (by kernel_rfl) (by kernel_rfl))) ?_
  intro W base args ds gs before hval0 hW hcond hsh
  have hk : Rows.uptoSmall H (ds ++ gs) = true := hcond _ rfl
  clear hcond
  obtain ⟨mx, hm⟩ := maxLen_cell hsh
  have hval : ∀ (j : Nat) t v, Tryd.f4.params[j]? = some t → args[j]? = some v → Value.okWide Tryd.prog W .any base t v := hval0
  have hW' := hW
  obtain ⟨p, q, hA0, hV, rfl, hfz, hnd⟩ := hW
  have hA : DataW.TrodAll enc Tryd.prog W 0 (fun _ => true) true Tryd.f4.params.toList args.toList ds p := hA0
  rw [Tryd.params4] at hA hval
  obtain ⟨v0, vs0, d0, ds0, p0, q0, hargs, rfl, rfl, h0, r0⟩ := trodAll_cons hA
  obtain ⟨v1, vs1, d1, ds1, p1, q1, rfl, rfl, rfl, h1, r1⟩ := trodAll_cons r0
  obtain ⟨rfl, rfl, rfl⟩ := trodAll_nil r1
  obtain rfl : args = #[v0, v1] := by cases args; simp_all
  obtain ⟨rfl, rfl⟩ := trodVars_none hV
  have k0 : Rows.uptoBulk d0 ≤ 1048576 := bulk_arg hk (by simp)
  have k1 : Rows.uptoBulk d1 ≤ 1048576 := bulk_arg hk (by simp)
  obtain ⟨e0, h0⟩ := rows_of Tryd.underlying24 (hval 0 24 v0 rfl rfl) h0
  obtain ⟨y0, a0, w0, b0⟩ := open_pairs_bulk h0
  obtain ⟨y1, rfl, rfl, rfl, w1⟩ := open_string Tryd.underlying9 (hval 1 9 v1 rfl rfl) h1
  refine (labMakesWalk v0 y0 y1 mx W a0 w0 (fun p hp => Nat.le_trans (b0 p hp) k0) hm).mono fun e W' ⟨he, hb⟩ => ?_
  subst he
  exact ⟨_, rfl, post_true laidOut_ (by kernel_rfl) rfl hW' rfl (by kernel_rfl) Tryd.underlying4 hb⟩

theorem labMakes_row : Rows.LabMakesUptoSaid :=
  OpenClaim.holds_of_cond 4 Tryd.f4 rfl rfl rfl rfl rfl rfl rfl ⟨rfl, rfl, rfl, rfl, rfl⟩ rfl rfl rfl rfl rfl (by kernel_rfl) Tryd.func4 (by kernel_rfl)
    (of_decide_eq_true (by kernel_rfl)) (by unfold Func.isWrapper; first | (rw [if_pos (by decide +kernel)]; kernel_rfl) | (rw [if_neg (by decide +kernel)]; exact ⟨rfl, rfl⟩))
    (fun os started H enc _ F => by rw [OpenClaim.pre_eq_preRow]; exact liftedLabMakes os started H enc F)
theorem labMakes_proved : Rows.LabMakesUptoCardSaid :=
  Claim7.holds_tied_plain_at .later [] [.data, .pinned] true (true, "223ec800487799849142899e04ca3326152ca5c9f65af53e129ae7c4a61ff9c3") false labMakes_row (fun _ h => by cases h) (by kernel_rfl) (fun _ h => by cases h) labMakesUpto_row_tie rfl ⟨rfl, rfl⟩ (by kernel_rfl) rfl
    (fun f fn hf hfn => by
      obtain rfl : f = 4 := Option.some.inj ((show Tryd.prog.funcNamed "watchfire/watchfirelaw01.LabMakes" = some 4 by kernel_rfl).symm.trans hf) |>.symm
      obtain rfl : fn = Tryd.f4 := (Option.some.inj (Tryd.func4.symm.trans hfn)).symm
      exact ⟨by kernel_rfl, fun j t ht => by
        rw [Tryd.params4] at ht
        have hm : t ∈ [24, 9] := by simpa using Array.mem_of_getElem? ht
        have hall : ([24, 9].all fun u => !Tryd.prog.wantsStandIn u) = true := by kernel_rfl
        exact (show Tryd.prog.wantsStandIn t = false by simpa using List.all_eq_true.1 hall t hm)⟩)
    (by kernel_rfl)
end Go.Proofs.YtfmehjdlpfijbaaDoor
