/-
  LabLists: whatever pairs and keys it is handed, it returns true, and what it was handed reads as it did. Conditions: none beyond what the row lists.
-/
import Derived.Test.YtfmehjdlpfijbaaDoorLLists
import Derived.Test.YtfmehjdlpfijbaaDoorLLift
import Derived.Test.YtfmehjdlpfijbaaDoorCards
import Derived.Test.YtfmehjdlpfijbaaDoorTie
import Derived.SevenTiedAt
import Derived.LaidOnce
namespace Go.Proofs.YtfmehjdlpfijbaaDoor
open Go.Joins Go.ChangeShapes Go.WideShapes Go.ChangeAt Go.RowKit Go.Deep Go.ChangeMaps
set_option maxRecDepth 100000

theorem ownKnobNone : ownKnob Tryd.prog.godebug = none := by kernel_rfl
theorem laidOut_ : laidOutB Tryd.prog = true := by kernel_rfl

theorem liftedLabLists (os : Os) (started : os.Started) (H : Type) (enc : TypeId × Value → H) :
    ReturnsInHanded {} Tryd.checked os 7 .any (fun w args => (Rows.labListsSpec.pre enc Tryd.prog Tryd.f7 [] false w args ∧ laidMetH Tryd.prog Rows.labListsRow.laid w) ∧ sizedMet enc Tryd.prog Tryd.f7 (OpenSpec.ofChange Rows.labListsSpec) false w args)
      (Rows.labListsSpec.post enc Tryd.prog Tryd.f7 false true false false) := by
  refine returns_listed (C := Tryd.checked) (X := fun w _ => laidMetH Tryd.prog Rows.labListsRow.laid w) (fun _ _ _ hh h => h.of_heap hh) ownKnobNone started (by kernel_rfl) Tryd.func7
    (ChangeSpec.witness_shaped (enc := enc) (C := Tryd.checked) (os := os) (X := fun w _ => laidMetH Tryd.prog Rows.labListsRow.laid w) false (World.laidAll Tryd.prog os Rows.labListsRow.laid) #[.slice none 0 0, .slice none 0 0, .slice none 0 0] 8 (World.laidAll_os _ _ _)
      (World.shaped_of_ZipB (by kernel_rfl) (by kernel_rfl)) (by kernel_rfl) (by kernel_rfl) (by kernel_rfl)
      (by rw [MakeChecks.laidMetH_plain _ _ _ (by kernel_rfl)]; exact laidMet_laidAll _ (by kernel_rfl) (by kernel_rfl))) ?_
  intro W base args ds gs before hval0 hW _ hsh
  obtain ⟨mx, hm⟩ := maxLen_cell hsh
  have hval : ∀ (j : Nat) t v, Tryd.f7.params[j]? = some t → args[j]? = some v → Value.okWide Tryd.prog W .any base t v := hval0
  have hW' := hW
  obtain ⟨p, q, hA0, hV, rfl, hfz, hnd⟩ := hW
  have hA : DataW.TrodAll enc Tryd.prog W 0 (fun _ => true) true Tryd.f7.params.toList args.toList ds p := hA0
  rw [Tryd.params7] at hA hval
  obtain ⟨v0, vs0, d0, ds0, p0, q0, hargs, rfl, rfl, h0, r0⟩ := trodAll_cons hA
  obtain ⟨v1, vs1, d1, ds1, p1, q1, rfl, rfl, rfl, h1, r1⟩ := trodAll_cons r0
  obtain ⟨v2, vs2, d2, ds2, p2, q2, rfl, rfl, rfl, h2, r2⟩ := trodAll_cons r1
  obtain ⟨rfl, rfl, rfl⟩ := trodAll_nil r2
  obtain rfl : args = #[v0, v1, v2] := by cases args; simp_all
  obtain ⟨rfl, rfl⟩ := trodVars_none hV
  obtain ⟨e0, h0⟩ := rows_of Tryd.underlying24 (hval 0 24 v0 rfl rfl) h0
  obtain ⟨y0, a0, w0⟩ := open_pairs h0
  obtain ⟨e1, h1⟩ := rows_of Tryd.underlying24 (hval 1 24 v1 rfl rfl) h1
  obtain ⟨y1, a1, w1⟩ := open_pairs h1
  obtain ⟨e2, h2⟩ := rows_of Tryd.underlying46 (hval 2 46 v2 rfl rfl) h2
  obtain ⟨y2, a2, w2⟩ := open_strs h2
  refine (labListsWalk v0 v1 v2 y0 y1 y2 mx W a0 a1 a2 w0 w1 hm).mono fun e W' ⟨he, hb⟩ => ?_
  subst he
  exact ⟨_, rfl, post_true laidOut_ (by kernel_rfl) rfl hW' rfl (by kernel_rfl) Tryd.underlying4 hb⟩

theorem labLists_row : Rows.LabListsSaid :=
  OpenClaim.holds_of_wide 7 Tryd.f7 rfl rfl rfl rfl rfl rfl rfl ⟨rfl, rfl, rfl, rfl, rfl⟩ rfl rfl rfl rfl rfl (by kernel_rfl) Tryd.func7 (by kernel_rfl)
    (of_decide_eq_true (by kernel_rfl)) (by unfold Func.isWrapper; first | (rw [if_pos (by decide +kernel)]; kernel_rfl) | (rw [if_neg (by decide +kernel)]; exact ⟨rfl, rfl⟩))
    (fun os started H enc _ => liftedLabLists os started H enc)
theorem labLists_proved : Rows.LabListsCardSaid :=
  Claim7.holds_tied_plain_at .later [] [.data, .pinned] true (true, "223ec800487799849142899e04ca3326152ca5c9f65af53e129ae7c4a61ff9c3") false labLists_row (fun _ h => by cases h) (by kernel_rfl) (fun _ h => by cases h) labLists_row_tie rfl ⟨rfl, rfl⟩ (by kernel_rfl) rfl
    (fun f fn hf hfn => by
      obtain rfl : f = 7 := Option.some.inj ((show Tryd.prog.funcNamed "watchfire/watchfirelaw01.LabLists" = some 7 by kernel_rfl).symm.trans hf) |>.symm
      obtain rfl : fn = Tryd.f7 := (Option.some.inj (Tryd.func7.symm.trans hfn)).symm
      exact ⟨by kernel_rfl, fun j t ht => by
        rw [Tryd.params7] at ht
        have hm : t ∈ [24, 24, 46] := by simpa using Array.mem_of_getElem? ht
        have hall : ([24, 24, 46].all fun u => !Tryd.prog.wantsStandIn u) = true := by kernel_rfl
        exact (show Tryd.prog.wantsStandIn t = false by simpa using List.all_eq_true.1 hall t hm)⟩)
    (by kernel_rfl)
end Go.Proofs.YtfmehjdlpfijbaaDoor
