/-
  The chapter's example: Awake; the walk of LabWords.
-/
import Derived.Test.YtfmehjdlpfijbaaDoorLParse
import Derived.Test.YtfmehjdlpfijbaaDoorLText
namespace Go.Proofs.YtfmehjdlpfijbaaDoor
open Go.RowKit
set_option maxRecDepth 100000

def exIn : ByteArray := ⟨#[98, 61, 50, 44, 97, 61, 49]⟩
def exA : Pr := (⟨#[97]⟩, ⟨#[49]⟩)
def exB : Pr := (⟨#[98]⟩, ⟨#[50]⟩)
theorem ex_parts : parseF (partsL exIn) [] = (0, [exB, exA]) := by kernel_rfl
theorem ex_sort : sortL [exB, exA] = [exA, exB] := (sortL_unique (.swap _ _ _) (by
  refine List.Pairwise.cons ?_ (List.Pairwise.cons (by simp) .nil)
  intro q hq
  obtain rfl := List.mem_singleton.1 hq
  kernel_rfl)).symm
theorem ex_chk : chkL [exA, exB] = 0 := by kernel_rfl
theorem ex_parse : parseC exIn = (0, [exA, exB]) := by
  unfold parseC
  rw [ex_parts]
  rw [if_neg (by decide), if_neg (by decide), if_pos rfl]
  simp only [makeL, ex_sort, ex_chk, if_true]
theorem ex_text : (⟨(textL [exA, exB]).toArray⟩ : ByteArray) = ⟨#[97, 61, 49, 44, 98, 61, 50]⟩ := by kernel_rfl
theorem lAwake (mx : Int) (w : World) (hm : w.cell? ⟨0, 0, none⟩ = some (.int .i64 mx)) : Calls Tryd.prog 8 #[] w fun e w' => e = .returned (.bool true) ∧ Below w.heap.size w w' := by
  have hP := lParse exIn mx w (by unfold maxLen; decide) hm
  rw [ex_parse] at hP
  have hN := fun w' => lName ⟨#[111, 119, 110, 46, 120, 45, 49]⟩ w' (by unfold maxLen; decide)
  rw [show nameB ⟨#[111, 119, 110, 46, 120, 45, 49]⟩ = true by kernel_rfl] at hN
  have hK := fun w' => lKey ⟨#[97, 49]⟩ w' (by unfold maxLen; decide)
  rw [show wordB ⟨#[97, 49]⟩ 8 false = false by kernel_rfl] at hK
  have hT := fun v w' hr => labText v [exA, exB] w' hr (by decide)
  rw [ex_text] at hT
  unfold exIn at hP
  clear hm
  go_enter Tryd.func8, Tryd.ntmps8
  go_wp2_with fail
  (with_reducible refine hP.mono ?_)
  rintro e w1 ⟨v1, rfl, hv1, hb1⟩
  obtain ⟨A1, c1, rfl⟩ := owns_slice hv1
  have hr1 : Rd w1 2 (.slice A1 2 c1) [exA, exB].length (pairCells [exA, exB]) := rd_of_owns hv1
  have hT1 := hT (.slice A1 2 c1) w1 hr1
  clear hP hv1 hr1 hT
  go_wp2_with fail
  (with_reducible refine hT1.mono ?_)
  rintro e w2 ⟨rfl, hb2⟩
  have hb12 := hb1.trans (hb2.mono hb1.size)
  clear hT1
  go_wp2_with fail
  (with_reducible refine (hN _).mono ?_)
  rintro e w3 ⟨rfl, hb3⟩
  have hb13 := hb12.trans (hb3.mono hb12.size)
  clear hN
  go_wp2_with fail
  (with_reducible refine (hK _).mono ?_)
  rintro e w4 ⟨rfl, hb4⟩
  have hb14 := hb13.trans (hb4.mono hb13.size)
  clear hK
  go_wp2_with fail
  go_ret
  exact ⟨rfl, hb14⟩
end Go.Proofs.YtfmehjdlpfijbaaDoor
