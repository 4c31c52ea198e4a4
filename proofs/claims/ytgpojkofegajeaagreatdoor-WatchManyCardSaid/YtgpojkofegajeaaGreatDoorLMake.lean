/-
  lab.Make, lab.Parse.
-/
import Derived.Test.YtgpojkofegajeaaGreatDoorLSort
import Derived.Test.YtgpojkofegajeaaGreatDoorLChk
namespace Go.Proofs.YtgpojkofegajeaaGreatDoor
open Go.RowKit
set_option maxRecDepth 100000

/-- Labels of pairs in any order; of none, if they are none. -/
def makeL (ps : List Pr) : List Pr := if chkL (sortL ps) = 0 then sortL ps else []
theorem lMake (v : Value) (ps : List Pr) (w : World) (hr : Rd w 2 v ps.length (pairCells ps)) (hs : ∀ p ∈ ps, p.1.size ≤ maxLen ∧ p.2.size ≤ maxLen) (hlen : ps.length ≤ 1048576) :
    Calls Tryz.prog 80 #[v] w fun e w' => ∃ v', e = .returned (.tuple #[v', .int .i64 (chkL (sortL ps) : Nat)]) ∧ w'.ownsRow w.heap.size 92 2 v' (makeL ps).length (pairCells (makeL ps)) ∧ Below w.heap.size w w' := by
  have hC := clonePairs v ps w hr hlen
  have hs2 : ∀ p ∈ sortL ps, p.1.size ≤ maxLen ∧ p.2.size ≤ maxLen := fun p hp => hs p ((sortL_perm ps).mem_iff.1 hp)
  have hl2 := sortL_length ps
  obtain ⟨A, c, rfl, _⟩ := hr
  go_enter Tryz.func80, Tryz.ntmps80
  go_wp2_with fail
  (with_reducible refine hC.mono ?_)
  rintro e w1 ⟨v1, rfl, hv1, hb1⟩
  have hS := sortPairs w.heap.size v1 ps w1 hv1 (by omega)
  obtain ⟨A1, c1, rfl⟩ := owns_slice hv1
  have hbase : ∀ q, (Value.slice A1 ps.length c1).ownBlock = some q → w.heap.size ≤ q := fun q hq => (hv1.lt q hq).1
  clear hC hv1
  go_wp2_with fail
  (with_reducible refine hS.mono ?_)
  rintro e w2 ⟨rfl, hv2, hg2⟩
  have hb2 : Below w.heap.size w w2 := hb1.grown hg2 hb1.size hbase
  have hr2 := rd_of_owns hv2
  have hK := lCheck _ (sortL ps) w2 (by rw [hl2]; exact hr2) hs2
  clear hS hg2 hbase hr2 hb1
  cases hc : chkL (sortL ps) with
  | zero =>
    rw [hc] at hK
    have HM := Lib.hid (show makeL ps = sortL ps by simp [makeL, hc])
    have HC := Lib.hid hc
    clear hc
    go_wp2_with fail
    (with_reducible refine hK.mono ?_)
    rintro e w3 ⟨rfl, hb3⟩
    have hv3 := owns_below hv2 hb3
    have hb23 := hb2.trans (hb3.mono hb2.size)
    clear hK hv2 hb3
    have HL := Lib.hid hl2
    clear hl2
    go_wp2_with fail
    go_ret2
    exact ⟨_, by rw [HC.out]; rfl, by rw [HM.out, HL.out]; exact hv3, hb23⟩
  | succ n =>
    rw [hc] at hK
    have HM := Lib.hid (show makeL ps = [] by simp [makeL, hc])
    have HC := Lib.hid (show ((chkL (sortL ps) : Nat) : Int) = (n : Int) + 1 by rw [hc]; omega)
    have HL := Lib.hid hl2
    have hne : ((n : Int) + 1 == 0) = false := by rw [beq_eq_false_iff_ne]; omega
    have hne2 : ((n : Int) + 1 != 0) = true := by rw [bne, hne]; rfl
    clear hc hl2
    go_wp2_with fail
    (with_reducible refine hK.mono ?_)
    rintro e w3 ⟨rfl, hb3⟩
    have hb23 := hb2.trans (hb3.mono hb2.size)
    clear hK hv2 hb3
    go_wp2_with fail
    go_ret2
    exact ⟨_, by rw [HC.out]; rfl, by rw [HM.out]; exact World.ownsRow_nil _ _ _ _, hb23⟩
end Go.Proofs.YtgpojkofegajeaaGreatDoor
