/-
  The walk of LabMakes.
-/
import Derived.Test.YtfmehjdlpfijbaaDoorLRefT
import Derived.Test.YtfmehjdlpfijbaaDoorLRefS
import Derived.Test.YtfmehjdlpfijbaaDoorLLists
namespace Go.Proofs.YtfmehjdlpfijbaaDoor
open Go.RowKit
set_option maxRecDepth 100000

set_option maxHeartbeats 4000000 in
theorem labMakesWalk (va : Value) (a : List Pr) (key : ByteArray) (mx : Int) (w : World) (ha : Rd w 2 va a.length (pairCells a))
    (hsa : ∀ p ∈ a, p.1.size ≤ maxLen ∧ p.2.size ≤ maxLen) (hsb : ∀ p ∈ a, p.1.size + p.2.size + 4 ≤ 1048576) (hm : w.cell? ⟨0, 0, none⟩ = some (.int .i64 mx)) :
    Calls Tryd.prog 4 #[va, .string key] w fun e w' => e = .returned (.bool true) ∧ Below w.heap.size w w' := by
  have ha0 := ha
  obtain ⟨A, ca, rfl, _, qa, ra, _⟩ := ha
  unfold maxLen at ra
  have hA := lAwake mx w hm
  have RA := fun w' (h : Below w.heap.size w w') => ha0.below h
  clear hm ha0
  go_enter Tryd.func4, Tryd.ntmps4
  go_wp2_with fail
  (with_reducible refine hA.mono ?_)
  rintro e w0 ⟨rfl, hB0⟩
  clear hA
  by_cases h2 : 30 < a.length
  · go_wp2_with fail
    go_ret
    exact ⟨rfl, hB0⟩
  have htz : (textL a).length ≤ 140737488355328 := by
    have := text_size a 1048576 (fun p hp => by have := hsb p hp; rw [pairL_len]; omega)
    have h3 : (1048576 + 1) * a.length ≤ (1048576 + 1) * 30 := Nat.mul_le_mul_left _ (by omega)
    omega
  have hK := lMake (.slice A a.length ca) a w0 (RA _ hB0) hsa (by omega)
  have hQ := fun w' h => refMake (.slice A a.length ca) a w' (RA w' h) hsa (by omega)
  have q1 := fun w' h => lGet (.slice A a.length ca) a key w' (RA w' h)
  have q2 := fun w' h => refGet (.slice A a.length ca) a key w' (RA w' h)
  have q3 := fun w' h => lCheck (.slice A a.length ca) a w' (RA w' h) hsa
  have q4 := fun w' h => refCheck (.slice A a.length ca) a w' (RA w' h) hsa
  have q5 := fun w' h => labText (.slice A a.length ca) a w' (RA w' h) htz
  have q6 := fun w' h => refText (.slice A a.length ca) a w' (RA w' h) htz
  generalize chkL (sortL a) = cs at hK hQ
  generalize makeL a = mk at hK hQ
  generalize getL a key = gt at q1 q2
  generalize chkL a = cc at q3 q4
  generalize (⟨(textL a).toArray⟩ : ByteArray) = tx at q5 q6
  clear htz hsa hsb RA
  obtain ⟨g1, g2⟩ := gt
  go_wp2_with fail
  (with_reducible refine hK.mono ?_)
  rintro e w1 ⟨v1, rfl, hv, hb⟩
  have hB1 := hB0.trans (hb.mono hB0.size)
  clear hK
  have hr1 := rd_of_owns hv
  obtain ⟨A1, c1, rfl⟩ := owns_slice hv
  clear hv hb hB0
  have hK := hQ w1 hB1
  go_wp2_with fail
  (with_reducible refine hK.mono ?_)
  rintro e w2 ⟨v2, rfl, hv, hb⟩
  have hB2 := hB1.trans (hb.mono hB1.size)
  clear hK hQ
  have hr2 := rd_of_owns hv
  obtain ⟨A2, c2, rfl⟩ := owns_slice hv
  have hr1b := hr1.below hb
  clear hv hr1 hb hB1
  have hK := q1 w2 hB2
  go_wp2_with fail
  (with_reducible refine hK.mono ?_)
  rintro e w3 ⟨rfl, hb⟩
  have hB3 := hB2.trans (hb.mono hB2.size)
  have hr1 := hr1b.below hb
  have hr2b := hr2.below hb
  clear hK q1 hb hB2 hr1b hr2
  have hK := q2 w3 hB3
  go_wp2_with fail
  (with_reducible refine hK.mono ?_)
  rintro e w4 ⟨rfl, rfl⟩
  clear hK q2
  have hK := (by have := refSame _ _ _ _ _ hr1 hr2b; rw [same_self] at this; exact this : Calls _ _ _ w4 fun e w' => e = .returned (.bool true) ∧ Below _ w4 w')
  have hbn : ((cs : Int) == (cs : Int)) = true := beq_self_eq_true _
  go_wp2_with fail
  (with_reducible refine hK.mono ?_)
  rintro e w5 ⟨rfl, hb⟩
  have hB5 := hB3.trans (hb.mono hB3.size)
  clear hK hr1 hr2b hb hB3
  have hK := q3 w5 hB5
  go_wp2_with fail
  (with_reducible refine hK.mono ?_)
  rintro e w6 ⟨rfl, hb⟩
  have hB6 := hB5.trans (hb.mono hB5.size)
  clear hK q3 hb hB5
  have hK := q4 w6 hB6
  go_wp2_with fail
  (with_reducible refine hK.mono ?_)
  rintro e w7 ⟨rfl, hb⟩
  have hB7 := hB6.trans (hb.mono hB6.size)
  clear hK q4 hb hB6
  have hK := q5 w7 hB7
  have hbn2 : ((cc : Int) == (cc : Int)) = true := beq_self_eq_true _
  go_wp2_with fail
  (with_reducible refine hK.mono ?_)
  rintro e w8 ⟨rfl, hb⟩
  have hB8 := hB7.trans (hb.mono hB7.size)
  clear hK q5 hb hB7
  have hK := q6 w8 hB8
  go_wp2_with fail
  (with_reducible refine hK.mono ?_)
  rintro e w9 ⟨rfl, hb⟩
  have hB9 := hB8.trans (hb.mono hB8.size)
  clear hK q6 hb hB8
  go_wp2_with fail
  go_ret
  exact ⟨rfl, hB9⟩
end Go.Proofs.YtfmehjdlpfijbaaDoor
