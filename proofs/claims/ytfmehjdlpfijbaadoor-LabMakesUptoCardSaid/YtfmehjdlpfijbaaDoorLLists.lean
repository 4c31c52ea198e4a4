/-
  The walk of LabLists.
-/
import Derived.Test.YtfmehjdlpfijbaaDoorLHas
import Derived.Test.YtfmehjdlpfijbaaDoorLMrg
import Derived.Test.YtfmehjdlpfijbaaDoorLEq
import Derived.Test.YtfmehjdlpfijbaaDoorLAwk
namespace Go.Proofs.YtfmehjdlpfijbaaDoor
open Go.RowKit
set_option maxRecDepth 100000

theorem same_self (l : List Pr) : sameB l l = true := decide_eq_true rfl
set_option maxHeartbeats 4000000 in
theorem labListsWalk (va vb vk : Value) (a b : List Pr) (keys : List ByteArray) (mx : Int) (w : World) (ha : Rd w 2 va a.length (pairCells a)) (hb : Rd w 2 vb b.length (pairCells b)) (hk : Rd w 1 vk keys.length (keys.map Value.string))
    (hsa : ∀ p ∈ a, p.1.size ≤ maxLen ∧ p.2.size ≤ maxLen) (hsb : ∀ p ∈ b, p.1.size ≤ maxLen ∧ p.2.size ≤ maxLen) (hm : w.cell? ⟨0, 0, none⟩ = some (.int .i64 mx)) :
    Calls Tryd.prog 7 #[va, vb, vk] w fun e w' => e = .returned (.bool true) ∧ Below w.heap.size w w' := by
  have ha0 := ha
  have hb0 := hb
  have hk0 := hk
  obtain ⟨A, ca, rfl, _, qa, ra, _⟩ := ha
  obtain ⟨B, cb, rfl, _, qb, rb, _⟩ := hb
  obtain ⟨K, ck, rfl, _, qk, rk, _⟩ := hk
  unfold maxLen at ra rb rk
  have hA := lAwake mx w hm
  clear hm
  go_enter Tryd.func7, Tryd.ntmps7
  go_wp2_with fail
  (with_reducible refine hA.mono ?_)
  rintro e w0 ⟨rfl, hB0⟩
  clear hA
  by_cases h1 : 12 < a.length
  · go_wp2_with fail
    go_ret
    exact ⟨rfl, hB0⟩
  by_cases h2 : 12 < b.length
  · go_wp2_with fail
    go_ret
    exact ⟨rfl, hB0⟩
  by_cases h3 : 12 < keys.length
  · go_wp2_with fail
    go_ret
    exact ⟨rfl, hB0⟩
  have RA := fun w' (h : Below w.heap.size w w') => ha0.below h
  have RB := fun w' (h : Below w.heap.size w w') => hb0.below h
  have RK := fun w' (h : Below w.heap.size w w') => hk0.below h
  clear ha0 hb0 hk0
  have q1 := fun w' h => lCompare (.slice A a.length ca) (.slice B b.length cb) a b w' (RA w' h) (RB w' h)
  have q2 := fun w' h => refCompare (.slice A a.length ca) (.slice B b.length cb) a b w' (RA w' h) (RB w' h)
  have q3 := fun w' h => lSame (.slice A a.length ca) (.slice B b.length cb) a b w' (RA w' h) (RB w' h)
  have q4 := fun w' h => refSame (.slice A a.length ca) (.slice B b.length cb) a b w' (RA w' h) (RB w' h)
  have q5 := fun w' h => lHas (.slice A a.length ca) (.slice B b.length cb) a b w' (RA w' h) (RB w' h)
  have q6 := fun w' h => refHas (.slice A a.length ca) (.slice B b.length cb) a b w' (RA w' h) (RB w' h)
  generalize cmpLL a b = C at q1 q2
  generalize sameB a b = S at q3 q4
  generalize hasL a b = Q at q5 q6
  have hK := q1 _ hB0
  go_wp2_with fail
  (with_reducible refine hK.mono ?_)
  rintro e w1 ⟨rfl, hb⟩
  have hB1 := hB0.trans (hb.mono hB0.size)
  clear hK
  clear hb hB0
  have hK := lMerge (.slice A a.length ca) (.slice B b.length cb) a b w1 (RA _ hB1) (RB _ hB1) hsa hsb (by omega)
  go_wp2_with fail
  (with_reducible refine hK.mono ?_)
  rintro e w2 ⟨v1, rfl, hv, hb⟩
  have hB2 := hB1.trans (hb.mono hB1.size)
  clear hK
  have hr1 := rd_of_owns hv
  obtain ⟨A1, c1, rfl⟩ := owns_slice hv
  clear hv
  clear hb hB1
  have hK := refMerge (.slice A a.length ca) (.slice B b.length cb) a b w2 (RA _ hB2) (RB _ hB2) hsa hsb (by omega)
  go_wp2_with fail
  (with_reducible refine hK.mono ?_)
  rintro e w3 ⟨v2, rfl, hv, hb⟩
  have hB3 := hB2.trans (hb.mono hB2.size)
  clear hK
  have hr2 := rd_of_owns hv
  obtain ⟨A2, c2, rfl⟩ := owns_slice hv
  have hr1b := hr1.below hb
  clear hv hr1
  clear hb hB2
  have hK := q2 _ hB3
  go_wp2_with fail
  (with_reducible refine hK.mono ?_)
  rintro e w4 ⟨rfl, hb⟩
  have hB4 := hB3.trans (hb.mono hB3.size)
  clear hK
  have hr1 := hr1b.below hb
  have hr2b := hr2.below hb
  clear hr1b hr2
  clear hb hB3
  have hK := q3 _ hB4
  go_wp2_with fail
  (with_reducible refine hK.mono ?_)
  rintro e w5 ⟨rfl, hb⟩
  have hB5 := hB4.trans (hb.mono hB4.size)
  clear hK
  have hr1b := hr1.below hb
  have hr2 := hr2b.below hb
  clear hr1 hr2b
  clear hb hB4
  have hK := q4 _ hB5
  go_wp2_with fail
  (with_reducible refine hK.mono ?_)
  rintro e w6 ⟨rfl, hb⟩
  have hB6 := hB5.trans (hb.mono hB5.size)
  clear hK
  have hr1 := hr1b.below hb
  have hr2b := hr2.below hb
  clear hr1b hr2
  clear hb hB5
  have hK := (by have := refSame _ _ _ _ w6 hr1 hr2b; rw [same_self] at this; exact this : Calls _ _ _ w6 fun e w' => e = .returned (.bool true) ∧ Below _ w6 w')
  go_wp2_with fail
  (with_reducible refine hK.mono ?_)
  rintro e w7 ⟨rfl, hb⟩
  have hB7 := hB6.trans (hb.mono hB6.size)
  clear hK
  clear hr1 hr2b
  clear hb hB6
  have hK := lOnly (.slice A a.length ca) (.slice K keys.length ck) a keys w7 (RA _ hB7) (RK _ hB7) (by omega)
  go_wp2_with fail
  (with_reducible refine hK.mono ?_)
  rintro e w8 ⟨v3, rfl, hv, hb⟩
  have hB8 := hB7.trans (hb.mono hB7.size)
  clear hK
  have hr3 := rd_of_owns hv
  obtain ⟨A3, c3, rfl⟩ := owns_slice hv
  clear hv
  clear hb hB7
  have hK := refOnly (.slice A a.length ca) (.slice K keys.length ck) true a keys w8 (RA _ hB8) (RK _ hB8) (by omega)
  go_wp2_with fail
  (with_reducible refine hK.mono ?_)
  rintro e w9 ⟨v4, rfl, hv, hb⟩
  have hB9 := hB8.trans (hb.mono hB8.size)
  clear hK
  have hr4 := rd_of_owns hv
  obtain ⟨A4, c4, rfl⟩ := owns_slice hv
  have hr3b := hr3.below hb
  clear hv hr3
  clear hb hB8
  have hK := (by have := refSame _ _ _ _ w9 hr3b hr4; rw [same_self] at this; exact this : Calls _ _ _ w9 fun e w' => e = .returned (.bool true) ∧ Below _ w9 w')
  go_wp2_with fail
  (with_reducible refine hK.mono ?_)
  rintro e w10 ⟨rfl, hb⟩
  have hB10 := hB9.trans (hb.mono hB9.size)
  clear hK
  clear hr3b hr4
  clear hb hB9
  have hK := lWithout (.slice A a.length ca) (.slice K keys.length ck) a keys w10 (RA _ hB10) (RK _ hB10) (by omega)
  go_wp2_with fail
  (with_reducible refine hK.mono ?_)
  rintro e w11 ⟨v3, rfl, hv, hb⟩
  have hB11 := hB10.trans (hb.mono hB10.size)
  clear hK
  have hr3 := rd_of_owns hv
  obtain ⟨A3, c3, rfl⟩ := owns_slice hv
  clear hv
  clear hb hB10
  have hK := refOnly (.slice A a.length ca) (.slice K keys.length ck) false a keys w11 (RA _ hB11) (RK _ hB11) (by omega)
  go_wp2_with fail
  (with_reducible refine hK.mono ?_)
  rintro e w12 ⟨v4, rfl, hv, hb⟩
  have hB12 := hB11.trans (hb.mono hB11.size)
  clear hK
  have hr4 := rd_of_owns hv
  obtain ⟨A4, c4, rfl⟩ := owns_slice hv
  have hr3b := hr3.below hb
  clear hv hr3
  clear hb hB11
  have hK := (by have := refSame _ _ _ _ w12 hr3b hr4; rw [same_self] at this; exact this : Calls _ _ _ w12 fun e w' => e = .returned (.bool true) ∧ Below _ w12 w')
  go_wp2_with fail
  (with_reducible refine hK.mono ?_)
  rintro e w13 ⟨rfl, hb⟩
  have hB13 := hB12.trans (hb.mono hB12.size)
  clear hK
  clear hr3b hr4
  clear hb hB12
  have hK := q5 _ hB13
  go_wp2_with fail
  (with_reducible refine hK.mono ?_)
  rintro e w14 ⟨rfl, hb⟩
  have hB14 := hB13.trans (hb.mono hB13.size)
  clear hK
  clear hb hB13
  have hK := q6 _ hB14
  go_wp2_with fail
  (with_reducible refine hK.mono ?_)
  rintro e w15 ⟨rfl, hb⟩
  have hB15 := hB14.trans (hb.mono hB14.size)
  clear hK
  clear hb hB14
  clear RA RB RK
  go_wp2_with fail
  go_ret
  exact ⟨rfl, hB15⟩
end Go.Proofs.YtfmehjdlpfijbaaDoor
