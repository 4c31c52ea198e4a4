/-
  The walk of LabWords.
-/
import Derived.Test.YtfmehjdlpfijbaaDoorLAwk
namespace Go.Proofs.YtfmehjdlpfijbaaDoor
open Go.RowKit
set_option maxRecDepth 100000

theorem labWordsWalk (s : ByteArray) (mx : Int) (w : World) (hs : s.size ≤ maxLen) (hm : w.cell? ⟨0, 0, none⟩ = some (.int .i64 mx)) :
    Calls Tryd.prog 3 #[.string s] w fun e w' => e = .returned (.bool true) ∧ Below w.heap.size w w' := by
  have hA := lAwake mx w hm
  have k1 := fun w => lKey s w hs
  have k2 := fun w => refKey s w hs
  have v1 := fun w => lValue s w hs
  have v2 := fun w => refValue s w hs
  have n1 := fun w => lName s w hs
  have n2 := fun w => refName s w hs
  generalize wordB s 8 false = a at k1 k2
  generalize wordB s 16 true = b at v1 v2
  generalize nameB s = c at n1 n2
  clear hm
  go_enter Tryd.func3, Tryd.ntmps3
  go_wp2_with fail
  (with_reducible refine hA.mono ?_)
  rintro e w1 ⟨rfl, hb1⟩
  clear hA
  go_wp2_with fail
  (with_reducible refine (k1 _).mono ?_)
  rintro e w2 ⟨rfl, hb2⟩
  have hb12 := hb1.trans (hb2.mono hb1.size)
  clear k1
  go_wp2_with fail
  (with_reducible refine (k2 _).mono ?_)
  rintro e w3 ⟨rfl, rfl⟩
  clear k2
  go_wp2_with fail
  (with_reducible refine (v1 _).mono ?_)
  rintro e w4 ⟨rfl, hb4⟩
  have hb14 := hb12.trans (hb4.mono hb12.size)
  clear v1
  go_wp2_with fail
  (with_reducible refine (v2 _).mono ?_)
  rintro e w5 ⟨rfl, rfl⟩
  clear v2
  go_wp2_with fail
  (with_reducible refine (n1 _).mono ?_)
  rintro e w6 ⟨rfl, hb6⟩
  have hb16 := hb14.trans (hb6.mono hb14.size)
  clear n1
  go_wp2_with fail
  (with_reducible refine (n2 _).mono ?_)
  rintro e w7 ⟨rfl, rfl⟩
  clear n2
  go_wp2_with fail
  go_ret
  exact ⟨rfl, hb16⟩
end Go.Proofs.YtfmehjdlpfijbaaDoor
