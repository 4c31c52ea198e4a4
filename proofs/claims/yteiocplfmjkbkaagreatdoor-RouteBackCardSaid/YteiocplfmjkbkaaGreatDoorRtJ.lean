/-
  strings.Join, strings.Repeat: the shelf's contracts, laid by hand.
-/
import Derived.Shelf.Strings.OnBuilder
import Derived.Shelf.Strings.Repeat
import Derived.Test.YteiocplfmjkbkaaGreatDoorRtP
namespace Go.Proofs.YteiocplfmjkbkaaGreatDoor
open Go.Shelf
def hren : Go.Shelf.Ren := ⟨fun | 99 => 56 | 105 => 36 | 156 => 35 | 165 => 52 | 166 => 53 | 169 => 54 | 170 => 57 | 206 => 71 | 212 => 55 | 240 => 67 | 241 => 68 | 263 => 69 | 264 => 70 | 276 => 78 | 277 => 79 | n => n, fun | 0 => 0 | 3 => 3 | 4 => 4 | 5 => 5 | 9 => 9 | 20 => 20 | 31 => 46 | 37 => 80 | 46 => 118 | 51 => 131 | 53 => 35 | 70 => 110 | 72 => 112 | 75 => 115 | 76 => 116 | 80 => 94 | 109 => 119 | 127 => 130 | 146 => 132 | 148 => 134 | 164 => 143 | n => n, fun | n => n⟩
theorem hlays156 : Go.Proofs.Lays.n156 Tryz.prog hren := {
  mixed := by kernel_rfl
  f156 := Tryz.func35.trans (congrArg some (by kernel_rfl))
  f165 := Tryz.func52.trans (congrArg some (by kernel_rfl))
  f166 := Tryz.func53.trans (congrArg some (by kernel_rfl))
  f169 := Tryz.func54.trans (congrArg some (by kernel_rfl))
  f240 := Tryz.func67.trans (congrArg some (by kernel_rfl))
  f241 := Tryz.func68.trans (congrArg some (by kernel_rfl))
  f276 := Tryz.func78.trans (congrArg some (by kernel_rfl))
  f277 := Tryz.func79.trans (congrArg some (by kernel_rfl))
  t0 := Tryz.underlying0
  a0 := Tryz.isAgg0
  z0 := Tryz.sizeOf0
  v0 := Tryz.zeroValue0
  t3 := Tryz.underlying3
  a3 := Tryz.isAgg3
  z3 := Tryz.sizeOf3
  v3 := Tryz.zeroValue3
  t4 := Tryz.underlying4
  a4 := Tryz.isAgg4
  z4 := Tryz.sizeOf4
  v4 := Tryz.zeroValue4
  t9 := Tryz.underlying9
  a9 := Tryz.isAgg9
  z9 := Tryz.sizeOf9
  v9 := Tryz.zeroValue9
  t20 := Tryz.underlying20
  a20 := Tryz.isAgg20
  z20 := Tryz.sizeOf20
  v20 := Tryz.zeroValue20
  t31 := Tryz.underlying46
  a31 := Tryz.isAgg46
  z31 := Tryz.sizeOf46
  v31 := Tryz.zeroValue46
  t37 := Tryz.underlying80
  a37 := Tryz.isAgg80
  z37 := Tryz.sizeOf80
  v37 := Tryz.zeroValue80
  t70 := Tryz.underlying110
  a70 := Tryz.isAgg110
  z70 := Tryz.sizeOf110
  v70 := Tryz.zeroValue110
  t72 := Tryz.underlying112
  a72 := Tryz.isAgg112
  z72 := Tryz.sizeOf112
  v72 := Tryz.zeroValue112
  t75 := Tryz.underlying115
  a75 := Tryz.isAgg115
  z75 := Tryz.sizeOf115
  v75 := Tryz.zeroValue115
  t76 := Tryz.underlying116
  a76 := Tryz.isAgg116
  z76 := Tryz.sizeOf116
  v76 := Tryz.zeroValue116
  t127 := Tryz.underlying130
  a127 := Tryz.isAgg130
  z127 := Tryz.sizeOf130
  v127 := Tryz.zeroValue130
  t164 := Tryz.underlying143
  a164 := Tryz.isAgg143
  z164 := Tryz.sizeOf143
  v164 := Tryz.zeroValue143 }
theorem hlays105 : Go.Proofs.Lays.n105 Tryz.prog hren := {
  mixed := by kernel_rfl
  f99 := Tryz.func56.trans (congrArg some (by kernel_rfl))
  f105 := Tryz.func36.trans (congrArg some (by kernel_rfl))
  f165 := Tryz.func52.trans (congrArg some (by kernel_rfl))
  f166 := Tryz.func53.trans (congrArg some (by kernel_rfl))
  f169 := Tryz.func54.trans (congrArg some (by kernel_rfl))
  f170 := Tryz.func57.trans (congrArg some (by kernel_rfl))
  f206 := Tryz.func71.trans (congrArg some (by kernel_rfl))
  f212 := Tryz.func55.trans (congrArg some (by kernel_rfl))
  f240 := Tryz.func67.trans (congrArg some (by kernel_rfl))
  f241 := Tryz.func68.trans (congrArg some (by kernel_rfl))
  f263 := Tryz.func69.trans (congrArg some (by kernel_rfl))
  f264 := Tryz.func70.trans (congrArg some (by kernel_rfl))
  f276 := Tryz.func78.trans (congrArg some (by kernel_rfl))
  f277 := Tryz.func79.trans (congrArg some (by kernel_rfl))
  t0 := Tryz.underlying0
  a0 := Tryz.isAgg0
  z0 := Tryz.sizeOf0
  v0 := Tryz.zeroValue0
  t3 := Tryz.underlying3
  a3 := Tryz.isAgg3
  z3 := Tryz.sizeOf3
  v3 := Tryz.zeroValue3
  t4 := Tryz.underlying4
  a4 := Tryz.isAgg4
  z4 := Tryz.sizeOf4
  v4 := Tryz.zeroValue4
  t5 := Tryz.underlying5
  a5 := Tryz.isAgg5
  z5 := Tryz.sizeOf5
  v5 := Tryz.zeroValue5
  t9 := Tryz.underlying9
  a9 := Tryz.isAgg9
  z9 := Tryz.sizeOf9
  v9 := Tryz.zeroValue9
  t20 := Tryz.underlying20
  a20 := Tryz.isAgg20
  z20 := Tryz.sizeOf20
  v20 := Tryz.zeroValue20
  t37 := Tryz.underlying80
  a37 := Tryz.isAgg80
  z37 := Tryz.sizeOf80
  v37 := Tryz.zeroValue80
  t46 := Tryz.underlying118
  a46 := Tryz.isAgg118
  z46 := Tryz.sizeOf118
  v46 := Tryz.zeroValue118
  t51 := Tryz.underlying131
  a51 := Tryz.isAgg131
  z51 := Tryz.sizeOf131
  v51 := Tryz.zeroValue131
  t53 := Tryz.underlying35
  a53 := Tryz.isAgg35
  z53 := Tryz.sizeOf35
  v53 := Tryz.zeroValue35
  t70 := Tryz.underlying110
  a70 := Tryz.isAgg110
  z70 := Tryz.sizeOf110
  v70 := Tryz.zeroValue110
  t72 := Tryz.underlying112
  a72 := Tryz.isAgg112
  z72 := Tryz.sizeOf112
  v72 := Tryz.zeroValue112
  t75 := Tryz.underlying115
  a75 := Tryz.isAgg115
  z75 := Tryz.sizeOf115
  v75 := Tryz.zeroValue115
  t76 := Tryz.underlying116
  a76 := Tryz.isAgg116
  z76 := Tryz.sizeOf116
  v76 := Tryz.zeroValue116
  t109 := Tryz.underlying119
  a109 := Tryz.isAgg119
  z109 := Tryz.sizeOf119
  v109 := Tryz.zeroValue119
  t127 := Tryz.underlying130
  a127 := Tryz.isAgg130
  z127 := Tryz.sizeOf130
  v127 := Tryz.zeroValue130
  t146 := Tryz.underlying132
  a146 := Tryz.isAgg132
  z146 := Tryz.sizeOf132
  v146 := Tryz.zeroValue132
  t148 := Tryz.underlying134
  a148 := Tryz.isAgg134
  z148 := Tryz.sizeOf134
  v148 := Tryz.zeroValue134
  t164 := Tryz.underlying143
  a164 := Tryz.isAgg143
  z164 := Tryz.sizeOf143
  v164 := Tryz.zeroValue143 }
theorem hX : Builder.Extra Tryz.prog hren := {
  sizeBuilder := by kernel_rfl
  liesBuilder := by kernel_rfl
  t5 := Tryz.underlying5
  a5 := Tryz.isAgg5
  z5 := Tryz.sizeOf5
  v5 := Tryz.zeroValue5
  infoByte := by kernel_rfl
  cellsByte := by kernel_rfl
  sizeByte := by kernel_rfl
  neB5 := by decide }
open Go.RowKit
theorem joinC_lib (l : List (List UInt8)) : Lib.join l [44] = joinC l := by
  cases l with
  | nil => rfl
  | cons x r =>
    rw [Lib.join_cons]
    show x ++ (r.map ([44] ++ ·)).flatten = x ++ r.flatMap fun y => 44 :: y
    rw [List.flatMap_def]
    rfl
/-- strings.Join with a comma. -/
theorem strJoin (v : Value) (xs : List ByteArray) (w : World) (hr : Rd w 1 v xs.length (xs.map Value.string)) (hlen : (joinC (xs.map (·.data.toList))).length ≤ 140737488355328) (hN : xs.length ≤ 140737488355328) :
    Calls Tryz.prog 35 #[v, .string ⟨#[44]⟩] w fun e w' => e = .returned (.string ⟨(joinC (xs.map (·.data.toList))).toArray⟩) ∧ Below w.heap.size w w' := by
  obtain ⟨A, c, rfl, h1, h2, h3, h4⟩ := hr
  by_cases h0 : xs = []
  · subst h0
    refine (Any.strings_Join_none hlays156 hX A c ⟨#[44]⟩ w).mono ?_
    rintro e w' ⟨rfl, rfl⟩
    exact ⟨rfl, Below.refl _ _⟩
  · have hp : 0 < xs.length := List.length_pos_iff.2 h0
    obtain ⟨b, o, rfl, hat⟩ := h4 hp
    have hb : b < w.heap.size := World.block_lt_of_cell? w _ (hat 0 _ (List.getElem?_eq_getElem (by simpa using hp)))
    have := Any.strings_Join hlays156 hX b o c xs ⟨#[44]⟩ w (fun j x hx => hat j _ (by rw [List.getElem?_map, hx]; rfl)) hb hN h2 (by rw [show (⟨#[44]⟩ : ByteArray).data.toList = [44] from rfl, joinC_lib]; exact hlen)
    rw [show (⟨#[44]⟩ : ByteArray).data.toList = [44] from rfl, joinC_lib] at this
    exact this
/-- strings.Repeat. -/
theorem strRepeat (s : ByteArray) (c : Nat) (w : World) (hc : c ≤ 1048576) (hs : s.size ≤ 1048576) :
    Calls Tryz.prog 36 #[.string s, .int .i64 (c : Nat)] w fun e w' => e = .returned (.string ⟨(Lib.repeatL s.data.toList c).toArray⟩) ∧ Below w.heap.size w w' :=
  Any.strings_Repeat hlays105 hX s c w (by omega) (Nat.le_trans (Nat.mul_le_mul hs hc) (by decide))
end Go.Proofs.YteiocplfmjkbkaaGreatDoor
