/-
  strings.Builder at this dump: the shelf's contracts, laid by hand: what each method returns, and what it leaves of memory. Conditions: as each contract says (the builder is one; what is written has room).
-/
import Derived.Shelf.Strings.Builder1
import Derived.Shelf.Strings.BuilderF
import Derived.Shelf.Strings.BuilderK
import Derived.Test.YtdghpjkjhlankaaRows
namespace Go.Proofs.Ytdghpjkjhlankaa
open Go.Shelf
def bldren : Go.Shelf.Ren := ⟨fun | 166 => 35 | 167 => 45 | 169 => 36 | 240 => 46 | 276 => 53 | n => n, fun | 0 => 0 | 3 => 3 | 4 => 4 | 5 => 5 | 9 => 9 | 20 => 20 | 21 => 21 | 37 => 34 | 70 => 109 | 72 => 111 | 75 => 113 | 80 => 116 | 127 => 138 | 164 => 149 | n => n, fun | n => n⟩
theorem lays240 : Go.Proofs.Lays.n240 Try.prog bldren := {
  mixed := by kernel_rfl
  f240 := Try.func46.trans (congrArg some (by kernel_rfl))
  f276 := Try.func53.trans (congrArg some (by kernel_rfl))
  t0 := Try.underlying0
  a0 := Try.isAgg0
  z0 := Try.sizeOf0
  v0 := Try.zeroValue0
  t4 := Try.underlying4
  a4 := Try.isAgg4
  z4 := Try.sizeOf4
  v4 := Try.zeroValue4
  t9 := Try.underlying9
  a9 := Try.isAgg9
  z9 := Try.sizeOf9
  v9 := Try.zeroValue9
  t20 := Try.underlying20
  a20 := Try.isAgg20
  z20 := Try.sizeOf20
  v20 := Try.zeroValue20
  t70 := Try.underlying109
  a70 := Try.isAgg109
  z70 := Try.sizeOf109
  v70 := Try.zeroValue109
  t72 := Try.underlying111
  a72 := Try.isAgg111
  z72 := Try.sizeOf111
  v72 := Try.zeroValue111
  t164 := Try.underlying149
  a164 := Try.isAgg149
  z164 := Try.sizeOf149
  v164 := Try.zeroValue149 }

theorem lays166 : Go.Proofs.Lays.n166 Try.prog bldren := {
  mixed := by kernel_rfl
  f166 := Try.func35.trans (congrArg some (by kernel_rfl))
  f240 := Try.func46.trans (congrArg some (by kernel_rfl))
  f276 := Try.func53.trans (congrArg some (by kernel_rfl))
  t0 := Try.underlying0
  a0 := Try.isAgg0
  z0 := Try.sizeOf0
  v0 := Try.zeroValue0
  t3 := Try.underlying3
  a3 := Try.isAgg3
  z3 := Try.sizeOf3
  v3 := Try.zeroValue3
  t4 := Try.underlying4
  a4 := Try.isAgg4
  z4 := Try.sizeOf4
  v4 := Try.zeroValue4
  t9 := Try.underlying9
  a9 := Try.isAgg9
  z9 := Try.sizeOf9
  v9 := Try.zeroValue9
  t20 := Try.underlying20
  a20 := Try.isAgg20
  z20 := Try.sizeOf20
  v20 := Try.zeroValue20
  t37 := Try.underlying34
  a37 := Try.isAgg34
  z37 := Try.sizeOf34
  v37 := Try.zeroValue34
  t70 := Try.underlying109
  a70 := Try.isAgg109
  z70 := Try.sizeOf109
  v70 := Try.zeroValue109
  t72 := Try.underlying111
  a72 := Try.isAgg111
  z72 := Try.sizeOf111
  v72 := Try.zeroValue111
  t75 := Try.underlying113
  a75 := Try.isAgg113
  z75 := Try.sizeOf113
  v75 := Try.zeroValue113
  t164 := Try.underlying149
  a164 := Try.isAgg149
  z164 := Try.sizeOf149
  v164 := Try.zeroValue149 }

theorem lays167 : Go.Proofs.Lays.n167 Try.prog bldren := {
  mixed := by kernel_rfl
  f167 := Try.func45.trans (congrArg some (by kernel_rfl))
  f240 := Try.func46.trans (congrArg some (by kernel_rfl))
  f276 := Try.func53.trans (congrArg some (by kernel_rfl))
  t0 := Try.underlying0
  a0 := Try.isAgg0
  z0 := Try.sizeOf0
  v0 := Try.zeroValue0
  t4 := Try.underlying4
  a4 := Try.isAgg4
  z4 := Try.sizeOf4
  v4 := Try.zeroValue4
  t5 := Try.underlying5
  a5 := Try.isAgg5
  z5 := Try.sizeOf5
  v5 := Try.zeroValue5
  t9 := Try.underlying9
  a9 := Try.isAgg9
  z9 := Try.sizeOf9
  v9 := Try.zeroValue9
  t20 := Try.underlying20
  a20 := Try.isAgg20
  z20 := Try.sizeOf20
  v20 := Try.zeroValue20
  t37 := Try.underlying34
  a37 := Try.isAgg34
  z37 := Try.sizeOf34
  v37 := Try.zeroValue34
  t70 := Try.underlying109
  a70 := Try.isAgg109
  z70 := Try.sizeOf109
  v70 := Try.zeroValue109
  t72 := Try.underlying111
  a72 := Try.isAgg111
  z72 := Try.sizeOf111
  v72 := Try.zeroValue111
  t75 := Try.underlying113
  a75 := Try.isAgg113
  z75 := Try.sizeOf113
  v75 := Try.zeroValue113
  t164 := Try.underlying149
  a164 := Try.isAgg149
  z164 := Try.sizeOf149
  v164 := Try.zeroValue149 }

theorem lays169 : Go.Proofs.Lays.n169 Try.prog bldren := {
  mixed := by kernel_rfl
  f169 := Try.func36.trans (congrArg some (by kernel_rfl))
  t0 := Try.underlying0
  a0 := Try.isAgg0
  z0 := Try.sizeOf0
  v0 := Try.zeroValue0
  t3 := Try.underlying3
  a3 := Try.isAgg3
  z3 := Try.sizeOf3
  v3 := Try.zeroValue3
  t9 := Try.underlying9
  a9 := Try.isAgg9
  z9 := Try.sizeOf9
  v9 := Try.zeroValue9
  t37 := Try.underlying34
  a37 := Try.isAgg34
  z37 := Try.sizeOf34
  v37 := Try.zeroValue34
  t70 := Try.underlying109
  a70 := Try.isAgg109
  z70 := Try.sizeOf109
  v70 := Try.zeroValue109
  t72 := Try.underlying111
  a72 := Try.isAgg111
  z72 := Try.sizeOf111
  v72 := Try.zeroValue111
  t127 := Try.underlying138
  a127 := Try.isAgg138
  z127 := Try.sizeOf138
  v127 := Try.zeroValue138 }

theorem bldX : Builder.Extra Try.prog bldren := {
  sizeBuilder := by kernel_rfl
  liesBuilder := by kernel_rfl
  t5 := Try.underlying5
  a5 := Try.isAgg5
  z5 := Try.sizeOf5
  v5 := Try.zeroValue5
  infoByte := by kernel_rfl
  cellsByte := by kernel_rfl
  sizeByte := by kernel_rfl
  neB5 := by decide }
open Go.RowKit
theorem bld_WriteByte (B b : Nat) (bs : List Value) (c : Int) (w : World) (h : Lib.IsBuilderF 111 5 B b bs w) (hlen : bs.length + 1 ≤ 140737488355328) (hBw : B ≤ w.heap.size) :
    Calls Try.prog 45 #[.pointer (some ⟨b, 0, none⟩), .int .u8 c] w fun e w' => e = .returned .nilIface ∧ (Lib.BuilderAtF 111 5 B b (.pointer (some ⟨b, 0, none⟩)) (bs ++ [.int .u8 c]) w' ∧ Below B w w' ∧ Lib.OthersKept 5 (some b) w w') :=
  Any.Builder_WriteByte_k lays167 bldX B b bs c w h hlen hBw
theorem bld_WriteString (B b : Nat) (bs : List Value) (s : ByteArray) (w : World) (h : Lib.IsBuilderF 111 5 B b bs w) (hlen : bs.length + s.size ≤ 140737488355328) (hBw : B ≤ w.heap.size) :
    Calls Try.prog 35 #[.pointer (some ⟨b, 0, none⟩), .string s] w fun e w' => e = .returned (.tuple #[.int .i64 s.size, .nilIface]) ∧ (Lib.BuilderAtF 111 5 B b (.pointer (some ⟨b, 0, none⟩)) (bs ++ Lib.strCells s) w' ∧ Below B w w' ∧ Lib.OthersKept 5 (some b) w w') :=
  Any.Builder_WriteString_k lays166 bldX B b bs s w h hlen hBw
theorem bld_String (B b : Nat) (l : List UInt8) (w : World) (h : Lib.IsBuilderF 111 5 B b (Lib.byteCells l) w) (hBw : B ≤ w.heap.size) :
    Calls Try.prog 36 #[.pointer (some ⟨b, 0, none⟩)] w fun e w' => e = .returned (.string ⟨l.toArray⟩) ∧ (Lib.IsBuilderF 111 5 B b (Lib.byteCells l) w' ∧ Below B w w' ∧ Lib.OthersKept 5 (some b) w w') :=
  Any.Builder_String_any_k lays169 bldX B b l w h hBw
end Go.Proofs.Ytdghpjkjhlankaa
