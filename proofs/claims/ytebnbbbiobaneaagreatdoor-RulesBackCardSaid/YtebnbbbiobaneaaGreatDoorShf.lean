/-
  DERIVED: THE SHELF's CONTRACTS AT THIS DUMP, IN PLAIN WORDS (tools/lay-plain.mjs out of 'TryzShelf.lean', which tools/lay-shelf.mjs wrote): THE SAME DECLARATIONS UNDER THE SAME NAMES: 'import', 'namespace', 'open', 'def', 'theorem' AND NOTHING ELSE: no command of the shelf's: FOR A HAND-IN. Each laying: the table of numbers ('.._ren') and one theorem, a field a fact of the dump's own or the kernel's comparison; each contract: ONE APPLICATION.
-/
import Derived.Ground.SlgqProg
import Derived.Ground.SlsfProg
import Derived.Shelf.SlSortCmp.WholeK
import Derived.Shelf.SlicesQ.Equal
import Derived.Shelf.SlGeneric
import Derived.Shelf.Strings.Builder1
import Derived.Shelf.Strings.Builder2
import Derived.Shelf.Small.Bits
import Derived.Shelf.Strings.BuilderF
import Derived.Shelf.Strings.BuilderK
import Derived.Shelf.Strconv.Itoa0
import Derived.Shelf.Strings.Search1
import Derived.Shelf.Strings.Search2
import Derived.Shelf.Strings.Search3
import Derived.Shelf.Strings.Cut
import Derived.Shelf.Strings.Count
import Derived.Shelf.LaysM
import Derived.Shelf.Strings.Shaped
import Derived.Shelf.Strings.Split
import Derived.Shelf.Strings.Fields
import Derived.Shelf.Strings.SplitShaped
import Derived.Shelf.Unicode.Latin
import Derived.Shelf.Bits.Mul64
import Derived.Shelf.Unicode.DecodeSlow
import Derived.Shelf.Unicode.Is16White
import Derived.Shelf.Unicode.IsSpaceAny
import Derived.Shelf.Unicode.Is16Any
import Derived.Shelf.Unicode.Is32Any
import Derived.Shelf.Unicode.ExclAny
import Derived.Shelf.Slices.Turned
import Derived.Ground.SlgnProg
import Derived.Shelf.SlicesE.Clone
import Derived.Test.YtebnbbbiobaneaaGreatDoorProg
namespace Go.Proofs.YtebnbbbiobaneaaGreatDoor
open Go.Shelf
def Tryz.lays170_ren : Go.Shelf.Ren := ⟨fun | 170 => 152 | n => n, fun | 70 => 172 | 3 => 3 | 0 => 0 | 72 => 174 | 37 => 85 | 5 => 5 | n => n, fun | n => n⟩
theorem Tryz.lays170 : Go.Proofs.Lays.n170 Tryz.prog Tryz.lays170_ren := {
  mixed := by kernel_rfl
  f170 := Tryz.func152.trans (congrArg some (by kernel_rfl))
  t0 := Tryz.underlying0
  a0 := Tryz.isAgg0
  z0 := Tryz.sizeOf0
  v0 := Tryz.zeroValue0
  t3 := Tryz.underlying3
  a3 := Tryz.isAgg3
  z3 := Tryz.sizeOf3
  v3 := Tryz.zeroValue3
  t37 := Tryz.underlying85
  a37 := Tryz.isAgg85
  z37 := Tryz.sizeOf85
  v37 := Tryz.zeroValue85
  t70 := Tryz.underlying172
  a70 := Tryz.isAgg172
  z70 := Tryz.sizeOf172
  v70 := Tryz.zeroValue172
  t72 := Tryz.underlying174
  a72 := Tryz.isAgg174
  z72 := Tryz.sizeOf174
  v72 := Tryz.zeroValue174 }
open Go.RowKit in
/-- (*strings.Builder).Len: "Len returns the number of accumulated bytes; b.Len() == len(b.String()).": the world is as it was. (LAID: no walk: one application.) -/
theorem Tryz.Builder_Len (B b : Nat) (bs : List Value) (w : World) (h : Lib.IsBuilder 174 5 B b bs w) :
    Calls Tryz.prog 152 #[.pointer (some ⟨b, 0, none⟩)] w fun e w' => e = .returned (.int .i64 bs.length) ∧ w' = w := Any.Builder_Len Tryz.lays170 B b bs w h
def Tryz.lays169_ren : Go.Shelf.Ren := ⟨fun | 169 => 84 | n => n, fun | 70 => 172 | 9 => 9 | 0 => 0 | 72 => 174 | 37 => 85 | 127 => 254 | 3 => 3 | 5 => 5 | n => n, fun | n => n⟩
theorem Tryz.lays169 : Go.Proofs.Lays.n169 Tryz.prog Tryz.lays169_ren := {
  mixed := by kernel_rfl
  f169 := Tryz.func84.trans (congrArg some (by kernel_rfl))
  t0 := Tryz.underlying0
  a0 := Tryz.isAgg0
  z0 := Tryz.sizeOf0
  v0 := Tryz.zeroValue0
  t3 := Tryz.underlying3
  a3 := Tryz.isAgg3
  z3 := Tryz.sizeOf3
  v3 := Tryz.zeroValue3
  t9 := Tryz.underlying9
  a9 := Tryz.isAgg9
  z9 := Tryz.sizeOf9
  v9 := Tryz.zeroValue9
  t37 := Tryz.underlying85
  a37 := Tryz.isAgg85
  z37 := Tryz.sizeOf85
  v37 := Tryz.zeroValue85
  t70 := Tryz.underlying172
  a70 := Tryz.isAgg172
  z70 := Tryz.sizeOf172
  v70 := Tryz.zeroValue172
  t72 := Tryz.underlying174
  a72 := Tryz.isAgg174
  z72 := Tryz.sizeOf174
  v72 := Tryz.zeroValue174
  t127 := Tryz.underlying254
  a127 := Tryz.isAgg254
  z127 := Tryz.sizeOf254
  v127 := Tryz.zeroValue254 }
theorem Tryz.Builder_Extra_169 : Builder.Extra Tryz.prog Tryz.lays169_ren := {
  sizeBuilder := by kernel_rfl
  liesBuilder := by kernel_rfl
  t5 := Tryz.underlying5
  a5 := Tryz.isAgg5
  z5 := Tryz.sizeOf5
  v5 := Tryz.zeroValue5
  infoByte := by kernel_rfl
  cellsByte := by kernel_rfl
  sizeByte := by kernel_rfl
  neB5 := by decide }
open Go.RowKit in
/-- (*strings.Builder).String: "String returns the accumulated string.": OF A BUILDER THAT HOLDS AT LEAST ONE BYTE. ✋ THE MODEL FREEZES THOSE BYTES IN THE BUFFER (unsafe.String): a later write INTO them ends the model's run without an answer; a later append BEHIND them goes on. The statement's order of evaluation is drawn: one draw. (LAID: no walk: one application.) -/
theorem Tryz.Builder_String (B b : Nat) (l : List UInt8) (w : World) (h : Lib.IsBuilder 174 5 B b (Lib.byteCells l) w) (h0 : l ≠ []) :
    Calls Tryz.prog 84 #[.pointer (some ⟨b, 0, none⟩)] w fun e w' => e = .returned (.string ⟨l.toArray⟩) ∧ Below B w w' := Any.Builder_String Tryz.lays169 Tryz.Builder_Extra_169 B b l w h h0
open Go.RowKit in
/-- (*strings.Builder).String OF A BUILDER THAT HOLDS NO BYTE: the empty string. (Its buffer is nil, or a row of which it has taken nothing yet; where that row has NO capacity the model lays one new block for unsafe.SliceData's 'some address'.) One draw. (LAID: no walk: one application.) -/
theorem Tryz.Builder_String_empty (B b : Nat) (w : World) (h : Lib.IsBuilder 174 5 B b [] w) (hBw : B ≤ w.heap.size) :
    Calls Tryz.prog 84 #[.pointer (some ⟨b, 0, none⟩)] w fun e w' => e = .returned (.string ⟨#[]⟩) ∧ Below B w w' := Any.Builder_String_empty Tryz.lays169 Tryz.Builder_Extra_169 B b w h hBw
open Go.RowKit in
/-- (*strings.Builder).String: "String returns the accumulated string.": WHATEVER THE BUILDER HOLDS. (LAID: no walk: one application.) -/
theorem Tryz.Builder_String_any (B b : Nat) (l : List UInt8) (w : World) (h : Lib.IsBuilder 174 5 B b (Lib.byteCells l) w) (hBw : B ≤ w.heap.size) :
    Calls Tryz.prog 84 #[.pointer (some ⟨b, 0, none⟩)] w fun e w' => e = .returned (.string ⟨l.toArray⟩) ∧ Below B w w' := Any.Builder_String_any Tryz.lays169 Tryz.Builder_Extra_169 B b l w h hBw
def Tryz.lays241_ren : Go.Shelf.Ren := ⟨fun | 241 => 183 | 277 => 206 | n => n, fun | 70 => 172 | 3 => 3 | 0 => 0 | 72 => 174 | 37 => 85 | 5 => 5 | n => n, fun | n => n⟩
theorem Tryz.lays241 : Go.Proofs.Lays.n241 Tryz.prog Tryz.lays241_ren := {
  mixed := by kernel_rfl
  f241 := Tryz.func183.trans (congrArg some (by kernel_rfl))
  f277 := Tryz.func206.trans (congrArg some (by kernel_rfl))
  t0 := Tryz.underlying0
  a0 := Tryz.isAgg0
  z0 := Tryz.sizeOf0
  v0 := Tryz.zeroValue0
  t3 := Tryz.underlying3
  a3 := Tryz.isAgg3
  z3 := Tryz.sizeOf3
  v3 := Tryz.zeroValue3
  t37 := Tryz.underlying85
  a37 := Tryz.isAgg85
  z37 := Tryz.sizeOf85
  v37 := Tryz.zeroValue85
  t70 := Tryz.underlying172
  a70 := Tryz.isAgg172
  z70 := Tryz.sizeOf172
  v70 := Tryz.zeroValue172
  t72 := Tryz.underlying174
  a72 := Tryz.isAgg174
  z72 := Tryz.sizeOf174
  v72 := Tryz.zeroValue174 }
theorem Tryz.Builder_Extra_241 : Builder.Extra Tryz.prog Tryz.lays241_ren := {
  sizeBuilder := by kernel_rfl
  liesBuilder := by kernel_rfl
  t5 := Tryz.underlying5
  a5 := Tryz.isAgg5
  z5 := Tryz.sizeOf5
  v5 := Tryz.zeroValue5
  infoByte := by kernel_rfl
  cellsByte := by kernel_rfl
  sizeByte := by kernel_rfl
  neB5 := by decide }
open Go.RowKit in
/-- (*strings.Builder).grow (no doc but "grow copies the buffer to a new, larger buffer so that there are at least n bytes of capacity beyond len(b.buf)."): AT A BUILDER WITHOUT A BUFFER: a new row of whatever bytes for its buffer, none of them its own yet. Three draws. (LAID: no walk: one application.) -/
theorem Tryz.Builder_grow_fresh (B b n : Nat) (w : World) (hB : B ≤ b) (hbk : w.heap[b]? = some (.cells #[.pointer (some ⟨b, 0, none⟩), .slice none 0 0] 174 (0, 0))) (hBw : B ≤ w.heap.size) (hn : n ≤ 281474976710656) :
    Calls Tryz.prog 183 #[.pointer (some ⟨b, 0, none⟩), .int .i64 n] w fun e w' => e = .returned (.tuple #[]) ∧ (Lib.BuilderAt 174 5 B b (.pointer (some ⟨b, 0, none⟩)) [] w' ∧ Below B w w') := Any.Builder_grow_fresh Tryz.lays241 Tryz.Builder_Extra_241 B b n w hB hbk hBw hn
def Tryz.lays165_ren : Go.Shelf.Ren := ⟨fun | 165 => 149 | 240 => 141 | 241 => 183 | 276 => 181 | 277 => 206 | n => n, fun | 70 => 172 | 3 => 3 | 0 => 0 | 4 => 4 | 9 => 9 | 20 => 20 | 72 => 174 | 37 => 85 | 164 => 292 | 5 => 5 | n => n, fun | n => n⟩
theorem Tryz.lays165 : Go.Proofs.Lays.n165 Tryz.prog Tryz.lays165_ren := {
  mixed := by kernel_rfl
  f165 := Tryz.func149.trans (congrArg some (by kernel_rfl))
  f240 := Tryz.func141.trans (congrArg some (by kernel_rfl))
  f241 := Tryz.func183.trans (congrArg some (by kernel_rfl))
  f276 := Tryz.func181.trans (congrArg some (by kernel_rfl))
  f277 := Tryz.func206.trans (congrArg some (by kernel_rfl))
  t0 := Tryz.underlying0
  a0 := Tryz.isAgg0
  z0 := Tryz.sizeOf0
  v0 := Tryz.zeroValue0
  t3 := Tryz.underlying3
  a3 := Tryz.isAgg3
  z3 := Tryz.sizeOf3
  v3 := Tryz.zeroValue3
  t4 := Tryz.underlying4
  a4 := Tryz.isAgg4
  z4 := Tryz.sizeOf4
  v4 := Tryz.zeroValue4
  t9 := Tryz.underlying9
  a9 := Tryz.isAgg9
  z9 := Tryz.sizeOf9
  v9 := Tryz.zeroValue9
  t20 := Tryz.underlying20
  a20 := Tryz.isAgg20
  z20 := Tryz.sizeOf20
  v20 := Tryz.zeroValue20
  t37 := Tryz.underlying85
  a37 := Tryz.isAgg85
  z37 := Tryz.sizeOf85
  v37 := Tryz.zeroValue85
  t70 := Tryz.underlying172
  a70 := Tryz.isAgg172
  z70 := Tryz.sizeOf172
  v70 := Tryz.zeroValue172
  t72 := Tryz.underlying174
  a72 := Tryz.isAgg174
  z72 := Tryz.sizeOf174
  v72 := Tryz.zeroValue174
  t164 := Tryz.underlying292
  a164 := Tryz.isAgg292
  z164 := Tryz.sizeOf292
  v164 := Tryz.zeroValue292 }
theorem Tryz.Builder_Extra_165 : Builder.Extra Tryz.prog Tryz.lays165_ren := {
  sizeBuilder := by kernel_rfl
  liesBuilder := by kernel_rfl
  t5 := Tryz.underlying5
  a5 := Tryz.isAgg5
  z5 := Tryz.sizeOf5
  v5 := Tryz.zeroValue5
  infoByte := by kernel_rfl
  cellsByte := by kernel_rfl
  sizeByte := by kernel_rfl
  neB5 := by decide }
open Go.RowKit in
/-- (*strings.Builder).Grow AT A BUILDER THAT HAS NOT BEEN WRITTEN ('var b strings.Builder; b.Grow(n)'): "Grow grows b's capacity, if necessary, to guarantee space for another n bytes.": it holds no byte behind it as before it. (LAID: no walk: one application.) -/
theorem Tryz.Builder_Grow_fresh (B b n : Nat) (w : World) (hB : B ≤ b) (hbk : w.heap[b]? = some (.cells #[.pointer none, .slice none 0 0] 174 (0, 0))) (hBw : B ≤ w.heap.size) (hn : n ≤ 281474976710656) :
    Calls Tryz.prog 149 #[.pointer (some ⟨b, 0, none⟩), .int .i64 n] w fun e w' => e = .returned (.tuple #[]) ∧ (Lib.BuilderAt 174 5 B b (.pointer (some ⟨b, 0, none⟩)) [] w' ∧ Below B w w') := Any.Builder_Grow_fresh Tryz.lays165 Tryz.Builder_Extra_165 B b n w hB hbk hBw hn
def Tryz.lays128_ren : Go.Shelf.Ren := ⟨fun | 128 => 217 | n => n, fun | 51 => 287 | 3 => 3 | 4 => 4 | 46 => 260 | 5 => 5 | 9 => 9 | n => n, fun | n => n⟩
theorem Tryz.lays128 : Go.Proofs.Lays.n128 Tryz.prog Tryz.lays128_ren := {
  mixed := by kernel_rfl
  f128 := Tryz.func217.trans (congrArg some (by kernel_rfl))
  t3 := Tryz.underlying3
  a3 := Tryz.isAgg3
  z3 := Tryz.sizeOf3
  v3 := Tryz.zeroValue3
  t4 := Tryz.underlying4
  a4 := Tryz.isAgg4
  z4 := Tryz.sizeOf4
  v4 := Tryz.zeroValue4
  t5 := Tryz.underlying5
  a5 := Tryz.isAgg5
  z5 := Tryz.sizeOf5
  v5 := Tryz.zeroValue5
  t9 := Tryz.underlying9
  a9 := Tryz.isAgg9
  z9 := Tryz.sizeOf9
  v9 := Tryz.zeroValue9
  t46 := Tryz.underlying260
  a46 := Tryz.isAgg260
  z46 := Tryz.sizeOf260
  v46 := Tryz.zeroValue260
  t51 := Tryz.underlying287
  a51 := Tryz.isAgg287
  z51 := Tryz.sizeOf287
  v51 := Tryz.zeroValue287 }
/-- bits.Len32: "Len32 returns the minimum number of bits required to represent x; the result is 0 for x == 0.": IT RETURNS 'Lib.bitLen x'; the world is as it was. ('h0', 'h1': x is a uint32.) (LAID: no walk: one application.) -/
theorem Tryz.bits_Len32 (x : Int) (w : World) (h0 : 0 ≤ x) (h1 : x ≤ 4294967295) :
    Calls Tryz.prog 217 #[.int .u32 x] w fun e w' => e = .returned (.int .i64 (Lib.bitLen x.toNat)) ∧ w' = w := Any.bits_Len32 Tryz.lays128 x w h0 h1
def Tryz.lays125_ren : Go.Shelf.Ren := ⟨fun | 125 => 190 | 128 => 217 | 129 => 218 | n => n, fun | 46 => 260 | 3 => 3 | 51 => 287 | 53 => 35 | 4 => 4 | 5 => 5 | 9 => 9 | n => n, fun | n => n⟩
theorem Tryz.lays125 : Go.Proofs.Lays.n125 Tryz.prog Tryz.lays125_ren := {
  mixed := by kernel_rfl
  f125 := Tryz.func190.trans (congrArg some (by kernel_rfl))
  f128 := Tryz.func217.trans (congrArg some (by kernel_rfl))
  f129 := Tryz.func218.trans (congrArg some (by kernel_rfl))
  t3 := Tryz.underlying3
  a3 := Tryz.isAgg3
  z3 := Tryz.sizeOf3
  v3 := Tryz.zeroValue3
  t4 := Tryz.underlying4
  a4 := Tryz.isAgg4
  z4 := Tryz.sizeOf4
  v4 := Tryz.zeroValue4
  t5 := Tryz.underlying5
  a5 := Tryz.isAgg5
  z5 := Tryz.sizeOf5
  v5 := Tryz.zeroValue5
  t9 := Tryz.underlying9
  a9 := Tryz.isAgg9
  z9 := Tryz.sizeOf9
  v9 := Tryz.zeroValue9
  t46 := Tryz.underlying260
  a46 := Tryz.isAgg260
  z46 := Tryz.sizeOf260
  v46 := Tryz.zeroValue260
  t51 := Tryz.underlying287
  a51 := Tryz.isAgg287
  z51 := Tryz.sizeOf287
  v51 := Tryz.zeroValue287
  t53 := Tryz.underlying35
  a53 := Tryz.isAgg35
  z53 := Tryz.sizeOf35
  v53 := Tryz.zeroValue35 }
/-- bits.Len: "Len returns the minimum number of bits required to represent x; the result is 0 for x == 0.": IT RETURNS 'Lib.bitLen x'; the world is as it was. (A uint has 64 bits in the model.) ITS CALLEE bits.Len64 IS MET BY ITS OWN CONTRACT OFF THE SHELF (lay that first). (LAID: no walk: one application.) -/
theorem Tryz.bits_Len (x : Int) (w : World) (h0 : 0 ≤ x) (h1 : x ≤ 18446744073709551615) :
    Calls Tryz.prog 190 #[.int .u64 x] w fun e w' => e = .returned (.int .i64 (Lib.bitLen x.toNat)) ∧ w' = w := Any.bits_Len Tryz.lays125 x w h0 h1
open Go.RowKit in
/-- (*strings.Builder).Len: "Len returns the number of accumulated bytes; b.Len() == len(b.String()).": the world is as it was. (THE FORM '_f': 'Lib.IsBuilderF'.) (LAID: no walk: one application.) -/
theorem Tryz.Builder_Len_f (B b : Nat) (bs : List Value) (w : World) (h : Lib.IsBuilderF 174 5 B b bs w) :
    Calls Tryz.prog 152 #[.pointer (some ⟨b, 0, none⟩)] w fun e w' => e = .returned (.int .i64 bs.length) ∧ w' = w := Any.Builder_Len_f Tryz.lays170 B b bs w h
open Go.RowKit in
/-- (*strings.Builder).String: "String returns the accumulated string.": OF A BUILDER THAT HOLDS AT LEAST ONE BYTE. ✋ THE MODEL FREEZES THOSE BYTES IN THE BUFFER (unsafe.String): a later write INTO them ends the model's run without an answer; a later append BEHIND them goes on. The statement's order of evaluation is drawn: one draw. THE FORM '_f': IT SAYS BESIDES THAT THE BUILDER IS A BUILDER STILL ('Lib.IsBuilderF', the same bytes): SO IT CAN BE WRITTEN ON: 'b.WriteString(b.String()[:k])'. (LAID: no walk: one application.) -/
theorem Tryz.Builder_String_f (B b : Nat) (l : List UInt8) (w : World) (h : Lib.IsBuilderF 174 5 B b (Lib.byteCells l) w) (h0 : l ≠ []) :
    Calls Tryz.prog 84 #[.pointer (some ⟨b, 0, none⟩)] w fun e w' => e = .returned (.string ⟨l.toArray⟩) ∧ (Lib.IsBuilderF 174 5 B b (Lib.byteCells l) w' ∧ Below B w w') := Any.Builder_String_f Tryz.lays169 Tryz.Builder_Extra_169 B b l w h h0
open Go.RowKit in
/-- (*strings.Builder).String OF A BUILDER THAT HOLDS NO BYTE: the empty string; THE FORM '_f': a builder still. (LAID: no walk: one application.) -/
theorem Tryz.Builder_String_empty_f (B b : Nat) (w : World) (h : Lib.IsBuilderF 174 5 B b [] w) (hBw : B ≤ w.heap.size) :
    Calls Tryz.prog 84 #[.pointer (some ⟨b, 0, none⟩)] w fun e w' => e = .returned (.string ⟨#[]⟩) ∧ (Lib.IsBuilderF 174 5 B b [] w' ∧ Below B w w') := Any.Builder_String_empty_f Tryz.lays169 Tryz.Builder_Extra_169 B b w h hBw
open Go.RowKit in
/-- (*strings.Builder).String: "String returns the accumulated string.": WHATEVER THE BUILDER HOLDS; THE FORM '_f': OF A BUILDER THAT MAY HAVE BEEN READ BEFORE; AND IT IS A BUILDER STILL, holding the same bytes: it can be written on. (LAID: no walk: one application.) -/
theorem Tryz.Builder_String_any_f (B b : Nat) (l : List UInt8) (w : World) (h : Lib.IsBuilderF 174 5 B b (Lib.byteCells l) w) (hBw : B ≤ w.heap.size) :
    Calls Tryz.prog 84 #[.pointer (some ⟨b, 0, none⟩)] w fun e w' => e = .returned (.string ⟨l.toArray⟩) ∧ (Lib.IsBuilderF 174 5 B b (Lib.byteCells l) w' ∧ Below B w w') := Any.Builder_String_any_f Tryz.lays169 Tryz.Builder_Extra_169 B b l w h hBw
open Go.RowKit in
/-- (*strings.Builder).String: "String returns the accumulated string.": OF A BUILDER THAT HOLDS AT LEAST ONE BYTE. ✋ THE MODEL FREEZES THOSE BYTES IN THE BUFFER (unsafe.String): a later write INTO them ends the model's run without an answer; a later append BEHIND them goes on. The statement's order of evaluation is drawn: one draw. THE FORM '_k': OVER 'Lib.IsBuilderF' (a builder that 'String()' may have read), AND WITH THE FRAME THAT REACHES ABOVE THE BUILDER: 'Lib.OthersKept': every block that is not b and is no row of uint8's stands as it stood: the iterator of a range among them. (LAID: no walk: one application.) -/
theorem Tryz.Builder_String_k (B b : Nat) (l : List UInt8) (w : World) (h : Lib.IsBuilderF 174 5 B b (Lib.byteCells l) w) (h0 : l ≠ []) :
    Calls Tryz.prog 84 #[.pointer (some ⟨b, 0, none⟩)] w fun e w' => e = .returned (.string ⟨l.toArray⟩) ∧ (Lib.IsBuilderF 174 5 B b (Lib.byteCells l) w' ∧ Below B w w' ∧ Lib.OthersKept 5 (some b) w w') := Any.Builder_String_k Tryz.lays169 Tryz.Builder_Extra_169 B b l w h h0
open Go.RowKit in
/-- (*strings.Builder).String OF A BUILDER THAT HOLDS NO BYTE: the empty string; THE FORM '_k': OVER 'Lib.IsBuilderF' (a builder that 'String()' may have read), AND WITH THE FRAME THAT REACHES ABOVE THE BUILDER: 'Lib.OthersKept': every block that is not b and is no row of uint8's stands as it stood: the iterator of a range among them. (LAID: no walk: one application.) -/
theorem Tryz.Builder_String_empty_k (B b : Nat) (w : World) (h : Lib.IsBuilderF 174 5 B b [] w) (hBw : B ≤ w.heap.size) :
    Calls Tryz.prog 84 #[.pointer (some ⟨b, 0, none⟩)] w fun e w' => e = .returned (.string ⟨#[]⟩) ∧ (Lib.IsBuilderF 174 5 B b [] w' ∧ Below B w w' ∧ Lib.OthersKept 5 (some b) w w') := Any.Builder_String_empty_k Tryz.lays169 Tryz.Builder_Extra_169 B b w h hBw
open Go.RowKit in
/-- (*strings.Builder).String: "String returns the accumulated string.": WHATEVER THE BUILDER HOLDS; THE FORM '_k': OVER 'Lib.IsBuilderF' (a builder that 'String()' may have read), AND WITH THE FRAME THAT REACHES ABOVE THE BUILDER: 'Lib.OthersKept': every block that is not b and is no row of uint8's stands as it stood: the iterator of a range among them. (LAID: no walk: one application.) -/
theorem Tryz.Builder_String_any_k (B b : Nat) (l : List UInt8) (w : World) (h : Lib.IsBuilderF 174 5 B b (Lib.byteCells l) w) (hBw : B ≤ w.heap.size) :
    Calls Tryz.prog 84 #[.pointer (some ⟨b, 0, none⟩)] w fun e w' => e = .returned (.string ⟨l.toArray⟩) ∧ (Lib.IsBuilderF 174 5 B b (Lib.byteCells l) w' ∧ Below B w w' ∧ Lib.OthersKept 5 (some b) w w') := Any.Builder_String_any_k Tryz.lays169 Tryz.Builder_Extra_169 B b l w h hBw
def Tryz.lays129_ren : Go.Shelf.Ren := ⟨fun | 129 => 218 | n => n, fun | 53 => 35 | 3 => 3 | 4 => 4 | 46 => 260 | 5 => 5 | 9 => 9 | n => n, fun | n => n⟩
theorem Tryz.lays129 : Go.Proofs.Lays.n129 Tryz.prog Tryz.lays129_ren := {
  mixed := by kernel_rfl
  f129 := Tryz.func218.trans (congrArg some (by kernel_rfl))
  t3 := Tryz.underlying3
  a3 := Tryz.isAgg3
  z3 := Tryz.sizeOf3
  v3 := Tryz.zeroValue3
  t4 := Tryz.underlying4
  a4 := Tryz.isAgg4
  z4 := Tryz.sizeOf4
  v4 := Tryz.zeroValue4
  t5 := Tryz.underlying5
  a5 := Tryz.isAgg5
  z5 := Tryz.sizeOf5
  v5 := Tryz.zeroValue5
  t9 := Tryz.underlying9
  a9 := Tryz.isAgg9
  z9 := Tryz.sizeOf9
  v9 := Tryz.zeroValue9
  t46 := Tryz.underlying260
  a46 := Tryz.isAgg260
  z46 := Tryz.sizeOf260
  v46 := Tryz.zeroValue260
  t53 := Tryz.underlying35
  a53 := Tryz.isAgg35
  z53 := Tryz.sizeOf35
  v53 := Tryz.zeroValue35 }
/-- bits.Len64: "Len64 returns the minimum number of bits required to represent x; the result is 0 for x == 0.": IT RETURNS 'Lib.bitLen x'; the world is as it was. ('h0', 'h1': x is a uint64.) (LAID: no walk: one application.) -/
theorem Tryz.bits_Len64 (x : Int) (w : World) (h0 : 0 ≤ x) (h1 : x ≤ 18446744073709551615) :
    Calls Tryz.prog 218 #[.int .u64 x] w fun e w' => e = .returned (.int .i64 (Lib.bitLen x.toNat)) ∧ w' = w := Any.bits_Len64 Tryz.lays129 x w h0 h1
def Tryz.lays217_ren : Go.Shelf.Ren := ⟨fun | 217 => 199 | 266 => 228 | n => n, fun | 9 => 9 | 5 => 5 | 3 => 3 | n => n, fun | n => n⟩
theorem Tryz.lays217 : Go.Proofs.Lays.n217 Tryz.prog Tryz.lays217_ren := {
  mixed := by kernel_rfl
  f217 := Tryz.func199.trans (congrArg some (by kernel_rfl))
  f266 := Tryz.func228.trans (congrArg some (by kernel_rfl))
  t3 := Tryz.underlying3
  a3 := Tryz.isAgg3
  z3 := Tryz.sizeOf3
  v3 := Tryz.zeroValue3
  t5 := Tryz.underlying5
  a5 := Tryz.isAgg5
  z5 := Tryz.sizeOf5
  v5 := Tryz.zeroValue5
  t9 := Tryz.underlying9
  a9 := Tryz.isAgg9
  z9 := Tryz.sizeOf9
  v9 := Tryz.zeroValue9 }
open Go.RowKit Go.Lib in
/-- internal/stringslite.IndexByte (what strings.IndexByte calls): IT RETURNS 'Lib.indexByte s c'; the world is as it was. (LAID: no walk: one application.) -/
theorem Tryz.stringslite_IndexByte (s : ByteArray) (c : Int) (w : World) :
    Calls Tryz.prog 199 #[.string s, .int .u8 c] w fun e w' => e = .returned (.int .i64 (Lib.indexByte s.data.toList c.toNat.toUInt8)) ∧ w' = w := Any.stringslite_IndexByte Tryz.lays217 s c w
def Tryz.lays224_ren : Go.Shelf.Ren := ⟨fun | 224 => 201 | n => n, fun | 3 => 3 | n => n, fun | n => n⟩
theorem Tryz.lays224 : Go.Proofs.Lays.n224 Tryz.prog Tryz.lays224_ren := {
  mixed := by kernel_rfl
  f224 := Tryz.func201.trans (congrArg some (by kernel_rfl))
  t3 := Tryz.underlying3
  a3 := Tryz.isAgg3
  z3 := Tryz.sizeOf3
  v3 := Tryz.zeroValue3 }
open Go.RowKit Go.Lib in
/-- internal/bytealg.Cutover: "Cutover reports the number of failures of IndexByte we should tolerate before switching over to Index. n is the number of bytes processed so far.": on amd64: (n + 16) / 8. (LAID: no walk: one application.) -/
theorem Tryz.bytealg_Cutover (n : Int) (h0 : 0 ≤ n) (h1 : n < 4611686018427387904) (w : World) :
    Calls Tryz.prog 201 #[.int .i64 n] w fun e w' => e = .returned (.int .i64 ((n + 16) / 8)) ∧ w' = w := Any.bytealg_Cutover Tryz.lays224 n h0 h1 w
def Tryz.lays314_ren : Go.Shelf.Ren := ⟨fun | 314 => 229 | n => n, fun | 9 => 9 | 51 => 287 | 3 => 3 | 4 => 4 | 5 => 5 | 46 => 260 | n => n, fun | n => n⟩
theorem Tryz.lays314 : Go.Proofs.Lays.n314 Tryz.prog Tryz.lays314_ren := {
  mixed := by kernel_rfl
  f314 := Tryz.func229.trans (congrArg some (by kernel_rfl))
  t3 := Tryz.underlying3
  a3 := Tryz.isAgg3
  z3 := Tryz.sizeOf3
  v3 := Tryz.zeroValue3
  t4 := Tryz.underlying4
  a4 := Tryz.isAgg4
  z4 := Tryz.sizeOf4
  v4 := Tryz.zeroValue4
  t5 := Tryz.underlying5
  a5 := Tryz.isAgg5
  z5 := Tryz.sizeOf5
  v5 := Tryz.zeroValue5
  t9 := Tryz.underlying9
  a9 := Tryz.isAgg9
  z9 := Tryz.sizeOf9
  v9 := Tryz.zeroValue9
  t46 := Tryz.underlying260
  a46 := Tryz.isAgg260
  z46 := Tryz.sizeOf260
  v46 := Tryz.zeroValue260
  t51 := Tryz.underlying287
  a51 := Tryz.isAgg287
  z51 := Tryz.sizeOf287
  v51 := Tryz.zeroValue287 }
open Go.RowKit Go.Lib in
/-- hashStr: "returns the hash and the appropriate multiplicative factor for use in Rabin-Karp algorithm": THE HASH OF ALL OF sep, AND 16777619 ^ len(sep), both in uint32. (LAID: no walk: one application.) -/
theorem Tryz.bytealg_hashStr (sep : ByteArray) (hs : sep.size < 4294967281) (w : World) :
    Calls Tryz.prog 229 #[.string sep] w fun e w' => e = .returned (.tuple #[.int .u32 (RK.H sep.data.toList % 4294967296), .int .u32 (16777619 ^ sep.size % 4294967296)]) ∧ w' = w := Any.bytealg_hashStr Tryz.lays314 sep hs w
def Tryz.lays267_ren : Go.Shelf.Ren := ⟨fun | 267 => 202 | 314 => 229 | n => n, fun | 9 => 9 | 3 => 3 | 146 => 294 | 51 => 287 | 4 => 4 | 5 => 5 | 46 => 260 | n => n, fun | n => n⟩
theorem Tryz.lays267 : Go.Proofs.Lays.n267 Tryz.prog Tryz.lays267_ren := {
  mixed := by kernel_rfl
  f267 := Tryz.func202.trans (congrArg some (by kernel_rfl))
  f314 := Tryz.func229.trans (congrArg some (by kernel_rfl))
  t3 := Tryz.underlying3
  a3 := Tryz.isAgg3
  z3 := Tryz.sizeOf3
  v3 := Tryz.zeroValue3
  t4 := Tryz.underlying4
  a4 := Tryz.isAgg4
  z4 := Tryz.sizeOf4
  v4 := Tryz.zeroValue4
  t5 := Tryz.underlying5
  a5 := Tryz.isAgg5
  z5 := Tryz.sizeOf5
  v5 := Tryz.zeroValue5
  t9 := Tryz.underlying9
  a9 := Tryz.isAgg9
  z9 := Tryz.sizeOf9
  v9 := Tryz.zeroValue9
  t46 := Tryz.underlying260
  a46 := Tryz.isAgg260
  z46 := Tryz.sizeOf260
  v46 := Tryz.zeroValue260
  t51 := Tryz.underlying287
  a51 := Tryz.isAgg287
  z51 := Tryz.sizeOf287
  v51 := Tryz.zeroValue287
  t146 := Tryz.underlying294
  a146 := Tryz.isAgg294
  z146 := Tryz.sizeOf294
  v146 := Tryz.zeroValue294 }
open Go.RowKit Go.Lib in
theorem Tryz.bytealg_IndexRabinKarp (s sep : ByteArray) (h1 : 1 ≤ sep.size) (h2 : sep.size ≤ s.size) (hs : s.size < 4294967281) (w : World) :
    Calls Tryz.prog 202 #[.string s, .string sep] w fun e w' => e = .returned (.int .i64 (Lib.index s.data.toList sep.data.toList)) ∧ w' = w := Any.bytealg_IndexRabinKarp Tryz.lays267 s sep h1 h2 hs w
def Tryz.lays219_ren : Go.Shelf.Ren := ⟨fun | 219 => 178 | 217 => 199 | 225 => 200 | 224 => 201 | 267 => 202 | 266 => 228 | 314 => 229 | n => n, fun | 9 => 9 | 3 => 3 | 4 => 4 | 5 => 5 | 46 => 260 | 146 => 294 | 51 => 287 | n => n, fun | 1 => 2 | n => n⟩
theorem Tryz.lays219 : Go.Proofs.Lays.n219 Tryz.prog Tryz.lays219_ren := {
  mixed := by kernel_rfl
  f217 := Tryz.func199.trans (congrArg some (by kernel_rfl))
  f219 := Tryz.func178.trans (congrArg some (by kernel_rfl))
  f224 := Tryz.func201.trans (congrArg some (by kernel_rfl))
  f225 := Tryz.func200.trans (congrArg some (by kernel_rfl))
  f266 := Tryz.func228.trans (congrArg some (by kernel_rfl))
  f267 := Tryz.func202.trans (congrArg some (by kernel_rfl))
  f314 := Tryz.func229.trans (congrArg some (by kernel_rfl))
  t3 := Tryz.underlying3
  a3 := Tryz.isAgg3
  z3 := Tryz.sizeOf3
  v3 := Tryz.zeroValue3
  t4 := Tryz.underlying4
  a4 := Tryz.isAgg4
  z4 := Tryz.sizeOf4
  v4 := Tryz.zeroValue4
  t5 := Tryz.underlying5
  a5 := Tryz.isAgg5
  z5 := Tryz.sizeOf5
  v5 := Tryz.zeroValue5
  t9 := Tryz.underlying9
  a9 := Tryz.isAgg9
  z9 := Tryz.sizeOf9
  v9 := Tryz.zeroValue9
  t46 := Tryz.underlying260
  a46 := Tryz.isAgg260
  z46 := Tryz.sizeOf260
  v46 := Tryz.zeroValue260
  t51 := Tryz.underlying287
  a51 := Tryz.isAgg287
  z51 := Tryz.sizeOf287
  v51 := Tryz.zeroValue287
  t146 := Tryz.underlying294
  a146 := Tryz.isAgg294
  z146 := Tryz.sizeOf294
  v146 := Tryz.zeroValue294
  g1 := by kernel_rfl }
open Go.RowKit Go.Lib in
/-- internal/stringslite.Index (what strings.Index calls) AT A substr OF ONE BYTE c: IT RETURNS 'Lib.indexByte s c'; the world is as it was. (LAID: no walk: one application.) -/
theorem Tryz.stringslite_Index_one (s : ByteArray) (c : UInt8) (w : World) :
    Calls Tryz.prog 178 #[.string s, .string ⟨#[c]⟩] w fun e w' => e = .returned (.int .i64 (Lib.indexByte s.data.toList c)) ∧ w' = w := Any.stringslite_Index_one Tryz.lays219 s c w
open Go.RowKit Go.Lib in
/-- internal/stringslite.Index (what strings.Index calls) AT A substr OF WHATEVER LENGTH: IT RETURNS 'Lib.index s substr'; the world is as it was. 'm': what internal/bytealg.MaxLen holds: whatever. (LAID: no walk: one application.) -/
theorem Tryz.stringslite_Index (s sub : ByteArray) (m : Int) (w : World) (hs : s.size < 4294967281) (hm : w.cell? ⟨2, 0, none⟩ = some (.int .i64 m)) :
    Calls Tryz.prog 178 #[.string s, .string sub] w fun e w' => e = .returned (.int .i64 (Lib.index s.data.toList sub.data.toList)) ∧ w' = w := Any.stringslite_Index Tryz.lays219 s sub m w hs hm
def Tryz.lays143_ren : Go.Shelf.Ren := ⟨fun | 143 => 177 | 219 => 178 | 217 => 199 | 225 => 200 | 224 => 201 | 267 => 202 | 266 => 228 | 314 => 229 | n => n, fun | 9 => 9 | 3 => 3 | 4 => 4 | 5 => 5 | 46 => 260 | 146 => 294 | 51 => 287 | n => n, fun | 1 => 2 | n => n⟩
theorem Tryz.lays143 : Go.Proofs.Lays.n143 Tryz.prog Tryz.lays143_ren := {
  mixed := by kernel_rfl
  f143 := Tryz.func177.trans (congrArg some (by kernel_rfl))
  f217 := Tryz.func199.trans (congrArg some (by kernel_rfl))
  f219 := Tryz.func178.trans (congrArg some (by kernel_rfl))
  f224 := Tryz.func201.trans (congrArg some (by kernel_rfl))
  f225 := Tryz.func200.trans (congrArg some (by kernel_rfl))
  f266 := Tryz.func228.trans (congrArg some (by kernel_rfl))
  f267 := Tryz.func202.trans (congrArg some (by kernel_rfl))
  f314 := Tryz.func229.trans (congrArg some (by kernel_rfl))
  t3 := Tryz.underlying3
  a3 := Tryz.isAgg3
  z3 := Tryz.sizeOf3
  v3 := Tryz.zeroValue3
  t4 := Tryz.underlying4
  a4 := Tryz.isAgg4
  z4 := Tryz.sizeOf4
  v4 := Tryz.zeroValue4
  t5 := Tryz.underlying5
  a5 := Tryz.isAgg5
  z5 := Tryz.sizeOf5
  v5 := Tryz.zeroValue5
  t9 := Tryz.underlying9
  a9 := Tryz.isAgg9
  z9 := Tryz.sizeOf9
  v9 := Tryz.zeroValue9
  t46 := Tryz.underlying260
  a46 := Tryz.isAgg260
  z46 := Tryz.sizeOf260
  v46 := Tryz.zeroValue260
  t51 := Tryz.underlying287
  a51 := Tryz.isAgg287
  z51 := Tryz.sizeOf287
  v51 := Tryz.zeroValue287
  t146 := Tryz.underlying294
  a146 := Tryz.isAgg294
  z146 := Tryz.sizeOf294
  v146 := Tryz.zeroValue294
  g1 := by kernel_rfl }
open Go.RowKit Go.Lib in
/-- strings.Index: "Index returns the index of the first instance of substr in s, or -1 if substr is not present in s.": AT A substr OF ONE BYTE c: IT RETURNS 'Lib.indexByte s c'; the world is as it was. (LAID: no walk: one application.) -/
theorem Tryz.strings_Index_one (s : ByteArray) (c : UInt8) (w : World) :
    Calls Tryz.prog 177 #[.string s, .string ⟨#[c]⟩] w fun e w' => e = .returned (.int .i64 (Lib.indexByte s.data.toList c)) ∧ w' = w := Any.strings_Index_one Tryz.lays143 s c w
open Go.RowKit Go.Lib in
/-- strings.Index: "Index returns the index of the first instance of substr in s, or -1 if substr is not present in s.": IT RETURNS 'Lib.index s substr'; the world is as it was. (LAID: no walk: one application.) -/
theorem Tryz.strings_Index (s sub : ByteArray) (m : Int) (w : World) (hs : s.size < 4294967281) (hm : w.cell? ⟨2, 0, none⟩ = some (.int .i64 m)) :
    Calls Tryz.prog 177 #[.string s, .string sub] w fun e w' => e = .returned (.int .i64 (Lib.index s.data.toList sub.data.toList)) ∧ w' = w := Any.strings_Index Tryz.lays143 s sub m w hs hm
def Tryz.lays220_ren : Go.Shelf.Ren := ⟨fun | 220 => 135 | 219 => 178 | 217 => 199 | 225 => 200 | 224 => 201 | 267 => 202 | 266 => 228 | 314 => 229 | n => n, fun | 9 => 9 | 4 => 4 | 3 => 3 | 5 => 5 | 46 => 260 | 146 => 294 | 51 => 287 | n => n, fun | 1 => 2 | n => n⟩
theorem Tryz.lays220 : Go.Proofs.Lays.n220 Tryz.prog Tryz.lays220_ren := {
  mixed := by kernel_rfl
  f217 := Tryz.func199.trans (congrArg some (by kernel_rfl))
  f219 := Tryz.func178.trans (congrArg some (by kernel_rfl))
  f220 := Tryz.func135.trans (congrArg some (by kernel_rfl))
  f224 := Tryz.func201.trans (congrArg some (by kernel_rfl))
  f225 := Tryz.func200.trans (congrArg some (by kernel_rfl))
  f266 := Tryz.func228.trans (congrArg some (by kernel_rfl))
  f267 := Tryz.func202.trans (congrArg some (by kernel_rfl))
  f314 := Tryz.func229.trans (congrArg some (by kernel_rfl))
  t3 := Tryz.underlying3
  a3 := Tryz.isAgg3
  z3 := Tryz.sizeOf3
  v3 := Tryz.zeroValue3
  t4 := Tryz.underlying4
  a4 := Tryz.isAgg4
  z4 := Tryz.sizeOf4
  v4 := Tryz.zeroValue4
  t5 := Tryz.underlying5
  a5 := Tryz.isAgg5
  z5 := Tryz.sizeOf5
  v5 := Tryz.zeroValue5
  t9 := Tryz.underlying9
  a9 := Tryz.isAgg9
  z9 := Tryz.sizeOf9
  v9 := Tryz.zeroValue9
  t46 := Tryz.underlying260
  a46 := Tryz.isAgg260
  z46 := Tryz.sizeOf260
  v46 := Tryz.zeroValue260
  t51 := Tryz.underlying287
  a51 := Tryz.isAgg287
  z51 := Tryz.sizeOf287
  v51 := Tryz.zeroValue287
  t146 := Tryz.underlying294
  a146 := Tryz.isAgg294
  z146 := Tryz.sizeOf294
  v146 := Tryz.zeroValue294
  g1 := by kernel_rfl }
open Go.RowKit Go.Lib in
/-- internal/stringslite.Cut (what strings.Cut calls): IT RETURNS 'Lib.cut s sep'; the world is as it was but for the count of draws. (LAID: no walk: one application.) -/
theorem Tryz.stringslite_Cut (s sep : ByteArray) (m : Int) (w : World) (hs : s.size < 4294967281) (hm : w.cell? ⟨2, 0, none⟩ = some (.int .i64 m)) :
    Calls Tryz.prog 135 #[.string s, .string sep] w fun e w' => e = .returned (.tuple #[.string ⟨(Lib.cut s.data.toList sep.data.toList).1.toArray⟩, .string ⟨(Lib.cut s.data.toList sep.data.toList).2.1.toArray⟩, .bool (Lib.cut s.data.toList sep.data.toList).2.2]) ∧ ∃ n, w' = w.drewN n := Any.stringslite_Cut Tryz.lays220 s sep m w hs hm
def Tryz.lays145_ren : Go.Shelf.Ren := ⟨fun | 145 => 77 | 220 => 135 | 219 => 178 | 217 => 199 | 225 => 200 | 224 => 201 | 267 => 202 | 266 => 228 | 314 => 229 | n => n, fun | 9 => 9 | 4 => 4 | 59 => 164 | 3 => 3 | 5 => 5 | 46 => 260 | 146 => 294 | 51 => 287 | n => n, fun | 1 => 2 | n => n⟩
theorem Tryz.lays145 : Go.Proofs.Lays.n145 Tryz.prog Tryz.lays145_ren := {
  mixed := by kernel_rfl
  f145 := Tryz.func77.trans (congrArg some (by kernel_rfl))
  f217 := Tryz.func199.trans (congrArg some (by kernel_rfl))
  f219 := Tryz.func178.trans (congrArg some (by kernel_rfl))
  f220 := Tryz.func135.trans (congrArg some (by kernel_rfl))
  f224 := Tryz.func201.trans (congrArg some (by kernel_rfl))
  f225 := Tryz.func200.trans (congrArg some (by kernel_rfl))
  f266 := Tryz.func228.trans (congrArg some (by kernel_rfl))
  f267 := Tryz.func202.trans (congrArg some (by kernel_rfl))
  f314 := Tryz.func229.trans (congrArg some (by kernel_rfl))
  t3 := Tryz.underlying3
  a3 := Tryz.isAgg3
  z3 := Tryz.sizeOf3
  v3 := Tryz.zeroValue3
  t4 := Tryz.underlying4
  a4 := Tryz.isAgg4
  z4 := Tryz.sizeOf4
  v4 := Tryz.zeroValue4
  t5 := Tryz.underlying5
  a5 := Tryz.isAgg5
  z5 := Tryz.sizeOf5
  v5 := Tryz.zeroValue5
  t9 := Tryz.underlying9
  a9 := Tryz.isAgg9
  z9 := Tryz.sizeOf9
  v9 := Tryz.zeroValue9
  t46 := Tryz.underlying260
  a46 := Tryz.isAgg260
  z46 := Tryz.sizeOf260
  v46 := Tryz.zeroValue260
  t51 := Tryz.underlying287
  a51 := Tryz.isAgg287
  z51 := Tryz.sizeOf287
  v51 := Tryz.zeroValue287
  t59 := Tryz.underlying164
  a59 := Tryz.isAgg164
  z59 := Tryz.sizeOf164
  v59 := Tryz.zeroValue164
  t146 := Tryz.underlying294
  a146 := Tryz.isAgg294
  z146 := Tryz.sizeOf294
  v146 := Tryz.zeroValue294
  g1 := by kernel_rfl }
open Go.RowKit Go.Lib in
/-- strings.Cut: "Cut slices s around the first instance of sep, returning the text before and after sep. The found result reports whether sep appears in s. If sep does not appear in s, cut returns s, "", false.": IT RETURNS 'Lib.cut s sep'; the world is as it was but for the count of draws. (LAID: no walk: one application.) -/
theorem Tryz.strings_Cut (s sep : ByteArray) (m : Int) (w : World) (hs : s.size < 4294967281) (hm : w.cell? ⟨2, 0, none⟩ = some (.int .i64 m)) :
    Calls Tryz.prog 77 #[.string s, .string sep] w fun e w' => e = .returned (.tuple #[.string ⟨(Lib.cut s.data.toList sep.data.toList).1.toArray⟩, .string ⟨(Lib.cut s.data.toList sep.data.toList).2.1.toArray⟩, .bool (Lib.cut s.data.toList sep.data.toList).2.2]) ∧ ∃ n, w' = w.drewN n := Any.strings_Cut Tryz.lays145 s sep m w hs hm
def Tryz.lays138_ren : Go.Shelf.Ren := ⟨fun | 138 => 176 | 195 => 196 | 218 => 198 | 143 => 177 | 219 => 178 | 217 => 199 | 225 => 200 | 224 => 201 | 267 => 202 | 266 => 228 | 314 => 229 | n => n, fun | 9 => 9 | 3 => 3 | 4 => 4 | 5 => 5 | 0 => 0 | 46 => 260 | 146 => 294 | 51 => 287 | n => n, fun | 1 => 2 | n => n⟩
theorem Tryz.lays138 : Go.Proofs.Lays.n138 Tryz.prog Tryz.lays138_ren := {
  mixed := by kernel_rfl
  f138 := Tryz.func176.trans (congrArg some (by kernel_rfl))
  f143 := Tryz.func177.trans (congrArg some (by kernel_rfl))
  f195 := Tryz.func196.trans (congrArg some (by kernel_rfl))
  f217 := Tryz.func199.trans (congrArg some (by kernel_rfl))
  f218 := Tryz.func198.trans (congrArg some (by kernel_rfl))
  f219 := Tryz.func178.trans (congrArg some (by kernel_rfl))
  f224 := Tryz.func201.trans (congrArg some (by kernel_rfl))
  f225 := Tryz.func200.trans (congrArg some (by kernel_rfl))
  f266 := Tryz.func228.trans (congrArg some (by kernel_rfl))
  f267 := Tryz.func202.trans (congrArg some (by kernel_rfl))
  f314 := Tryz.func229.trans (congrArg some (by kernel_rfl))
  t0 := Tryz.underlying0
  a0 := Tryz.isAgg0
  z0 := Tryz.sizeOf0
  v0 := Tryz.zeroValue0
  t3 := Tryz.underlying3
  a3 := Tryz.isAgg3
  z3 := Tryz.sizeOf3
  v3 := Tryz.zeroValue3
  t4 := Tryz.underlying4
  a4 := Tryz.isAgg4
  z4 := Tryz.sizeOf4
  v4 := Tryz.zeroValue4
  t5 := Tryz.underlying5
  a5 := Tryz.isAgg5
  z5 := Tryz.sizeOf5
  v5 := Tryz.zeroValue5
  t9 := Tryz.underlying9
  a9 := Tryz.isAgg9
  z9 := Tryz.sizeOf9
  v9 := Tryz.zeroValue9
  t46 := Tryz.underlying260
  a46 := Tryz.isAgg260
  z46 := Tryz.sizeOf260
  v46 := Tryz.zeroValue260
  t51 := Tryz.underlying287
  a51 := Tryz.isAgg287
  z51 := Tryz.sizeOf287
  v51 := Tryz.zeroValue287
  t146 := Tryz.underlying294
  a146 := Tryz.isAgg294
  z146 := Tryz.sizeOf294
  v146 := Tryz.zeroValue294
  g1 := by kernel_rfl }
open Go.RowKit Go.Lib in
/-- strings.Count AT A substr OF ONE BYTE ('hp'): "Count counts the number of non-overlapping instances of substr in s.": IT RETURNS 'Lib.countByte s (that byte)'; the world is as it was. ✋ NO CONTRACT HERE YET at an empty substr (utf8.RuneCountInString) or at a longer one (a loop over strings.Index). (LAID: no walk: one application.) -/
theorem Tryz.strings_Count_one (s : ByteArray) (c : UInt8) (w : World) :
    Calls Tryz.prog 176 #[.string s, .string ⟨#[c]⟩] w fun e w' => e = .returned (.int .i64 (Lib.countByte s.data.toList c)) ∧ w' = w := Any.strings_Count_one Tryz.lays138 s c w
open Go.RowKit Go.Lib in
/-- strings.Count AT A substr OF TWO BYTES OR MORE: "Count counts the number of non-overlapping instances of substr in s.": IT RETURNS 'Lib.count s substr'; the world is as it was. (LAID: no walk: one application.) -/
theorem Tryz.strings_Count (s sub : ByteArray) (m : Int) (w : World) (hs : s.size < 4294967281) (hm : w.cell? ⟨2, 0, none⟩ = some (.int .i64 m)) (h2 : 2 ≤ sub.size) :
    Calls Tryz.prog 176 #[.string s, .string sub] w fun e w' => e = .returned (.int .i64 (Lib.countB s sub)) ∧ w' = w := Any.strings_Count Tryz.lays138 s sub m w hs hm h2
open Go.RowKit Go.Lib in
/-- strings.Count at whatever sep that is not empty: the two roads under one statement. (LAID: no walk: one application.) -/
theorem Tryz.strings_Count_any (s sep : ByteArray) (m : Int) (w : World) (hs : s.size < 4294967281) (hm : w.cell? ⟨2, 0, none⟩ = some (.int .i64 m)) (h1 : 1 ≤ sep.size) :
    Calls Tryz.prog 176 #[.string s, .string sep] w fun e w' => e = .returned (.int .i64 (Lib.countB s sep)) ∧ w' = w := Any.strings_Count_any Tryz.lays138 s sep m w hs hm h1
def Tryz.lays221_ren : Go.Shelf.Ren := ⟨fun | 221 => 134 | 268 => 175 | 138 => 176 | 143 => 177 | 195 => 196 | 197 => 197 | 218 => 198 | 219 => 178 | 260 => 227 | 217 => 199 | 225 => 200 | 224 => 201 | 267 => 202 | 266 => 228 | 314 => 229 | n => n, fun | 9 => 9 | 3 => 3 | 31 => 46 | 4 => 4 | 0 => 0 | 105 => 307 | 21 => 21 | 5 => 5 | 46 => 260 | 119 => 245 | 139 => 359 | 138 => 358 | 146 => 294 | 51 => 287 | n => n, fun | 1 => 2 | 3 => 3 | 4 => 4 | n => n⟩
theorem Tryz.lays221 : Go.Proofs.Lays.n221 Tryz.prog Tryz.lays221_ren := {
  mixed := by kernel_rfl
  f138 := Tryz.func176.trans (congrArg some (by kernel_rfl))
  f143 := Tryz.func177.trans (congrArg some (by kernel_rfl))
  f195 := Tryz.func196.trans (congrArg some (by kernel_rfl))
  f197 := Tryz.func197.trans (congrArg some (by kernel_rfl))
  f217 := Tryz.func199.trans (congrArg some (by kernel_rfl))
  f218 := Tryz.func198.trans (congrArg some (by kernel_rfl))
  f219 := Tryz.func178.trans (congrArg some (by kernel_rfl))
  f221 := Tryz.func134.trans (congrArg some (by kernel_rfl))
  f224 := Tryz.func201.trans (congrArg some (by kernel_rfl))
  f225 := Tryz.func200.trans (congrArg some (by kernel_rfl))
  f260 := Tryz.func227.trans (congrArg some (by kernel_rfl))
  f266 := Tryz.func228.trans (congrArg some (by kernel_rfl))
  f267 := Tryz.func202.trans (congrArg some (by kernel_rfl))
  f268 := Tryz.func175.trans (congrArg some (by kernel_rfl))
  f314 := Tryz.func229.trans (congrArg some (by kernel_rfl))
  t0 := Tryz.underlying0
  a0 := Tryz.isAgg0
  z0 := Tryz.sizeOf0
  v0 := Tryz.zeroValue0
  t3 := Tryz.underlying3
  a3 := Tryz.isAgg3
  z3 := Tryz.sizeOf3
  v3 := Tryz.zeroValue3
  t4 := Tryz.underlying4
  a4 := Tryz.isAgg4
  z4 := Tryz.sizeOf4
  v4 := Tryz.zeroValue4
  t5 := Tryz.underlying5
  a5 := Tryz.isAgg5
  z5 := Tryz.sizeOf5
  v5 := Tryz.zeroValue5
  t9 := Tryz.underlying9
  a9 := Tryz.isAgg9
  z9 := Tryz.sizeOf9
  v9 := Tryz.zeroValue9
  t21 := Tryz.underlying21
  a21 := Tryz.isAgg21
  z21 := Tryz.sizeOf21
  v21 := Tryz.zeroValue21
  t31 := Tryz.underlying46
  a31 := Tryz.isAgg46
  z31 := Tryz.sizeOf46
  v31 := Tryz.zeroValue46
  t46 := Tryz.underlying260
  a46 := Tryz.isAgg260
  z46 := Tryz.sizeOf260
  v46 := Tryz.zeroValue260
  t51 := Tryz.underlying287
  a51 := Tryz.isAgg287
  z51 := Tryz.sizeOf287
  v51 := Tryz.zeroValue287
  t105 := Tryz.underlying307
  a105 := Tryz.isAgg307
  z105 := Tryz.sizeOf307
  v105 := Tryz.zeroValue307
  t119 := Tryz.underlying245
  a119 := Tryz.isAgg245
  z119 := Tryz.sizeOf245
  t138 := Tryz.underlying358
  a138 := Tryz.isAgg358
  z138 := Tryz.sizeOf358
  v138 := Tryz.zeroValue358
  t139 := Tryz.underlying359
  a139 := Tryz.isAgg359
  z139 := Tryz.sizeOf359
  v139 := Tryz.zeroValue359
  t146 := Tryz.underlying294
  a146 := Tryz.isAgg294
  z146 := Tryz.sizeOf294
  v146 := Tryz.zeroValue294
  g1 := by kernel_rfl
  g3 := by kernel_rfl
  g4 := by kernel_rfl }
open Go.RowKit Go.Lib in
theorem Tryz.strings_genSplit (s sep : ByteArray) (sv : Nat) (n : Int) (N : Nat) (m : Int) (w : World) (hs : s.size < 4294967281) (hm : w.cell? ⟨2, 0, none⟩ = some (.int .i64 m)) (h1 : 1 ≤ sep.size) (hsv : sv ≤ sep.size) (hn0 : n ≠ 0) (hn63 : n ≤ 9223372036854775807) (hN : (N : Int) = min (if n < 0 then (Lib.countB s sep : Int) + 1 else n) ((s.size : Int) + 1)) :
    Calls Tryz.prog 134 #[.string s, .string sep, .int .i64 sv, .int .i64 n] w fun e w' =>
      e = .returned (.slice (some ⟨w.heap.size, 0, none⟩) (Lib.splitB sep sv (N - 1) s).length N) ∧ w' = w.alloc (.cells (Lib.cellsOf (Lib.splitB sep sv (N - 1) s) N) 9) := Any.strings_genSplit Tryz.lays221 (by kernel_rfl) s sep sv n N m w hs hm h1 hsv hn0 hn63 hN
def Tryz.lays146_ren : Go.Shelf.Ren := ⟨fun | 146 => 76 | 221 => 134 | 268 => 175 | 138 => 176 | 143 => 177 | 195 => 196 | 197 => 197 | 218 => 198 | 219 => 178 | 260 => 227 | 217 => 199 | 225 => 200 | 224 => 201 | 267 => 202 | 266 => 228 | 314 => 229 | n => n, fun | 9 => 9 | 31 => 46 | 3 => 3 | 4 => 4 | 0 => 0 | 105 => 307 | 21 => 21 | 5 => 5 | 46 => 260 | 119 => 245 | 139 => 359 | 138 => 358 | 146 => 294 | 51 => 287 | n => n, fun | 1 => 2 | 3 => 3 | 4 => 4 | n => n⟩
theorem Tryz.lays146 : Go.Proofs.Lays.n146 Tryz.prog Tryz.lays146_ren := {
  mixed := by kernel_rfl
  f138 := Tryz.func176.trans (congrArg some (by kernel_rfl))
  f143 := Tryz.func177.trans (congrArg some (by kernel_rfl))
  f146 := Tryz.func76.trans (congrArg some (by kernel_rfl))
  f195 := Tryz.func196.trans (congrArg some (by kernel_rfl))
  f197 := Tryz.func197.trans (congrArg some (by kernel_rfl))
  f217 := Tryz.func199.trans (congrArg some (by kernel_rfl))
  f218 := Tryz.func198.trans (congrArg some (by kernel_rfl))
  f219 := Tryz.func178.trans (congrArg some (by kernel_rfl))
  f221 := Tryz.func134.trans (congrArg some (by kernel_rfl))
  f224 := Tryz.func201.trans (congrArg some (by kernel_rfl))
  f225 := Tryz.func200.trans (congrArg some (by kernel_rfl))
  f260 := Tryz.func227.trans (congrArg some (by kernel_rfl))
  f266 := Tryz.func228.trans (congrArg some (by kernel_rfl))
  f267 := Tryz.func202.trans (congrArg some (by kernel_rfl))
  f268 := Tryz.func175.trans (congrArg some (by kernel_rfl))
  f314 := Tryz.func229.trans (congrArg some (by kernel_rfl))
  t0 := Tryz.underlying0
  a0 := Tryz.isAgg0
  z0 := Tryz.sizeOf0
  v0 := Tryz.zeroValue0
  t3 := Tryz.underlying3
  a3 := Tryz.isAgg3
  z3 := Tryz.sizeOf3
  v3 := Tryz.zeroValue3
  t4 := Tryz.underlying4
  a4 := Tryz.isAgg4
  z4 := Tryz.sizeOf4
  v4 := Tryz.zeroValue4
  t5 := Tryz.underlying5
  a5 := Tryz.isAgg5
  z5 := Tryz.sizeOf5
  v5 := Tryz.zeroValue5
  t9 := Tryz.underlying9
  a9 := Tryz.isAgg9
  z9 := Tryz.sizeOf9
  v9 := Tryz.zeroValue9
  t21 := Tryz.underlying21
  a21 := Tryz.isAgg21
  z21 := Tryz.sizeOf21
  v21 := Tryz.zeroValue21
  t31 := Tryz.underlying46
  a31 := Tryz.isAgg46
  z31 := Tryz.sizeOf46
  v31 := Tryz.zeroValue46
  t46 := Tryz.underlying260
  a46 := Tryz.isAgg260
  z46 := Tryz.sizeOf260
  v46 := Tryz.zeroValue260
  t51 := Tryz.underlying287
  a51 := Tryz.isAgg287
  z51 := Tryz.sizeOf287
  v51 := Tryz.zeroValue287
  t105 := Tryz.underlying307
  a105 := Tryz.isAgg307
  z105 := Tryz.sizeOf307
  v105 := Tryz.zeroValue307
  t119 := Tryz.underlying245
  a119 := Tryz.isAgg245
  z119 := Tryz.sizeOf245
  t138 := Tryz.underlying358
  a138 := Tryz.isAgg358
  z138 := Tryz.sizeOf358
  v138 := Tryz.zeroValue358
  t139 := Tryz.underlying359
  a139 := Tryz.isAgg359
  z139 := Tryz.sizeOf359
  v139 := Tryz.zeroValue359
  t146 := Tryz.underlying294
  a146 := Tryz.isAgg294
  z146 := Tryz.sizeOf294
  v146 := Tryz.zeroValue294
  g1 := by kernel_rfl
  g3 := by kernel_rfl
  g4 := by kernel_rfl }
open Go.RowKit Go.Lib in
/-- strings.Split. (LAID: no walk: one application.) -/
theorem Tryz.strings_Split (s sep : ByteArray) (m : Int) (w : World) (hs : s.size < 4294967281) (hm : w.cell? ⟨2, 0, none⟩ = some (.int .i64 m)) (h1 : 1 ≤ sep.size) :
    Calls Tryz.prog 76 #[.string s, .string sep] w fun e w' =>
      e = .returned (.slice (some ⟨w.heap.size, 0, none⟩) (Lib.countB s sep + 1) (Lib.countB s sep + 1)) ∧ w' = w.alloc (.cells ((Lib.splitB sep 0 (Lib.countB s sep) s).map Value.string).toArray 9) := Any.strings_Split Tryz.lays146 (by kernel_rfl) s sep m w hs hm h1
def Tryz.lays157_ren : Go.Shelf.Ren := ⟨fun | 157 => 78 | 229 => 136 | 199 => 137 | 261 => 179 | 311 => 203 | 312 => 204 | n => n, fun | 9 => 9 | 31 => 46 | 3 => 3 | 5 => 5 | 4 => 4 | 119 => 245 | 0 => 0 | 40 => 247 | 152 => 284 | 21 => 21 | 154 => 286 | 51 => 287 | 141 => 289 | 196 => 313 | 193 => 310 | 198 => 316 | 49 => 314 | 194 => 311 | 201 => 319 | 226 => 342 | 46 => 260 | 227 => 343 | n => n, fun | 0 => 0 | 6 => 1 | n => n⟩
theorem Tryz.lays157 : Go.Proofs.Lays.n157 Tryz.prog Tryz.lays157_ren := {
  mixed := by kernel_rfl
  f157 := Tryz.func78.trans (congrArg some (by kernel_rfl))
  f199 := Tryz.func137.trans (congrArg some (by kernel_rfl))
  f229 := Tryz.func136.trans (congrArg some (by kernel_rfl))
  f261 := Tryz.func179.trans (congrArg some (by kernel_rfl))
  f311 := Tryz.func203.trans (congrArg some (by kernel_rfl))
  f312 := Tryz.func204.trans (congrArg some (by kernel_rfl))
  t0 := Tryz.underlying0
  a0 := Tryz.isAgg0
  z0 := Tryz.sizeOf0
  v0 := Tryz.zeroValue0
  t3 := Tryz.underlying3
  a3 := Tryz.isAgg3
  z3 := Tryz.sizeOf3
  v3 := Tryz.zeroValue3
  t4 := Tryz.underlying4
  a4 := Tryz.isAgg4
  z4 := Tryz.sizeOf4
  v4 := Tryz.zeroValue4
  t5 := Tryz.underlying5
  a5 := Tryz.isAgg5
  z5 := Tryz.sizeOf5
  v5 := Tryz.zeroValue5
  t9 := Tryz.underlying9
  a9 := Tryz.isAgg9
  z9 := Tryz.sizeOf9
  v9 := Tryz.zeroValue9
  t21 := Tryz.underlying21
  a21 := Tryz.isAgg21
  z21 := Tryz.sizeOf21
  v21 := Tryz.zeroValue21
  t31 := Tryz.underlying46
  a31 := Tryz.isAgg46
  z31 := Tryz.sizeOf46
  v31 := Tryz.zeroValue46
  t40 := Tryz.underlying247
  a40 := Tryz.isAgg247
  z40 := Tryz.sizeOf247
  v40 := Tryz.zeroValue247
  t46 := Tryz.underlying260
  a46 := Tryz.isAgg260
  z46 := Tryz.sizeOf260
  v46 := Tryz.zeroValue260
  t49 := Tryz.underlying314
  a49 := Tryz.isAgg314
  z49 := Tryz.sizeOf314
  v49 := Tryz.zeroValue314
  t51 := Tryz.underlying287
  a51 := Tryz.isAgg287
  z51 := Tryz.sizeOf287
  v51 := Tryz.zeroValue287
  t119 := Tryz.underlying245
  a119 := Tryz.isAgg245
  z119 := Tryz.sizeOf245
  t141 := Tryz.underlying289
  a141 := Tryz.isAgg289
  z141 := Tryz.sizeOf289
  v141 := Tryz.zeroValue289
  t152 := Tryz.underlying284
  a152 := Tryz.isAgg284
  z152 := Tryz.sizeOf284
  v152 := Tryz.zeroValue284
  t154 := Tryz.underlying286
  a154 := Tryz.isAgg286
  z154 := Tryz.sizeOf286
  v154 := Tryz.zeroValue286
  t193 := Tryz.underlying310
  a193 := Tryz.isAgg310
  z193 := Tryz.sizeOf310
  v193 := Tryz.zeroValue310
  t194 := Tryz.underlying311
  a194 := Tryz.isAgg311
  z194 := Tryz.sizeOf311
  v194 := Tryz.zeroValue311
  t196 := Tryz.underlying313
  a196 := Tryz.isAgg313
  z196 := Tryz.sizeOf313
  v196 := Tryz.zeroValue313
  t198 := Tryz.underlying316
  a198 := Tryz.isAgg316
  z198 := Tryz.sizeOf316
  v198 := Tryz.zeroValue316
  t201 := Tryz.underlying319
  a201 := Tryz.isAgg319
  z201 := Tryz.sizeOf319
  v201 := Tryz.zeroValue319
  t226 := Tryz.underlying342
  a226 := Tryz.isAgg342
  z226 := Tryz.sizeOf342
  v226 := Tryz.zeroValue342
  t227 := Tryz.underlying343
  a227 := Tryz.isAgg343
  z227 := Tryz.sizeOf343
  v227 := Tryz.zeroValue343
  g0 := by kernel_rfl
  g6 := by kernel_rfl }
open Go.RowKit Go.Lib in
/-- strings.Fields, the table by 'Lib.TabIs' (as strings.TrimSpace's contract). 'hg': the table's number, by its name: at a dump 'by kernel_rfl'. (LAID: no walk: one application.) -/
theorem Tryz.strings_Fields (s : ByteArray) (w : World) (hs : s.size < 4294967281) (hascii : ∀ (j : Nat) b, s.data.toList[j]? = some b → b.toNat < 128) (htab : Lib.TabIs Tryz.prog w "strings.asciiSpace" .u8 Lib.asciiSpaceTab) :
    Calls Tryz.prog 78 #[.string s] w fun e w' =>
      e = .returned (.slice (some ⟨w.heap.size, 0, none⟩) (Lib.fields s.data.toList).length (Lib.fields s.data.toList).length) ∧ w' = w.alloc (.cells ((Lib.fields s.data.toList).map fun l => Value.string ⟨l.toArray⟩).toArray 9) := Any.strings_Fields Tryz.lays157 (by kernel_rfl) (by kernel_rfl) s w hs hascii htab
def Tryz.lays199_ren : Go.Shelf.Ren := ⟨fun | 199 => 137 | 261 => 179 | 311 => 203 | 312 => 204 | n => n, fun | 21 => 21 | 4 => 4 | 51 => 287 | 141 => 289 | 0 => 0 | 196 => 313 | 193 => 310 | 3 => 3 | 198 => 316 | 49 => 314 | 194 => 311 | 201 => 319 | 226 => 342 | 46 => 260 | 227 => 343 | n => n, fun | 6 => 1 | n => n⟩
theorem Tryz.lays199 : Go.Proofs.Lays.n199 Tryz.prog Tryz.lays199_ren := {
  mixed := by kernel_rfl
  f199 := Tryz.func137.trans (congrArg some (by kernel_rfl))
  f261 := Tryz.func179.trans (congrArg some (by kernel_rfl))
  f311 := Tryz.func203.trans (congrArg some (by kernel_rfl))
  f312 := Tryz.func204.trans (congrArg some (by kernel_rfl))
  t0 := Tryz.underlying0
  a0 := Tryz.isAgg0
  z0 := Tryz.sizeOf0
  v0 := Tryz.zeroValue0
  t3 := Tryz.underlying3
  a3 := Tryz.isAgg3
  z3 := Tryz.sizeOf3
  v3 := Tryz.zeroValue3
  t4 := Tryz.underlying4
  a4 := Tryz.isAgg4
  z4 := Tryz.sizeOf4
  v4 := Tryz.zeroValue4
  t21 := Tryz.underlying21
  a21 := Tryz.isAgg21
  z21 := Tryz.sizeOf21
  v21 := Tryz.zeroValue21
  t46 := Tryz.underlying260
  a46 := Tryz.isAgg260
  z46 := Tryz.sizeOf260
  v46 := Tryz.zeroValue260
  t49 := Tryz.underlying314
  a49 := Tryz.isAgg314
  z49 := Tryz.sizeOf314
  v49 := Tryz.zeroValue314
  t51 := Tryz.underlying287
  a51 := Tryz.isAgg287
  z51 := Tryz.sizeOf287
  v51 := Tryz.zeroValue287
  t141 := Tryz.underlying289
  a141 := Tryz.isAgg289
  z141 := Tryz.sizeOf289
  v141 := Tryz.zeroValue289
  t193 := Tryz.underlying310
  a193 := Tryz.isAgg310
  z193 := Tryz.sizeOf310
  v193 := Tryz.zeroValue310
  t194 := Tryz.underlying311
  a194 := Tryz.isAgg311
  z194 := Tryz.sizeOf311
  v194 := Tryz.zeroValue311
  t196 := Tryz.underlying313
  a196 := Tryz.isAgg313
  z196 := Tryz.sizeOf313
  v196 := Tryz.zeroValue313
  t198 := Tryz.underlying316
  a198 := Tryz.isAgg316
  z198 := Tryz.sizeOf316
  v198 := Tryz.zeroValue316
  t201 := Tryz.underlying319
  a201 := Tryz.isAgg319
  z201 := Tryz.sizeOf319
  v201 := Tryz.zeroValue319
  t226 := Tryz.underlying342
  a226 := Tryz.isAgg342
  z226 := Tryz.sizeOf342
  v226 := Tryz.zeroValue342
  t227 := Tryz.underlying343
  a227 := Tryz.isAgg343
  z227 := Tryz.sizeOf343
  v227 := Tryz.zeroValue343
  g6 := by kernel_rfl }
open Go.RowKit Go.Lib in
theorem Tryz.unicode_IsSpace (r : Int) (w : World) (h0 : 0 ≤ r) (h : r ≤ 255) :
    Calls Tryz.prog 137 #[.int .i32 r] w fun e w' => e = .returned (.bool (Lib.isSpaceL r)) ∧ w' = w := Any.unicode_IsSpace Tryz.lays199 r w h0 h
def Tryz.lays264_ren : Go.Shelf.Ren := ⟨fun | 264 => 185 | n => n, fun | 53 => 35 | 46 => 260 | n => n, fun | n => n⟩
theorem Tryz.lays264 : Go.Proofs.Lays.n264 Tryz.prog Tryz.lays264_ren := {
  mixed := by kernel_rfl
  f264 := Tryz.func185.trans (congrArg some (by kernel_rfl))
  t46 := Tryz.underlying260
  a46 := Tryz.isAgg260
  z46 := Tryz.sizeOf260
  v46 := Tryz.zeroValue260
  t53 := Tryz.underlying35
  a53 := Tryz.isAgg35
  z53 := Tryz.sizeOf35
  v53 := Tryz.zeroValue35 }
open Go.RowKit Go.Lib in
theorem Tryz.bits_Mul64 (x y : Nat) (hx : x < 18446744073709551616) (hy : y < 18446744073709551616) (w : World) :
    Calls Tryz.prog 185 #[.int .u64 x, .int .u64 y] w fun e w' => e = .returned (.tuple #[.int .u64 ((x * y / 18446744073709551616 : Nat) : Int), .int .u64 ((x * y % 18446744073709551616 : Nat) : Int)]) ∧ w' = w := Any.bits_Mul64 Tryz.lays264 x y hx hy w
def Tryz.lays212_ren : Go.Shelf.Ren := ⟨fun | 212 => 150 | 263 => 184 | 264 => 185 | n => n, fun | 46 => 260 | 51 => 287 | 146 => 294 | 53 => 35 | 148 => 296 | n => n, fun | n => n⟩
theorem Tryz.lays212 : Go.Proofs.Lays.n212 Tryz.prog Tryz.lays212_ren := {
  mixed := by kernel_rfl
  f212 := Tryz.func150.trans (congrArg some (by kernel_rfl))
  f263 := Tryz.func184.trans (congrArg some (by kernel_rfl))
  f264 := Tryz.func185.trans (congrArg some (by kernel_rfl))
  t46 := Tryz.underlying260
  a46 := Tryz.isAgg260
  z46 := Tryz.sizeOf260
  v46 := Tryz.zeroValue260
  t51 := Tryz.underlying287
  a51 := Tryz.isAgg287
  z51 := Tryz.sizeOf287
  v51 := Tryz.zeroValue287
  t53 := Tryz.underlying35
  a53 := Tryz.isAgg35
  z53 := Tryz.sizeOf35
  v53 := Tryz.zeroValue35
  t146 := Tryz.underlying294
  a146 := Tryz.isAgg294
  z146 := Tryz.sizeOf294
  v146 := Tryz.zeroValue294
  t148 := Tryz.underlying296
  a148 := Tryz.isAgg296
  z148 := Tryz.sizeOf296
  v148 := Tryz.zeroValue296 }
open Go.RowKit Go.Lib in
/-- math/bits.Mul: "Mul returns the full-width product of x and y": on a machine of 64 bits: Mul64's. (LAID: no walk: one application.) -/
theorem Tryz.bits_Mul (x y : Nat) (hx : x < 18446744073709551616) (hy : y < 18446744073709551616) (w : World) :
    Calls Tryz.prog 150 #[.int .u64 x, .int .u64 y] w fun e w' => e = .returned (.tuple #[.int .u64 ((x * y / 18446744073709551616 : Nat) : Int), .int .u64 ((x * y % 18446744073709551616 : Nat) : Int)]) ∧ w' = w := Any.bits_Mul Tryz.lays212 x y hx hy w
def Tryz.lays311_ren : Go.Shelf.Ren := ⟨fun | 311 => 203 | n => n, fun | 193 => 310 | 49 => 314 | 4 => 4 | 3 => 3 | 0 => 0 | 226 => 342 | 198 => 316 | 46 => 260 | n => n, fun | n => n⟩
theorem Tryz.lays311 : Go.Proofs.Lays.n311 Tryz.prog Tryz.lays311_ren := {
  mixed := by kernel_rfl
  f311 := Tryz.func203.trans (congrArg some (by kernel_rfl))
  t0 := Tryz.underlying0
  a0 := Tryz.isAgg0
  z0 := Tryz.sizeOf0
  v0 := Tryz.zeroValue0
  t3 := Tryz.underlying3
  a3 := Tryz.isAgg3
  z3 := Tryz.sizeOf3
  v3 := Tryz.zeroValue3
  t4 := Tryz.underlying4
  a4 := Tryz.isAgg4
  z4 := Tryz.sizeOf4
  v4 := Tryz.zeroValue4
  t46 := Tryz.underlying260
  a46 := Tryz.isAgg260
  z46 := Tryz.sizeOf260
  v46 := Tryz.zeroValue260
  t49 := Tryz.underlying314
  a49 := Tryz.isAgg314
  z49 := Tryz.sizeOf314
  v49 := Tryz.zeroValue314
  t193 := Tryz.underlying310
  a193 := Tryz.isAgg310
  z193 := Tryz.sizeOf310
  v193 := Tryz.zeroValue310
  t198 := Tryz.underlying316
  a198 := Tryz.isAgg316
  z198 := Tryz.sizeOf316
  v198 := Tryz.zeroValue316
  t226 := Tryz.underlying342
  a226 := Tryz.isAgg342
  z226 := Tryz.sizeOf342
  v226 := Tryz.zeroValue342 }
open Go.RowKit Go.Lib in
theorem Tryz.unicode_is16_white (R oR : Nat) (z : Nat) (w : World) (hz : z < 65536) (hz0 : 255 < z) (c6 : w.cell? ⟨R, oR + 6, none⟩ = some (.int .u16 160)) (c7 : w.cell? ⟨R, oR + 7, none⟩ = some (.int .u16 5760)) (c8 : w.cell? ⟨R, oR + 8, none⟩ = some (.int .u16 5600)) (c9 : w.cell? ⟨R, oR + 9, none⟩ = some (.int .u16 8192)) (c10 : w.cell? ⟨R, oR + 10, none⟩ = some (.int .u16 8202)) (c11 : w.cell? ⟨R, oR + 11, none⟩ = some (.int .u16 1)) (c12 : w.cell? ⟨R, oR + 12, none⟩ = some (.int .u16 8232)) (c13 : w.cell? ⟨R, oR + 13, none⟩ = some (.int .u16 8233)) (c14 : w.cell? ⟨R, oR + 14, none⟩ = some (.int .u16 1)) (c15 : w.cell? ⟨R, oR + 15, none⟩ = some (.int .u16 8239)) (c16 : w.cell? ⟨R, oR + 16, none⟩ = some (.int .u16 8287)) (c17 : w.cell? ⟨R, oR + 17, none⟩ = some (.int .u16 48)) (c18 : w.cell? ⟨R, oR + 18, none⟩ = some (.int .u16 12288)) (c19 : w.cell? ⟨R, oR + 19, none⟩ = some (.int .u16 12288)) (c20 : w.cell? ⟨R, oR + 20, none⟩ = some (.int .u16 1)) :
    Calls Tryz.prog 203 #[.slice (some ⟨R, oR + 6, none⟩) 5 5, .int .u16 z] w fun e w' => e = .returned (.bool (Lib.isSpaceR z)) ∧ Below w.heap.size w w' := Any.unicode_is16_white Tryz.lays311 R oR z w hz hz0 c6 c7 c8 c9 c10 c11 c12 c13 c14 c15 c16 c17 c18 c19 c20
def Tryz.lays261_ren : Go.Shelf.Ren := ⟨fun | 261 => 179 | 311 => 203 | 312 => 204 | n => n, fun | 141 => 289 | 21 => 21 | 4 => 4 | 0 => 0 | 196 => 313 | 193 => 310 | 3 => 3 | 51 => 287 | 198 => 316 | 49 => 314 | 194 => 311 | 201 => 319 | 226 => 342 | 46 => 260 | 227 => 343 | n => n, fun | n => n⟩
theorem Tryz.lays261 : Go.Proofs.Lays.n261 Tryz.prog Tryz.lays261_ren := {
  mixed := by kernel_rfl
  f261 := Tryz.func179.trans (congrArg some (by kernel_rfl))
  f311 := Tryz.func203.trans (congrArg some (by kernel_rfl))
  f312 := Tryz.func204.trans (congrArg some (by kernel_rfl))
  t0 := Tryz.underlying0
  a0 := Tryz.isAgg0
  z0 := Tryz.sizeOf0
  v0 := Tryz.zeroValue0
  t3 := Tryz.underlying3
  a3 := Tryz.isAgg3
  z3 := Tryz.sizeOf3
  v3 := Tryz.zeroValue3
  t4 := Tryz.underlying4
  a4 := Tryz.isAgg4
  z4 := Tryz.sizeOf4
  v4 := Tryz.zeroValue4
  t21 := Tryz.underlying21
  a21 := Tryz.isAgg21
  z21 := Tryz.sizeOf21
  v21 := Tryz.zeroValue21
  t46 := Tryz.underlying260
  a46 := Tryz.isAgg260
  z46 := Tryz.sizeOf260
  v46 := Tryz.zeroValue260
  t49 := Tryz.underlying314
  a49 := Tryz.isAgg314
  z49 := Tryz.sizeOf314
  v49 := Tryz.zeroValue314
  t51 := Tryz.underlying287
  a51 := Tryz.isAgg287
  z51 := Tryz.sizeOf287
  v51 := Tryz.zeroValue287
  t141 := Tryz.underlying289
  a141 := Tryz.isAgg289
  z141 := Tryz.sizeOf289
  v141 := Tryz.zeroValue289
  t193 := Tryz.underlying310
  a193 := Tryz.isAgg310
  z193 := Tryz.sizeOf310
  v193 := Tryz.zeroValue310
  t194 := Tryz.underlying311
  a194 := Tryz.isAgg311
  z194 := Tryz.sizeOf311
  v194 := Tryz.zeroValue311
  t196 := Tryz.underlying313
  a196 := Tryz.isAgg313
  z196 := Tryz.sizeOf313
  v196 := Tryz.zeroValue313
  t198 := Tryz.underlying316
  a198 := Tryz.isAgg316
  z198 := Tryz.sizeOf316
  v198 := Tryz.zeroValue316
  t201 := Tryz.underlying319
  a201 := Tryz.isAgg319
  z201 := Tryz.sizeOf319
  v201 := Tryz.zeroValue319
  t226 := Tryz.underlying342
  a226 := Tryz.isAgg342
  z226 := Tryz.sizeOf342
  v226 := Tryz.zeroValue342
  t227 := Tryz.underlying343
  a227 := Tryz.isAgg343
  z227 := Tryz.sizeOf343
  v227 := Tryz.zeroValue343 }
open Go.RowKit Go.Lib in
/-- unicode.isExcludingLatin(White_Space, r), r beyond U+00FF or negative. (LAID: no walk: one application.) -/
theorem Tryz.unicode_isExcludingLatin_white (T oT R oR : Nat) (r : Int) (w : World) (hlo : -2147483648 ≤ r) (hhi : r ≤ 2147483647) (hr : r < 0 ∨ 255 < r) (h2 : w.cell? ⟨T, oT, none⟩ = some (.slice (some ⟨R, oR, none⟩) 7 7)) (h3 : w.cell? ⟨T, oT + 1, none⟩ = some (.slice none 0 0)) (h4 : w.cell? ⟨T, oT + 2, none⟩ = some (.int .i64 2)) (h5 : ∀ i, i < 21 → w.cell? ⟨R, oR + i, none⟩ = some (.int .u16 (whiteT.getD i 0))) :
    Calls Tryz.prog 179 #[.pointer (some ⟨T, oT, none⟩), .int .i32 r] w fun e w' => e = .returned (.bool (Lib.isSpaceZ r)) ∧ Below w.heap.size w w' := Any.unicode_isExcludingLatin_white Tryz.lays261 T oT R oR r w hlo hhi hr h2 h3 h4 h5
open Go.RowKit Go.Lib in
/-- **unicode.IsSpace AT EVERY int32.** (LAID: no walk: one application.) -/
theorem Tryz.unicode_IsSpace_any (r : Int) (w : World) (hlo : -2147483648 ≤ r) (hhi : r ≤ 2147483647) (hW : Lib.WhiteTab 1 w) :
    Calls Tryz.prog 137 #[.int .i32 r] w fun e w' => e = .returned (.bool (Lib.isSpaceZ r)) ∧ Below w.heap.size w w' := Any.unicode_IsSpace_any Tryz.lays199 r w hlo hhi hW
open Go.RowKit Go.Lib in
theorem Tryz.unicode_is16_any (T : Array Rg) (R oR cap : Nat) (z : Nat) (w : World) (hz : z < 65536) (hT : RgTab .u16 R oR T w) (hok : RgOk 65536 T) (hn : T.size ≤ 1000000000) :
    Calls Tryz.prog 203 #[.slice (some ⟨R, oR, none⟩) T.size cap, .int .u16 z] w fun e w' => e = .returned (.bool (is16Go T z)) ∧ ∃ q, w' = w.drewN q := Any.unicode_is16_any Tryz.lays311 T R oR cap z w hz hT hok hn
def Tryz.lays312_ren : Go.Shelf.Ren := ⟨fun | 312 => 204 | n => n, fun | 194 => 311 | 51 => 287 | 4 => 4 | 3 => 3 | 0 => 0 | 227 => 343 | 201 => 319 | 46 => 260 | n => n, fun | n => n⟩
theorem Tryz.lays312 : Go.Proofs.Lays.n312 Tryz.prog Tryz.lays312_ren := {
  mixed := by kernel_rfl
  f312 := Tryz.func204.trans (congrArg some (by kernel_rfl))
  t0 := Tryz.underlying0
  a0 := Tryz.isAgg0
  z0 := Tryz.sizeOf0
  v0 := Tryz.zeroValue0
  t3 := Tryz.underlying3
  a3 := Tryz.isAgg3
  z3 := Tryz.sizeOf3
  v3 := Tryz.zeroValue3
  t4 := Tryz.underlying4
  a4 := Tryz.isAgg4
  z4 := Tryz.sizeOf4
  v4 := Tryz.zeroValue4
  t46 := Tryz.underlying260
  a46 := Tryz.isAgg260
  z46 := Tryz.sizeOf260
  v46 := Tryz.zeroValue260
  t51 := Tryz.underlying287
  a51 := Tryz.isAgg287
  z51 := Tryz.sizeOf287
  v51 := Tryz.zeroValue287
  t194 := Tryz.underlying311
  a194 := Tryz.isAgg311
  z194 := Tryz.sizeOf311
  v194 := Tryz.zeroValue311
  t201 := Tryz.underlying319
  a201 := Tryz.isAgg319
  z201 := Tryz.sizeOf319
  v201 := Tryz.zeroValue319
  t227 := Tryz.underlying343
  a227 := Tryz.isAgg343
  z227 := Tryz.sizeOf343
  v227 := Tryz.zeroValue343 }
open Go.RowKit Go.Lib in
theorem Tryz.unicode_is32_any (T : Array Rg) (R oR cap : Nat) (z : Nat) (w : World) (hz : z < 4294967296) (hT : RgTab .u32 R oR T w) (hok : RgOk 4294967296 T) (hn : T.size ≤ 1000000000) :
    Calls Tryz.prog 204 #[.slice (some ⟨R, oR, none⟩) T.size cap, .int .u32 z] w fun e w' => e = .returned (.bool (is32Go T z)) ∧ Below w.heap.size w w' := Any.unicode_is32_any Tryz.lays312 T R oR cap z w hz hT hok hn
open Go.RowKit Go.Lib in
theorem Tryz.unicode_isExcludingLatin_any (Tb oT : Nat) (T : RTab) (r : Int) (w : World) (hlo : -2147483648 ≤ r) (hhi : r ≤ 2147483647) (hA : RTabAt Tb oT T w) (hok : RTabOk T) :
    Calls Tryz.prog 179 #[.pointer (some ⟨Tb, oT, none⟩), .int .i32 r] w fun e w' => e = .returned (.bool (exclGo T r)) ∧ Below w.heap.size w w' := Any.unicode_isExcludingLatin_any Tryz.lays261 Tb oT T r w hlo hhi hA hok
def Tryz.lays109_ren : Go.Shelf.Ren := ⟨fun | 109 => 170 | n => n, fun | 31 => 46 | 9 => 9 | 3 => 3 | 0 => 0 | 4 => 4 | n => n, fun | n => n⟩
theorem Tryz.lays109 : Go.Proofs.Lays.n109 Tryz.prog Tryz.lays109_ren := {
  mixed := by kernel_rfl
  f109 := Tryz.func170.trans (congrArg some (by kernel_rfl))
  t0 := Tryz.underlying0
  a0 := Tryz.isAgg0
  z0 := Tryz.sizeOf0
  v0 := Tryz.zeroValue0
  t3 := Tryz.underlying3
  a3 := Tryz.isAgg3
  z3 := Tryz.sizeOf3
  v3 := Tryz.zeroValue3
  t4 := Tryz.underlying4
  a4 := Tryz.isAgg4
  z4 := Tryz.sizeOf4
  v4 := Tryz.zeroValue4
  t9 := Tryz.underlying9
  a9 := Tryz.isAgg9
  z9 := Tryz.sizeOf9
  v9 := Tryz.zeroValue9
  t31 := Tryz.underlying46
  a31 := Tryz.isAgg46
  z31 := Tryz.sizeOf46
  v31 := Tryz.zeroValue46 }
open Go.Lib in
/-- slices.Index at []string: "Index returns the index of the first occurrence of v in s, or -1 if not present.": IT RETURNS 'Lib.idxOfS (the elements) v'; the world is as it was. 'zs': what the cells behind the slice's address hold (its spare capacity too, if you have it); 'zs.take n': its elements. (LAID: no walk: one application.) -/
theorem Tryz.slices_Index_string (b off n c : Nat) (zs : List ByteArray) (x : ByteArray) (w : World) (hz : n ≤ zs.length) (hbig : n ≤ 9223372036854775807) (hc : ∀ j, j < zs.length → w.cell? ⟨b, off + j, none⟩ = some (.string (zs.getD j ByteArray.empty))) :
    Calls Tryz.prog 170 #[.slice (some ⟨b, off, none⟩) n c, .string x] w fun e w' => e = .returned (.int .i64 (Lib.idxOfS (zs.take n) x)) ∧ w' = w := Any.slices_Index_string Tryz.lays109 b off n c zs x w hz hbig hc
open Go.Lib in
/-- The same at a slice of length 0, a nil one too: no cell is known, none is asked for. (LAID: no walk: one application.) -/
theorem Tryz.slices_Index_string_empty (a : Option Addr) (c : Nat) (x : ByteArray) (w : World) :
    Calls Tryz.prog 170 #[.slice a 0 c, .string x] w fun e w' => e = .returned (.int .i64 (Lib.idxOfS [] x)) ∧ w' = w := Any.slices_Index_string_empty Tryz.lays109 a c x w
def Tryz.lays110_ren : Go.Shelf.Ren := ⟨fun | 110 => 127 | 109 => 170 | n => n, fun | 31 => 46 | 9 => 9 | 4 => 4 | 3 => 3 | 0 => 0 | n => n, fun | n => n⟩
theorem Tryz.lays110 : Go.Proofs.Lays.n110 Tryz.prog Tryz.lays110_ren := {
  mixed := by kernel_rfl
  f109 := Tryz.func170.trans (congrArg some (by kernel_rfl))
  f110 := Tryz.func127.trans (congrArg some (by kernel_rfl))
  t0 := Tryz.underlying0
  a0 := Tryz.isAgg0
  z0 := Tryz.sizeOf0
  v0 := Tryz.zeroValue0
  t3 := Tryz.underlying3
  a3 := Tryz.isAgg3
  z3 := Tryz.sizeOf3
  v3 := Tryz.zeroValue3
  t4 := Tryz.underlying4
  a4 := Tryz.isAgg4
  z4 := Tryz.sizeOf4
  v4 := Tryz.zeroValue4
  t9 := Tryz.underlying9
  a9 := Tryz.isAgg9
  z9 := Tryz.sizeOf9
  v9 := Tryz.zeroValue9
  t31 := Tryz.underlying46
  a31 := Tryz.isAgg46
  z31 := Tryz.sizeOf46
  v31 := Tryz.zeroValue46 }
open Go.Lib in
/-- slices.Contains at []string: "Contains reports whether v is present in s.": IT RETURNS 'Lib.containsS (the elements) v', which is true just where v is among them ('Lib.containsS_iff'); the world is as it was. ITS CALLEE slices.Index IS MET BY ITS OWN CONTRACT OFF THE SHELF (lay that first): no loop is walked here. (LAID: no walk: one application.) -/
theorem Tryz.slices_Contains_string (b off n c : Nat) (zs : List ByteArray) (x : ByteArray) (w : World) (hz : n ≤ zs.length) (hbig : n ≤ 9223372036854775807) (hc : ∀ j, j < zs.length → w.cell? ⟨b, off + j, none⟩ = some (.string (zs.getD j ByteArray.empty))) :
    Calls Tryz.prog 127 #[.slice (some ⟨b, off, none⟩) n c, .string x] w fun e w' => e = .returned (.bool (Lib.containsS (zs.take n) x)) ∧ w' = w := Any.slices_Contains_string Tryz.lays110 b off n c zs x w hz hbig hc
open Go.Lib in
/-- The same at a slice of length 0, a nil one too. (LAID: no walk: one application.) -/
theorem Tryz.slices_Contains_string_empty (a : Option Addr) (c : Nat) (x : ByteArray) (w : World) :
    Calls Tryz.prog 127 #[.slice a 0 c, .string x] w fun e w' => e = .returned (.bool false) ∧ w' = w := Any.slices_Contains_string_empty Tryz.lays110 a c x w
def Tryz.laysSlE041_f58_ren : Go.Shelf.Ren := ⟨fun | 41 => 58 | n => n, fun | 22 => 46 | 23 => 9 | 4 => 4 | n => n, fun | n => n⟩
theorem Tryz.laysSlE041_f58 : Go.Proofs.SlLaysE0.n41 Tryz.prog Tryz.laysSlE041_f58_ren := {
  mixed := by kernel_rfl
  f41 := ⟨Tryz.f58.name, by decide, Tryz.func58.trans (congrArg some (by kernel_rfl))⟩
  t4 := Tryz.underlying4
  a4 := Tryz.isAgg4
  z4 := Tryz.sizeOf4
  v4 := Tryz.zeroValue4
  t22 := Tryz.underlying46
  a22 := Tryz.isAgg46
  z22 := Tryz.sizeOf46
  v22 := Tryz.zeroValue46 }
open Go.RowKit Go.Lib in
/-- slices.Clone: "Clone returns a copy of the slice. The elements are copied using assignment, so this is a shallow clone. The result may have additional unused capacity. The result preserves the nilness of s.": OF A SLICE THAT IS NOT nil IT RETURNS A SLICE THAT IS NOT nil, OF THE SAME CELLS, IN MEMORY OF THE CALL's OWN ('ownsRow': the how-to's 6f); below the heap's size at the call all is as it was. (LAID AT THE INSTANCE 'slices.Clone[[]string,string]': no walk: one application.) -/
theorem Tryz.slices_Clone (i0 : TypeInfo) (z : Value) (size bytes : Nat) (hi : Tryz.prog.info? 9 = some i0) (hz0 : i0.zero = some z) (hz1 : i0.size = size) (hz2 : i0.bytes = bytes) (hzs : z.cells.size = size) (hsz : 0 < size) (z23 : ∀ w, (Go.sizeOf 9).run Tryz.prog w = .ok size w) (b off n c : Nat) (news : List Value) (w : World) (hl : news.length = n * size) (hn : n ≤ maxLen) (hbig : n * bytes ≤ 140737488355328) (hc : ∀ j u, news[j]? = some u → w.cell? ⟨b, off + j, none⟩ = some u) (h1 : ∀ u ∈ news, u.oneCell' = true) :
    Calls Tryz.prog 58 #[.slice (some ⟨b, off, none⟩) n c] w fun e w' => ∃ v', e = .returned v' ∧ w'.ownsRow w.heap.size 9 size v' n news ∧ v' ≠ .slice none 0 0 ∧ Below w.heap.size w w' := AnyE.slices_Clone Tryz.laysSlE041_f58 i0 z size bytes hi hz0 hz1 hz2 hzs hsz z23 b off n c news w hl hn hbig hc h1
open Go.RowKit Go.Lib in
/-- The same at nil: nil comes back; the world is as it was; nothing is asked of the element's type. (LAID AT THE INSTANCE 'slices.Clone[[]string,string]': no walk: one application.) -/
theorem Tryz.slices_Clone_nil (n c : Nat) (w : World) :
    Calls Tryz.prog 58 #[.slice none n c] w fun e w' => e = .returned (.slice none 0 0) ∧ w' = w := AnyE.slices_Clone_nil Tryz.laysSlE041_f58 n c w
def Tryz.sortPair_ren : Go.Shelf.Ren := ⟨fun | 6 => 171 | 15 => 190 | 14 => 194 | 28 => 217 | 29 => 218 | 20 => 219 | 21 => 220 | 22 => 221 | 23 => 222 | 24 => 223 | 25 => 224 | 26 => 225 | 27 => 226 | 46 => 245 | 47 => 241 | 48 => 242 | 49 => 246 | 50 => 247 | 57 => 252 | n => n, fun | 22 => 33 | 24 => 138 | 25 => 281 | 3 => 3 | 39 => 260 | 0 => 0 | 53 => 287 | 55 => 35 | 4 => 4 | 46 => 328 | 45 => 327 | 50 => 332 | 5 => 5 | 9 => 9 | 66 => 349 | 70 => 353 | 76 => 362 | 77 => 129 | n => n, fun | n => n⟩
theorem Tryz.sortPair : Go.Proofs.SlLaysF0.n6 Tryz.prog Tryz.sortPair_ren := {
  mixed := by kernel_rfl
  f6 := ⟨Tryz.f171.name, by decide, Tryz.func171.trans (congrArg some (by kernel_rfl))⟩
  f14 := ⟨Tryz.f194.name, by decide, Tryz.func194.trans (congrArg some (by kernel_rfl))⟩
  f15 := Tryz.func190.trans (congrArg some (by kernel_rfl))
  f20 := ⟨Tryz.f219.name, by decide, Tryz.func219.trans (congrArg some (by kernel_rfl))⟩
  f21 := ⟨Tryz.f220.name, by decide, Tryz.func220.trans (congrArg some (by kernel_rfl))⟩
  f22 := ⟨Tryz.f221.name, by decide, Tryz.func221.trans (congrArg some (by kernel_rfl))⟩
  f23 := ⟨Tryz.f222.name, by decide, Tryz.func222.trans (congrArg some (by kernel_rfl))⟩
  f24 := ⟨Tryz.f223.name, by decide, Tryz.func223.trans (congrArg some (by kernel_rfl))⟩
  f25 := ⟨Tryz.f224.name, by decide, Tryz.func224.trans (congrArg some (by kernel_rfl))⟩
  f26 := ⟨Tryz.f225.name, by decide, Tryz.func225.trans (congrArg some (by kernel_rfl))⟩
  f27 := ⟨Tryz.f226.name, by decide, Tryz.func226.trans (congrArg some (by kernel_rfl))⟩
  f28 := Tryz.func217.trans (congrArg some (by kernel_rfl))
  f29 := Tryz.func218.trans (congrArg some (by kernel_rfl))
  f46 := ⟨Tryz.f245.name, by decide, Tryz.func245.trans (congrArg some (by kernel_rfl))⟩
  f47 := Tryz.func241.trans (congrArg some (by kernel_rfl))
  f48 := Tryz.func242.trans (congrArg some (by kernel_rfl))
  f49 := ⟨Tryz.f246.name, by decide, Tryz.func246.trans (congrArg some (by kernel_rfl))⟩
  f50 := ⟨Tryz.f247.name, by decide, Tryz.func247.trans (congrArg some (by kernel_rfl))⟩
  f57 := ⟨Tryz.f252.name, by decide, Tryz.func252.trans (congrArg some (by kernel_rfl))⟩
  t0 := Tryz.underlying0
  a0 := Tryz.isAgg0
  z0 := Tryz.sizeOf0
  v0 := Tryz.zeroValue0
  t3 := Tryz.underlying3
  a3 := Tryz.isAgg3
  z3 := Tryz.sizeOf3
  v3 := Tryz.zeroValue3
  t4 := Tryz.underlying4
  a4 := Tryz.isAgg4
  z4 := Tryz.sizeOf4
  v4 := Tryz.zeroValue4
  t5 := Tryz.underlying5
  a5 := Tryz.isAgg5
  z5 := Tryz.sizeOf5
  v5 := Tryz.zeroValue5
  t9 := Tryz.underlying9
  a9 := Tryz.isAgg9
  z9 := Tryz.sizeOf9
  v9 := Tryz.zeroValue9
  t22 := Tryz.underlying33
  a22 := Tryz.isAgg33
  z22 := Tryz.sizeOf33
  v22 := Tryz.zeroValue33
  t25 := Tryz.underlying281
  a25 := Tryz.isAgg281
  z25 := Tryz.sizeOf281
  v25 := Tryz.zeroValue281
  t39 := Tryz.underlying260
  a39 := Tryz.isAgg260
  z39 := Tryz.sizeOf260
  v39 := Tryz.zeroValue260
  t45 := Tryz.underlying327
  a45 := Tryz.isAgg327
  z45 := Tryz.sizeOf327
  v45 := Tryz.zeroValue327
  t46 := Tryz.underlying328
  a46 := Tryz.isAgg328
  z46 := Tryz.sizeOf328
  v46 := Tryz.zeroValue328
  t50 := Tryz.underlying332
  a50 := Tryz.isAgg332
  z50 := Tryz.sizeOf332
  v50 := Tryz.zeroValue332
  t53 := Tryz.underlying287
  a53 := Tryz.isAgg287
  z53 := Tryz.sizeOf287
  v53 := Tryz.zeroValue287
  t55 := Tryz.underlying35
  a55 := Tryz.isAgg35
  z55 := Tryz.sizeOf35
  v55 := Tryz.zeroValue35
  t66 := Tryz.underlying349
  a66 := Tryz.isAgg349
  z66 := Tryz.sizeOf349
  v66 := Tryz.zeroValue349
  t70 := Tryz.underlying353
  a70 := Tryz.isAgg353
  z70 := Tryz.sizeOf353
  v70 := Tryz.zeroValue353
  t76 := Tryz.underlying362
  a76 := Tryz.isAgg362
  z76 := Tryz.sizeOf362
  v76 := Tryz.zeroValue362
  t77 := Tryz.underlying129
  a77 := Tryz.isAgg129
  z77 := Tryz.sizeOf129
  v77 := Tryz.zeroValue129 }
def Tryz.clonePair_ren : Go.Shelf.Ren := ⟨fun | 41 => 106 | n => n, fun | 22 => 33 | 23 => 138 | 4 => 4 | n => n, fun | n => n⟩
theorem Tryz.clonePair : Go.Proofs.SlLaysE0.n41 Tryz.prog Tryz.clonePair_ren := {
  mixed := by kernel_rfl
  f41 := ⟨Tryz.f106.name, by decide, Tryz.func106.trans (congrArg some (by kernel_rfl))⟩
  t4 := Tryz.underlying4
  a4 := Tryz.isAgg4
  z4 := Tryz.sizeOf4
  v4 := Tryz.zeroValue4
  t22 := Tryz.underlying33
  a22 := Tryz.isAgg33
  z22 := Tryz.sizeOf33
  v22 := Tryz.zeroValue33 }
def Tryz.equalPair_ren : Go.Shelf.Ren := ⟨fun | 8 => 128 | n => n, fun | 22 => 33 | 24 => 138 | 4 => 4 | 3 => 3 | 0 => 0 | n => n, fun | n => n⟩
theorem Tryz.equalPair : Go.Proofs.SlLaysQ.n8 Tryz.prog Tryz.equalPair_ren := {
  mixed := by kernel_rfl
  f8 := ⟨Tryz.f128.name, by decide, Tryz.func128.trans (congrArg some (by kernel_rfl))⟩
  t0 := Tryz.underlying0
  a0 := Tryz.isAgg0
  z0 := Tryz.sizeOf0
  v0 := Tryz.zeroValue0
  t3 := Tryz.underlying3
  a3 := Tryz.isAgg3
  z3 := Tryz.sizeOf3
  v3 := Tryz.zeroValue3
  t4 := Tryz.underlying4
  a4 := Tryz.isAgg4
  z4 := Tryz.sizeOf4
  v4 := Tryz.zeroValue4
  t22 := Tryz.underlying33
  a22 := Tryz.isAgg33
  z22 := Tryz.sizeOf33
  v22 := Tryz.zeroValue33 }
end Go.Proofs.YtebnbbbiobaneaaGreatDoor
