/-
  Items: an item's cells; of which origin it is and which counts it covers (item.Span, the reference's Span).
-/
import Derived.Test.YtdghpjkjhlankaaRefV
import Derived.Test.YtdghpjkjhlankaaSt2
import Derived.RegionTactic
import Derived.BigRegion
import Derived.OwnWalk
namespace Go.Proofs.Ytdghpjkjhlankaa
open Go.RowKit FreeOrd
set_option maxRecDepth 100000
attribute [local go_sem] out

structure ItV where
  gap : Bool
  o : Nat
  sq : Nat
  tm : Nat
  ru : ByteArray
  lv : Value
  ps : List (ByteArray × ByteArray)
  st : Nat
  pr : Nat
  va : Int
  ow : Nat
  go : Nat
  gf : Nat
  gt : Nat
def it13 (a : ItV) : List Value := [.bool a.gap, .int .u8 a.o, .int .u64 a.sq, .int .u64 a.tm, .string a.ru, a.lv, .int .u8 a.st, .int .u8 a.pr, .int .i64 a.va, .int .u8 a.ow, .int .u8 a.go, .int .u64 a.gf, .int .u64 a.gt]
structure ItV.ok (a : ItV) (w : World) : Prop where
  o : a.o < 256
  sq : a.sq < 18446744073709551616
  tm : a.tm < 18446744073709551616
  ru : a.ru.size ≤ 1048576
  rd : Rd w 2 a.lv a.ps.length (pairCells a.ps)
  pz : (textL a.ps).length ≤ 100000000
  st : a.st < 256
  pr : a.pr < 256
  va : -9223372036854775808 ≤ a.va ∧ a.va ≤ 9223372036854775807
  go : a.go < 256
  gf : a.gf < 18446744073709551616
  gt : a.gt < 18446744073709551616
theorem ItV.ok.below {a : ItV} {w w' : World} (h : a.ok w) (hb : Below w.heap.size w w') : a.ok w' := ⟨h.o, h.sq, h.tm, h.ru, h.rd.below hb, h.pz, h.st, h.pr, h.va, h.go, h.gf, h.gt⟩
def spanO (a : ItV) : Nat := if a.gap then a.go else a.o
def spanF (a : ItV) : Nat := if a.gap then a.gf else a.sq
def spanT (a : ItV) : Nat := if a.gap then a.gt else a.sq
theorem infoItem : (Try.prog.info? 66).map (fun i => (i.zero, i.size, i.bytes)) = some (some (.agg #[.bool false, .int .u8 0, .int .u64 0, .int .u64 0, .string ⟨#[]⟩, .slice none 0 0, .int .u8 0, .int .u8 0, .int .i64 0, .int .u8 0, .int .u8 0, .int .u64 0, .int .u64 0]), 13, 120) := by kernel_rfl
theorem itemSpan_true (o sq tm : Nat) (ru : ByteArray) (Al : Option Addr) (nl cl st pr : Nat) (va : Int) (ow go gf gt : Nat) (w : World) :
    Calls Try.prog 39 #[.agg #[.bool true, .int .u8 o, .int .u64 sq, .int .u64 tm, .string ru, .slice Al nl cl, .int .u8 st, .int .u8 pr, .int .i64 va, .int .u8 ow, .int .u8 go, .int .u64 gf, .int .u64 gt]] w fun e w' => e = .returned (.tuple #[.int .u8 go, .int .u64 gf, .int .u64 gt]) ∧ Below w.heap.size w w' := by
  go_enter Try.func39, Try.ntmps39
  go_wp2_with fail
  go_region
  go_wp2_with fail
  go_ret3
  exact ⟨rfl, ((Below.refl _ _).alloc (Nat.le_refl _) _).drew⟩
theorem itemSpan_false (o sq tm : Nat) (ru : ByteArray) (Al : Option Addr) (nl cl st pr : Nat) (va : Int) (ow go gf gt : Nat) (w : World) :
    Calls Try.prog 39 #[.agg #[.bool false, .int .u8 o, .int .u64 sq, .int .u64 tm, .string ru, .slice Al nl cl, .int .u8 st, .int .u8 pr, .int .i64 va, .int .u8 ow, .int .u8 go, .int .u64 gf, .int .u64 gt]] w fun e w' => e = .returned (.tuple #[.int .u8 o, .int .u64 sq, .int .u64 sq]) ∧ Below w.heap.size w w' := by
  go_enter Try.func39, Try.ntmps39
  go_wp2_with fail
  go_region
  go_wp2_with fail
  go_ret3
  exact ⟨rfl, ((Below.refl _ _).alloc (Nat.le_refl _) _).drew⟩
theorem itemSpan (a : ItV) (w : World) (h : a.ok w) :
    Calls Try.prog 39 #[.agg #[.bool a.gap, .int .u8 a.o, .int .u64 a.sq, .int .u64 a.tm, .string a.ru, a.lv, .int .u8 a.st, .int .u8 a.pr, .int .i64 a.va, .int .u8 a.ow, .int .u8 a.go, .int .u64 a.gf, .int .u64 a.gt]] w fun e w' => e = .returned (.tuple #[.int .u8 (spanO a), .int .u64 (spanF a), .int .u64 (spanT a)]) ∧ Below w.heap.size w w' := by
  obtain ⟨A, c, hlv, _⟩ := h.rd
  rw [hlv]
  unfold spanO spanF spanT
  cases a.gap
  · rw [if_neg Bool.false_ne_true, if_neg Bool.false_ne_true, if_neg Bool.false_ne_true]; exact itemSpan_false a.o a.sq a.tm a.ru A a.ps.length c a.st a.pr a.va a.ow a.go a.gf a.gt w
  · rw [if_pos rfl, if_pos rfl, if_pos rfl]; exact itemSpan_true a.o a.sq a.tm a.ru A a.ps.length c a.st a.pr a.va a.ow a.go a.gf a.gt w
theorem refSpan_true (o sq tm : Nat) (ru : ByteArray) (Al : Option Addr) (nl cl st pr : Nat) (va : Int) (ow go gf gt : Nat) (w : World) :
    Calls Try.prog 20 #[.agg #[.bool true, .int .u8 o, .int .u64 sq, .int .u64 tm, .string ru, .slice Al nl cl, .int .u8 st, .int .u8 pr, .int .i64 va, .int .u8 ow, .int .u8 go, .int .u64 gf, .int .u64 gt]] w fun e w' => e = .returned (.tuple #[.int .u8 go, .int .u64 gf, .int .u64 gt]) ∧ Below w.heap.size w w' := by
  go_enter Try.func20, Try.ntmps20
  go_wp2_with fail
  go_region
  go_wp2_with fail
  go_ret3
  exact ⟨rfl, ((Below.refl _ _).alloc (Nat.le_refl _) _).drew⟩
theorem refSpan_false (o sq tm : Nat) (ru : ByteArray) (Al : Option Addr) (nl cl st pr : Nat) (va : Int) (ow go gf gt : Nat) (w : World) :
    Calls Try.prog 20 #[.agg #[.bool false, .int .u8 o, .int .u64 sq, .int .u64 tm, .string ru, .slice Al nl cl, .int .u8 st, .int .u8 pr, .int .i64 va, .int .u8 ow, .int .u8 go, .int .u64 gf, .int .u64 gt]] w fun e w' => e = .returned (.tuple #[.int .u8 o, .int .u64 sq, .int .u64 sq]) ∧ Below w.heap.size w w' := by
  go_enter Try.func20, Try.ntmps20
  go_wp2_with fail
  go_region
  go_wp2_with fail
  go_ret3
  exact ⟨rfl, ((Below.refl _ _).alloc (Nat.le_refl _) _).drew⟩
theorem refSpan (a : ItV) (w : World) (h : a.ok w) :
    Calls Try.prog 20 #[.agg #[.bool a.gap, .int .u8 a.o, .int .u64 a.sq, .int .u64 a.tm, .string a.ru, a.lv, .int .u8 a.st, .int .u8 a.pr, .int .i64 a.va, .int .u8 a.ow, .int .u8 a.go, .int .u64 a.gf, .int .u64 a.gt]] w fun e w' => e = .returned (.tuple #[.int .u8 (spanO a), .int .u64 (spanF a), .int .u64 (spanT a)]) ∧ Below w.heap.size w w' := by
  obtain ⟨A, c, hlv, _⟩ := h.rd
  rw [hlv]
  unfold spanO spanF spanT
  cases a.gap
  · rw [if_neg Bool.false_ne_true, if_neg Bool.false_ne_true, if_neg Bool.false_ne_true]; exact refSpan_false a.o a.sq a.tm a.ru A a.ps.length c a.st a.pr a.va a.ow a.go a.gf a.gt w
  · rw [if_pos rfl, if_pos rfl, if_pos rfl]; exact refSpan_true a.o a.sq a.tm a.ru A a.ps.length c a.st a.pr a.va a.ow a.go a.gf a.gt w
end Go.Proofs.Ytdghpjkjhlankaa
