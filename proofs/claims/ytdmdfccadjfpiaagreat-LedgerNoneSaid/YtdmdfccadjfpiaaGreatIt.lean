/-
  Items: item.Check, item.Span, item.Trim, item.Gap, item.Of, the reference's Span.
-/
import Derived.Test.YtdmdfccadjfpiaaGreatItC
namespace Go.Proofs.YtdmdfccadjfpiaaGreat
open Go.RowKit
set_option maxRecDepth 100000

/-- What an item is handed over as. -/
abbrev itV (a : ItV) : Value := .agg #[.bool a.gap, .int .u8 a.o, .int .u64 a.sq, .int .u64 a.tm, .string a.ru, a.lv, .int .u8 a.st, .int .u8 a.pr, .int .i64 a.va, .int .u8 a.ow, .int .u8 a.go, .int .u64 a.gf, .int .u64 a.gt]
theorem itCheck_true (o sq tm : Nat) (ru : ByteArray) (Al : Option Addr) (nl cl st pr : Nat) (va : Int) (ow go gf gt : Nat) (w : World) :
    Calls Tryz.prog 35 #[.agg #[.bool true, .int .u8 o, .int .u64 sq, .int .u64 tm, .string ru, .slice Al nl cl, .int .u8 st, .int .u8 pr, .int .i64 va, .int .u8 ow, .int .u8 go, .int .u64 gf, .int .u64 gt]] w fun e w' => e = .returned (.int .i64 (chkGap go gf gt : Nat)) ∧ Below w.heap.size w w' := by
  have K := fun w' => itGap go gf gt w'
  go_enter Tryz.func35, Tryz.ntmps35
  go_wp2_with fail
  refine calls_genP fun w2 hw2 => ?_
  have hb2 : Below w.heap.size w w2 := by rw [hw2]; exact (Below.refl _ _).alloc (Nat.le_refl _) _
  clear hw2
  (with_reducible refine (K w2).mono ?_)
  rintro e w3 ⟨rfl, hb3⟩
  have hb4 := hb2.trans (hb3.mono hb2.size)
  clear hb2 hb3 K
  go_wp2_with fail
  go_ret
  exact ⟨rfl, hb4⟩
theorem itCheck_false (o sq tm : Nat) (ru : ByteArray) (Al : Option Addr) (nl cl : Nat) (ps : List Pr) (st pr : Nat) (va : Int) (ow go gf gt : Nat) (w : World) (hru : ru.size ≤ maxLen) (hrd : Rd w 2 (.slice Al nl cl) ps.length (pairCells ps)) (hpz : ∀ p ∈ ps, p.1.size ≤ maxLen ∧ p.2.size ≤ maxLen) :
    Calls Tryz.prog 35 #[.agg #[.bool false, .int .u8 o, .int .u64 sq, .int .u64 tm, .string ru, .slice Al nl cl, .int .u8 st, .int .u8 pr, .int .i64 va, .int .u8 ow, .int .u8 go, .int .u64 gf, .int .u64 gt]] w fun e w' => e = .returned (.int .i64 (chkE o sq tm ru ps st pr ow : Nat)) ∧ Below w.heap.size w w' := by
  have K : ∀ w', Below w.heap.size w w' → Calls Tryz.prog 63 #[.agg #[.int .u8 o, .int .u64 sq, .int .u64 tm, .string ru, .slice Al nl cl, .int .u8 st, .int .u8 pr, .int .i64 va, .int .u8 ow]] w' fun e w'' => e = .returned (.int .i64 (chkE o sq tm ru ps st pr ow : Nat)) ∧ Below w'.heap.size w' w'' := fun w' hb => itEvent o sq tm ru Al nl cl ps st pr va ow w' hru (hrd.below hb) hpz
  clear hru hrd hpz
  go_enter Tryz.func35, Tryz.ntmps35
  go_wp2_with fail
  refine calls_genP fun w2 hw2 => ?_
  have hb2 : Below w.heap.size w w2 := by rw [hw2]; exact (Below.refl _ _).alloc (Nat.le_refl _) _
  clear hw2
  (with_reducible refine (K w2 hb2).mono ?_)
  rintro e w3 ⟨rfl, hb3⟩
  have hb4 := hb2.trans (hb3.mono hb2.size)
  clear hb2 hb3 K
  go_wp2_with fail
  go_ret
  exact ⟨rfl, hb4⟩
theorem itCheck (a : ItV) (w : World) (h : a.ok w) : Calls Tryz.prog 35 #[itV a] w fun e w' => e = .returned (.int .i64 (chkIt a : Nat)) ∧ Below w.heap.size w w' := by
  have hrd := h.rd
  obtain ⟨A, c, hlv, _⟩ := h.rd
  rw [hlv] at hrd
  unfold itV
  rw [hlv]
  unfold chkIt chkEv
  cases a.gap
  · rw [if_neg Bool.false_ne_true]; exact itCheck_false a.o a.sq a.tm a.ru A a.ps.length c a.ps a.st a.pr a.va a.ow a.go a.gf a.gt w h.ru hrd h.pz
  · rw [if_pos rfl]; exact itCheck_true a.o a.sq a.tm a.ru A a.ps.length c a.st a.pr a.va a.ow a.go a.gf a.gt w
theorem itSpan_true (o sq tm : Nat) (ru : ByteArray) (Al : Option Addr) (nl cl st pr : Nat) (va : Int) (ow go gf gt : Nat) (w : World) :
    Calls Tryz.prog 36 #[.agg #[.bool true, .int .u8 o, .int .u64 sq, .int .u64 tm, .string ru, .slice Al nl cl, .int .u8 st, .int .u8 pr, .int .i64 va, .int .u8 ow, .int .u8 go, .int .u64 gf, .int .u64 gt]] w fun e w' => e = .returned (.tuple #[.int .u8 go, .int .u64 gf, .int .u64 gt]) ∧ Below w.heap.size w w' := by
  go_enter Tryz.func36, Tryz.ntmps36
  go_wp2_with fail
  go_region
  go_wp2_with fail
  go_ret3
  exact ⟨rfl, ((Below.refl _ _).alloc (Nat.le_refl _) _).drew⟩
theorem itSpan_false (o sq tm : Nat) (ru : ByteArray) (Al : Option Addr) (nl cl st pr : Nat) (va : Int) (ow go gf gt : Nat) (w : World) :
    Calls Tryz.prog 36 #[.agg #[.bool false, .int .u8 o, .int .u64 sq, .int .u64 tm, .string ru, .slice Al nl cl, .int .u8 st, .int .u8 pr, .int .i64 va, .int .u8 ow, .int .u8 go, .int .u64 gf, .int .u64 gt]] w fun e w' => e = .returned (.tuple #[.int .u8 o, .int .u64 sq, .int .u64 sq]) ∧ Below w.heap.size w w' := by
  go_enter Tryz.func36, Tryz.ntmps36
  go_wp2_with fail
  go_region
  go_wp2_with fail
  go_ret3
  exact ⟨rfl, ((Below.refl _ _).alloc (Nat.le_refl _) _).drew⟩
theorem itSpan (a : ItV) (w : World) (h : a.ok w) : Calls Tryz.prog 36 #[itV a] w fun e w' => e = .returned (.tuple #[.int .u8 (spanO a), .int .u64 (spanF a), .int .u64 (spanT a)]) ∧ Below w.heap.size w w' := by
  obtain ⟨A, c, hlv, _⟩ := h.rd
  unfold itV
  rw [hlv]
  unfold spanO spanF spanT
  cases a.gap
  · rw [if_neg Bool.false_ne_true, if_neg Bool.false_ne_true, if_neg Bool.false_ne_true]; exact itSpan_false a.o a.sq a.tm a.ru A a.ps.length c a.st a.pr a.va a.ow a.go a.gf a.gt w
  · rw [if_pos rfl, if_pos rfl, if_pos rfl]; exact itSpan_true a.o a.sq a.tm a.ru A a.ps.length c a.st a.pr a.va a.ow a.go a.gf a.gt w
theorem refSpan_true (o sq tm : Nat) (ru : ByteArray) (Al : Option Addr) (nl cl st pr : Nat) (va : Int) (ow go gf gt : Nat) (w : World) :
    Calls Tryz.prog 12 #[.agg #[.bool true, .int .u8 o, .int .u64 sq, .int .u64 tm, .string ru, .slice Al nl cl, .int .u8 st, .int .u8 pr, .int .i64 va, .int .u8 ow, .int .u8 go, .int .u64 gf, .int .u64 gt]] w fun e w' => e = .returned (.tuple #[.int .u8 go, .int .u64 gf, .int .u64 gt]) ∧ Below w.heap.size w w' := by
  go_enter Tryz.func12, Tryz.ntmps12
  go_wp2_with fail
  go_region
  go_wp2_with fail
  go_ret3
  exact ⟨rfl, ((Below.refl _ _).alloc (Nat.le_refl _) _).drew⟩
theorem refSpan_false (o sq tm : Nat) (ru : ByteArray) (Al : Option Addr) (nl cl st pr : Nat) (va : Int) (ow go gf gt : Nat) (w : World) :
    Calls Tryz.prog 12 #[.agg #[.bool false, .int .u8 o, .int .u64 sq, .int .u64 tm, .string ru, .slice Al nl cl, .int .u8 st, .int .u8 pr, .int .i64 va, .int .u8 ow, .int .u8 go, .int .u64 gf, .int .u64 gt]] w fun e w' => e = .returned (.tuple #[.int .u8 o, .int .u64 sq, .int .u64 sq]) ∧ Below w.heap.size w w' := by
  go_enter Tryz.func12, Tryz.ntmps12
  go_wp2_with fail
  go_region
  go_wp2_with fail
  go_ret3
  exact ⟨rfl, ((Below.refl _ _).alloc (Nat.le_refl _) _).drew⟩
theorem refSpan (a : ItV) (w : World) (h : a.ok w) : Calls Tryz.prog 12 #[itV a] w fun e w' => e = .returned (.tuple #[.int .u8 (spanO a), .int .u64 (spanF a), .int .u64 (spanT a)]) ∧ Below w.heap.size w w' := by
  obtain ⟨A, c, hlv, _⟩ := h.rd
  unfold itV
  rw [hlv]
  unfold spanO spanF spanT
  cases a.gap
  · rw [if_neg Bool.false_ne_true, if_neg Bool.false_ne_true, if_neg Bool.false_ne_true]; exact refSpan_false a.o a.sq a.tm a.ru A a.ps.length c a.st a.pr a.va a.ow a.go a.gf a.gt w
  · rw [if_pos rfl, if_pos rfl, if_pos rfl]; exact refSpan_true a.o a.sq a.tm a.ru A a.ps.length c a.st a.pr a.va a.ow a.go a.gf a.gt w
end Go.Proofs.YtdmdfccadjfpiaaGreat
