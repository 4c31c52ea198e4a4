/-
  An item's text (view.Item).
-/
import Derived.Test.YtdghpjkjhlankaaSpan
import Derived.Test.YtdghpjkjhlankaaNotice
namespace Go.Proofs.Ytdghpjkjhlankaa
open Go.RowKit FreeOrd
set_option maxRecDepth 100000
attribute [local go_sem] out

def gapB (names : List ByteArray) (o gf gt : Nat) : ByteArray := originB names o ++ ⟨#[32]⟩ ++ decB gf ++ ⟨#[32, 116, 111, 32]⟩ ++ decB gt ++ ⟨#[32, 101, 118, 105, 99, 116, 101, 100]⟩
def eventB (names : List ByteArray) (o sq tm : Nat) (ru : ByteArray) (ps : List (ByteArray × ByteArray)) (st : Int) (pr : Nat) (va : Int) : ByteArray :=
  originB names o ++ ⟨#[32]⟩ ++ decB sq ++ ⟨#[32, 97, 116, 32]⟩ ++ decB tm ++ ⟨#[32]⟩ ++ ru ++ ⟨#[123]⟩ ++ ⟨(textL ps).toArray⟩ ++ ⟨#[125, 32]⟩ ++ stateB st ++ ⟨#[32, 112, 114, 105, 111, 32]⟩ ++ decB pr ++ ⟨#[32, 118, 97, 108, 117, 101, 32]⟩ ++ sdecB va
def itemB (names : List ByteArray) (a : ItV) : ByteArray := if a.gap then gapB names a.go a.gf a.gt else eventB names a.o a.sq a.tm a.ru a.ps a.st a.pr a.va
set_option maxHeartbeats 1000000 in
theorem viewItem_true (v0 v1 v2 v3 v4 v5 v6 v7 : Value) (names : List ByteArray) (o sq tm : Nat) (ru : ByteArray) (Al : Option Addr) (nl cl st pr : Nat) (va : Int) (ow go gf gt : Nat) (_ps : List (ByteArray × ByteArray)) (w : World) (hn : Named w v0 names) (hns : ∀ s ∈ names, s.size ≤ 1000000) (hgo : go < 256) (hgf : gf < 18446744073709551616) (hgt : gt < 18446744073709551616) :
    Calls Try.prog 23 #[.agg #[v0, v1, v2, v3, v4, v5, v6, v7], .agg #[.bool true, .int .u8 o, .int .u64 sq, .int .u64 tm, .string ru, .slice Al nl cl, .int .u8 st, .int .u8 pr, .int .i64 va, .int .u8 ow, .int .u8 go, .int .u64 gf, .int .u64 gt]] w fun e w' => e = .returned (.string (gapB names go gf gt)) ∧ Below w.heap.size w w' := by
  have k1 := originB_size names go hgo hns
  have k2 := decB_size gf hgf
  have k3 := decB_size gt hgt
  clear hns
  go_enter Try.func23, Try.ntmps23
  go_wp2_with fail
  (with_reducible refine (itemSpan_true _ _ _ _ _ _ _ _ _ _ _ _ _ _ _).mono ?_)
  rintro e w1 ⟨rfl, hb1⟩
  obtain ⟨Wb, hWb⟩ : ∃ Wb, Wb = (w.alloc (Obj.cells #[v0, v1, v2, v3, v4, v5, v6, v7] 33)).alloc (Obj.cells #[.bool true, .int .u8 o, .int .u64 sq, .int .u64 tm, .string ru, .slice Al nl cl, .int .u8 st, .int .u8 pr, .int .i64 va, .int .u8 ow, .int .u8 go, .int .u64 gf, .int .u64 gt] 66) := ⟨_, rfl⟩
  have hbb : Below w.heap.size w Wb := by rw [hWb]; exact ((Below.refl _ _).alloc (Nat.le_refl _) _).alloc (by simp) _
  have hT : Blk Wb w.heap.size #[v0, v1, v2, v3, v4, v5, v6, v7] 33 := by rw [hWb]; exact (Blk.new _ _ _).alloc _
  have hI : Blk Wb (w.heap.size + 1) #[.bool true, .int .u8 o, .int .u64 sq, .int .u64 tm, .string ru, .slice Al nl cl, .int .u8 st, .int .u8 pr, .int .i64 va, .int .u8 ow, .int .u8 go, .int .u64 gf, .int .u64 gt] 66 := by
    rw [hWb]
    have := Blk.new (w.alloc (Obj.cells #[v0, v1, v2, v3, v4, v5, v6, v7] 33)) #[.bool true, .int .u8 o, .int .u64 sq, .int .u64 tm, .string ru, .slice Al nl cl, .int .u8 st, .int .u8 pr, .int .i64 va, .int .u8 ow, .int .u8 go, .int .u64 gf, .int .u64 gt] 66
    rwa [World.size_alloc] at this
  rw [← hWb] at hb1
  clear hWb
  have hb := hbb.trans (hb1.mono hbb.size)
  replace hT := hT.below hb1 hT.lt
  replace hI := hI.below hb1 hI.lt
  clear hbb
  have t0 := hT.cell (j := 0) (v := v0) rfl
  have t1 := hT.cell (j := 1) (v := v1) rfl
  have t2 := hT.cell (j := 2) (v := v2) rfl
  have t3 := hT.cell (j := 3) (v := v3) rfl
  have t4 := hT.cell (j := 4) (v := v4) rfl
  have t5 := hT.cell (j := 5) (v := v5) rfl
  have t6 := hT.cell (j := 6) (v := v6) rfl
  have t7 := hT.cell (j := 7) (v := v7) rfl
  clear hb1
  go_wp2_with fail
  (with_reducible refine (viewOrigin _ _ _ _ _ _ _ _ names go _ (hn.below hb) hgo).mono ?_)
  rintro e w2 ⟨rfl, hb2⟩
  have hB2 := hb.trans (hb2.mono hb.size)
  go_wp2_with fail
  (with_reducible refine (printed gf _ hgf).mono ?_)
  rintro e w3 ⟨rfl, hb3⟩
  have hB3 := hB2.trans (hb3.mono hB2.size)
  have i0 := ((hI.below hb2 hI.lt).below hb3 (hI.below hb2 hI.lt).lt).cell (j := 0) (v := .bool true) rfl
  clear t0 t1 t2 t3 t4 t5 t6 t7
  go_wp2_with fail
  (with_reducible refine (printed gt _ hgt).mono ?_)
  rintro e w4 ⟨rfl, hb4⟩
  have hB4 := hB3.trans (hb4.mono hB3.size)
  go_wp2_with fail
  go_ret
  exact ⟨rfl, hB4⟩
set_option maxHeartbeats 2000000 in
theorem viewItem_false (v0 v1 v2 v3 v4 v5 v6 v7 : Value) (names : List ByteArray) (o sq tm : Nat) (ru : ByteArray) (Al : Option Addr) (nl cl st pr : Nat) (va : Int) (ow go gf gt : Nat) (ps : List (ByteArray × ByteArray)) (w : World) (hn : Named w v0 names) (hns : ∀ s ∈ names, s.size ≤ 1000000) (ho : o < 256) (hsq : sq < 18446744073709551616) (htm : tm < 18446744073709551616) (hru : ru.size ≤ 1048576) (hnl : nl = ps.length) (hr : Rd w 2 (.slice Al nl cl) ps.length (pairCells ps)) (hz : (textL ps).length ≤ 100000000) (hpr : pr < 256) (hv0 : -9223372036854775808 ≤ va) (hv1 : va ≤ 9223372036854775807) :
    Calls Try.prog 23 #[.agg #[v0, v1, v2, v3, v4, v5, v6, v7], .agg #[.bool false, .int .u8 o, .int .u64 sq, .int .u64 tm, .string ru, .slice Al nl cl, .int .u8 st, .int .u8 pr, .int .i64 va, .int .u8 ow, .int .u8 go, .int .u64 gf, .int .u64 gt]] w fun e w' => e = .returned (.string (eventB names o sq tm ru ps st pr va)) ∧ Below w.heap.size w w' := by
  have k1 := originB_size names o ho hns
  have k2 := decB_size sq hsq
  have k3 := decB_size tm htm
  have k4 : (⟨(textL ps).toArray⟩ : ByteArray).size ≤ 100000000 := by rw [text_size]; exact hz
  have k5 := stateB_size st
  have hprw : pr < 18446744073709551616 := by omega
  have k6 := decB_size pr hprw
  have k7 := sdecB_size va hv0 hv1
  have wp : IntKind.u64.wrap (pr : Int) = (pr : Int) := by rw [IntKind.wrap_u64]; omega
  have HNL := Lib.hid hnl
  clear hns hnl hpr
  go_enter Try.func23, Try.ntmps23
  go_wp2_with fail
  (with_reducible refine (itemSpan_false _ _ _ _ _ _ _ _ _ _ _ _ _ _ _).mono ?_)
  rintro e w1 ⟨rfl, hb1⟩
  obtain ⟨Wb, hWb⟩ : ∃ Wb, Wb = (w.alloc (Obj.cells #[v0, v1, v2, v3, v4, v5, v6, v7] 33)).alloc (Obj.cells #[.bool false, .int .u8 o, .int .u64 sq, .int .u64 tm, .string ru, .slice Al nl cl, .int .u8 st, .int .u8 pr, .int .i64 va, .int .u8 ow, .int .u8 go, .int .u64 gf, .int .u64 gt] 66) := ⟨_, rfl⟩
  have hbb : Below w.heap.size w Wb := by rw [hWb]; exact ((Below.refl _ _).alloc (Nat.le_refl _) _).alloc (by simp) _
  have hT : Blk Wb w.heap.size #[v0, v1, v2, v3, v4, v5, v6, v7] 33 := by rw [hWb]; exact (Blk.new _ _ _).alloc _
  have hI : Blk Wb (w.heap.size + 1) #[.bool false, .int .u8 o, .int .u64 sq, .int .u64 tm, .string ru, .slice Al nl cl, .int .u8 st, .int .u8 pr, .int .i64 va, .int .u8 ow, .int .u8 go, .int .u64 gf, .int .u64 gt] 66 := by
    rw [hWb]
    have := Blk.new (w.alloc (Obj.cells #[v0, v1, v2, v3, v4, v5, v6, v7] 33)) #[.bool false, .int .u8 o, .int .u64 sq, .int .u64 tm, .string ru, .slice Al nl cl, .int .u8 st, .int .u8 pr, .int .i64 va, .int .u8 ow, .int .u8 go, .int .u64 gf, .int .u64 gt] 66
    rwa [World.size_alloc] at this
  rw [← hWb] at hb1
  clear hWb
  have hb := hbb.trans (hb1.mono hbb.size)
  replace hT := hT.below hb1 hT.lt
  replace hI := hI.below hb1 hI.lt
  clear hbb
  have t0 := hT.cell (j := 0) (v := v0) rfl
  have t1 := hT.cell (j := 1) (v := v1) rfl
  have t2 := hT.cell (j := 2) (v := v2) rfl
  have t3 := hT.cell (j := 3) (v := v3) rfl
  have t4 := hT.cell (j := 4) (v := v4) rfl
  have t5 := hT.cell (j := 5) (v := v5) rfl
  have t6 := hT.cell (j := 6) (v := v6) rfl
  have t7 := hT.cell (j := 7) (v := v7) rfl
  clear hb1
  go_wp2_with fail
  (with_reducible refine (viewOrigin _ _ _ _ _ _ _ _ names o _ (hn.below hb) ho).mono ?_)
  rintro e w2 ⟨rfl, hb2⟩
  have hB2 := hb.trans (hb2.mono hb.size)
  go_wp2_with fail
  (with_reducible refine (printed sq _ hsq).mono ?_)
  rintro e w3 ⟨rfl, hb3⟩
  have hB3 := hB2.trans (hb3.mono hB2.size)
  have q := (hI.below hb2 hI.lt).below hb3 (hI.below hb2 hI.lt).lt
  have i0 := q.cell (j := 0) (v := .bool false) rfl
  have i1 := q.cell (j := 1) (v := .int .u8 o) rfl
  have i2 := q.cell (j := 2) (v := .int .u64 sq) rfl
  have i3 := q.cell (j := 3) (v := .int .u64 tm) rfl
  have i4 := q.cell (j := 4) (v := .string ru) rfl
  have i5 := q.cell (j := 5) (v := .slice Al nl cl) rfl
  have i6 := q.cell (j := 6) (v := .int .u8 st) rfl
  have i7 := q.cell (j := 7) (v := .int .u8 pr) rfl
  have i8 := q.cell (j := 8) (v := .int .i64 va) rfl
  have i9 := q.cell (j := 9) (v := .int .u8 ow) rfl
  clear q hI hT t0 t1 t2 t3 t4 t5 t6 t7 hb3 hb2 hB2 hb
  go_wp2_with fail
  obtain ⟨W, hW⟩ : ∃ W, W = w3.alloc (.cells #[.int .u8 o, .int .u64 sq, .int .u64 tm, .string ru, .slice Al nl cl, .int .u8 st, .int .u8 pr, .int .i64 va, .int .u8 ow] 62) := ⟨_, rfl⟩
  have hE : Blk W w3.heap.size #[.int .u8 o, .int .u64 sq, .int .u64 tm, .string ru, .slice Al nl cl, .int .u8 st, .int .u8 pr, .int .i64 va, .int .u8 ow] 62 := by rw [hW]; exact Blk.new _ _ _
  have hbW : Below w.heap.size w W := by rw [hW]; exact hB3.alloc hB3.size _
  rw [← hW]
  have F : ∀ w', Below W.heap.size W w' → w'.cell? ⟨w3.heap.size, 2, none⟩ = some (.int .u64 tm) ∧ w'.cell? ⟨w3.heap.size, 3, none⟩ = some (.string ru) ∧ w'.cell? ⟨w3.heap.size, 4, none⟩ = some (.slice Al nl cl) ∧ w'.cell? ⟨w3.heap.size, 5, none⟩ = some (.int .u8 st) ∧ w'.cell? ⟨w3.heap.size, 6, none⟩ = some (.int .u8 pr) ∧ w'.cell? ⟨w3.heap.size, 7, none⟩ = some (.int .i64 va) := fun w' h => by
    have q := hE.below h hE.lt
    exact ⟨q.cell rfl, q.cell rfl, q.cell rfl, q.cell rfl, q.cell rfl, q.cell rfl⟩
  clear hW i0 i1 i2 i3 i4 i5 i6 i7 i8 i9 hB3
  refine region_free (fun w' => Below W.heap.size W w') [] [] [0, 1, 2, 3, 4, 5, 6, 7, 8, 9, 10, 11, 12, 13, 14, 15, 16, 17, 18, 19, 20, 21, 22, 23, 24, 25, 26, 27, 28, 29, 30, 31] (by kernel_rfl) (by kernel_rfl) (by kernel_rfl) (Below.refl _ _).drew ?_
  repeat (first
    | (refine RelSeq.pure_ (c := ?_) rfl rfl ?_ ?_; rotate_left; (focus (intro x w'; dsimp only; go_simp; (try (split; (focus (exfalso; omega)); go_simp)); (repeat' apply And.intro) <;> first | with_reducible rfl | assumption)); simp only [Act.put, List.setIfInBounds_toArray, List.set_cons_zero, List.set_cons_succ])
    | (refine RelSeq.grow_ (c := ?_) rfl rfl ?_ ?_; rotate_left; (focus (intro x w' hw _; dsimp only; obtain ⟨d2, d3, d4, d5, d6, d7⟩ := F w' hw; have hbr := Below.refl w'.heap.size w'; go_simp; (repeat' apply And.intro) <;> first | with_reducible rfl | assumption)); simp only [Act.put, List.setIfInBounds_toArray, List.set_cons_zero, List.set_cons_succ])
    | (refine RelSeq.grow_ (c := ?_) rfl rfl ?_ ?_; rotate_left
       (focus (intro x w' hw _; dsimp only
               have hbg := hr.below (hbW.trans (hw.mono hbW.size))
               go_simp
               first
                 | (go_at_call 32; refine (labText _ ps _ hbg (by omega)).mono ?_; rintro e w1 ⟨rfl, hb1⟩; have hI1 := hw.trans (hb1.mono hw.size); go_simp; (repeat' apply And.intro) <;> first | with_reducible rfl | assumption)
                 | (go_at_call 33; refine (printed _ _ (by first | exact htm | exact hprw)).mono ?_; rintro e w1 ⟨rfl, hb1⟩; have hI1 := hw.trans (hb1.mono hw.size); go_simp; (repeat' apply And.intro) <;> first | with_reducible rfl | assumption)
                 | (go_at_call 16; refine (viewState _ _).mono ?_; rintro e w1 ⟨rfl, rfl⟩; have hbr := Below.refl w'.heap.size w'; go_simp; (repeat' apply And.intro) <;> first | with_reducible rfl | assumption)
                 | (go_at_call 34; refine (viewSigned _ _ hv0 hv1).mono ?_; rintro e w1 ⟨rfl, hb1⟩; have hI1 := hw.trans (hb1.mono hw.size); go_simp; (repeat' apply And.intro) <;> first | with_reducible rfl | assumption)))
       simp only [Act.put, List.setIfInBounds_toArray, List.set_cons_zero, List.set_cons_succ]))
  refine RelSeq.nil_ fun x w4 hw4 _ => TailSeq.nil_ ?_
  have hbe := hbW.trans (hw4.mono hbW.size)
  go_wp2_with fail
  go_ret
  exact ⟨rfl, hbe⟩
theorem viewItem (v0 v1 v2 v3 v4 v5 v6 v7 : Value) (names : List ByteArray) (a : ItV) (w : World) (hn : Named w v0 names) (hns : ∀ s ∈ names, s.size ≤ 1000000) (h : a.ok w) :
    Calls Try.prog 23 #[.agg #[v0, v1, v2, v3, v4, v5, v6, v7], .agg #[.bool a.gap, .int .u8 a.o, .int .u64 a.sq, .int .u64 a.tm, .string a.ru, a.lv, .int .u8 a.st, .int .u8 a.pr, .int .i64 a.va, .int .u8 a.ow, .int .u8 a.go, .int .u64 a.gf, .int .u64 a.gt]] w fun e w' => e = .returned (.string (itemB names a)) ∧ Below w.heap.size w w' := by
  obtain ⟨gap, o, sq, tm, ru, lv, ps, st, pr, va, ow, go, gf, gt⟩ := a
  obtain ⟨q1, q2, q3, q4, q5, q6, q7, q8, q9, q10, q11, q12⟩ := h
  simp only at *
  have q50 := q5
  obtain ⟨A, c, rfl, _⟩ := q50
  unfold itemB
  cases gap
  · rw [if_neg Bool.false_ne_true]
    exact viewItem_false v0 v1 v2 v3 v4 v5 v6 v7 names o sq tm ru A ps.length c st pr va ow go gf gt ps w hn hns q1 q2 q3 q4 rfl q5 q6 q8 q9.1 q9.2
  · rw [if_pos rfl]
    exact viewItem_true v0 v1 v2 v3 v4 v5 v6 v7 names o sq tm ru A ps.length c st pr va ow go gf gt ps w hn hns q10 q11 q12
end Go.Proofs.Ytdghpjkjhlankaa
