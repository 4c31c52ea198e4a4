/-
  item.Clone; ledger.enter.
-/
import Derived.Test.YtdmdfccadjfpiaaGreatLed
import Derived.Test.YtdmdfccadjfpiaaGreatPackW
import Derived.Test.YtdmdfccadjfpiaaGreatJU
namespace Go.Proofs.YtdmdfccadjfpiaaGreat
open Go.RowKit FreeOrd
set_option maxRecDepth 100000
attribute [local go_sem] out

theorem infoPairE : (Tryz.prog.info? 137).map (fun i => (i.zero, i.size, i.bytes)) = some (some (.agg #[.string ⟨#[]⟩, .string ⟨#[]⟩]), 2, 32) := by kernel_rfl
theorem infoEntry : (Tryz.prog.info? 41).map (fun i => (i.zero, i.size, i.bytes)) = some (some (.agg #[.int .u64 0, .bool false, .int .u8 0, .int .u64 0, .int .u64 0, .string ⟨#[]⟩, .slice none 0 0, .int .u8 0, .int .u8 0, .int .i64 0, .int .u8 0, .int .u8 0, .int .u64 0, .int .u64 0]), 14, 128) := by kernel_rfl
set_option maxHeartbeats 2000000 in
theorem itClone (gap : Bool) (o sq tm : Nat) (ru : ByteArray) (Al : Option Addr) (nl cl st pr : Nat) (va : Int) (ow go gf gt : Nat) (ps : List Pr) (w : World) (hrd : Rd w 2 (.slice Al nl cl) nl (pairCells ps)) (hn : nl ≤ 1000000) :
    Calls Tryz.prog 53 #[.agg #[.bool gap, .int .u8 o, .int .u64 sq, .int .u64 tm, .string ru, .slice Al nl cl, .int .u8 st, .int .u8 pr, .int .i64 va, .int .u8 ow, .int .u8 go, .int .u64 gf, .int .u64 gt]] w fun e w' => ∃ A4 c4, e = .returned (.agg #[.bool gap, .int .u8 o, .int .u64 sq, .int .u64 tm, .string ru, .slice A4 nl c4, .int .u8 st, .int .u8 pr, .int .i64 va, .int .u8 ow, .int .u8 go, .int .u64 gf, .int .u64 gt]) ∧ w'.ownsRow w.heap.size 137 2 (.slice A4 nl c4) nl (pairCells ps) ∧ Below w.heap.size w w' := by
  obtain ⟨i0, hi, hz0, hz1, hz2⟩ := info_parts infoPairE
  have HRD := Lib.hid hrd
  clear hrd
  go_enter Tryz.func53, Tryz.ntmps53
  go_wp2_with (at_builtin; refine wpl_stop fun W hW => ?_)
  refine Stopped.mk ?_
  have U2 := (((Upd.nil [] w).alloc #[.bool gap, .int .u8 o, .int .u64 sq, .int .u64 tm, .string ru, .slice Al nl cl, .int .u8 st, .int .u8 pr, .int .i64 va, .int .u8 ow, .int .u8 go, .int .u64 gf, .int .u64 gt] 36).alloc #[.bool false, .int .u8 0, .int .u64 0, .int .u64 0, .string ⟨#[]⟩, .slice none 0 0, .int .u8 0, .int .u8 0, .int .i64 0, .int .u8 0, .int .u8 0, .int .u64 0, .int .u64 0] 36).same hW
  simp only [World.size_alloc] at U2
  clear hW
  refine wpl_append_rd rfl (.const (.slice none 0 0)) (.tmp 5) 29 rfl W.heap.size 137 i0 _ 2 32 Tryz.underlying29 hi hz0 hz1 hz2 rfl (by decide) (.slice none 0 0) 0 [] rfl (World.ownsRow_nil W W.heap.size 137 2) (.slice Al nl cl) nl _ rfl (U2.rd0 HRD.out) (pairCells_one ps) (by unfold maxLen; omega) (by omega) (Nat.le_refl _) fun v4 w4 hown4 hgr4 hv4 => ?_
  rw [Nat.zero_add, List.nil_append] at hown4
  have hb4 : Below W.heap.size W w4 := ⟨hgr4.os, hgr4.tape, hgr4.output, hgr4.size, fun q hq => hgr4.block q hq (by simp [Value.ownBlock])⟩
  have U4 := U2.addRow hb4 hown4 (Nat.le_refl _)
  obtain ⟨A4, c4, rfl⟩ := owns_slice hown4
  have hsz : w.heap.size ≤ W.heap.size := U2.below.size
  have hown5 := owns_base (base' := w.heap.size) hown4 (fun q hq => Nat.le_trans hsz (owns_ge hown4 q hq))
  clear hown4 hgr4 hv4 hb4 U2 HRD hsz
  have e0 := (U4.blk 2 rfl).cell (j := 0) (v := .bool gap) rfl
  have e1 := (U4.blk 2 rfl).cell (j := 1) (v := .int .u8 o) rfl
  have e2 := (U4.blk 2 rfl).cell (j := 2) (v := .int .u64 sq) rfl
  have e3 := (U4.blk 2 rfl).cell (j := 3) (v := .int .u64 tm) rfl
  have e4 := (U4.blk 2 rfl).cell (j := 4) (v := .string ru) rfl
  have e5 := (U4.blk 2 rfl).cell (j := 5) (v := .slice Al nl cl) rfl
  have e6 := (U4.blk 2 rfl).cell (j := 6) (v := .int .u8 st) rfl
  have e7 := (U4.blk 2 rfl).cell (j := 7) (v := .int .u8 pr) rfl
  have e8 := (U4.blk 2 rfl).cell (j := 8) (v := .int .i64 va) rfl
  have e9 := (U4.blk 2 rfl).cell (j := 9) (v := .int .u8 ow) rfl
  have e10 := (U4.blk 2 rfl).cell (j := 10) (v := .int .u8 go) rfl
  have e11 := (U4.blk 2 rfl).cell (j := 11) (v := .int .u64 gf) rfl
  have e12 := (U4.blk 2 rfl).cell (j := 12) (v := .int .u64 gt) rfl
  have ef := (U4.blk 2 rfl).frozen
  have z0 := (U4.blk 1 rfl).cell (j := 0) (v := .bool false) rfl
  have z1 := (U4.blk 1 rfl).cell (j := 1) (v := .int .u8 0) rfl
  have z2 := (U4.blk 1 rfl).cell (j := 2) (v := .int .u64 0) rfl
  have z3 := (U4.blk 1 rfl).cell (j := 3) (v := .int .u64 0) rfl
  have z4 := (U4.blk 1 rfl).cell (j := 4) (v := .string ⟨#[]⟩) rfl
  have z5 := (U4.blk 1 rfl).cell (j := 5) (v := .slice none 0 0) rfl
  have z6 := (U4.blk 1 rfl).cell (j := 6) (v := .int .u8 0) rfl
  have z7 := (U4.blk 1 rfl).cell (j := 7) (v := .int .u8 0) rfl
  have z8 := (U4.blk 1 rfl).cell (j := 8) (v := .int .i64 0) rfl
  have z9 := (U4.blk 1 rfl).cell (j := 9) (v := .int .u8 0) rfl
  have z10 := (U4.blk 1 rfl).cell (j := 10) (v := .int .u8 0) rfl
  have z11 := (U4.blk 1 rfl).cell (j := 11) (v := .int .u64 0) rfl
  have z12 := (U4.blk 1 rfl).cell (j := 12) (v := .int .u64 0) rfl
  have zf := (U4.blk 1 rfl).frozen
  go_wp2_with fail
  refine bodyPost_gen fun w6 hw6 => ?_
  have V := (((((((((((((((U4.put 2 rfl 5 (.slice A4 nl c4)).put 2 rfl 0 (.bool gap)).put 0 rfl 1 (.int .u8 o)).put 0 rfl 2 (.int .u64 sq)).put 0 rfl 3 (.int .u64 tm)).put 0 rfl 4 (.string ru)).put 0 rfl 5 (.slice A4 nl c4)).put 0 rfl 6 (.int .u8 st)).put 0 rfl 7 (.int .u8 pr)).put 0 rfl 8 (.int .i64 va)).put 0 rfl 9 (.int .u8 ow)).put 0 rfl 10 (.int .u8 go)).put 0 rfl 11 (.int .u64 gf)).put 0 rfl 12 (.int .u64 gt))).same hw6
  simp only [List.setIfInBounds_toArray, List.set_cons_succ, List.set_cons_zero, List.eraseIdx_cons_succ, List.eraseIdx_cons_zero] at V
  clear hw6 U4 hown5
  have a0 := (V.blk 0 rfl).cell (j := 0) (v := .bool gap) rfl
  have a1 := (V.blk 0 rfl).cell (j := 1) (v := .int .u8 o) rfl
  have a2 := (V.blk 0 rfl).cell (j := 2) (v := .int .u64 sq) rfl
  have a3 := (V.blk 0 rfl).cell (j := 3) (v := .int .u64 tm) rfl
  have a4 := (V.blk 0 rfl).cell (j := 4) (v := .string ru) rfl
  have a5 := (V.blk 0 rfl).cell (j := 5) (v := .slice A4 nl c4) rfl
  have a6 := (V.blk 0 rfl).cell (j := 6) (v := .int .u8 st) rfl
  have a7 := (V.blk 0 rfl).cell (j := 7) (v := .int .u8 pr) rfl
  have a8 := (V.blk 0 rfl).cell (j := 8) (v := .int .i64 va) rfl
  have a9 := (V.blk 0 rfl).cell (j := 9) (v := .int .u8 ow) rfl
  have a10 := (V.blk 0 rfl).cell (j := 10) (v := .int .u8 go) rfl
  have a11 := (V.blk 0 rfl).cell (j := 11) (v := .int .u64 gf) rfl
  have a12 := (V.blk 0 rfl).cell (j := 12) (v := .int .u64 gt) rfl
  have hrow := V.row 2 rfl
  have hge := V.own _ (.tail _ (.tail _ (.head _)))
  have hrow' := owns_base (base' := w.heap.size) hrow (fun g hg => (hge g (by simpa [chRow] using hg)).resolve_left (fun h => nomatch h))
  refine bodyPost_ret (v := .agg #[.bool gap, .int .u8 o, .int .u64 sq, .int .u64 tm, .string ru, .slice A4 nl c4, .int .u8 st, .int .u8 pr, .int .i64 va, .int .u8 ow, .int .u8 go, .int .u64 gf, .int .u64 gt]) ?_ rfl ⟨A4, c4, rfl, hrow', V.below⟩
  simp [results, Tryz.results53, go_sem, a0, a1, a2, a3, a4, a5, a6, a7, a8, a9, a10, a11, a12]
/-- A ledger's block and its entries' row. -/
abbrev chLed (g : Nat) (jv lv : Value) (h : Nat → Nat) (li la n : Nat) (cs : List Value) : Chunk := chTwo (chBlk g (ledA jv lv h li la) 93) (chRow 41 14 lv n cs)
set_option maxHeartbeats 2000000 in
theorem enter_bad (g now code : Nat) (gap : Bool) (o sq tm : Nat) (ru : ByteArray) (Al : Option Addr) (nl cl st pr : Nat) (va : Int) (ow go gf gt : Nat) (w : World) (hc : code ≠ 0) (KF : ∀ w', Below w.heap.size w w' → Calls Tryz.prog 37 #[.pointer (some ⟨g, 0, none⟩), .int .u64 now, .agg #[.bool gap, .int .u8 o, .int .u64 sq, .int .u64 tm, .string ru, .slice Al nl cl, .int .u8 st, .int .u8 pr, .int .i64 va, .int .u8 ow, .int .u8 go, .int .u64 gf, .int .u64 gt]] w' fun e w'' => e = .returned (.tuple #[.agg #[.bool false, .int .u8 0, .int .u64 0, .int .u64 0, .string ⟨#[]⟩, .slice none 0 0, .int .u8 0, .int .u8 0, .int .i64 0, .int .u8 0, .int .u8 0, .int .u64 0, .int .u64 0], .int .i64 code]) ∧ Below w'.heap.size w' w'') :
    Calls Tryz.prog 43 #[.pointer (some ⟨g, 0, none⟩), .int .u64 now, .agg #[.bool gap, .int .u8 o, .int .u64 sq, .int .u64 tm, .string ru, .slice Al nl cl, .int .u8 st, .int .u8 pr, .int .i64 va, .int .u8 ow, .int .u8 go, .int .u64 gf, .int .u64 gt]] w fun e w' => e = .returned (.tuple #[.agg #[.bool false, .int .u8 0, .int .u64 0, .int .u64 0, .string ⟨#[]⟩, .slice none 0 0, .int .u8 0, .int .u8 0, .int .i64 0, .int .u8 0, .int .u8 0, .int .u64 0, .int .u64 0], .int .i64 code]) ∧ Below w.heap.size w w' := by
  have d : ((code : Int) != 0) = true := by simp; omega
  clear hc
  go_enter Tryz.func43, Tryz.ntmps43
  go_wp2_with fail
  refine calls_genP fun w2 hw2 => ?_
  have U2 := (((Upd.nil [] w).alloc #[.bool gap, .int .u8 o, .int .u64 sq, .int .u64 tm, .string ru, .slice Al nl cl, .int .u8 st, .int .u8 pr, .int .i64 va, .int .u8 ow, .int .u8 go, .int .u64 gf, .int .u64 gt] 36).alloc #[.bool false, .int .u8 0, .int .u64 0, .int .u64 0, .string ⟨#[]⟩, .slice none 0 0, .int .u8 0, .int .u8 0, .int .i64 0, .int .u8 0, .int .u8 0, .int .u64 0, .int .u64 0] 36).same hw2
  simp only [World.size_alloc] at U2
  clear hw2
  (with_reducible refine (KF w2 U2.below).mono ?_)
  rintro e w3 ⟨rfl, hb3⟩
  have U3 := U2.grow hb3
  clear U2 hb3 KF
  have U4 := U3.alloc #[.bool false, .int .u8 0, .int .u64 0, .int .u64 0, .string ⟨#[]⟩, .slice none 0 0, .int .u8 0, .int .u8 0, .int .i64 0, .int .u8 0, .int .u8 0, .int .u64 0, .int .u64 0] 36
  have z0 := (U4.blk 1 rfl).cell (j := 0) (v := .bool false) rfl
  have z1 := (U4.blk 1 rfl).cell (j := 1) (v := .int .u8 0) rfl
  have z2 := (U4.blk 1 rfl).cell (j := 2) (v := .int .u64 0) rfl
  have z3 := (U4.blk 1 rfl).cell (j := 3) (v := .int .u64 0) rfl
  have z4 := (U4.blk 1 rfl).cell (j := 4) (v := .string ⟨#[]⟩) rfl
  have z5 := (U4.blk 1 rfl).cell (j := 5) (v := .slice none 0 0) rfl
  have z6 := (U4.blk 1 rfl).cell (j := 6) (v := .int .u8 0) rfl
  have z7 := (U4.blk 1 rfl).cell (j := 7) (v := .int .u8 0) rfl
  have z8 := (U4.blk 1 rfl).cell (j := 8) (v := .int .i64 0) rfl
  have z9 := (U4.blk 1 rfl).cell (j := 9) (v := .int .u8 0) rfl
  have z10 := (U4.blk 1 rfl).cell (j := 10) (v := .int .u8 0) rfl
  have z11 := (U4.blk 1 rfl).cell (j := 11) (v := .int .u64 0) rfl
  have z12 := (U4.blk 1 rfl).cell (j := 12) (v := .int .u64 0) rfl
  have zf := (U4.blk 1 rfl).frozen
  go_wp2_with fail
  refine bodyPost_gen fun w6 hw6 => ?_
  have V := ((((((((((((((U4.put 1 rfl 0 (.bool false)).put 0 rfl 1 (.int .u8 0)).put 0 rfl 2 (.int .u64 0)).put 0 rfl 3 (.int .u64 0)).put 0 rfl 4 (.string ⟨#[]⟩)).put 0 rfl 5 (.slice none 0 0)).put 0 rfl 6 (.int .u8 0)).put 0 rfl 7 (.int .u8 0)).put 0 rfl 8 (.int .i64 0)).put 0 rfl 9 (.int .u8 0)).put 0 rfl 10 (.int .u8 0)).put 0 rfl 11 (.int .u64 0)).put 0 rfl 12 (.int .u64 0))).same hw6
  simp only [List.setIfInBounds_toArray, List.set_cons_succ, List.set_cons_zero, List.eraseIdx_cons_succ, List.eraseIdx_cons_zero] at V
  clear hw6
  have a0 := (V.blk 0 rfl).cell (j := 0) (v := .bool false) rfl
  have a1 := (V.blk 0 rfl).cell (j := 1) (v := .int .u8 0) rfl
  have a2 := (V.blk 0 rfl).cell (j := 2) (v := .int .u64 0) rfl
  have a3 := (V.blk 0 rfl).cell (j := 3) (v := .int .u64 0) rfl
  have a4 := (V.blk 0 rfl).cell (j := 4) (v := .string ⟨#[]⟩) rfl
  have a5 := (V.blk 0 rfl).cell (j := 5) (v := .slice none 0 0) rfl
  have a6 := (V.blk 0 rfl).cell (j := 6) (v := .int .u8 0) rfl
  have a7 := (V.blk 0 rfl).cell (j := 7) (v := .int .u8 0) rfl
  have a8 := (V.blk 0 rfl).cell (j := 8) (v := .int .i64 0) rfl
  have a9 := (V.blk 0 rfl).cell (j := 9) (v := .int .u8 0) rfl
  have a10 := (V.blk 0 rfl).cell (j := 10) (v := .int .u8 0) rfl
  have a11 := (V.blk 0 rfl).cell (j := 11) (v := .int .u64 0) rfl
  have a12 := (V.blk 0 rfl).cell (j := 12) (v := .int .u64 0) rfl
  refine bodyPost_ret (v := .tuple #[.agg #[.bool false, .int .u8 0, .int .u64 0, .int .u64 0, .string ⟨#[]⟩, .slice none 0 0, .int .u8 0, .int .u8 0, .int .i64 0, .int .u8 0, .int .u8 0, .int .u64 0, .int .u64 0], .int .i64 code]) ?_ rfl ⟨rfl, V.below⟩
  simp [results, Tryz.results43, go_sem, a0, a1, a2, a3, a4, a5, a6, a7, a8, a9, a10, a11, a12]
set_option maxHeartbeats 8000000 in
theorem enter_ok (g : Nat) (jv lv : Value) (h : Nat → Nat) (li la n now : Nat) (cs : List Value) (gap : Bool) (o sq tm : Nat) (ru : ByteArray) (Al : Option Addr) (nl cl st pr : Nat) (va : Int) (ow go gf gt : Nat) (ps : List Pr) (so sf sto gf2 : Nat) (w : World) (hP : (chLed g jv lv h li la n cs).P w) (hn : n ≤ 1000000) (hso : so < 32)
    (hrd : Rd w 2 (.slice Al nl cl) nl (pairCells ps)) (hnl : nl ≤ 1000000) (hdl : ∀ b ∈ rdFp (.slice Al nl cl) nl, b ∉ (chLed g jv lv h li la n cs).fp)
    (KF : ∀ w', Below w.heap.size w w' → Calls Tryz.prog 37 #[.pointer (some ⟨g, 0, none⟩), .int .u64 now, .agg #[.bool gap, .int .u8 o, .int .u64 sq, .int .u64 tm, .string ru, .slice Al nl cl, .int .u8 st, .int .u8 pr, .int .i64 va, .int .u8 ow, .int .u8 go, .int .u64 gf, .int .u64 gt]] w' fun e w'' => e = .returned (.tuple #[.agg #[.bool gap, .int .u8 o, .int .u64 sq, .int .u64 tm, .string ru, .slice Al nl cl, .int .u8 st, .int .u8 pr, .int .i64 va, .int .u8 ow, .int .u8 go, .int .u64 gf2, .int .u64 gt], .int .i64 0]) ∧ Below w'.heap.size w' w'')
    (KS : ∀ w', Below w.heap.size w w' → Calls Tryz.prog 36 #[.agg #[.bool gap, .int .u8 o, .int .u64 sq, .int .u64 tm, .string ru, .slice Al nl cl, .int .u8 st, .int .u8 pr, .int .i64 va, .int .u8 ow, .int .u8 go, .int .u64 gf2, .int .u64 gt]] w' fun e w'' => e = .returned (.tuple #[.int .u8 so, .int .u64 sf, .int .u64 sto]) ∧ Below w'.heap.size w' w'') :
    Calls Tryz.prog 43 #[.pointer (some ⟨g, 0, none⟩), .int .u64 now, .agg #[.bool gap, .int .u8 o, .int .u64 sq, .int .u64 tm, .string ru, .slice Al nl cl, .int .u8 st, .int .u8 pr, .int .i64 va, .int .u8 ow, .int .u8 go, .int .u64 gf, .int .u64 gt]] w fun e w' => ∃ lv' A4 c4, e = .returned (.tuple #[.agg #[.bool gap, .int .u8 o, .int .u64 sq, .int .u64 tm, .string ru, .slice Al nl cl, .int .u8 st, .int .u8 pr, .int .i64 va, .int .u8 ow, .int .u8 go, .int .u64 gf2, .int .u64 gt], .int .i64 0]) ∧ Upd (chLed g jv lv h li la n cs).fp w [chLed g jv lv' (fun p => if p = so then sto else h p) li now (n + 1) (cs ++ [.int .u64 now, .bool gap, .int .u8 o, .int .u64 sq, .int .u64 tm, .string ru, .slice A4 nl c4, .int .u8 st, .int .u8 pr, .int .i64 va, .int .u8 ow, .int .u8 go, .int .u64 gf2, .int .u64 gt]), chRow 137 2 (.slice A4 nl c4) nl (pairCells ps)] w' := by
  obtain ⟨i0, hi, hz0, hz1, hz2⟩ := info_parts infoEntry
  obtain ⟨Av, cv, rfl⟩ := owns_slice hP.2.1
  obtain ⟨S, hS⟩ : ∃ S, S = (chLed g jv (.slice Av n cv) h li la n cs).fp := ⟨_, rfl⟩
  have U0 := two_open hP
  rw [← hS] at U0 hdl ⊢
  clear hS hP
  have HRD := Lib.hid hrd
  have HDL := Lib.hid hdl
  clear hdl
  have hsI : (so : Int) < 32 := by omega
  clear hrd
  go_enter Tryz.func43, Tryz.ntmps43
  go_wp2_with fail
  refine calls_genP fun w2 hw2 => ?_
  have U2 := ((U0.alloc #[.bool gap, .int .u8 o, .int .u64 sq, .int .u64 tm, .string ru, .slice Al nl cl, .int .u8 st, .int .u8 pr, .int .i64 va, .int .u8 ow, .int .u8 go, .int .u64 gf, .int .u64 gt] 36).alloc #[.bool false, .int .u8 0, .int .u64 0, .int .u64 0, .string ⟨#[]⟩, .slice none 0 0, .int .u8 0, .int .u8 0, .int .i64 0, .int .u8 0, .int .u8 0, .int .u64 0, .int .u64 0] 36).same hw2
  have hb2 : Below w.heap.size w w2 := by rw [hw2]; exact ((Below.refl _ _).alloc (Nat.le_refl _) _).alloc (by simp) _
  simp only [World.size_alloc] at U2
  clear hw2 U0
  (with_reducible refine (KF w2 hb2).mono ?_)
  rintro e w3 ⟨rfl, hb3⟩
  have U3 := U2.grow hb3
  have hb3' := hb2.trans (hb3.mono hb2.size)
  clear U2 hb2 hb3 KF
  go_wp2_with fail
  refine calls_genP fun w4 hw4 => ?_
  have U4 := (U3.alloc #[.bool gap, .int .u8 o, .int .u64 sq, .int .u64 tm, .string ru, .slice Al nl cl, .int .u8 st, .int .u8 pr, .int .i64 va, .int .u8 ow, .int .u8 go, .int .u64 gf2, .int .u64 gt] 36).same hw4
  have hb4 : Below w.heap.size w w4 := by rw [hw4]; exact hb3'.alloc hb3'.size _
  clear hw4 hb3' U3
  (with_reducible refine (KS w4 hb4).mono ?_)
  rintro e w5 ⟨rfl, hb5⟩
  have U5 := U4.grow hb5
  have hb5' := hb4.trans (hb5.mono hb4.size)
  clear U4 hb4 hb5 KS
  have hB5 := U5.blk 3 rfl
  have g2 : ∃ u, w5.cell? ⟨g, 2 + so, none⟩ = some u := ⟨_, hB5.cell (ledA_h jv (.slice Av n cv) h li la so hso)⟩
  obtain ⟨u2, g2⟩ := g2
  have g35 := hB5.cell (ledA_35 jv (.slice Av n cv) h li la)
  have gz := hB5.frozen
  clear hb5' hB5
  have ne1 : 2 + so ≠ 35 := by omega
  have ne2 : 35 ≠ 2 + so := by omega
  go_wp2_with fail
  refine wp_gen fun w6 hw6 => ?_
  have U6 := ((U5.put 3 rfl (2 + so) (.int .u64 sto)).put 0 rfl 35 (.int .u64 now)).same hw6
  simp only [List.eraseIdx_cons_succ, List.eraseIdx_cons_zero] at U6
  rw [ledA_puth jv (.slice Av n cv) h li la so sto hso, ledA_put35] at U6
  have hr6 := U6.rd (by decide) HRD.out HDL.out
  clear hw6 U5 g2 g35 gz ne1 ne2 HRD HDL
  have F : ∀ w', Below w6.heap.size w6 w' → w'.cell? ⟨g, 1, none⟩ = some (.slice Av n cv) ∧ w'.cell? ⟨w3.heap.size, 0, none⟩ = some (.bool gap) ∧ w'.cell? ⟨w3.heap.size, 1, none⟩ = some (.int .u8 o) ∧ w'.cell? ⟨w3.heap.size, 2, none⟩ = some (.int .u64 sq) ∧ w'.cell? ⟨w3.heap.size, 3, none⟩ = some (.int .u64 tm) ∧ w'.cell? ⟨w3.heap.size, 4, none⟩ = some (.string ru) ∧ w'.cell? ⟨w3.heap.size, 5, none⟩ = some (.slice Al nl cl) ∧ w'.cell? ⟨w3.heap.size, 6, none⟩ = some (.int .u8 st) ∧ w'.cell? ⟨w3.heap.size, 7, none⟩ = some (.int .u8 pr) ∧ w'.cell? ⟨w3.heap.size, 8, none⟩ = some (.int .i64 va) ∧ w'.cell? ⟨w3.heap.size, 9, none⟩ = some (.int .u8 ow) ∧ w'.cell? ⟨w3.heap.size, 10, none⟩ = some (.int .u8 go) ∧ w'.cell? ⟨w3.heap.size, 11, none⟩ = some (.int .u64 gf2) ∧ w'.cell? ⟨w3.heap.size, 12, none⟩ = some (.int .u64 gt) := fun w' hw => by
    have q := (U6.grow hw).blk 1 rfl
    exact ⟨((U6.grow hw).blk 0 rfl).cell (ledA_1 jv (.slice Av n cv) _ li now), q.cell rfl, q.cell rfl, q.cell rfl, q.cell rfl, q.cell rfl, q.cell rfl, q.cell rfl, q.cell rfl, q.cell rfl, q.cell rfl, q.cell rfl, q.cell rfl, q.cell rfl⟩
  refine region_free (fun w' => Below w6.heap.size w6 w') [7, 8, 9] [10, 11, 12, 13] [0, 1, 2, 3, 4, 5, 6, 7, 8, 9] (by kernel_rfl) (by kernel_rfl) (by kernel_rfl) ((Below.refl _ _).drew) ?_
  repeat (first
    | (refine RelSeq.pure_ (c := ?_) rfl rfl ?_ ?_; rotate_left; (focus (intro x w'; dsimp only; go_simp; (repeat' apply And.intro) <;> first | with_reducible rfl | assumption)); simp only [Act.put, List.setIfInBounds_toArray, List.set_cons_zero, List.set_cons_succ])
    | (refine RelSeq.grow_ (c := ?_) rfl rfl ?_ ?_; rotate_left; (focus (intro x w' hw _; dsimp only; obtain ⟨c0, c1, c2, c3, c4, c5, c6, c7, c8, c9, c10, c11, c12, c13⟩ := F w' hw; have hbr := Below.refl w'.heap.size w'; go_simp; (repeat' apply And.intro) <;> first | with_reducible rfl | assumption)); simp only [Act.put, List.setIfInBounds_toArray, List.set_cons_zero, List.set_cons_succ]))
  refine RelSeq.rel_ (fun v w' => ∃ A4 c4, v = .agg #[.bool gap, .int .u8 o, .int .u64 sq, .int .u64 tm, .string ru, .slice A4 nl c4, .int .u8 st, .int .u8 pr, .int .i64 va, .int .u8 ow, .int .u8 go, .int .u64 gf2, .int .u64 gt] ∧ w'.ownsRow w6.heap.size 137 2 (.slice A4 nl c4) nl (pairCells ps)) rfl rfl (fun v w w' ⟨A4, c4, e, hr⟩ hb => ⟨A4, c4, e, owns_below hr hb⟩) ?_ ?_
  focus
    intro x w' hw _; dsimp only
    go_simp
    (with_reducible refine (itClone gap o sq tm ru Al nl cl st pr va ow go gf2 gt ps w' (hr6.below hw) hnl).mono ?_)
    rintro e w'' ⟨A4, c4, rfl, hrow, hbk⟩
    exact ⟨⟨A4, c4, rfl, owns_mono hrow hw.size⟩, hw.trans (hbk.mono hw.size), hbk⟩
  simp only [Act.put, List.setIfInBounds_toArray, List.set_cons_zero, List.set_cons_succ, List.nil_append]
  refine RelSeq.rel_ (fun v w' => ∃ A4 c4, v = .agg #[.int .u64 now, .bool gap, .int .u8 o, .int .u64 sq, .int .u64 tm, .string ru, .slice A4 nl c4, .int .u8 st, .int .u8 pr, .int .i64 va, .int .u8 ow, .int .u8 go, .int .u64 gf2, .int .u64 gt] ∧ w'.ownsRow w6.heap.size 137 2 (.slice A4 nl c4) nl (pairCells ps)) rfl rfl (fun v w w' ⟨A4, c4, e, hr⟩ hb => ⟨A4, c4, e, owns_below hr hb⟩) ?_ ?_
  focus
    intro x w' hw hf; dsimp only
    obtain ⟨A4, c4, e, hrow⟩ := hf _ (.head _) (by kernel_rfl)
    have hbr := Below.refl w'.heap.size w'
    go_simp
    exact ⟨A4, c4, ⟨rfl, rfl⟩, hrow⟩
  simp only [Act.put, List.setIfInBounds_toArray, List.set_cons_zero, List.set_cons_succ, List.nil_append, List.cons_append]
  refine RelSeq.rel_ (fun v w' => ∃ b A4 c4, v = .slice (some ⟨b, 0, none⟩) 1 1 ∧ w6.heap.size ≤ b ∧ Blk w' b #[.int .u64 now, .bool gap, .int .u8 o, .int .u64 sq, .int .u64 tm, .string ru, .slice A4 nl c4, .int .u8 st, .int .u8 pr, .int .i64 va, .int .u8 ow, .int .u8 go, .int .u64 gf2, .int .u64 gt] 41 ∧ w'.ownsRow w6.heap.size 137 2 (.slice A4 nl c4) nl (pairCells ps)) rfl rfl (fun v w w' ⟨b, A4, c4, e, h1, h2, hr⟩ hb => ⟨b, A4, c4, e, h1, h2.below hb h2.lt, owns_below hr hb⟩) ?_ ?_
  focus
    intro x w' hw hf; dsimp only
    obtain ⟨A4, c4, e, hrow⟩ := hf _ (.tail _ (.head _)) (by kernel_rfl)
    have hba : Below w'.heap.size w' (w'.alloc (.cells #[.int .u64 now, .bool gap, .int .u8 o, .int .u64 sq, .int .u64 tm, .string ru, .slice A4 nl c4, .int .u8 st, .int .u8 pr, .int .i64 va, .int .u8 ow, .int .u8 go, .int .u64 gf2, .int .u64 gt] 41)) := (Below.refl _ _).alloc (Nat.le_refl _) _
    have hI := hw.trans (hba.mono hw.size)
    have hsz := hw.size
    go_simp
    exact ⟨A4, c4, Blk.new _ _ _, owns_below hrow hba⟩
  simp only [Act.put, List.setIfInBounds_toArray, List.set_cons_zero, List.set_cons_succ, List.nil_append, List.cons_append]
  refine RelSeq.nil_ fun x w7 hw hf => ?_
  obtain ⟨b, A4, c4, e9, hb0, hBb, hrow⟩ := hf _ (.tail _ (.tail _ (.head _)))
  have hs6 := U6.size
  have U7 := ((U6.grow hw).moreRow hrow hs6 (fun d hd q hq he => by
    have := U6.lt hd hq
    have := owns_ge hrow q he.symm
    omega)).moreBlk hBb (Nat.le_trans hs6 hb0) (fun d hd hq => by
    rcases List.mem_cons.1 hd with rfl | hd
    · exact owns_ne hrow hBb (by decide) (chRow_fp.1 hq).symm
    · have := U6.lt hd hq
      omega)
  clear hf F hw U6 hBb hrow hr6
  refine TailSeq.cons_ rfl ?_
  refine wp_append_rd (.tmp 44) (.tmp 49) 24 rfl 0 41 i0 _ 14 128 Tryz.underlying24 hi hz0 hz1 hz2 rfl (by decide) (.slice Av n cv) n _ rfl (U7.row 6 rfl) (.slice (some ⟨b, 0, none⟩) 1 1) 1 _ (by exact e9) (rd_one (U7.blk 0 rfl) (n := 14) rfl) (by intro u hu; simp at hu; rcases hu with rfl | rfl | rfl | rfl | rfl | rfl | rfl | rfl | rfl | rfl | rfl | rfl | rfl | rfl <;> rfl) (by unfold maxLen; omega) (by omega) (Nat.zero_le _) fun v8 w8 hown8 hgr8 hv8 => ?_
  refine ⟨rfl, ?_⟩
  have U8 := (U7.app 6 rfl hown8 hgr8 hv8).drop 1
  simp only [List.eraseIdx_cons_succ, List.eraseIdx_cons_zero] at U8
  obtain ⟨A8, c8, rfl⟩ := owns_slice hown8
  clear U7 hown8 hgr8 hv8 e9
  simp only [out, Act.put, List.setIfInBounds_toArray, List.set_cons_zero, List.set_cons_succ]
  refine TailSeq.cons_ rfl ?_
  go_simp
  refine TailSeq.cons_ rfl ?_
  go_simp
  refine TailSeq.cons_ rfl ?_
  have d1 := (U8.blk 2 rfl).cell (ledA_1 jv (.slice Av n cv) (fun p => if p = so then sto else h p) li now)
  have f1 := (U8.blk 2 rfl).frozen
  go_simp
  refine TailSeq.nil_gen fun w9 hw9 => ?_
  have U9 := (U8.put 2 rfl 1 (.slice A8 (n + 1) c8)).same hw9
  simp only [List.eraseIdx_cons_succ, List.eraseIdx_cons_zero] at U9
  rw [ledA_put1] at U9
  clear hw9 U8 d1 f1
  have e0 := (U9.blk 3 rfl).cell (j := 0) (v := .bool gap) rfl
  have e1 := (U9.blk 3 rfl).cell (j := 1) (v := .int .u8 o) rfl
  have e2 := (U9.blk 3 rfl).cell (j := 2) (v := .int .u64 sq) rfl
  have e3 := (U9.blk 3 rfl).cell (j := 3) (v := .int .u64 tm) rfl
  have e4 := (U9.blk 3 rfl).cell (j := 4) (v := .string ru) rfl
  have e5 := (U9.blk 3 rfl).cell (j := 5) (v := .slice Al nl cl) rfl
  have e6 := (U9.blk 3 rfl).cell (j := 6) (v := .int .u8 st) rfl
  have e7 := (U9.blk 3 rfl).cell (j := 7) (v := .int .u8 pr) rfl
  have e8 := (U9.blk 3 rfl).cell (j := 8) (v := .int .i64 va) rfl
  have e9 := (U9.blk 3 rfl).cell (j := 9) (v := .int .u8 ow) rfl
  have e10 := (U9.blk 3 rfl).cell (j := 10) (v := .int .u8 go) rfl
  have e11 := (U9.blk 3 rfl).cell (j := 11) (v := .int .u64 gf2) rfl
  have e12 := (U9.blk 3 rfl).cell (j := 12) (v := .int .u64 gt) rfl
  have z0 := (U9.blk 4 rfl).cell (j := 0) (v := .bool false) rfl
  have z1 := (U9.blk 4 rfl).cell (j := 1) (v := .int .u8 0) rfl
  have z2 := (U9.blk 4 rfl).cell (j := 2) (v := .int .u64 0) rfl
  have z3 := (U9.blk 4 rfl).cell (j := 3) (v := .int .u64 0) rfl
  have z4 := (U9.blk 4 rfl).cell (j := 4) (v := .string ⟨#[]⟩) rfl
  have z5 := (U9.blk 4 rfl).cell (j := 5) (v := .slice none 0 0) rfl
  have z6 := (U9.blk 4 rfl).cell (j := 6) (v := .int .u8 0) rfl
  have z7 := (U9.blk 4 rfl).cell (j := 7) (v := .int .u8 0) rfl
  have z8 := (U9.blk 4 rfl).cell (j := 8) (v := .int .i64 0) rfl
  have z9 := (U9.blk 4 rfl).cell (j := 9) (v := .int .u8 0) rfl
  have z10 := (U9.blk 4 rfl).cell (j := 10) (v := .int .u8 0) rfl
  have z11 := (U9.blk 4 rfl).cell (j := 11) (v := .int .u64 0) rfl
  have z12 := (U9.blk 4 rfl).cell (j := 12) (v := .int .u64 0) rfl
  have zf := (U9.blk 4 rfl).frozen
  go_wp2_with fail
  refine bodyPost_gen fun w10 hw10 => ?_
  have V := ((((((((((((((U9.put 4 rfl 0 (.bool gap)).put 0 rfl 1 (.int .u8 o)).put 0 rfl 2 (.int .u64 sq)).put 0 rfl 3 (.int .u64 tm)).put 0 rfl 4 (.string ru)).put 0 rfl 5 (.slice Al nl cl)).put 0 rfl 6 (.int .u8 st)).put 0 rfl 7 (.int .u8 pr)).put 0 rfl 8 (.int .i64 va)).put 0 rfl 9 (.int .u8 ow)).put 0 rfl 10 (.int .u8 go)).put 0 rfl 11 (.int .u64 gf2)).put 0 rfl 12 (.int .u64 gt))).same hw10
  simp only [List.setIfInBounds_toArray, List.set_cons_succ, List.set_cons_zero, List.eraseIdx_cons_succ, List.eraseIdx_cons_zero] at V
  clear hw10 U9
  have a0 := (V.blk 0 rfl).cell (j := 0) (v := .bool gap) rfl
  have a1 := (V.blk 0 rfl).cell (j := 1) (v := .int .u8 o) rfl
  have a2 := (V.blk 0 rfl).cell (j := 2) (v := .int .u64 sq) rfl
  have a3 := (V.blk 0 rfl).cell (j := 3) (v := .int .u64 tm) rfl
  have a4 := (V.blk 0 rfl).cell (j := 4) (v := .string ru) rfl
  have a5 := (V.blk 0 rfl).cell (j := 5) (v := .slice Al nl cl) rfl
  have a6 := (V.blk 0 rfl).cell (j := 6) (v := .int .u8 st) rfl
  have a7 := (V.blk 0 rfl).cell (j := 7) (v := .int .u8 pr) rfl
  have a8 := (V.blk 0 rfl).cell (j := 8) (v := .int .i64 va) rfl
  have a9 := (V.blk 0 rfl).cell (j := 9) (v := .int .u8 ow) rfl
  have a10 := (V.blk 0 rfl).cell (j := 10) (v := .int .u8 go) rfl
  have a11 := (V.blk 0 rfl).cell (j := 11) (v := .int .u64 gf2) rfl
  have a12 := (V.blk 0 rfl).cell (j := 12) (v := .int .u64 gt) rfl
  have V2 := V.pick [1, 2, 3] (by decide)
  simp only [List.filterMap_cons, List.filterMap_nil, List.getElem?_cons_zero, List.getElem?_cons_succ] at V2
  refine bodyPost_ret (v := .tuple #[.agg #[.bool gap, .int .u8 o, .int .u64 sq, .int .u64 tm, .string ru, .slice Al nl cl, .int .u8 st, .int .u8 pr, .int .i64 va, .int .u8 ow, .int .u8 go, .int .u64 gf2, .int .u64 gt], .int .i64 0]) ?_ rfl ⟨.slice A8 (n + 1) c8, A4, c4, rfl, V2.two⟩
  simp [results, Tryz.results43, go_sem, a0, a1, a2, a3, a4, a5, a6, a7, a8, a9, a10, a11, a12]
end Go.Proofs.YtdmdfccadjfpiaaGreat
