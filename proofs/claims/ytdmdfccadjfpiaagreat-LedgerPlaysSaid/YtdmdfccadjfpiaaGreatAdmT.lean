/-
  ledger.Admit.
-/
import Derived.Test.YtdmdfccadjfpiaaGreatEnter
import Derived.Test.YtdmdfccadjfpiaaGreatPutI
namespace Go.Proofs.YtdmdfccadjfpiaaGreat
open Go.RowKit FreeOrd
set_option maxRecDepth 100000
attribute [local go_sem] out

/-- A ledger: its block and row, its entries' labels, its journal. -/
abbrev chLJ (g : Nat) (jv lv : Value) (h : Nat → Nat) (li la n : Nat) (cs : List Value) (labs : List Chunk) (j d m b : Nat) (s : ByteArray) (k : Nat) (fs : List FileV) : Chunk :=
  chTwo (chTwo (chLed g jv lv h li la n cs) (chAll labs)) (chJour j d m b s k fs)
theorem Upd.ledBlk {S : List Nat} {w0 w : World} {C : List Chunk} (h : Upd S w0 C w) (i : Nat) {g : Nat} {jv lv : Value} {hh : Nat → Nat} {li la n : Nat} {cs : List Value} (hi : C[i]? = some (chLed g jv lv hh li la n cs)) : Blk w g (ledA jv lv hh li la) 93 := (h.get i hi).1
theorem wrByte1 (g : Nat) (v : Value) (bs : List UInt8) (w : World) (hP : (chWr g v bs).P w) (hl : bs.length ≤ 1099511627776) :
    Calls Tryz.prog 38 #[.pointer (some ⟨g, 0, none⟩), .int .u8 1] w fun e w' => e = .returned (.tuple #[]) ∧ ∃ v', Upd (chWr g v bs).fp w [chWr g v' (bs ++ [1])] w' := wrByte g v bs 1 w hP hl
theorem wrByte2 (g : Nat) (v : Value) (bs : List UInt8) (w : World) (hP : (chWr g v bs).P w) (hl : bs.length ≤ 1099511627776) :
    Calls Tryz.prog 38 #[.pointer (some ⟨g, 0, none⟩), .int .u8 2] w fun e w' => e = .returned (.tuple #[]) ∧ ∃ v', Upd (chWr g v bs).fp w [chWr g v' (bs ++ [2])] w' := wrByte g v bs 2 w hP hl
set_option maxHeartbeats 2000000 in
theorem admit_bad (g now code : Nat) (gap : Bool) (o sq tm : Nat) (ru : ByteArray) (Al : Option Addr) (nl cl st pr : Nat) (va : Int) (ow go gf gt : Nat) (w : World) (hc : code ≠ 0) (KF : ∀ w', Below w.heap.size w w' → Calls Tryz.prog 37 #[.pointer (some ⟨g, 0, none⟩), .int .u64 now, .agg #[.bool gap, .int .u8 o, .int .u64 sq, .int .u64 tm, .string ru, .slice Al nl cl, .int .u8 st, .int .u8 pr, .int .i64 va, .int .u8 ow, .int .u8 go, .int .u64 gf, .int .u64 gt]] w' fun e w'' => e = .returned (.tuple #[.agg #[.bool false, .int .u8 0, .int .u64 0, .int .u64 0, .string ⟨#[]⟩, .slice none 0 0, .int .u8 0, .int .u8 0, .int .i64 0, .int .u8 0, .int .u8 0, .int .u64 0, .int .u64 0], .int .i64 code]) ∧ Below w'.heap.size w' w'') :
    Calls Tryz.prog 14 #[.pointer (some ⟨g, 0, none⟩), .int .u64 now, .agg #[.bool gap, .int .u8 o, .int .u64 sq, .int .u64 tm, .string ru, .slice Al nl cl, .int .u8 st, .int .u8 pr, .int .i64 va, .int .u8 ow, .int .u8 go, .int .u64 gf, .int .u64 gt]] w fun e w' => e = .returned (.tuple #[.agg #[.bool false, .int .u8 0, .int .u64 0, .int .u64 0, .string ⟨#[]⟩, .slice none 0 0, .int .u8 0, .int .u8 0, .int .i64 0, .int .u8 0, .int .u8 0, .int .u64 0, .int .u64 0], .int .i64 code]) ∧ Below w.heap.size w w' := by
  have d : ((code : Int) != 0) = true := by simp; omega
  clear hc
  go_enter Tryz.func14, Tryz.ntmps14
  go_wp2_with fail
  refine calls_genP fun w2 hw2 => ?_
  have U2 := (((Upd.nil [] w).alloc #[.bool gap, .int .u8 o, .int .u64 sq, .int .u64 tm, .string ru, .slice Al nl cl, .int .u8 st, .int .u8 pr, .int .i64 va, .int .u8 ow, .int .u8 go, .int .u64 gf, .int .u64 gt] 36).alloc #[.bool false, .int .u8 0, .int .u64 0, .int .u64 0, .string ⟨#[]⟩, .slice none 0 0, .int .u8 0, .int .u8 0, .int .i64 0, .int .u8 0, .int .u8 0, .int .u64 0, .int .u64 0] 36).same hw2
  simp only [World.size_alloc] at U2
  clear hw2
  (with_reducible refine (KF w2 U2.below).mono ?_)
  rintro e w3 ⟨rfl, hb3⟩
  have U3 := U2.grow hb3
  clear U2 hb3 KF
  have U4 := U3.alloc #[.bool false, .int .u8 0, .int .u64 0, .int .u64 0, .string ⟨#[]⟩, .slice none 0 0, .int .u8 0, .int .u8 0, .int .i64 0, .int .u8 0, .int .u8 0, .int .u64 0, .int .u64 0] 36
  have z0 := (U4.blk 1 rfl).cell (j := 0) (v := .bool false) rfl
  have z1 := (U4.blk 1 rfl).cell (j := 1) (v := .int .u8 0) rfl
  have z2 := (U4.blk 1 rfl).cell (j := 2) (v := .int .u64 0) rfl
  have z3 := (U4.blk 1 rfl).cell (j := 3) (v := .int .u64 0) rfl
  have z4 := (U4.blk 1 rfl).cell (j := 4) (v := .string ⟨#[]⟩) rfl
  have z5 := (U4.blk 1 rfl).cell (j := 5) (v := .slice none 0 0) rfl
  have z6 := (U4.blk 1 rfl).cell (j := 6) (v := .int .u8 0) rfl
  have z7 := (U4.blk 1 rfl).cell (j := 7) (v := .int .u8 0) rfl
  have z8 := (U4.blk 1 rfl).cell (j := 8) (v := .int .i64 0) rfl
  have z9 := (U4.blk 1 rfl).cell (j := 9) (v := .int .u8 0) rfl
  have z10 := (U4.blk 1 rfl).cell (j := 10) (v := .int .u8 0) rfl
  have z11 := (U4.blk 1 rfl).cell (j := 11) (v := .int .u64 0) rfl
  have z12 := (U4.blk 1 rfl).cell (j := 12) (v := .int .u64 0) rfl
  have zf := (U4.blk 1 rfl).frozen
  go_wp2_with fail
  refine bodyPost_gen fun w6 hw6 => ?_
  have V := ((((((((((((((U4.put 1 rfl 0 (.bool false)).put 0 rfl 1 (.int .u8 0)).put 0 rfl 2 (.int .u64 0)).put 0 rfl 3 (.int .u64 0)).put 0 rfl 4 (.string ⟨#[]⟩)).put 0 rfl 5 (.slice none 0 0)).put 0 rfl 6 (.int .u8 0)).put 0 rfl 7 (.int .u8 0)).put 0 rfl 8 (.int .i64 0)).put 0 rfl 9 (.int .u8 0)).put 0 rfl 10 (.int .u8 0)).put 0 rfl 11 (.int .u64 0)).put 0 rfl 12 (.int .u64 0))).same hw6
  simp only [List.setIfInBounds_toArray, List.set_cons_succ, List.set_cons_zero, List.eraseIdx_cons_succ, List.eraseIdx_cons_zero] at V
  clear hw6
  have a0 := (V.blk 0 rfl).cell (j := 0) (v := .bool false) rfl
  have a1 := (V.blk 0 rfl).cell (j := 1) (v := .int .u8 0) rfl
  have a2 := (V.blk 0 rfl).cell (j := 2) (v := .int .u64 0) rfl
  have a3 := (V.blk 0 rfl).cell (j := 3) (v := .int .u64 0) rfl
  have a4 := (V.blk 0 rfl).cell (j := 4) (v := .string ⟨#[]⟩) rfl
  have a5 := (V.blk 0 rfl).cell (j := 5) (v := .slice none 0 0) rfl
  have a6 := (V.blk 0 rfl).cell (j := 6) (v := .int .u8 0) rfl
  have a7 := (V.blk 0 rfl).cell (j := 7) (v := .int .u8 0) rfl
  have a8 := (V.blk 0 rfl).cell (j := 8) (v := .int .i64 0) rfl
  have a9 := (V.blk 0 rfl).cell (j := 9) (v := .int .u8 0) rfl
  have a10 := (V.blk 0 rfl).cell (j := 10) (v := .int .u8 0) rfl
  have a11 := (V.blk 0 rfl).cell (j := 11) (v := .int .u64 0) rfl
  have a12 := (V.blk 0 rfl).cell (j := 12) (v := .int .u64 0) rfl
  refine bodyPost_ret (v := .tuple #[.agg #[.bool false, .int .u8 0, .int .u64 0, .int .u64 0, .string ⟨#[]⟩, .slice none 0 0, .int .u8 0, .int .u8 0, .int .i64 0, .int .u8 0, .int .u8 0, .int .u64 0, .int .u64 0], .int .i64 code]) ?_ rfl ⟨rfl, V.below⟩
  simp [results, Tryz.results14, go_sem, a0, a1, a2, a3, a4, a5, a6, a7, a8, a9, a10, a11, a12]
set_option maxHeartbeats 1000000 in
theorem admit_nil (now : Int) (gap : Bool) (o sq tm : Nat) (ru : ByteArray) (Al : Option Addr) (nl cl st pr : Nat) (va : Int) (ow go gf gt : Nat) (w : World) :
    Calls Tryz.prog 14 #[.pointer none, .int .u64 now, .agg #[.bool gap, .int .u8 o, .int .u64 sq, .int .u64 tm, .string ru, .slice Al nl cl, .int .u8 st, .int .u8 pr, .int .i64 va, .int .u8 ow, .int .u8 go, .int .u64 gf, .int .u64 gt]] w fun e w' => e = .returned (.tuple #[.agg #[.bool false, .int .u8 0, .int .u64 0, .int .u64 0, .string ⟨#[]⟩, .slice none 0 0, .int .u8 0, .int .u8 0, .int .i64 0, .int .u8 0, .int .u8 0, .int .u64 0, .int .u64 0], .int .i64 1]) ∧ Below w.heap.size w w' := by
  have U2 := ((Upd.nil [] w).alloc #[.bool gap, .int .u8 o, .int .u64 sq, .int .u64 tm, .string ru, .slice Al nl cl, .int .u8 st, .int .u8 pr, .int .i64 va, .int .u8 ow, .int .u8 go, .int .u64 gf, .int .u64 gt] 36).alloc #[.bool false, .int .u8 0, .int .u64 0, .int .u64 0, .string ⟨#[]⟩, .slice none 0 0, .int .u8 0, .int .u8 0, .int .i64 0, .int .u8 0, .int .u8 0, .int .u64 0, .int .u64 0] 36
  simp only [World.size_alloc] at U2
  go_enter Tryz.func14, Tryz.ntmps14
  have z0 := (U2.blk 0 rfl).cell (j := 0) (v := .bool false) rfl
  have z1 := (U2.blk 0 rfl).cell (j := 1) (v := .int .u8 0) rfl
  have z2 := (U2.blk 0 rfl).cell (j := 2) (v := .int .u64 0) rfl
  have z3 := (U2.blk 0 rfl).cell (j := 3) (v := .int .u64 0) rfl
  have z4 := (U2.blk 0 rfl).cell (j := 4) (v := .string ⟨#[]⟩) rfl
  have z5 := (U2.blk 0 rfl).cell (j := 5) (v := .slice none 0 0) rfl
  have z6 := (U2.blk 0 rfl).cell (j := 6) (v := .int .u8 0) rfl
  have z7 := (U2.blk 0 rfl).cell (j := 7) (v := .int .u8 0) rfl
  have z8 := (U2.blk 0 rfl).cell (j := 8) (v := .int .i64 0) rfl
  have z9 := (U2.blk 0 rfl).cell (j := 9) (v := .int .u8 0) rfl
  have z10 := (U2.blk 0 rfl).cell (j := 10) (v := .int .u8 0) rfl
  have z11 := (U2.blk 0 rfl).cell (j := 11) (v := .int .u64 0) rfl
  have z12 := (U2.blk 0 rfl).cell (j := 12) (v := .int .u64 0) rfl
  have zf := (U2.blk 0 rfl).frozen
  go_wp2_with fail
  refine bodyPost_gen fun w6 hw6 => ?_
  have V := U2.same hw6
  clear hw6
  have a0 := (V.blk 0 rfl).cell (j := 0) (v := .bool false) rfl
  have a1 := (V.blk 0 rfl).cell (j := 1) (v := .int .u8 0) rfl
  have a2 := (V.blk 0 rfl).cell (j := 2) (v := .int .u64 0) rfl
  have a3 := (V.blk 0 rfl).cell (j := 3) (v := .int .u64 0) rfl
  have a4 := (V.blk 0 rfl).cell (j := 4) (v := .string ⟨#[]⟩) rfl
  have a5 := (V.blk 0 rfl).cell (j := 5) (v := .slice none 0 0) rfl
  have a6 := (V.blk 0 rfl).cell (j := 6) (v := .int .u8 0) rfl
  have a7 := (V.blk 0 rfl).cell (j := 7) (v := .int .u8 0) rfl
  have a8 := (V.blk 0 rfl).cell (j := 8) (v := .int .i64 0) rfl
  have a9 := (V.blk 0 rfl).cell (j := 9) (v := .int .u8 0) rfl
  have a10 := (V.blk 0 rfl).cell (j := 10) (v := .int .u8 0) rfl
  have a11 := (V.blk 0 rfl).cell (j := 11) (v := .int .u64 0) rfl
  have a12 := (V.blk 0 rfl).cell (j := 12) (v := .int .u64 0) rfl
  refine bodyPost_ret (v := .tuple #[.agg #[.bool false, .int .u8 0, .int .u64 0, .int .u64 0, .string ⟨#[]⟩, .slice none 0 0, .int .u8 0, .int .u8 0, .int .i64 0, .int .u8 0, .int .u8 0, .int .u64 0, .int .u64 0], .int .i64 1]) ?_ rfl ⟨rfl, V.below⟩
  simp [results, Tryz.results14, go_sem, a0, a1, a2, a3, a4, a5, a6, a7, a8, a9, a10, a11, a12]
set_option maxHeartbeats 8000000 in
theorem admit_okA (g j d m b k ks : Nat) (lv : Value) (h : Nat → Nat) (li la n now : Nat) (cs : List Value) (labs : List Chunk) (s : ByteArray) (fs : List FileV) (acc pl rec : List UInt8) (gap : Bool) (o sq tm : Nat) (ru : ByteArray) (Al : Option Addr) (nl cl st pr : Nat) (va : Int) (ow go gf gt : Nat) (ps : List Pr) (so sf sto gf2 : Nat) (w : World)
    (hP : (chLJ g (.pointer (some ⟨j, 0, none⟩)) lv h li la n cs labs j d m b s k fs).P w) (hj : hasJ fs s acc ks) (hs : s.size ≤ maxLen) (hword : wordB s 16 true = true) (hn : n ≤ 1000000) (hso : so < 32) (hnow : now ≤ 1099511627776) (hnl : nl ≤ 1000000) (hk : k ≤ 1099511627776)
    (hrec : rec = (1 :: uvar now) ++ pl) (hsum : acc.length + (rec.length + 8) ≤ 1048576) (hrl : rec.length ≤ 524288)
    (hrd : Rd w 2 (.slice Al nl cl) nl (pairCells ps)) (hdl : ∀ x ∈ rdFp (.slice Al nl cl) nl, x ∉ (chLJ g (.pointer (some ⟨j, 0, none⟩)) lv h li la n cs labs j d m b s k fs).fp)
    (KF : ∀ w', Blk w' g (ledA (.pointer (some ⟨j, 0, none⟩)) lv h li la) 93 → Rd w' 2 (.slice Al nl cl) nl (pairCells ps) → Calls Tryz.prog 37 #[.pointer (some ⟨g, 0, none⟩), .int .u64 now, .agg #[.bool gap, .int .u8 o, .int .u64 sq, .int .u64 tm, .string ru, .slice Al nl cl, .int .u8 st, .int .u8 pr, .int .i64 va, .int .u8 ow, .int .u8 go, .int .u64 gf, .int .u64 gt]] w' fun e w'' => e = .returned (.tuple #[.agg #[.bool gap, .int .u8 o, .int .u64 sq, .int .u64 tm, .string ru, .slice Al nl cl, .int .u8 st, .int .u8 pr, .int .i64 va, .int .u8 ow, .int .u8 go, .int .u64 gf2, .int .u64 gt], .int .i64 0]) ∧ Below w'.heap.size w' w'')
    (KG : ∀ w', Blk w' g (ledA (.pointer (some ⟨j, 0, none⟩)) lv h li la) 93 → Rd w' 2 (.slice Al nl cl) nl (pairCells ps) → Calls Tryz.prog 37 #[.pointer (some ⟨g, 0, none⟩), .int .u64 now, .agg #[.bool gap, .int .u8 o, .int .u64 sq, .int .u64 tm, .string ru, .slice Al nl cl, .int .u8 st, .int .u8 pr, .int .i64 va, .int .u8 ow, .int .u8 go, .int .u64 gf2, .int .u64 gt]] w' fun e w'' => e = .returned (.tuple #[.agg #[.bool gap, .int .u8 o, .int .u64 sq, .int .u64 tm, .string ru, .slice Al nl cl, .int .u8 st, .int .u8 pr, .int .i64 va, .int .u8 ow, .int .u8 go, .int .u64 gf2, .int .u64 gt], .int .i64 0]) ∧ Below w'.heap.size w' w'')
    (KS : ∀ w', Calls Tryz.prog 36 #[.agg #[.bool gap, .int .u8 o, .int .u64 sq, .int .u64 tm, .string ru, .slice Al nl cl, .int .u8 st, .int .u8 pr, .int .i64 va, .int .u8 ow, .int .u8 go, .int .u64 gf2, .int .u64 gt]] w' fun e w'' => e = .returned (.tuple #[.int .u8 so, .int .u64 sf, .int .u64 sto]) ∧ Below w'.heap.size w' w'')
    (KP : ∀ gw v bs w', (chWr gw v bs).P w' → bs.length ≤ 1000 → Rd w' 2 (.slice Al nl cl) nl (pairCells ps) → (∀ x ∈ rdFp (.slice Al nl cl) nl, x ∉ (chWr gw v bs).fp) → Calls Tryz.prog 40 #[.pointer (some ⟨gw, 0, none⟩), .agg #[.bool gap, .int .u8 o, .int .u64 sq, .int .u64 tm, .string ru, .slice Al nl cl, .int .u8 st, .int .u8 pr, .int .i64 va, .int .u8 ow, .int .u8 go, .int .u64 gf2, .int .u64 gt]] w' fun e w'' => e = .returned (.tuple #[]) ∧ ∃ v', Upd (chWr gw v bs).fp w' [chWr gw v' (bs ++ pl)] w'') :
    Calls Tryz.prog 14 #[.pointer (some ⟨g, 0, none⟩), .int .u64 now, .agg #[.bool gap, .int .u8 o, .int .u64 sq, .int .u64 tm, .string ru, .slice Al nl cl, .int .u8 st, .int .u8 pr, .int .i64 va, .int .u8 ow, .int .u8 go, .int .u64 gf, .int .u64 gt]] w fun e w' => ∃ lv' A4 c4 fs', e = .returned (.tuple #[.agg #[.bool gap, .int .u8 o, .int .u64 sq, .int .u64 tm, .string ru, .slice Al nl cl, .int .u8 st, .int .u8 pr, .int .i64 va, .int .u8 ow, .int .u8 go, .int .u64 gf2, .int .u64 gt], .int .i64 0]) ∧ hasJ fs' s (acc ++ layL rec) ks ∧
      Upd (chLJ g (.pointer (some ⟨j, 0, none⟩)) lv h li la n cs labs j d m b s k fs).fp w [chLJ g (.pointer (some ⟨j, 0, none⟩)) lv' (fun p => if p = so then sto else h p) li now (n + 1) (cs ++ [.int .u64 now, .bool gap, .int .u8 o, .int .u64 sq, .int .u64 tm, .string ru, .slice A4 nl c4, .int .u8 st, .int .u8 pr, .int .i64 va, .int .u8 ow, .int .u8 go, .int .u64 gf2, .int .u64 gt]) (labs ++ [chRow 137 2 (.slice A4 nl c4) nl (pairCells ps)]) j d m b s (k + (rec.length + 8)) fs'] w' := by
  obtain ⟨S, hS⟩ : ∃ S, S = (chLJ g (.pointer (some ⟨j, 0, none⟩)) lv h li la n cs labs j d m b s k fs).fp := ⟨_, rfl⟩
  have U0 := (Upd.one _ w hP).unTwo.unTwo
  rw [← hS] at U0 hdl ⊢
  clear hS hP
  have HRD := Lib.hid hrd
  have HDL := Lib.hid hdl
  have hlt : ∀ x ∈ rdFp (.slice Al nl cl) nl, x < w.heap.size := (chRd 2 (.slice Al nl cl) nl (pairCells ps) (by decide)).inn w hrd
  have HLT := Lib.hid hlt
  have HREC := Lib.hid hrec
  have hu := uvar_len64 (n := now) (by omega)
  clear hrd hdl hlt hrec
  go_enter Tryz.func14, Tryz.ntmps14
  go_wp2_with fail
  refine calls_genP fun w2 hw2 => ?_
  have U2 := ((U0.alloc #[.bool gap, .int .u8 o, .int .u64 sq, .int .u64 tm, .string ru, .slice Al nl cl, .int .u8 st, .int .u8 pr, .int .i64 va, .int .u8 ow, .int .u8 go, .int .u64 gf, .int .u64 gt] 36).alloc #[.bool false, .int .u8 0, .int .u64 0, .int .u64 0, .string ⟨#[]⟩, .slice none 0 0, .int .u8 0, .int .u8 0, .int .i64 0, .int .u8 0, .int .u8 0, .int .u64 0, .int .u64 0] 36).same hw2
  simp only [World.size_alloc] at U2
  clear hw2 U0
  (with_reducible refine (KF w2 (U2.ledBlk 2 rfl) (U2.rd (by decide) HRD.out HDL.out)).mono ?_)
  rintro e w3 ⟨rfl, hb3⟩
  have U3 := U2.grow hb3
  clear U2 hb3 KF
  go_wp2_with fail
  refine calls_genP fun w4 hw4 => ?_
  have U4 := (((U3.alloc #[.bool gap, .int .u8 o, .int .u64 sq, .int .u64 tm, .string ru, .slice Al nl cl, .int .u8 st, .int .u8 pr, .int .i64 va, .int .u8 ow, .int .u8 go, .int .u64 gf2, .int .u64 gt] 36).alloc #[.slice none 0 0] 86).same hw4).wrNew
  simp only [World.size_alloc] at U4
  clear hw4 U3
  (with_reducible refine (wrByte1 _ _ _ w4 (U4.get 0 rfl) (by simp)).mono ?_)
  rintro e w5 ⟨rfl, v5, h5⟩
  have U5 := U4.turn 0 rfl h5
  simp only [List.eraseIdx_cons_zero, List.cons_append, List.nil_append] at U5
  clear h5 U4
  go_wp2_with fail
  (with_reducible refine (wrUint _ _ _ now w5 (U5.get 0 rfl) (by simp) (by omega)).mono ?_)
  rintro e w6 ⟨rfl, v6, h6⟩
  have U6 := U5.turn 0 rfl h6
  simp only [List.eraseIdx_cons_zero, List.cons_append, List.nil_append] at U6
  clear h6 U5
  have e0 := (U6.blk 1 rfl).cell (j := 0) (v := .bool gap) rfl
  have e1 := (U6.blk 1 rfl).cell (j := 1) (v := .int .u8 o) rfl
  have e2 := (U6.blk 1 rfl).cell (j := 2) (v := .int .u64 sq) rfl
  have e3 := (U6.blk 1 rfl).cell (j := 3) (v := .int .u64 tm) rfl
  have e4 := (U6.blk 1 rfl).cell (j := 4) (v := .string ru) rfl
  have e5 := (U6.blk 1 rfl).cell (j := 5) (v := .slice Al nl cl) rfl
  have e6 := (U6.blk 1 rfl).cell (j := 6) (v := .int .u8 st) rfl
  have e7 := (U6.blk 1 rfl).cell (j := 7) (v := .int .u8 pr) rfl
  have e8 := (U6.blk 1 rfl).cell (j := 8) (v := .int .i64 va) rfl
  have e9 := (U6.blk 1 rfl).cell (j := 9) (v := .int .u8 ow) rfl
  have e10 := (U6.blk 1 rfl).cell (j := 10) (v := .int .u8 go) rfl
  have e11 := (U6.blk 1 rfl).cell (j := 11) (v := .int .u64 gf2) rfl
  have e12 := (U6.blk 1 rfl).cell (j := 12) (v := .int .u64 gt) rfl
  go_wp2_with fail
  (with_reducible refine (KP _ _ _ w6 (U6.get 0 rfl) (by simp; omega) (U6.rd (by decide) HRD.out HDL.out) (fun x hx hx2 => by
    have := HLT.out x hx
    rcases U6.own _ List.mem_cons_self x hx2 with h1 | h1
    · exact absurd h1 (HDL.out x hx)
    · omega)).mono ?_)
  rintro e w7 ⟨rfl, v7, h7⟩
  have U7 := U6.turn 0 rfl h7
  simp only [List.eraseIdx_cons_zero, List.cons_append, List.nil_append] at U7
  rw [show ((1 : UInt8) :: (uvar now ++ pl)) = rec by rw [HREC.out]; rfl] at U7
  clear h7 U6 e0 e1 e2 e3 e4 e5 e6 e7 e8 e9 e10 e11 e12 KP HREC
  have F : ∀ w', Below w7.heap.size w7 w' → w'.cell? ⟨g, 0, none⟩ = some (.pointer (some ⟨j, 0, none⟩)) := fun w' hw => ((U7.grow hw).ledBlk 4 rfl).cell (ledA_0 (.pointer (some ⟨j, 0, none⟩)) lv h li la)
  go_wp2_with fail
  refine region_free (fun w' => Below w7.heap.size w7 w') [4] [5, 6] [0, 1, 2, 3, 4] (by kernel_rfl) (by kernel_rfl) (by kernel_rfl) ((Below.refl _ _).drew) ?_
  repeat (first
    | (refine RelSeq.pure_ (c := ?_) rfl rfl ?_ ?_; rotate_left; (focus (intro x w'; dsimp only; go_simp; (repeat' apply And.intro) <;> first | with_reducible rfl | assumption)); simp only [Act.put, List.setIfInBounds_toArray, List.set_cons_zero, List.set_cons_succ])
    | (refine RelSeq.grow_ (c := ?_) rfl rfl ?_ ?_; rotate_left; (focus (intro x w' hw _; dsimp only; obtain c0 := F w' hw; have hbr := Below.refl w'.heap.size w'; go_simp; (repeat' apply And.intro) <;> first | with_reducible rfl | assumption)); simp only [Act.put, List.setIfInBounds_toArray, List.set_cons_zero, List.set_cons_succ]))
  refine RelSeq.rel_ (fun v w' => w'.ownsRow w7.heap.size 5 1 v rec.length (u8L rec)) rfl rfl (fun v w w' hr hb => owns_below hr hb) ?_ ?_
  focus
    intro x w' hw _; dsimp only
    go_simp
    (with_reducible refine (wrBytes _ _ _ w' ((U7.grow hw).get 0 rfl) (by omega)).mono ?_)
    rintro e w'' ⟨v8, rfl, hrow, hbk⟩
    exact ⟨owns_mono hrow hw.size, hw.trans (hbk.mono hw.size), hbk⟩
  simp only [Act.put, List.setIfInBounds_toArray, List.set_cons_zero, List.set_cons_succ, List.nil_append]
  refine RelSeq.nil_ fun x w8 hw hf => ?_
  have hrow := hf _ (.head _)
  simp only at hrow
  have U8 := (U7.grow hw).pick [1, 2, 3, 4, 5, 6] (by decide)
  simp only [List.filterMap_cons, List.filterMap_nil, List.getElem?_cons_zero, List.getElem?_cons_succ] at U8
  clear hf F hw U7
  refine TailSeq.cons_ rfl ?_
  have hA := jAppendU j d m b k ks s fs acc (x 4) rec w8 (U8.get 5 rfl) hj (rd_of_owns hrow) hrl hs hword hsum hk
  clear hrow hj hsum hrl hs hword hk
  go_simp
  (with_reducible refine hA.mono ?_)
  rintro e w9 ⟨rfl, fs', hj', h9⟩
  have U9 := U8.turn 5 rfl h9
  simp only [List.eraseIdx_cons_succ, List.eraseIdx_cons_zero, List.cons_append, List.nil_append] at U9
  have HJ := Lib.hid hj'
  clear hA h9 hj' U8
  refine TailSeq.cons_ rfl ?_
  go_simp
  refine TailSeq.nil_ ?_
  have e0 := (U9.blk 1 rfl).cell (j := 0) (v := .bool gap) rfl
  have e1 := (U9.blk 1 rfl).cell (j := 1) (v := .int .u8 o) rfl
  have e2 := (U9.blk 1 rfl).cell (j := 2) (v := .int .u64 sq) rfl
  have e3 := (U9.blk 1 rfl).cell (j := 3) (v := .int .u64 tm) rfl
  have e4 := (U9.blk 1 rfl).cell (j := 4) (v := .string ru) rfl
  have e5 := (U9.blk 1 rfl).cell (j := 5) (v := .slice Al nl cl) rfl
  have e6 := (U9.blk 1 rfl).cell (j := 6) (v := .int .u8 st) rfl
  have e7 := (U9.blk 1 rfl).cell (j := 7) (v := .int .u8 pr) rfl
  have e8 := (U9.blk 1 rfl).cell (j := 8) (v := .int .i64 va) rfl
  have e9 := (U9.blk 1 rfl).cell (j := 9) (v := .int .u8 ow) rfl
  have e10 := (U9.blk 1 rfl).cell (j := 10) (v := .int .u8 go) rfl
  have e11 := (U9.blk 1 rfl).cell (j := 11) (v := .int .u64 gf2) rfl
  have e12 := (U9.blk 1 rfl).cell (j := 12) (v := .int .u64 gt) rfl
  go_wp2_with fail
  refine calls_genP fun w10 hw10 => ?_
  have U10 := U9.same hw10
  clear hw10 U9 e0 e1 e2 e3 e4 e5 e6 e7 e8 e9 e10 e11 e12
  have hr10 := U10.rd (by decide) HRD.out HDL.out
  have hd10 : ∀ x ∈ rdFp (.slice Al nl cl) nl, x ∉ (chLed g (.pointer (some ⟨j, 0, none⟩)) lv h li la n cs).fp := fun x hx hx2 => by
    have := HLT.out x hx
    rcases U10.own _ (List.mem_of_getElem? (show _ = _ from (rfl : _[4]? = some (chLed g (.pointer (some ⟨j, 0, none⟩)) lv h li la n cs)))) x hx2 with h1 | h1
    · exact absurd h1 (HDL.out x hx)
    · omega
  have hB10 := U10.ledBlk 4 rfl
  (with_reducible refine (enter_ok g (.pointer (some ⟨j, 0, none⟩)) lv h li la n now cs gap o sq tm ru Al nl cl st pr va ow go gf2 gt ps so sf sto gf2 w10 (U10.get 4 rfl) hn hso hr10 hnl hd10 (fun w' hb => KG w' (hB10.below hb hB10.lt) (hr10.below hb)) (fun w' _ => KS w')).mono ?_)
  rintro e w11 ⟨lv', A4, c4, rfl, h11⟩
  have U11 := U10.turn 4 rfl h11
  simp only [List.eraseIdx_cons_succ, List.eraseIdx_cons_zero, List.cons_append, List.nil_append] at U11
  clear h11 hB10 hd10 hr10 U10 KG KS HRD HDL HLT
  have z0 := (U11.blk 4 rfl).cell (j := 0) (v := .bool false) rfl
  have z1 := (U11.blk 4 rfl).cell (j := 1) (v := .int .u8 0) rfl
  have z2 := (U11.blk 4 rfl).cell (j := 2) (v := .int .u64 0) rfl
  have z3 := (U11.blk 4 rfl).cell (j := 3) (v := .int .u64 0) rfl
  have z4 := (U11.blk 4 rfl).cell (j := 4) (v := .string ⟨#[]⟩) rfl
  have z5 := (U11.blk 4 rfl).cell (j := 5) (v := .slice none 0 0) rfl
  have z6 := (U11.blk 4 rfl).cell (j := 6) (v := .int .u8 0) rfl
  have z7 := (U11.blk 4 rfl).cell (j := 7) (v := .int .u8 0) rfl
  have z8 := (U11.blk 4 rfl).cell (j := 8) (v := .int .i64 0) rfl
  have z9 := (U11.blk 4 rfl).cell (j := 9) (v := .int .u8 0) rfl
  have z10 := (U11.blk 4 rfl).cell (j := 10) (v := .int .u8 0) rfl
  have z11 := (U11.blk 4 rfl).cell (j := 11) (v := .int .u64 0) rfl
  have z12 := (U11.blk 4 rfl).cell (j := 12) (v := .int .u64 0) rfl
  have zf := (U11.blk 4 rfl).frozen
  go_wp2_with fail
  refine bodyPost_gen fun w12 hw12 => ?_
  have V := ((((((((((((((U11.put 4 rfl 0 (.bool gap)).put 0 rfl 1 (.int .u8 o)).put 0 rfl 2 (.int .u64 sq)).put 0 rfl 3 (.int .u64 tm)).put 0 rfl 4 (.string ru)).put 0 rfl 5 (.slice Al nl cl)).put 0 rfl 6 (.int .u8 st)).put 0 rfl 7 (.int .u8 pr)).put 0 rfl 8 (.int .i64 va)).put 0 rfl 9 (.int .u8 ow)).put 0 rfl 10 (.int .u8 go)).put 0 rfl 11 (.int .u64 gf2)).put 0 rfl 12 (.int .u64 gt))).same hw12
  simp only [List.setIfInBounds_toArray, List.set_cons_succ, List.set_cons_zero, List.eraseIdx_cons_succ, List.eraseIdx_cons_zero] at V
  clear hw12 U11 z0 z1 z2 z3 z4 z5 z6 z7 z8 z9 z10 z11 z12 zf
  have a0 := (V.blk 0 rfl).cell (j := 0) (v := .bool gap) rfl
  have a1 := (V.blk 0 rfl).cell (j := 1) (v := .int .u8 o) rfl
  have a2 := (V.blk 0 rfl).cell (j := 2) (v := .int .u64 sq) rfl
  have a3 := (V.blk 0 rfl).cell (j := 3) (v := .int .u64 tm) rfl
  have a4 := (V.blk 0 rfl).cell (j := 4) (v := .string ru) rfl
  have a5 := (V.blk 0 rfl).cell (j := 5) (v := .slice Al nl cl) rfl
  have a6 := (V.blk 0 rfl).cell (j := 6) (v := .int .u8 st) rfl
  have a7 := (V.blk 0 rfl).cell (j := 7) (v := .int .u8 pr) rfl
  have a8 := (V.blk 0 rfl).cell (j := 8) (v := .int .i64 va) rfl
  have a9 := (V.blk 0 rfl).cell (j := 9) (v := .int .u8 ow) rfl
  have a10 := (V.blk 0 rfl).cell (j := 10) (v := .int .u8 go) rfl
  have a11 := (V.blk 0 rfl).cell (j := 11) (v := .int .u64 gf2) rfl
  have a12 := (V.blk 0 rfl).cell (j := 12) (v := .int .u64 gt) rfl
  have V2 := ((V.pick [2, 6, 1, 3] (by decide)).intoAll.pick [1, 0, 2] (by decide)).two.two
  simp only [List.filterMap_cons, List.filterMap_nil, List.getElem?_cons_zero, List.getElem?_cons_succ] at V2
  refine bodyPost_ret (v := .tuple #[.agg #[.bool gap, .int .u8 o, .int .u64 sq, .int .u64 tm, .string ru, .slice Al nl cl, .int .u8 st, .int .u8 pr, .int .i64 va, .int .u8 ow, .int .u8 go, .int .u64 gf2, .int .u64 gt], .int .i64 0]) ?_ rfl ⟨lv', A4, c4, fs', rfl, HJ.out, V2⟩
  simp [results, Tryz.results14, go_sem, a0, a1, a2, a3, a4, a5, a6, a7, a8, a9, a10, a11, a12]
end Go.Proofs.YtdmdfccadjfpiaaGreat
namespace Go.Proofs.YtdmdfccadjfpiaaGreat
open Go.RowKit
set_option maxRecDepth 100000

theorem chkF_zero : ∀ (ps : List Pr) (prev : Option ByteArray), chkF prev ps = 0 → ∀ p ∈ ps, p.1.size ≤ 8 ∧ p.2.size ≤ 16 := by
  intro ps
  induction ps with
  | nil => intro prev _ p hp; cases hp
  | cons q r ih =>
    intro prev h p hp
    have hq : (wordB q.1 8 false && wordB q.2 16 true) = true ∧ chkF (some q.1) r = 0 := by
      simp only [chkF] at h
      split at h
      · next hw =>
        refine ⟨hw, ?_⟩
        cases prev with
        | none => exact h
        | some k =>
          simp only at h
          split at h
          · cases h
          · split at h
            · cases h
            · exact h
      · cases h
    rcases List.mem_cons.1 hp with rfl | hp
    · have := hq.1
      simp only [wordB, Bool.and_eq_true, decide_eq_true_eq] at this
      omega
    · exact ih _ hq.2 p hp
theorem chkE_zero {o sq tm : Nat} {ru : ByteArray} {ps : List Pr} {st pr ow : Nat} (h : chkE o sq tm ru ps st pr ow = 0) : ru.size ≤ 12 ∧ ps.length ≤ 8 ∧ ∀ p ∈ ps, p.1.size ≤ 8 ∧ p.2.size ≤ 16 := by
  unfold chkE at h
  split at h
  · cases h
  split at h
  · cases h
  next hn =>
  split at h
  · cases h
  split at h
  · cases h
  have hn : nameB ru = true := by simpa using hn
  simp only [nameB, wordB, Bool.and_eq_true, decide_eq_true_eq] at hn
  unfold chkL at h
  split at h
  · cases h
  next h8 => exact ⟨by omega, by omega, chkF_zero ps none h⟩
/-- What is left of an item above a count. -/
def trimA (a : ItV) (hs : Nat) : ItV := { a with gf := if hs < spanF a then a.gf else hs + 1 }
theorem trimA_span {a : ItV} {hs : Nat} (h1 : hs < spanT a) : spanO (trimA a hs) = spanO a ∧ spanT (trimA a hs) = spanT a ∧ hs < spanF (trimA a hs) ∧ (spanF a ≤ hs + 1 → spanF (trimA a hs) ≤ hs + 1) := by
  unfold trimA spanO spanT spanF at *
  cases hg : a.gap
  · simp only [hg, Bool.false_eq_true, if_false] at h1 ⊢
    exact ⟨trivial, trivial, h1, fun h => h⟩
  · simp only [hg, if_true] at h1 ⊢
    refine ⟨trivial, trivial, ?_, fun h => ?_⟩
    · split <;> omega
    · split <;> omega
theorem trimA_chk {a : ItV} {hs : Nat} (h : chkIt a = 0) (h1 : hs < spanT a) : chkIt (trimA a hs) = 0 := by
  unfold chkIt trimA spanT spanF at *
  cases hg : a.gap
  · simp only [hg, Bool.false_eq_true, if_false] at h ⊢
    exact h
  · simp only [hg, if_true] at h h1 ⊢
    unfold chkGap at *
    split at h
    · cases h
    · rw [if_neg]
      split <;> omega
theorem trimA_again {a : ItV} {hs : Nat} (h1 : hs < spanT a) : trimA (trimA a hs) hs = trimA a hs := by
  have h := (trimA_span h1).2.2.1
  show ({ trimA a hs with gf := if hs < spanF (trimA a hs) then (trimA a hs).gf else hs + 1 } : ItV) = _
  rw [if_pos h]
theorem trimA_lv (a : ItV) (hs : Nat) : (trimA a hs).lv = a.lv ∧ (trimA a hs).ps = a.ps := ⟨rfl, rfl⟩
theorem trimA_ok {a : ItV} {hs : Nat} {w : World} (h : a.ok w) (h1 : hs < spanT a) : (trimA a hs).ok w := by
  refine ⟨h.o, h.sq, h.tm, h.ru, h.rd, h.pz, h.st, h.pr, h.va, h.ow, h.go, ?_, h.gt⟩
  show (if hs < spanF a then a.gf else hs + 1) < _
  have h2 := h.gf; have h3 := h.gt; have h4 := h.sq
  unfold spanT at h1
  split
  · exact h2
  · split at h1 <;> omega
theorem spanT_lt {a : ItV} {w : World} (h : a.ok w) : spanT a < 18446744073709551616 := by
  have h3 := h.gt; have h4 := h.sq
  unfold spanT
  split <;> omega
/-- Why an item isn't admitted. -/
def fitV (h : Nat → Nat) (la now : Nat) (a : ItV) : Nat := fitC (chkIt a) now la (h (spanO a)) (spanF a) (spanT a)
theorem fitV_ok {h : Nat → Nat} {la now : Nat} {a : ItV} (hf : fitV h la now a = 0) : chkIt a = 0 ∧ now ≤ 1099511627776 ∧ la ≤ now ∧ h (spanO a) < spanT a ∧ spanF a ≤ h (spanO a) + 1 := by
  unfold fitV fitC at hf
  split at hf
  · next hn => exact absurd hf hn
  split at hf
  · cases hf
  split at hf
  · cases hf
  split at hf
  · cases hf
  split at hf
  · cases hf
  omega
theorem fitV_of {h : Nat → Nat} {la now : Nat} {a : ItV} (h0 : chkIt a = 0) (h1 : now ≤ 1099511627776) (h2 : la ≤ now) (h3 : h (spanO a) < spanT a) (h4 : spanF a ≤ h (spanO a) + 1) : fitV h la now a = 0 := by
  unfold fitV fitC
  rw [if_neg (by omega), if_neg (by omega), if_neg (by omega), if_neg (by omega), if_neg (by omega)]
abbrev z13V : Value := .agg #[.bool false, .int .u8 0, .int .u64 0, .int .u64 0, .string ⟨#[]⟩, .slice none 0 0, .int .u8 0, .int .u8 0, .int .i64 0, .int .u8 0, .int .u8 0, .int .u64 0, .int .u64 0]
/-- Span needs nothing of the labels' memory. -/
theorem itSpanA (a : ItV) (w : World) (h : ∃ A c, a.lv = .slice A a.ps.length c) : Calls Tryz.prog 36 #[itV a] w fun e w' => e = .returned (.tuple #[.int .u8 (spanO a), .int .u64 (spanF a), .int .u64 (spanT a)]) ∧ Below w.heap.size w w' := by
  obtain ⟨A, c, hlv⟩ := h
  unfold itV
  rw [hlv]
  unfold spanO spanF spanT
  cases a.gap
  · rw [if_neg Bool.false_ne_true, if_neg Bool.false_ne_true, if_neg Bool.false_ne_true]; exact itSpan_false a.o a.sq a.tm a.ru A a.ps.length c a.st a.pr a.va a.ow a.go a.gf a.gt w
  · rw [if_pos rfl, if_pos rfl, if_pos rfl]; exact itSpan_true a.o a.sq a.tm a.ru A a.ps.length c a.st a.pr a.va a.ow a.go a.gf a.gt w
theorem ledFits (g : Nat) (jv lv : Value) (h : Nat → Nat) (li la now : Nat) (a : ItV) (w : World) (hB : Blk w g (ledA jv lv h li la) 93) (ha : a.ok w) (hh : h (spanO a) < 18446744073709551615) (hf : fitV h la now a = 0) :
    Calls Tryz.prog 37 #[.pointer (some ⟨g, 0, none⟩), .int .u64 now, itV a] w fun e w' => e = .returned (.tuple #[itV (trimA a (h (spanO a))), .int .i64 0]) ∧ Below w.heap.size w w' := by
  obtain ⟨h0, h1, h2, h3, h4⟩ := fitV_ok hf
  have hz := chkIt_zero h0
  have hlt := spanT_lt ha
  obtain ⟨Al, cl, hlv, _⟩ := ha.rd
  obtain ⟨gap, o, sq, tm, ru, lw, ps, st, pr, va, ow, go, gf, gt⟩ := a
  simp only at hlv
  subst hlv
  have KC := fun w' (hb : Below w.heap.size w w') => itCheck _ w' (ha.below hb)
  have KS := fun w' (hb : Below w.heap.size w w') => itSpan _ w' (ha.below hb)
  rw [h0] at KC
  obtain ⟨hs, hhs⟩ : ∃ hs, hs = h (spanO ⟨gap, o, sq, tm, ru, .slice Al ps.length cl, ps, st, pr, va, ow, go, gf, gt⟩) := ⟨_, rfl⟩
  rw [← hhs] at hh h3 h4 ⊢
  refine fits_ok g jv lv h li la now gap o sq tm ru Al ps.length cl st pr va ow go gf gt 0 _ _ _ hs _ w hB hhs hh (fun _ => hz.1) rfl h1 h2 h3 h4 KC KS fun w' hb => ?_
  by_cases hc : hs < spanF ⟨gap, o, sq, tm, ru, .slice Al ps.length cl, ps, st, pr, va, ow, go, gf, gt⟩
  · rw [show (trimA ⟨gap, o, sq, tm, ru, .slice Al ps.length cl, ps, st, pr, va, ow, go, gf, gt⟩ hs).gf = gf from if_pos hc]
    exact itTrimAll gap o sq tm ru Al ps.length cl st pr va ow go gf gt hs _ _ _ w' h3 hlt hc fun w'' hb' => KS w'' (hb.trans (hb'.mono hb.size))
  · rw [show (trimA ⟨gap, o, sq, tm, ru, .slice Al ps.length cl, ps, st, pr, va, ow, go, gf, gt⟩ hs).gf = hs + 1 from if_neg hc]
    exact itTrimCut gap o sq tm ru Al ps.length cl st pr va ow go gf gt hs _ _ _ w' h3 hlt (by omega) fun w'' hb' => KS w'' (hb.trans (hb'.mono hb.size))
theorem ledFitsBad (g : Nat) (jv lv : Value) (h : Nat → Nat) (li la now : Nat) (a : ItV) (w : World) (hB : Blk w g (ledA jv lv h li la) 93) (ha : a.ok w) (hh : h (spanO a) < 18446744073709551615) (hf : fitV h la now a ≠ 0) :
    Calls Tryz.prog 37 #[.pointer (some ⟨g, 0, none⟩), .int .u64 now, itV a] w fun e w' => e = .returned (.tuple #[z13V, .int .i64 (fitV h la now a : Nat)]) ∧ Below w.heap.size w w' := by
  have hz := chkIt_zero (a := a)
  obtain ⟨Al, cl, hlv, _⟩ := ha.rd
  obtain ⟨gap, o, sq, tm, ru, lw, ps, st, pr, va, ow, go, gf, gt⟩ := a
  simp only at hlv
  subst hlv
  have KC := fun w' (hb : Below w.heap.size w w') => itCheck _ w' (ha.below hb)
  have KS := fun w' (hb : Below w.heap.size w w') => itSpan _ w' (ha.below hb)
  unfold fitV fitC at hf ⊢
  by_cases c0 : chkIt ⟨gap, o, sq, tm, ru, .slice Al ps.length cl, ps, st, pr, va, ow, go, gf, gt⟩ = 0
  · have hz := hz c0
    rw [c0] at KC
    rw [if_neg (by omega)] at hf ⊢
    by_cases c1 : 1099511627776 < now
    · rw [if_pos c1]
      exact fits_range g jv lv h li la now gap o sq tm ru Al ps.length cl st pr va ow go gf gt 0 _ _ _ _ w hB rfl hh (fun _ => hz.1) rfl c1 KC KS
    rw [if_neg c1] at hf ⊢
    by_cases c2 : now < la
    · rw [if_pos c2]
      exact fits_order g jv lv h li la now gap o sq tm ru Al ps.length cl st pr va ow go gf gt 0 _ _ _ _ w hB rfl hh (fun _ => hz.1) rfl (by omega) c2 KC KS
    rw [if_neg c2] at hf ⊢
    by_cases c3 : spanT ⟨gap, o, sq, tm, ru, .slice Al ps.length cl, ps, st, pr, va, ow, go, gf, gt⟩ ≤ h (spanO ⟨gap, o, sq, tm, ru, .slice Al ps.length cl, ps, st, pr, va, ow, go, gf, gt⟩)
    · rw [if_pos c3]
      exact fits_old g jv lv h li la now gap o sq tm ru Al ps.length cl st pr va ow go gf gt 0 _ _ _ _ w hB rfl hh (fun _ => hz.1) rfl (by omega) (by omega) c3 KC KS
    rw [if_neg c3] at hf ⊢
    by_cases c4 : h (spanO ⟨gap, o, sq, tm, ru, .slice Al ps.length cl, ps, st, pr, va, ow, go, gf, gt⟩) + 1 < spanF ⟨gap, o, sq, tm, ru, .slice Al ps.length cl, ps, st, pr, va, ow, go, gf, gt⟩
    · rw [if_pos c4]
      exact fits_jump g jv lv h li la now gap o sq tm ru Al ps.length cl st pr va ow go gf gt 0 _ _ _ _ w hB rfl hh (fun _ => hz.1) rfl (by omega) (by omega) (by omega) c4 KC KS
    · rw [if_neg c4] at hf
      exact absurd rfl hf
  · rw [if_pos c0]
    exact fits_ck g jv lv h li la now gap o sq tm ru Al ps.length cl st pr va ow go gf gt _ _ _ _ _ w hB rfl hh (fun e => absurd e c0) c0 KC KS
theorem admitErr (g : Nat) (jv lv : Value) (h : Nat → Nat) (li la now : Nat) (a : ItV) (w : World) (hB : Blk w g (ledA jv lv h li la) 93) (ha : a.ok w) (hh : h (spanO a) < 18446744073709551615) (hf : fitV h la now a ≠ 0) :
    Calls Tryz.prog 14 #[.pointer (some ⟨g, 0, none⟩), .int .u64 now, itV a] w fun e w' => e = .returned (.tuple #[z13V, .int .i64 (fitV h la now a : Nat)]) ∧ Below w.heap.size w w' := by
  have K := fun w' (hb : Below w.heap.size w w') => ledFitsBad g jv lv h li la now a w' (hB.below hb hB.lt) (ha.below hb) hh hf
  obtain ⟨c, hc⟩ : ∃ c, c = fitV h la now a := ⟨_, rfl⟩
  rw [← hc] at hf ⊢
  simp only [← hc] at K
  obtain ⟨Al, cl, hlv, _⟩ := ha.rd
  obtain ⟨gap, o, sq, tm, ru, lw, ps, st, pr, va, ow, go, gf, gt⟩ := a
  simp only at hlv
  subst hlv
  exact admit_bad g now c gap o sq tm ru Al ps.length cl st pr va ow go gf gt w hf K
theorem putIt (a : ItV) (gw : Nat) (v : Value) (bs : List UInt8) (w : World) (hP : (chWr gw v bs).P w) (hbs : bs.length ≤ 1000) (ha : a.ok w) (hc : chkIt a = 0) (hd : ∀ x ∈ rdFp a.lv a.ps.length, x ∉ (chWr gw v bs).fp) :
    Calls Tryz.prog 40 #[.pointer (some ⟨gw, 0, none⟩), itV a] w fun e w' => e = .returned (.tuple #[]) ∧ ∃ v', Upd (chWr gw v bs).fp w [chWr gw v' (bs ++ putL a)] w' := by
  obtain ⟨Al, cl, hlv, _⟩ := ha.rd
  obtain ⟨gap, o, sq, tm, ru, lw, ps, st, pr, va, ow, go, gf, gt⟩ := a
  simp only at hlv hd
  subst hlv
  unfold putL
  cases gap
  · have hz := chkE_zero (show chkE o sq tm ru ps st pr ow = 0 from hc)
    exact itPut_ev gw v bs o sq tm ru Al ps.length cl ps st pr va ow go gf gt w hP hbs ha.rd rfl hd ha.o ha.sq ha.tm (by omega) hz.2.1 (fun p hp => by have := hz.2.2 p hp; omega) ha.st ha.pr ha.va ha.ow
  · exact itPut_gap gw v bs o sq tm ru Al ps.length cl st pr va ow go gf gt w hP hbs ha.go ha.gf ha.gt
/-- The labels of an entry. -/
def labRow (x : Nat × ItV) : Chunk := chRow 137 2 x.2.lv x.2.ps.length (pairCells x.2.ps)
def nmL : ByteArray := ⟨#[108, 101, 100, 103, 101, 114]⟩
/-- A ledger over a file. -/
def chL (g j d m b : Nat) (lv : Value) (h : Nat → Nat) (li la : Nat) (es : List (Nat × ItV)) (k : Nat) (fs : List FileV) : Chunk :=
  chLJ g (.pointer (some ⟨j, 0, none⟩)) lv h li la es.length (es.flatMap en14) (es.map labRow) j d m b nmL k fs
def recL (now : Nat) (a : ItV) : List UInt8 := (1 :: uvar now) ++ putL a
set_option maxHeartbeats 1000000 in
theorem admitOk (g j d m b k ks : Nat) (lv : Value) (h : Nat → Nat) (li la now : Nat) (es : List (Nat × ItV)) (fs : List FileV) (acc : List UInt8) (a : ItV) (w : World) (hP : (chL g j d m b lv h li la es k fs).P w) (hj : hasJ fs nmL acc ks)
    (ha : a.ok w) (hd : ∀ x ∈ rdFp a.lv a.ps.length, x ∉ (chL g j d m b lv h li la es k fs).fp) (hf : fitV h la now a = 0) (hh : h (spanO a) < 18446744073709551615) (hn : es.length ≤ 1000000) (hk : k ≤ 1099511627776) (hpl : a.ps.length ≤ 1000000)
    (hsum : acc.length + ((recL now (trimA a (h (spanO a)))).length + 8) ≤ 1048576) (hrl : (recL now (trimA a (h (spanO a)))).length ≤ 524288) :
    Calls Tryz.prog 14 #[.pointer (some ⟨g, 0, none⟩), .int .u64 now, itV a] w fun e w' => ∃ lv' A4 c4 fs', e = .returned (.tuple #[itV (trimA a (h (spanO a))), .int .i64 0]) ∧ hasJ fs' nmL (acc ++ layL (recL now (trimA a (h (spanO a))))) ks ∧
      Upd (chL g j d m b lv h li la es k fs).fp w [chL g j d m b lv' (fun p => if p = spanO a then spanT a else h p) li now (es ++ [(now, { trimA a (h (spanO a)) with lv := .slice A4 a.ps.length c4 })]) (k + ((recL now (trimA a (h (spanO a)))).length + 8)) fs'] w' := by
  obtain ⟨h0, h1, h2, h3, h4⟩ := fitV_ok hf
  have hz := chkIt_zero h0
  have hsp := trimA_span h3
  have hck := trimA_chk h0 h3
  have hag := trimA_again h3
  have hok := fun w' (hr : Rd w' 2 a.lv a.ps.length (pairCells a.ps)) => (⟨ha.o, ha.sq, ha.tm, ha.ru, hr, ha.pz, ha.st, ha.pr, ha.va, ha.ow, ha.go, ha.gf, ha.gt⟩ : a.ok w')
  have KF := fun w' (hB : Blk w' g (ledA (.pointer (some ⟨j, 0, none⟩)) lv h li la) 93) (hr : Rd w' 2 a.lv a.ps.length (pairCells a.ps)) => ledFits g _ lv h li la now a w' hB (hok w' hr) hh hf
  have hf2 : fitV h la now (trimA a (h (spanO a))) = 0 := fitV_of hck h1 h2 (by rw [hsp.1, hsp.2.1]; exact h3) (by rw [hsp.1]; exact hsp.2.2.2 h4)
  have KG := fun w' (hB : Blk w' g (ledA (.pointer (some ⟨j, 0, none⟩)) lv h li la) 93) (hr : Rd w' 2 a.lv a.ps.length (pairCells a.ps)) => ledFits g _ lv h li la now (trimA a (h (spanO a))) w' hB (trimA_ok (hok w' hr) h3) (by rw [hsp.1]; exact hh) hf2
  rw [hsp.1, hag] at KG
  have KP := fun gw v bs w' (hP : (chWr gw v bs).P w') hbs (hr : Rd w' 2 a.lv a.ps.length (pairCells a.ps)) (hd : ∀ x ∈ rdFp a.lv a.ps.length, x ∉ (chWr gw v bs).fp) => putIt (trimA a (h (spanO a))) gw v bs w' hP hbs (trimA_ok (hok w' hr) h3) hck hd
  have KS : ∀ w', Calls Tryz.prog 36 #[itV (trimA a (h (spanO a)))] w' fun e w'' => e = .returned (.tuple #[.int .u8 (spanO (trimA a (h (spanO a)))), .int .u64 (spanF (trimA a (h (spanO a)))), .int .u64 (spanT (trimA a (h (spanO a))))]) ∧ Below w'.heap.size w' w'' := fun w' => itSpanA _ w' (by obtain ⟨A, c, e, _⟩ := ha.rd; exact ⟨A, c, e⟩)
  rw [hsp.1, hsp.2.1] at KS
  have hrd := ha.rd
  obtain ⟨Al, cl, hlv, _⟩ := ha.rd
  obtain ⟨hs, hhs⟩ : ∃ hs, hs = h (spanO a) := ⟨_, rfl⟩
  rw [← hhs] at KF KG KP KS hsum hrl ⊢
  obtain ⟨so, hso⟩ : ∃ so, so = spanO a := ⟨_, rfl⟩
  obtain ⟨sto, hsto⟩ : ∃ sto, sto = spanT a := ⟨_, rfl⟩
  rw [← hso, ← hsto] at KS
  rw [← hso] at hz
  obtain ⟨sf, hsf⟩ : ∃ sf, sf = spanF (trimA a hs) := ⟨_, rfl⟩
  rw [← hsf] at KS
  rw [← hso, ← hsto]
  obtain ⟨gf2, hgf2⟩ : ∃ g2, g2 = if hs < spanF a then a.gf else hs + 1 := ⟨_, rfl⟩
  have htr : trimA a hs = { a with gf := gf2 } := by rw [hgf2]; rfl
  rw [htr] at KF KG KP KS hsum hrl ⊢
  clear hso hsto hsf hgf2 htr hf hf2 hck hag hsp h0 h3 h4 hok hhs
  have hes : ∀ x : Nat × ItV, (es ++ [x]).length = es.length + 1 ∧ (es ++ [x]).flatMap en14 = es.flatMap en14 ++ en14 x ∧ (es ++ [x]).map labRow = es.map labRow ++ [labRow x] := fun x => ⟨by simp, by simp, by simp⟩
  obtain ⟨gap, o, sq, tm, ru, lw, ps, st, pr, va, ow, go, gf, gt⟩ := a
  simp only at hlv KF KG KP KS hd hsum hrl hrd hpl
  subst hlv
  refine (admit_okA g j d m b k ks lv h li la es.length now (es.flatMap en14) (es.map labRow) nmL fs acc _ _ gap o sq tm ru Al ps.length cl st pr va ow go gf gt ps so sf sto gf2 w hP hj (by unfold maxLen; decide) (by decide +kernel) hn hz.1 h1 hpl hk rfl hsum hrl hrd hd KF KG KS KP).mono ?_
  rintro e w' ⟨lv', A4, c4, fs', rfl, hj', hU⟩
  refine ⟨lv', A4, c4, fs', rfl, hj', ?_⟩
  unfold chL
  rw [(hes _).1, (hes _).2.1, (hes _).2.2]
  exact hU
end Go.Proofs.YtdmdfccadjfpiaaGreat
