/-
  A ledger's cells; ledger.fits.
-/
import Derived.Test.YtdmdfccadjfpiaaGreatTrim
import Derived.Test.YtdmdfccadjfpiaaGreatWhole
import Derived.Test.YtdmdfccadjfpiaaGreatFree
namespace Go.Proofs.YtdmdfccadjfpiaaGreat
open Go.RowKit FreeOrd
set_option maxRecDepth 100000
attribute [local go_sem] out

/-- A ledger's cells: its journal, its entries, the highs, its life, the last time. -/
def ledA (jv lv : Value) (h : Nat → Nat) (li la : Nat) : Array Value := #[jv, lv] ++ hiA h ++ #[.int .u64 li, .int .u64 la]
theorem ledA_size (jv lv : Value) (h : Nat → Nat) (li la : Nat) : (ledA jv lv h li la).size = 36 := by simp [ledA, hiA]
theorem ledA_0 (jv lv : Value) (h : Nat → Nat) (li la : Nat) : (ledA jv lv h li la)[0]? = some jv := by unfold ledA; rw [Array.append_assoc, Array.getElem?_append_left (by simp)]; rfl
theorem ledA_1 (jv lv : Value) (h : Nat → Nat) (li la : Nat) : (ledA jv lv h li la)[1]? = some lv := by unfold ledA; rw [Array.append_assoc, Array.getElem?_append_left (by simp)]; rfl
theorem ledA_h (jv lv : Value) (h : Nat → Nat) (li la : Nat) (o : Nat) (ho : o < 32) : (ledA jv lv h li la)[2 + o]? = some (.int .u64 (h o : Nat)) := by
  unfold ledA
  rw [Array.append_assoc, Array.getElem?_append_right (by simp), Array.getElem?_append_left (by simp [hiA]; omega)]
  rw [show 2 + o - (#[jv, lv] : Array Value).size = o by simp]
  exact hiA_at h o ho
theorem ledA_34 (jv lv : Value) (h : Nat → Nat) (li la : Nat) : (ledA jv lv h li la)[34]? = some (.int .u64 li) := by
  unfold ledA
  rw [Array.getElem?_append_right (by simp [hiA]), show 34 - (#[jv, lv] ++ hiA h).size = 0 by simp [hiA]]; rfl
theorem ledA_35 (jv lv : Value) (h : Nat → Nat) (li la : Nat) : (ledA jv lv h li la)[35]? = some (.int .u64 la) := by
  unfold ledA
  rw [Array.getElem?_append_right (by simp [hiA]), show 35 - (#[jv, lv] ++ hiA h).size = 1 by simp [hiA]]; rfl
theorem ledA_put1 (jv lv lv' : Value) (h : Nat → Nat) (li la : Nat) : (ledA jv lv h li la).setIfInBounds 1 lv' = ledA jv lv' h li la := by
  unfold ledA
  apply Array.ext'
  simp
theorem ledA_put35 (jv lv : Value) (h : Nat → Nat) (li la la' : Nat) : (ledA jv lv h li la).setIfInBounds 35 (.int .u64 (la' : Nat)) = ledA jv lv h li la' := by
  unfold ledA
  rw [Array.setIfInBounds_append_right (by simp [hiA]), show 35 - (#[jv, lv] ++ hiA h).size = 1 by simp [hiA]]
  rfl
theorem ledA_put34 (jv lv : Value) (h : Nat → Nat) (li li' la : Nat) : (ledA jv lv h li la).setIfInBounds 34 (.int .u64 (li' : Nat)) = ledA jv lv h li' la := by
  unfold ledA
  rw [Array.setIfInBounds_append_right (by simp [hiA]), show 34 - (#[jv, lv] ++ hiA h).size = 0 by simp [hiA]]
  rfl
theorem ledA_puth (jv lv : Value) (h : Nat → Nat) (li la o t : Nat) (ho : o < 32) : (ledA jv lv h li la).setIfInBounds (2 + o) (.int .u64 (t : Nat)) = ledA jv lv (fun p => if p = o then t else h p) li la := by
  unfold ledA
  rw [Array.append_assoc, Array.setIfInBounds_append_right (by simp), show 2 + o - (#[jv, lv] : Array Value).size = o by simp, Array.setIfInBounds_append_left (by simpa [hiA] using ho), hiA_put h o t ho, ← Array.append_assoc]
/-- Why an item isn't admitted: an error's number; 0: it is. -/
def fitC (ck now la hs sf sto : Nat) : Nat := if ck ≠ 0 then ck else if 1099511627776 < now then 6 else if now < la then 9 else if sto ≤ hs then 17 else if hs + 1 < sf then 16 else 0
set_option maxHeartbeats 2000000 in
theorem fits_ck (g : Nat) (jv lv : Value) (h : Nat → Nat) (li la now : Nat) (gap : Bool) (o sq tm : Nat) (ru : ByteArray) (Al : Option Addr) (nl cl st pr : Nat) (va : Int) (ow go gf gt : Nat) (ck so sf sto hs : Nat) (w : World) (_hB : Blk w g (ledA jv lv h li la) 93) (_hhs : hs = h so) (_hsb : hs < 18446744073709551615) (_hso : ck = 0 → so < 32) (hck : ck ≠ 0)
    (KC : ∀ w', Below w.heap.size w w' → Calls Tryz.prog 35 #[.agg #[.bool gap, .int .u8 o, .int .u64 sq, .int .u64 tm, .string ru, .slice Al nl cl, .int .u8 st, .int .u8 pr, .int .i64 va, .int .u8 ow, .int .u8 go, .int .u64 gf, .int .u64 gt]] w' fun e w'' => e = .returned (.int .i64 (ck : Nat)) ∧ Below w'.heap.size w' w'') (_KS : ∀ w', Below w.heap.size w w' → Calls Tryz.prog 36 #[.agg #[.bool gap, .int .u8 o, .int .u64 sq, .int .u64 tm, .string ru, .slice Al nl cl, .int .u8 st, .int .u8 pr, .int .i64 va, .int .u8 ow, .int .u8 go, .int .u64 gf, .int .u64 gt]] w' fun e w'' => e = .returned (.tuple #[.int .u8 so, .int .u64 sf, .int .u64 sto]) ∧ Below w'.heap.size w' w'') :
    Calls Tryz.prog 37 #[.pointer (some ⟨g, 0, none⟩), .int .u64 now, .agg #[.bool gap, .int .u8 o, .int .u64 sq, .int .u64 tm, .string ru, .slice Al nl cl, .int .u8 st, .int .u8 pr, .int .i64 va, .int .u8 ow, .int .u8 go, .int .u64 gf, .int .u64 gt]] w fun e w' => e = .returned (.tuple #[.agg #[.bool false, .int .u8 0, .int .u64 0, .int .u64 0, .string ⟨#[]⟩, .slice none 0 0, .int .u8 0, .int .u8 0, .int .i64 0, .int .u8 0, .int .u8 0, .int .u64 0, .int .u64 0], .int .i64 (ck : Nat)]) ∧ Below w.heap.size w w' := by
  have d : ((ck : Int) != 0) = true := by simp; omega
  clear hck
  go_enter Tryz.func37, Tryz.ntmps37
  go_wp2_with fail
  refine calls_genP fun w2 hw2 => ?_
  have U2 := (((Upd.nil [] w).alloc #[.bool gap, .int .u8 o, .int .u64 sq, .int .u64 tm, .string ru, .slice Al nl cl, .int .u8 st, .int .u8 pr, .int .i64 va, .int .u8 ow, .int .u8 go, .int .u64 gf, .int .u64 gt] 36).alloc #[.bool false, .int .u8 0, .int .u64 0, .int .u64 0, .string ⟨#[]⟩, .slice none 0 0, .int .u8 0, .int .u8 0, .int .i64 0, .int .u8 0, .int .u8 0, .int .u64 0, .int .u64 0] 36).same hw2
  simp only [World.size_alloc] at U2
  clear hw2
  (with_reducible refine (KC w2 U2.below).mono ?_)
  rintro e w3 ⟨rfl, hb3⟩
  have U3 := U2.grow hb3
  clear U2 hb3 KC
  have z0 := (U3.blk 0 rfl).cell (j := 0) (v := .bool false) rfl
  have z1 := (U3.blk 0 rfl).cell (j := 1) (v := .int .u8 0) rfl
  have z2 := (U3.blk 0 rfl).cell (j := 2) (v := .int .u64 0) rfl
  have z3 := (U3.blk 0 rfl).cell (j := 3) (v := .int .u64 0) rfl
  have z4 := (U3.blk 0 rfl).cell (j := 4) (v := .string ⟨#[]⟩) rfl
  have z5 := (U3.blk 0 rfl).cell (j := 5) (v := .slice none 0 0) rfl
  have z6 := (U3.blk 0 rfl).cell (j := 6) (v := .int .u8 0) rfl
  have z7 := (U3.blk 0 rfl).cell (j := 7) (v := .int .u8 0) rfl
  have z8 := (U3.blk 0 rfl).cell (j := 8) (v := .int .i64 0) rfl
  have z9 := (U3.blk 0 rfl).cell (j := 9) (v := .int .u8 0) rfl
  have z10 := (U3.blk 0 rfl).cell (j := 10) (v := .int .u8 0) rfl
  have z11 := (U3.blk 0 rfl).cell (j := 11) (v := .int .u64 0) rfl
  have z12 := (U3.blk 0 rfl).cell (j := 12) (v := .int .u64 0) rfl
  have zf := (U3.blk 0 rfl).frozen
  go_wp2_with fail
  refine bodyPost_gen fun w6 hw6 => ?_
  have V := ((((((((((((((U3.put 0 rfl 0 (.bool false)).put 0 rfl 1 (.int .u8 0)).put 0 rfl 2 (.int .u64 0)).put 0 rfl 3 (.int .u64 0)).put 0 rfl 4 (.string ⟨#[]⟩)).put 0 rfl 5 (.slice none 0 0)).put 0 rfl 6 (.int .u8 0)).put 0 rfl 7 (.int .u8 0)).put 0 rfl 8 (.int .i64 0)).put 0 rfl 9 (.int .u8 0)).put 0 rfl 10 (.int .u8 0)).put 0 rfl 11 (.int .u64 0)).put 0 rfl 12 (.int .u64 0))).same hw6
  simp only [List.setIfInBounds_toArray, List.set_cons_succ, List.set_cons_zero, List.eraseIdx_cons_zero] at V
  clear hw6
  have a0 := (V.blk 0 rfl).cell (j := 0) (v := .bool false) rfl
  have a1 := (V.blk 0 rfl).cell (j := 1) (v := .int .u8 0) rfl
  have a2 := (V.blk 0 rfl).cell (j := 2) (v := .int .u64 0) rfl
  have a3 := (V.blk 0 rfl).cell (j := 3) (v := .int .u64 0) rfl
  have a4 := (V.blk 0 rfl).cell (j := 4) (v := .string ⟨#[]⟩) rfl
  have a5 := (V.blk 0 rfl).cell (j := 5) (v := .slice none 0 0) rfl
  have a6 := (V.blk 0 rfl).cell (j := 6) (v := .int .u8 0) rfl
  have a7 := (V.blk 0 rfl).cell (j := 7) (v := .int .u8 0) rfl
  have a8 := (V.blk 0 rfl).cell (j := 8) (v := .int .i64 0) rfl
  have a9 := (V.blk 0 rfl).cell (j := 9) (v := .int .u8 0) rfl
  have a10 := (V.blk 0 rfl).cell (j := 10) (v := .int .u8 0) rfl
  have a11 := (V.blk 0 rfl).cell (j := 11) (v := .int .u64 0) rfl
  have a12 := (V.blk 0 rfl).cell (j := 12) (v := .int .u64 0) rfl
  refine bodyPost_ret (v := .tuple #[.agg #[.bool false, .int .u8 0, .int .u64 0, .int .u64 0, .string ⟨#[]⟩, .slice none 0 0, .int .u8 0, .int .u8 0, .int .i64 0, .int .u8 0, .int .u8 0, .int .u64 0, .int .u64 0], .int .i64 ck]) ?_ rfl ⟨rfl, V.below⟩
  simp [results, Tryz.results37, go_sem, a0, a1, a2, a3, a4, a5, a6, a7, a8, a9, a10, a11, a12]
set_option maxHeartbeats 2000000 in
theorem fits_range (g : Nat) (jv lv : Value) (h : Nat → Nat) (li la now : Nat) (gap : Bool) (o sq tm : Nat) (ru : ByteArray) (Al : Option Addr) (nl cl st pr : Nat) (va : Int) (ow go gf gt : Nat) (ck so sf sto hs : Nat) (w : World) (hB : Blk w g (ledA jv lv h li la) 93) (hhs : hs = h so) (_hsb : hs < 18446744073709551615) (hso : ck = 0 → so < 32) (hck : ck = 0) (c1 : 1099511627776 < now)
    (KC : ∀ w', Below w.heap.size w w' → Calls Tryz.prog 35 #[.agg #[.bool gap, .int .u8 o, .int .u64 sq, .int .u64 tm, .string ru, .slice Al nl cl, .int .u8 st, .int .u8 pr, .int .i64 va, .int .u8 ow, .int .u8 go, .int .u64 gf, .int .u64 gt]] w' fun e w'' => e = .returned (.int .i64 (ck : Nat)) ∧ Below w'.heap.size w' w'') (KS : ∀ w', Below w.heap.size w w' → Calls Tryz.prog 36 #[.agg #[.bool gap, .int .u8 o, .int .u64 sq, .int .u64 tm, .string ru, .slice Al nl cl, .int .u8 st, .int .u8 pr, .int .i64 va, .int .u8 ow, .int .u8 go, .int .u64 gf, .int .u64 gt]] w' fun e w'' => e = .returned (.tuple #[.int .u8 so, .int .u64 sf, .int .u64 sto]) ∧ Below w'.heap.size w' w'') :
    Calls Tryz.prog 37 #[.pointer (some ⟨g, 0, none⟩), .int .u64 now, .agg #[.bool gap, .int .u8 o, .int .u64 sq, .int .u64 tm, .string ru, .slice Al nl cl, .int .u8 st, .int .u8 pr, .int .i64 va, .int .u8 ow, .int .u8 go, .int .u64 gf, .int .u64 gt]] w fun e w' => e = .returned (.tuple #[.agg #[.bool false, .int .u8 0, .int .u64 0, .int .u64 0, .string ⟨#[]⟩, .slice none 0 0, .int .u8 0, .int .u8 0, .int .i64 0, .int .u8 0, .int .u8 0, .int .u64 0, .int .u64 0], .int .i64 (6)]) ∧ Below w.heap.size w w' := by
  subst hck
  replace hso := hso rfl
  have d1 : decide ((1099511627776 : Int) < (now : Int)) = true := by simp; omega
  clear c1
  go_enter Tryz.func37, Tryz.ntmps37
  go_wp2_with fail
  refine calls_genP fun w2 hw2 => ?_
  have U2 := (((Upd.nil [] w).alloc #[.bool gap, .int .u8 o, .int .u64 sq, .int .u64 tm, .string ru, .slice Al nl cl, .int .u8 st, .int .u8 pr, .int .i64 va, .int .u8 ow, .int .u8 go, .int .u64 gf, .int .u64 gt] 36).alloc #[.bool false, .int .u8 0, .int .u64 0, .int .u64 0, .string ⟨#[]⟩, .slice none 0 0, .int .u8 0, .int .u8 0, .int .i64 0, .int .u8 0, .int .u8 0, .int .u64 0, .int .u64 0] 36).same hw2
  simp only [World.size_alloc] at U2
  clear hw2
  (with_reducible refine (KC w2 U2.below).mono ?_)
  rintro e w3 ⟨rfl, hb3⟩
  have U3 := U2.grow hb3
  clear U2 hb3 KC
  have e0 := (U3.blk 1 rfl).cell (j := 0) (v := .bool gap) rfl
  have e1 := (U3.blk 1 rfl).cell (j := 1) (v := .int .u8 o) rfl
  have e2 := (U3.blk 1 rfl).cell (j := 2) (v := .int .u64 sq) rfl
  have e3 := (U3.blk 1 rfl).cell (j := 3) (v := .int .u64 tm) rfl
  have e4 := (U3.blk 1 rfl).cell (j := 4) (v := .string ru) rfl
  have e5 := (U3.blk 1 rfl).cell (j := 5) (v := .slice Al nl cl) rfl
  have e6 := (U3.blk 1 rfl).cell (j := 6) (v := .int .u8 st) rfl
  have e7 := (U3.blk 1 rfl).cell (j := 7) (v := .int .u8 pr) rfl
  have e8 := (U3.blk 1 rfl).cell (j := 8) (v := .int .i64 va) rfl
  have e9 := (U3.blk 1 rfl).cell (j := 9) (v := .int .u8 ow) rfl
  have e10 := (U3.blk 1 rfl).cell (j := 10) (v := .int .u8 go) rfl
  have e11 := (U3.blk 1 rfl).cell (j := 11) (v := .int .u64 gf) rfl
  have e12 := (U3.blk 1 rfl).cell (j := 12) (v := .int .u64 gt) rfl
  go_wp2_with fail
  (with_reducible refine (KS w3 U3.below).mono ?_)
  rintro e w4 ⟨rfl, hb4⟩
  have U4 := U3.grow hb4
  clear U3 hb4 e0 e1 e2 e3 e4 e5 e6 e7 e8 e9 e10 e11 e12
  have hBl := hB.below U4.below hB.lt
  have g2 := hBl.cell (j := 2 + so) (v := .int .u64 hs) (by rw [hhs]; exact ledA_h jv lv h li la so hso)
  have g35 := hBl.cell (j := 35) (v := .int .u64 la) (ledA_35 jv lv h li la)
  clear hBl
  have z0 := (U4.blk 0 rfl).cell (j := 0) (v := .bool false) rfl
  have z1 := (U4.blk 0 rfl).cell (j := 1) (v := .int .u8 0) rfl
  have z2 := (U4.blk 0 rfl).cell (j := 2) (v := .int .u64 0) rfl
  have z3 := (U4.blk 0 rfl).cell (j := 3) (v := .int .u64 0) rfl
  have z4 := (U4.blk 0 rfl).cell (j := 4) (v := .string ⟨#[]⟩) rfl
  have z5 := (U4.blk 0 rfl).cell (j := 5) (v := .slice none 0 0) rfl
  have z6 := (U4.blk 0 rfl).cell (j := 6) (v := .int .u8 0) rfl
  have z7 := (U4.blk 0 rfl).cell (j := 7) (v := .int .u8 0) rfl
  have z8 := (U4.blk 0 rfl).cell (j := 8) (v := .int .i64 0) rfl
  have z9 := (U4.blk 0 rfl).cell (j := 9) (v := .int .u8 0) rfl
  have z10 := (U4.blk 0 rfl).cell (j := 10) (v := .int .u8 0) rfl
  have z11 := (U4.blk 0 rfl).cell (j := 11) (v := .int .u64 0) rfl
  have z12 := (U4.blk 0 rfl).cell (j := 12) (v := .int .u64 0) rfl
  have zf := (U4.blk 0 rfl).frozen
  clear KS hB hhs
  go_wp2_with fail
  refine bodyPost_gen fun w6 hw6 => ?_
  have V := ((((((((((((((U4.put 0 rfl 0 (.bool false)).put 0 rfl 1 (.int .u8 0)).put 0 rfl 2 (.int .u64 0)).put 0 rfl 3 (.int .u64 0)).put 0 rfl 4 (.string ⟨#[]⟩)).put 0 rfl 5 (.slice none 0 0)).put 0 rfl 6 (.int .u8 0)).put 0 rfl 7 (.int .u8 0)).put 0 rfl 8 (.int .i64 0)).put 0 rfl 9 (.int .u8 0)).put 0 rfl 10 (.int .u8 0)).put 0 rfl 11 (.int .u64 0)).put 0 rfl 12 (.int .u64 0))).same hw6
  simp only [List.setIfInBounds_toArray, List.set_cons_succ, List.set_cons_zero, List.eraseIdx_cons_zero] at V
  clear hw6
  have a0 := (V.blk 0 rfl).cell (j := 0) (v := .bool false) rfl
  have a1 := (V.blk 0 rfl).cell (j := 1) (v := .int .u8 0) rfl
  have a2 := (V.blk 0 rfl).cell (j := 2) (v := .int .u64 0) rfl
  have a3 := (V.blk 0 rfl).cell (j := 3) (v := .int .u64 0) rfl
  have a4 := (V.blk 0 rfl).cell (j := 4) (v := .string ⟨#[]⟩) rfl
  have a5 := (V.blk 0 rfl).cell (j := 5) (v := .slice none 0 0) rfl
  have a6 := (V.blk 0 rfl).cell (j := 6) (v := .int .u8 0) rfl
  have a7 := (V.blk 0 rfl).cell (j := 7) (v := .int .u8 0) rfl
  have a8 := (V.blk 0 rfl).cell (j := 8) (v := .int .i64 0) rfl
  have a9 := (V.blk 0 rfl).cell (j := 9) (v := .int .u8 0) rfl
  have a10 := (V.blk 0 rfl).cell (j := 10) (v := .int .u8 0) rfl
  have a11 := (V.blk 0 rfl).cell (j := 11) (v := .int .u64 0) rfl
  have a12 := (V.blk 0 rfl).cell (j := 12) (v := .int .u64 0) rfl
  refine bodyPost_ret (v := .tuple #[.agg #[.bool false, .int .u8 0, .int .u64 0, .int .u64 0, .string ⟨#[]⟩, .slice none 0 0, .int .u8 0, .int .u8 0, .int .i64 0, .int .u8 0, .int .u8 0, .int .u64 0, .int .u64 0], .int .i64 6]) ?_ rfl ⟨rfl, V.below⟩
  simp [results, Tryz.results37, go_sem, a0, a1, a2, a3, a4, a5, a6, a7, a8, a9, a10, a11, a12]
set_option maxHeartbeats 2000000 in
theorem fits_order (g : Nat) (jv lv : Value) (h : Nat → Nat) (li la now : Nat) (gap : Bool) (o sq tm : Nat) (ru : ByteArray) (Al : Option Addr) (nl cl st pr : Nat) (va : Int) (ow go gf gt : Nat) (ck so sf sto hs : Nat) (w : World) (hB : Blk w g (ledA jv lv h li la) 93) (hhs : hs = h so) (_hsb : hs < 18446744073709551615) (hso : ck = 0 → so < 32) (hck : ck = 0) (c1 : now ≤ 1099511627776) (c2 : now < la)
    (KC : ∀ w', Below w.heap.size w w' → Calls Tryz.prog 35 #[.agg #[.bool gap, .int .u8 o, .int .u64 sq, .int .u64 tm, .string ru, .slice Al nl cl, .int .u8 st, .int .u8 pr, .int .i64 va, .int .u8 ow, .int .u8 go, .int .u64 gf, .int .u64 gt]] w' fun e w'' => e = .returned (.int .i64 (ck : Nat)) ∧ Below w'.heap.size w' w'') (KS : ∀ w', Below w.heap.size w w' → Calls Tryz.prog 36 #[.agg #[.bool gap, .int .u8 o, .int .u64 sq, .int .u64 tm, .string ru, .slice Al nl cl, .int .u8 st, .int .u8 pr, .int .i64 va, .int .u8 ow, .int .u8 go, .int .u64 gf, .int .u64 gt]] w' fun e w'' => e = .returned (.tuple #[.int .u8 so, .int .u64 sf, .int .u64 sto]) ∧ Below w'.heap.size w' w'') :
    Calls Tryz.prog 37 #[.pointer (some ⟨g, 0, none⟩), .int .u64 now, .agg #[.bool gap, .int .u8 o, .int .u64 sq, .int .u64 tm, .string ru, .slice Al nl cl, .int .u8 st, .int .u8 pr, .int .i64 va, .int .u8 ow, .int .u8 go, .int .u64 gf, .int .u64 gt]] w fun e w' => e = .returned (.tuple #[.agg #[.bool false, .int .u8 0, .int .u64 0, .int .u64 0, .string ⟨#[]⟩, .slice none 0 0, .int .u8 0, .int .u8 0, .int .i64 0, .int .u8 0, .int .u8 0, .int .u64 0, .int .u64 0], .int .i64 (9)]) ∧ Below w.heap.size w w' := by
  subst hck
  replace hso := hso rfl
  have d1 : decide ((1099511627776 : Int) < (now : Int)) = false := by simp; omega
  have d2 : decide (now < la) = true := by simp; omega
  clear c1 c2
  go_enter Tryz.func37, Tryz.ntmps37
  go_wp2_with fail
  refine calls_genP fun w2 hw2 => ?_
  have U2 := (((Upd.nil [] w).alloc #[.bool gap, .int .u8 o, .int .u64 sq, .int .u64 tm, .string ru, .slice Al nl cl, .int .u8 st, .int .u8 pr, .int .i64 va, .int .u8 ow, .int .u8 go, .int .u64 gf, .int .u64 gt] 36).alloc #[.bool false, .int .u8 0, .int .u64 0, .int .u64 0, .string ⟨#[]⟩, .slice none 0 0, .int .u8 0, .int .u8 0, .int .i64 0, .int .u8 0, .int .u8 0, .int .u64 0, .int .u64 0] 36).same hw2
  simp only [World.size_alloc] at U2
  clear hw2
  (with_reducible refine (KC w2 U2.below).mono ?_)
  rintro e w3 ⟨rfl, hb3⟩
  have U3 := U2.grow hb3
  clear U2 hb3 KC
  have e0 := (U3.blk 1 rfl).cell (j := 0) (v := .bool gap) rfl
  have e1 := (U3.blk 1 rfl).cell (j := 1) (v := .int .u8 o) rfl
  have e2 := (U3.blk 1 rfl).cell (j := 2) (v := .int .u64 sq) rfl
  have e3 := (U3.blk 1 rfl).cell (j := 3) (v := .int .u64 tm) rfl
  have e4 := (U3.blk 1 rfl).cell (j := 4) (v := .string ru) rfl
  have e5 := (U3.blk 1 rfl).cell (j := 5) (v := .slice Al nl cl) rfl
  have e6 := (U3.blk 1 rfl).cell (j := 6) (v := .int .u8 st) rfl
  have e7 := (U3.blk 1 rfl).cell (j := 7) (v := .int .u8 pr) rfl
  have e8 := (U3.blk 1 rfl).cell (j := 8) (v := .int .i64 va) rfl
  have e9 := (U3.blk 1 rfl).cell (j := 9) (v := .int .u8 ow) rfl
  have e10 := (U3.blk 1 rfl).cell (j := 10) (v := .int .u8 go) rfl
  have e11 := (U3.blk 1 rfl).cell (j := 11) (v := .int .u64 gf) rfl
  have e12 := (U3.blk 1 rfl).cell (j := 12) (v := .int .u64 gt) rfl
  go_wp2_with fail
  (with_reducible refine (KS w3 U3.below).mono ?_)
  rintro e w4 ⟨rfl, hb4⟩
  have U4 := U3.grow hb4
  clear U3 hb4 e0 e1 e2 e3 e4 e5 e6 e7 e8 e9 e10 e11 e12
  have hBl := hB.below U4.below hB.lt
  have g2 := hBl.cell (j := 2 + so) (v := .int .u64 hs) (by rw [hhs]; exact ledA_h jv lv h li la so hso)
  have g35 := hBl.cell (j := 35) (v := .int .u64 la) (ledA_35 jv lv h li la)
  clear hBl
  have z0 := (U4.blk 0 rfl).cell (j := 0) (v := .bool false) rfl
  have z1 := (U4.blk 0 rfl).cell (j := 1) (v := .int .u8 0) rfl
  have z2 := (U4.blk 0 rfl).cell (j := 2) (v := .int .u64 0) rfl
  have z3 := (U4.blk 0 rfl).cell (j := 3) (v := .int .u64 0) rfl
  have z4 := (U4.blk 0 rfl).cell (j := 4) (v := .string ⟨#[]⟩) rfl
  have z5 := (U4.blk 0 rfl).cell (j := 5) (v := .slice none 0 0) rfl
  have z6 := (U4.blk 0 rfl).cell (j := 6) (v := .int .u8 0) rfl
  have z7 := (U4.blk 0 rfl).cell (j := 7) (v := .int .u8 0) rfl
  have z8 := (U4.blk 0 rfl).cell (j := 8) (v := .int .i64 0) rfl
  have z9 := (U4.blk 0 rfl).cell (j := 9) (v := .int .u8 0) rfl
  have z10 := (U4.blk 0 rfl).cell (j := 10) (v := .int .u8 0) rfl
  have z11 := (U4.blk 0 rfl).cell (j := 11) (v := .int .u64 0) rfl
  have z12 := (U4.blk 0 rfl).cell (j := 12) (v := .int .u64 0) rfl
  have zf := (U4.blk 0 rfl).frozen
  clear KS hB hhs
  go_wp2_with fail
  refine bodyPost_gen fun w6 hw6 => ?_
  have V := ((((((((((((((U4.put 0 rfl 0 (.bool false)).put 0 rfl 1 (.int .u8 0)).put 0 rfl 2 (.int .u64 0)).put 0 rfl 3 (.int .u64 0)).put 0 rfl 4 (.string ⟨#[]⟩)).put 0 rfl 5 (.slice none 0 0)).put 0 rfl 6 (.int .u8 0)).put 0 rfl 7 (.int .u8 0)).put 0 rfl 8 (.int .i64 0)).put 0 rfl 9 (.int .u8 0)).put 0 rfl 10 (.int .u8 0)).put 0 rfl 11 (.int .u64 0)).put 0 rfl 12 (.int .u64 0))).same hw6
  simp only [List.setIfInBounds_toArray, List.set_cons_succ, List.set_cons_zero, List.eraseIdx_cons_zero] at V
  clear hw6
  have a0 := (V.blk 0 rfl).cell (j := 0) (v := .bool false) rfl
  have a1 := (V.blk 0 rfl).cell (j := 1) (v := .int .u8 0) rfl
  have a2 := (V.blk 0 rfl).cell (j := 2) (v := .int .u64 0) rfl
  have a3 := (V.blk 0 rfl).cell (j := 3) (v := .int .u64 0) rfl
  have a4 := (V.blk 0 rfl).cell (j := 4) (v := .string ⟨#[]⟩) rfl
  have a5 := (V.blk 0 rfl).cell (j := 5) (v := .slice none 0 0) rfl
  have a6 := (V.blk 0 rfl).cell (j := 6) (v := .int .u8 0) rfl
  have a7 := (V.blk 0 rfl).cell (j := 7) (v := .int .u8 0) rfl
  have a8 := (V.blk 0 rfl).cell (j := 8) (v := .int .i64 0) rfl
  have a9 := (V.blk 0 rfl).cell (j := 9) (v := .int .u8 0) rfl
  have a10 := (V.blk 0 rfl).cell (j := 10) (v := .int .u8 0) rfl
  have a11 := (V.blk 0 rfl).cell (j := 11) (v := .int .u64 0) rfl
  have a12 := (V.blk 0 rfl).cell (j := 12) (v := .int .u64 0) rfl
  refine bodyPost_ret (v := .tuple #[.agg #[.bool false, .int .u8 0, .int .u64 0, .int .u64 0, .string ⟨#[]⟩, .slice none 0 0, .int .u8 0, .int .u8 0, .int .i64 0, .int .u8 0, .int .u8 0, .int .u64 0, .int .u64 0], .int .i64 9]) ?_ rfl ⟨rfl, V.below⟩
  simp [results, Tryz.results37, go_sem, a0, a1, a2, a3, a4, a5, a6, a7, a8, a9, a10, a11, a12]
set_option maxHeartbeats 2000000 in
theorem fits_old (g : Nat) (jv lv : Value) (h : Nat → Nat) (li la now : Nat) (gap : Bool) (o sq tm : Nat) (ru : ByteArray) (Al : Option Addr) (nl cl st pr : Nat) (va : Int) (ow go gf gt : Nat) (ck so sf sto hs : Nat) (w : World) (hB : Blk w g (ledA jv lv h li la) 93) (hhs : hs = h so) (_hsb : hs < 18446744073709551615) (hso : ck = 0 → so < 32) (hck : ck = 0) (c1 : now ≤ 1099511627776) (c2 : la ≤ now) (c3 : sto ≤ hs)
    (KC : ∀ w', Below w.heap.size w w' → Calls Tryz.prog 35 #[.agg #[.bool gap, .int .u8 o, .int .u64 sq, .int .u64 tm, .string ru, .slice Al nl cl, .int .u8 st, .int .u8 pr, .int .i64 va, .int .u8 ow, .int .u8 go, .int .u64 gf, .int .u64 gt]] w' fun e w'' => e = .returned (.int .i64 (ck : Nat)) ∧ Below w'.heap.size w' w'') (KS : ∀ w', Below w.heap.size w w' → Calls Tryz.prog 36 #[.agg #[.bool gap, .int .u8 o, .int .u64 sq, .int .u64 tm, .string ru, .slice Al nl cl, .int .u8 st, .int .u8 pr, .int .i64 va, .int .u8 ow, .int .u8 go, .int .u64 gf, .int .u64 gt]] w' fun e w'' => e = .returned (.tuple #[.int .u8 so, .int .u64 sf, .int .u64 sto]) ∧ Below w'.heap.size w' w'') :
    Calls Tryz.prog 37 #[.pointer (some ⟨g, 0, none⟩), .int .u64 now, .agg #[.bool gap, .int .u8 o, .int .u64 sq, .int .u64 tm, .string ru, .slice Al nl cl, .int .u8 st, .int .u8 pr, .int .i64 va, .int .u8 ow, .int .u8 go, .int .u64 gf, .int .u64 gt]] w fun e w' => e = .returned (.tuple #[.agg #[.bool false, .int .u8 0, .int .u64 0, .int .u64 0, .string ⟨#[]⟩, .slice none 0 0, .int .u8 0, .int .u8 0, .int .i64 0, .int .u8 0, .int .u8 0, .int .u64 0, .int .u64 0], .int .i64 (17)]) ∧ Below w.heap.size w w' := by
  subst hck
  replace hso := hso rfl
  have d1 : decide ((1099511627776 : Int) < (now : Int)) = false := by simp; omega
  have d2 : decide (now < la) = false := by simp; omega
  have d3 : decide (sto ≤ hs) = true := by simp; omega
  clear c1 c2 c3
  go_enter Tryz.func37, Tryz.ntmps37
  go_wp2_with fail
  refine calls_genP fun w2 hw2 => ?_
  have U2 := (((Upd.nil [] w).alloc #[.bool gap, .int .u8 o, .int .u64 sq, .int .u64 tm, .string ru, .slice Al nl cl, .int .u8 st, .int .u8 pr, .int .i64 va, .int .u8 ow, .int .u8 go, .int .u64 gf, .int .u64 gt] 36).alloc #[.bool false, .int .u8 0, .int .u64 0, .int .u64 0, .string ⟨#[]⟩, .slice none 0 0, .int .u8 0, .int .u8 0, .int .i64 0, .int .u8 0, .int .u8 0, .int .u64 0, .int .u64 0] 36).same hw2
  simp only [World.size_alloc] at U2
  clear hw2
  (with_reducible refine (KC w2 U2.below).mono ?_)
  rintro e w3 ⟨rfl, hb3⟩
  have U3 := U2.grow hb3
  clear U2 hb3 KC
  have e0 := (U3.blk 1 rfl).cell (j := 0) (v := .bool gap) rfl
  have e1 := (U3.blk 1 rfl).cell (j := 1) (v := .int .u8 o) rfl
  have e2 := (U3.blk 1 rfl).cell (j := 2) (v := .int .u64 sq) rfl
  have e3 := (U3.blk 1 rfl).cell (j := 3) (v := .int .u64 tm) rfl
  have e4 := (U3.blk 1 rfl).cell (j := 4) (v := .string ru) rfl
  have e5 := (U3.blk 1 rfl).cell (j := 5) (v := .slice Al nl cl) rfl
  have e6 := (U3.blk 1 rfl).cell (j := 6) (v := .int .u8 st) rfl
  have e7 := (U3.blk 1 rfl).cell (j := 7) (v := .int .u8 pr) rfl
  have e8 := (U3.blk 1 rfl).cell (j := 8) (v := .int .i64 va) rfl
  have e9 := (U3.blk 1 rfl).cell (j := 9) (v := .int .u8 ow) rfl
  have e10 := (U3.blk 1 rfl).cell (j := 10) (v := .int .u8 go) rfl
  have e11 := (U3.blk 1 rfl).cell (j := 11) (v := .int .u64 gf) rfl
  have e12 := (U3.blk 1 rfl).cell (j := 12) (v := .int .u64 gt) rfl
  go_wp2_with fail
  (with_reducible refine (KS w3 U3.below).mono ?_)
  rintro e w4 ⟨rfl, hb4⟩
  have U4 := U3.grow hb4
  clear U3 hb4 e0 e1 e2 e3 e4 e5 e6 e7 e8 e9 e10 e11 e12
  have hBl := hB.below U4.below hB.lt
  have g2 := hBl.cell (j := 2 + so) (v := .int .u64 hs) (by rw [hhs]; exact ledA_h jv lv h li la so hso)
  have g35 := hBl.cell (j := 35) (v := .int .u64 la) (ledA_35 jv lv h li la)
  clear hBl
  have z0 := (U4.blk 0 rfl).cell (j := 0) (v := .bool false) rfl
  have z1 := (U4.blk 0 rfl).cell (j := 1) (v := .int .u8 0) rfl
  have z2 := (U4.blk 0 rfl).cell (j := 2) (v := .int .u64 0) rfl
  have z3 := (U4.blk 0 rfl).cell (j := 3) (v := .int .u64 0) rfl
  have z4 := (U4.blk 0 rfl).cell (j := 4) (v := .string ⟨#[]⟩) rfl
  have z5 := (U4.blk 0 rfl).cell (j := 5) (v := .slice none 0 0) rfl
  have z6 := (U4.blk 0 rfl).cell (j := 6) (v := .int .u8 0) rfl
  have z7 := (U4.blk 0 rfl).cell (j := 7) (v := .int .u8 0) rfl
  have z8 := (U4.blk 0 rfl).cell (j := 8) (v := .int .i64 0) rfl
  have z9 := (U4.blk 0 rfl).cell (j := 9) (v := .int .u8 0) rfl
  have z10 := (U4.blk 0 rfl).cell (j := 10) (v := .int .u8 0) rfl
  have z11 := (U4.blk 0 rfl).cell (j := 11) (v := .int .u64 0) rfl
  have z12 := (U4.blk 0 rfl).cell (j := 12) (v := .int .u64 0) rfl
  have zf := (U4.blk 0 rfl).frozen
  clear KS hB hhs
  go_wp2_with fail
  refine bodyPost_gen fun w6 hw6 => ?_
  have V := ((((((((((((((U4.put 0 rfl 0 (.bool false)).put 0 rfl 1 (.int .u8 0)).put 0 rfl 2 (.int .u64 0)).put 0 rfl 3 (.int .u64 0)).put 0 rfl 4 (.string ⟨#[]⟩)).put 0 rfl 5 (.slice none 0 0)).put 0 rfl 6 (.int .u8 0)).put 0 rfl 7 (.int .u8 0)).put 0 rfl 8 (.int .i64 0)).put 0 rfl 9 (.int .u8 0)).put 0 rfl 10 (.int .u8 0)).put 0 rfl 11 (.int .u64 0)).put 0 rfl 12 (.int .u64 0))).same hw6
  simp only [List.setIfInBounds_toArray, List.set_cons_succ, List.set_cons_zero, List.eraseIdx_cons_zero] at V
  clear hw6
  have a0 := (V.blk 0 rfl).cell (j := 0) (v := .bool false) rfl
  have a1 := (V.blk 0 rfl).cell (j := 1) (v := .int .u8 0) rfl
  have a2 := (V.blk 0 rfl).cell (j := 2) (v := .int .u64 0) rfl
  have a3 := (V.blk 0 rfl).cell (j := 3) (v := .int .u64 0) rfl
  have a4 := (V.blk 0 rfl).cell (j := 4) (v := .string ⟨#[]⟩) rfl
  have a5 := (V.blk 0 rfl).cell (j := 5) (v := .slice none 0 0) rfl
  have a6 := (V.blk 0 rfl).cell (j := 6) (v := .int .u8 0) rfl
  have a7 := (V.blk 0 rfl).cell (j := 7) (v := .int .u8 0) rfl
  have a8 := (V.blk 0 rfl).cell (j := 8) (v := .int .i64 0) rfl
  have a9 := (V.blk 0 rfl).cell (j := 9) (v := .int .u8 0) rfl
  have a10 := (V.blk 0 rfl).cell (j := 10) (v := .int .u8 0) rfl
  have a11 := (V.blk 0 rfl).cell (j := 11) (v := .int .u64 0) rfl
  have a12 := (V.blk 0 rfl).cell (j := 12) (v := .int .u64 0) rfl
  refine bodyPost_ret (v := .tuple #[.agg #[.bool false, .int .u8 0, .int .u64 0, .int .u64 0, .string ⟨#[]⟩, .slice none 0 0, .int .u8 0, .int .u8 0, .int .i64 0, .int .u8 0, .int .u8 0, .int .u64 0, .int .u64 0], .int .i64 17]) ?_ rfl ⟨rfl, V.below⟩
  simp [results, Tryz.results37, go_sem, a0, a1, a2, a3, a4, a5, a6, a7, a8, a9, a10, a11, a12]
set_option maxHeartbeats 2000000 in
theorem fits_jump (g : Nat) (jv lv : Value) (h : Nat → Nat) (li la now : Nat) (gap : Bool) (o sq tm : Nat) (ru : ByteArray) (Al : Option Addr) (nl cl st pr : Nat) (va : Int) (ow go gf gt : Nat) (ck so sf sto hs : Nat) (w : World) (hB : Blk w g (ledA jv lv h li la) 93) (hhs : hs = h so) (hsb : hs < 18446744073709551615) (hso : ck = 0 → so < 32) (hck : ck = 0) (c1 : now ≤ 1099511627776) (c2 : la ≤ now) (c3 : hs < sto) (c4 : hs + 1 < sf)
    (KC : ∀ w', Below w.heap.size w w' → Calls Tryz.prog 35 #[.agg #[.bool gap, .int .u8 o, .int .u64 sq, .int .u64 tm, .string ru, .slice Al nl cl, .int .u8 st, .int .u8 pr, .int .i64 va, .int .u8 ow, .int .u8 go, .int .u64 gf, .int .u64 gt]] w' fun e w'' => e = .returned (.int .i64 (ck : Nat)) ∧ Below w'.heap.size w' w'') (KS : ∀ w', Below w.heap.size w w' → Calls Tryz.prog 36 #[.agg #[.bool gap, .int .u8 o, .int .u64 sq, .int .u64 tm, .string ru, .slice Al nl cl, .int .u8 st, .int .u8 pr, .int .i64 va, .int .u8 ow, .int .u8 go, .int .u64 gf, .int .u64 gt]] w' fun e w'' => e = .returned (.tuple #[.int .u8 so, .int .u64 sf, .int .u64 sto]) ∧ Below w'.heap.size w' w'') :
    Calls Tryz.prog 37 #[.pointer (some ⟨g, 0, none⟩), .int .u64 now, .agg #[.bool gap, .int .u8 o, .int .u64 sq, .int .u64 tm, .string ru, .slice Al nl cl, .int .u8 st, .int .u8 pr, .int .i64 va, .int .u8 ow, .int .u8 go, .int .u64 gf, .int .u64 gt]] w fun e w' => e = .returned (.tuple #[.agg #[.bool false, .int .u8 0, .int .u64 0, .int .u64 0, .string ⟨#[]⟩, .slice none 0 0, .int .u8 0, .int .u8 0, .int .i64 0, .int .u8 0, .int .u8 0, .int .u64 0, .int .u64 0], .int .i64 (16)]) ∧ Below w.heap.size w w' := by
  subst hck
  replace hso := hso rfl
  have d1 : decide ((1099511627776 : Int) < (now : Int)) = false := by simp; omega
  have d2 : decide (now < la) = false := by simp; omega
  have d3 : decide (sto ≤ hs) = false := by simp; omega
  have d4 : decide ((hs : Int) + 1 < (sf : Int)) = true := by simp; omega
  clear c1 c2 c3 c4
  go_enter Tryz.func37, Tryz.ntmps37
  go_wp2_with fail
  refine calls_genP fun w2 hw2 => ?_
  have U2 := (((Upd.nil [] w).alloc #[.bool gap, .int .u8 o, .int .u64 sq, .int .u64 tm, .string ru, .slice Al nl cl, .int .u8 st, .int .u8 pr, .int .i64 va, .int .u8 ow, .int .u8 go, .int .u64 gf, .int .u64 gt] 36).alloc #[.bool false, .int .u8 0, .int .u64 0, .int .u64 0, .string ⟨#[]⟩, .slice none 0 0, .int .u8 0, .int .u8 0, .int .i64 0, .int .u8 0, .int .u8 0, .int .u64 0, .int .u64 0] 36).same hw2
  simp only [World.size_alloc] at U2
  clear hw2
  (with_reducible refine (KC w2 U2.below).mono ?_)
  rintro e w3 ⟨rfl, hb3⟩
  have U3 := U2.grow hb3
  clear U2 hb3 KC
  have e0 := (U3.blk 1 rfl).cell (j := 0) (v := .bool gap) rfl
  have e1 := (U3.blk 1 rfl).cell (j := 1) (v := .int .u8 o) rfl
  have e2 := (U3.blk 1 rfl).cell (j := 2) (v := .int .u64 sq) rfl
  have e3 := (U3.blk 1 rfl).cell (j := 3) (v := .int .u64 tm) rfl
  have e4 := (U3.blk 1 rfl).cell (j := 4) (v := .string ru) rfl
  have e5 := (U3.blk 1 rfl).cell (j := 5) (v := .slice Al nl cl) rfl
  have e6 := (U3.blk 1 rfl).cell (j := 6) (v := .int .u8 st) rfl
  have e7 := (U3.blk 1 rfl).cell (j := 7) (v := .int .u8 pr) rfl
  have e8 := (U3.blk 1 rfl).cell (j := 8) (v := .int .i64 va) rfl
  have e9 := (U3.blk 1 rfl).cell (j := 9) (v := .int .u8 ow) rfl
  have e10 := (U3.blk 1 rfl).cell (j := 10) (v := .int .u8 go) rfl
  have e11 := (U3.blk 1 rfl).cell (j := 11) (v := .int .u64 gf) rfl
  have e12 := (U3.blk 1 rfl).cell (j := 12) (v := .int .u64 gt) rfl
  go_wp2_with fail
  (with_reducible refine (KS w3 U3.below).mono ?_)
  rintro e w4 ⟨rfl, hb4⟩
  have U4 := U3.grow hb4
  clear U3 hb4 e0 e1 e2 e3 e4 e5 e6 e7 e8 e9 e10 e11 e12
  have hBl := hB.below U4.below hB.lt
  have g2 := hBl.cell (j := 2 + so) (v := .int .u64 hs) (by rw [hhs]; exact ledA_h jv lv h li la so hso)
  have g35 := hBl.cell (j := 35) (v := .int .u64 la) (ledA_35 jv lv h li la)
  clear hBl
  have z0 := (U4.blk 0 rfl).cell (j := 0) (v := .bool false) rfl
  have z1 := (U4.blk 0 rfl).cell (j := 1) (v := .int .u8 0) rfl
  have z2 := (U4.blk 0 rfl).cell (j := 2) (v := .int .u64 0) rfl
  have z3 := (U4.blk 0 rfl).cell (j := 3) (v := .int .u64 0) rfl
  have z4 := (U4.blk 0 rfl).cell (j := 4) (v := .string ⟨#[]⟩) rfl
  have z5 := (U4.blk 0 rfl).cell (j := 5) (v := .slice none 0 0) rfl
  have z6 := (U4.blk 0 rfl).cell (j := 6) (v := .int .u8 0) rfl
  have z7 := (U4.blk 0 rfl).cell (j := 7) (v := .int .u8 0) rfl
  have z8 := (U4.blk 0 rfl).cell (j := 8) (v := .int .i64 0) rfl
  have z9 := (U4.blk 0 rfl).cell (j := 9) (v := .int .u8 0) rfl
  have z10 := (U4.blk 0 rfl).cell (j := 10) (v := .int .u8 0) rfl
  have z11 := (U4.blk 0 rfl).cell (j := 11) (v := .int .u64 0) rfl
  have z12 := (U4.blk 0 rfl).cell (j := 12) (v := .int .u64 0) rfl
  have zf := (U4.blk 0 rfl).frozen
  clear KS hB hhs
  go_wp2_with fail
  refine bodyPost_gen fun w6 hw6 => ?_
  have V := ((((((((((((((U4.put 0 rfl 0 (.bool false)).put 0 rfl 1 (.int .u8 0)).put 0 rfl 2 (.int .u64 0)).put 0 rfl 3 (.int .u64 0)).put 0 rfl 4 (.string ⟨#[]⟩)).put 0 rfl 5 (.slice none 0 0)).put 0 rfl 6 (.int .u8 0)).put 0 rfl 7 (.int .u8 0)).put 0 rfl 8 (.int .i64 0)).put 0 rfl 9 (.int .u8 0)).put 0 rfl 10 (.int .u8 0)).put 0 rfl 11 (.int .u64 0)).put 0 rfl 12 (.int .u64 0))).same hw6
  simp only [List.setIfInBounds_toArray, List.set_cons_succ, List.set_cons_zero, List.eraseIdx_cons_zero] at V
  clear hw6
  have a0 := (V.blk 0 rfl).cell (j := 0) (v := .bool false) rfl
  have a1 := (V.blk 0 rfl).cell (j := 1) (v := .int .u8 0) rfl
  have a2 := (V.blk 0 rfl).cell (j := 2) (v := .int .u64 0) rfl
  have a3 := (V.blk 0 rfl).cell (j := 3) (v := .int .u64 0) rfl
  have a4 := (V.blk 0 rfl).cell (j := 4) (v := .string ⟨#[]⟩) rfl
  have a5 := (V.blk 0 rfl).cell (j := 5) (v := .slice none 0 0) rfl
  have a6 := (V.blk 0 rfl).cell (j := 6) (v := .int .u8 0) rfl
  have a7 := (V.blk 0 rfl).cell (j := 7) (v := .int .u8 0) rfl
  have a8 := (V.blk 0 rfl).cell (j := 8) (v := .int .i64 0) rfl
  have a9 := (V.blk 0 rfl).cell (j := 9) (v := .int .u8 0) rfl
  have a10 := (V.blk 0 rfl).cell (j := 10) (v := .int .u8 0) rfl
  have a11 := (V.blk 0 rfl).cell (j := 11) (v := .int .u64 0) rfl
  have a12 := (V.blk 0 rfl).cell (j := 12) (v := .int .u64 0) rfl
  refine bodyPost_ret (v := .tuple #[.agg #[.bool false, .int .u8 0, .int .u64 0, .int .u64 0, .string ⟨#[]⟩, .slice none 0 0, .int .u8 0, .int .u8 0, .int .i64 0, .int .u8 0, .int .u8 0, .int .u64 0, .int .u64 0], .int .i64 16]) ?_ rfl ⟨rfl, V.below⟩
  simp [results, Tryz.results37, go_sem, a0, a1, a2, a3, a4, a5, a6, a7, a8, a9, a10, a11, a12]
set_option maxHeartbeats 4000000 in
theorem fits_ok (g : Nat) (jv lv : Value) (h : Nat → Nat) (li la now : Nat) (gap : Bool) (o sq tm : Nat) (ru : ByteArray) (Al : Option Addr) (nl cl st pr : Nat) (va : Int) (ow go gf gt : Nat) (ck so sf sto hs gf2 : Nat) (w : World) (hB : Blk w g (ledA jv lv h li la) 93) (hhs : hs = h so) (hsb : hs < 18446744073709551615) (hso : ck = 0 → so < 32)
    (hck : ck = 0) (c1 : now ≤ 1099511627776) (c2 : la ≤ now) (c3 : hs < sto) (c4 : sf ≤ hs + 1)
    (KC : ∀ w', Below w.heap.size w w' → Calls Tryz.prog 35 #[.agg #[.bool gap, .int .u8 o, .int .u64 sq, .int .u64 tm, .string ru, .slice Al nl cl, .int .u8 st, .int .u8 pr, .int .i64 va, .int .u8 ow, .int .u8 go, .int .u64 gf, .int .u64 gt]] w' fun e w'' => e = .returned (.int .i64 (ck : Nat)) ∧ Below w'.heap.size w' w'') (KS : ∀ w', Below w.heap.size w w' → Calls Tryz.prog 36 #[.agg #[.bool gap, .int .u8 o, .int .u64 sq, .int .u64 tm, .string ru, .slice Al nl cl, .int .u8 st, .int .u8 pr, .int .i64 va, .int .u8 ow, .int .u8 go, .int .u64 gf, .int .u64 gt]] w' fun e w'' => e = .returned (.tuple #[.int .u8 so, .int .u64 sf, .int .u64 sto]) ∧ Below w'.heap.size w' w'') (KT : ∀ w', Below w.heap.size w w' → Calls Tryz.prog 64 #[.agg #[.bool gap, .int .u8 o, .int .u64 sq, .int .u64 tm, .string ru, .slice Al nl cl, .int .u8 st, .int .u8 pr, .int .i64 va, .int .u8 ow, .int .u8 go, .int .u64 gf, .int .u64 gt], .int .u64 hs] w' fun e w'' => e = .returned (.tuple #[.agg #[.bool gap, .int .u8 o, .int .u64 sq, .int .u64 tm, .string ru, .slice Al nl cl, .int .u8 st, .int .u8 pr, .int .i64 va, .int .u8 ow, .int .u8 go, .int .u64 gf2, .int .u64 gt], .bool true]) ∧ Below w'.heap.size w' w'') :
    Calls Tryz.prog 37 #[.pointer (some ⟨g, 0, none⟩), .int .u64 now, .agg #[.bool gap, .int .u8 o, .int .u64 sq, .int .u64 tm, .string ru, .slice Al nl cl, .int .u8 st, .int .u8 pr, .int .i64 va, .int .u8 ow, .int .u8 go, .int .u64 gf, .int .u64 gt]] w fun e w' => e = .returned (.tuple #[.agg #[.bool gap, .int .u8 o, .int .u64 sq, .int .u64 tm, .string ru, .slice Al nl cl, .int .u8 st, .int .u8 pr, .int .i64 va, .int .u8 ow, .int .u8 go, .int .u64 gf2, .int .u64 gt], .int .i64 0]) ∧ Below w.heap.size w w' := by
  subst hck
  have HH := Lib.hid hhs
  replace hso := hso rfl
  have hsI : (so : Int) < 32 := by omega
  have d1 : decide ((1099511627776 : Int) < (now : Int)) = false := by simp; omega
  have d2 : decide (now < la) = false := by simp; omega
  have d3 : decide (sto ≤ hs) = false := by simp; omega
  have d4 : decide ((hs : Int) + 1 < (sf : Int)) = false := by simp; omega
  clear c1 c2 c3 c4
  go_enter Tryz.func37, Tryz.ntmps37
  go_wp2_with fail
  refine calls_genP fun w2 hw2 => ?_
  have U2 := (((Upd.nil [] w).alloc #[.bool gap, .int .u8 o, .int .u64 sq, .int .u64 tm, .string ru, .slice Al nl cl, .int .u8 st, .int .u8 pr, .int .i64 va, .int .u8 ow, .int .u8 go, .int .u64 gf, .int .u64 gt] 36).alloc #[.bool false, .int .u8 0, .int .u64 0, .int .u64 0, .string ⟨#[]⟩, .slice none 0 0, .int .u8 0, .int .u8 0, .int .i64 0, .int .u8 0, .int .u8 0, .int .u64 0, .int .u64 0] 36).same hw2
  simp only [World.size_alloc] at U2
  clear hw2
  (with_reducible refine (KC w2 U2.below).mono ?_)
  rintro e w3 ⟨rfl, hb3⟩
  have U3 := U2.grow hb3
  clear U2 hb3 KC
  have e0 := (U3.blk 1 rfl).cell (j := 0) (v := .bool gap) rfl
  have e1 := (U3.blk 1 rfl).cell (j := 1) (v := .int .u8 o) rfl
  have e2 := (U3.blk 1 rfl).cell (j := 2) (v := .int .u64 sq) rfl
  have e3 := (U3.blk 1 rfl).cell (j := 3) (v := .int .u64 tm) rfl
  have e4 := (U3.blk 1 rfl).cell (j := 4) (v := .string ru) rfl
  have e5 := (U3.blk 1 rfl).cell (j := 5) (v := .slice Al nl cl) rfl
  have e6 := (U3.blk 1 rfl).cell (j := 6) (v := .int .u8 st) rfl
  have e7 := (U3.blk 1 rfl).cell (j := 7) (v := .int .u8 pr) rfl
  have e8 := (U3.blk 1 rfl).cell (j := 8) (v := .int .i64 va) rfl
  have e9 := (U3.blk 1 rfl).cell (j := 9) (v := .int .u8 ow) rfl
  have e10 := (U3.blk 1 rfl).cell (j := 10) (v := .int .u8 go) rfl
  have e11 := (U3.blk 1 rfl).cell (j := 11) (v := .int .u64 gf) rfl
  have e12 := (U3.blk 1 rfl).cell (j := 12) (v := .int .u64 gt) rfl
  go_wp2_with fail
  (with_reducible refine (KS w3 U3.below).mono ?_)
  rintro e w4 ⟨rfl, hb4⟩
  have U4 := U3.grow hb4
  clear U3 hb4 e0 e1 e2 e3 e4 e5 e6 e7 e8 e9 e10 e11 e12
  have hBl := hB.below U4.below hB.lt
  have g2 := hBl.cell (j := 2 + so) (v := .int .u64 hs) (by rw [hhs]; exact ledA_h jv lv h li la so hso)
  have g35 := hBl.cell (j := 35) (v := .int .u64 la) (ledA_35 jv lv h li la)
  clear hBl
  clear KS hhs
  go_wp2_with fail
  have F : ∀ w', Below w4.heap.size w4 w' → w'.cell? ⟨w.heap.size, 0, none⟩ = some (.bool gap) ∧ w'.cell? ⟨w.heap.size, 1, none⟩ = some (.int .u8 o) ∧ w'.cell? ⟨w.heap.size, 2, none⟩ = some (.int .u64 sq) ∧ w'.cell? ⟨w.heap.size, 3, none⟩ = some (.int .u64 tm) ∧ w'.cell? ⟨w.heap.size, 4, none⟩ = some (.string ru) ∧ w'.cell? ⟨w.heap.size, 5, none⟩ = some (.slice Al nl cl) ∧ w'.cell? ⟨w.heap.size, 6, none⟩ = some (.int .u8 st) ∧ w'.cell? ⟨w.heap.size, 7, none⟩ = some (.int .u8 pr) ∧ w'.cell? ⟨w.heap.size, 8, none⟩ = some (.int .i64 va) ∧ w'.cell? ⟨w.heap.size, 9, none⟩ = some (.int .u8 ow) ∧ w'.cell? ⟨w.heap.size, 10, none⟩ = some (.int .u8 go) ∧ w'.cell? ⟨w.heap.size, 11, none⟩ = some (.int .u64 gf) ∧ w'.cell? ⟨w.heap.size, 12, none⟩ = some (.int .u64 gt) ∧ w'.cell? ⟨g, 2 + so, none⟩ = some (.int .u64 hs) := fun w' hw => by
    have q := (U4.grow hw).blk 1 rfl
    have qf := U4.below.trans (hw.mono U4.below.size)
    have ql := (hB.below qf hB.lt).cell (j := 2 + so) (v := .int .u64 hs) (by rw [HH.out]; exact ledA_h jv lv h li la so hso)
    exact ⟨q.cell rfl, q.cell rfl, q.cell rfl, q.cell rfl, q.cell rfl, q.cell rfl, q.cell rfl, q.cell rfl, q.cell rfl, q.cell rfl, q.cell rfl, q.cell rfl, q.cell rfl, ql⟩
  refine region_free (fun w' => Below w4.heap.size w4 w') [11] [12] [0, 1, 2, 3, 4, 5, 6, 7, 8, 9, 10, 11, 13] (by kernel_rfl) (by kernel_rfl) (by kernel_rfl) ((Below.refl _ _).drew) ?_
  repeat (first
    | (refine RelSeq.pure_ (c := ?_) rfl rfl ?_ ?_; rotate_left; (focus (intro x w'; dsimp only; go_simp; (repeat' apply And.intro) <;> first | with_reducible rfl | assumption)); simp only [Act.put, List.setIfInBounds_toArray, List.set_cons_zero, List.set_cons_succ])
    | (refine RelSeq.grow_ (c := ?_) rfl rfl ?_ ?_; rotate_left; (focus (intro x w' hw _; dsimp only; obtain ⟨c0, c1, c2, c3, c4, c5, c6, c7, c8, c9, c10, c11, c12, c13⟩ := F w' hw; have hbr := Below.refl w'.heap.size w'; go_simp; (repeat' apply And.intro) <;> first | with_reducible rfl | assumption)); simp only [Act.put, List.setIfInBounds_toArray, List.set_cons_zero, List.set_cons_succ]))
  refine RelSeq.grow_ (c := .tuple #[.agg #[.bool gap, .int .u8 o, .int .u64 sq, .int .u64 tm, .string ru, .slice Al nl cl, .int .u8 st, .int .u8 pr, .int .i64 va, .int .u8 ow, .int .u8 go, .int .u64 gf2, .int .u64 gt], .bool true]) rfl rfl ?_ ?_
  focus
    intro x w' hw _; dsimp only
    go_simp
    (with_reducible refine (KT w' (U4.below.trans (hw.mono U4.below.size))).mono ?_)
    rintro e w'' ⟨rfl, hbk⟩
    exact ⟨rfl, hw.trans (hbk.mono hw.size), hbk⟩
  simp only [Act.put, List.setIfInBounds_toArray, List.set_cons_zero, List.set_cons_succ]
  repeat (first
    | (refine RelSeq.pure_ (c := ?_) rfl rfl ?_ ?_; rotate_left; (focus (intro x w'; dsimp only; go_simp; (repeat' apply And.intro) <;> first | with_reducible rfl | assumption)); simp only [Act.put, List.setIfInBounds_toArray, List.set_cons_zero, List.set_cons_succ])
    | (refine RelSeq.grow_ (c := ?_) rfl rfl ?_ ?_; rotate_left; (focus (intro x w' hw _; dsimp only; obtain ⟨c0, c1, c2, c3, c4, c5, c6, c7, c8, c9, c10, c11, c12, c13⟩ := F w' hw; have hbr := Below.refl w'.heap.size w'; go_simp; (repeat' apply And.intro) <;> first | with_reducible rfl | assumption)); simp only [Act.put, List.setIfInBounds_toArray, List.set_cons_zero, List.set_cons_succ]))
  refine RelSeq.rel_ (NewPt w4.heap.size 0 #[.bool false, .int .u8 0, .int .u64 0, .int .u64 0, .string ⟨#[]⟩, .slice none 0 0, .int .u8 0, .int .u8 0, .int .i64 0, .int .u8 0, .int .u8 0, .int .u64 0, .int .u64 0] 36) rfl rfl NewPt.stable ?_ ?_
  focus
    intro x w' hw _; dsimp only
    have hba : Below w'.heap.size w' (w'.alloc (.cells #[.bool false, .int .u8 0, .int .u64 0, .int .u64 0, .string ⟨#[]⟩, .slice none 0 0, .int .u8 0, .int .u8 0, .int .i64 0, .int .u8 0, .int .u8 0, .int .u64 0, .int .u64 0] 36)) := (Below.refl _ _).alloc (Nat.le_refl _) _
    have hI := hw.trans (hba.mono hw.size)
    have hsz := hw.size
    go_simp
    (repeat' apply And.intro) <;> first | assumption | exact ⟨_, rfl, hsz, Blk.new _ _ _⟩
  simp only [Act.put, List.setIfInBounds_toArray, List.set_cons_zero, List.set_cons_succ, List.nil_append]
  repeat (first
    | (refine RelSeq.pure_ (c := ?_) rfl rfl ?_ ?_; rotate_left; (focus (intro x w'; dsimp only; go_simp; (repeat' apply And.intro) <;> first | with_reducible rfl | assumption)); simp only [Act.put, List.setIfInBounds_toArray, List.set_cons_zero, List.set_cons_succ])
    | (refine RelSeq.grow_ (c := ?_) rfl rfl ?_ ?_; rotate_left; (focus (intro x w' hw _; dsimp only; obtain ⟨c0, c1, c2, c3, c4, c5, c6, c7, c8, c9, c10, c11, c12, c13⟩ := F w' hw; have hbr := Below.refl w'.heap.size w'; go_simp; (repeat' apply And.intro) <;> first | with_reducible rfl | assumption)); simp only [Act.put, List.setIfInBounds_toArray, List.set_cons_zero, List.set_cons_succ]))
  refine RelSeq.nil_ fun x w5 hw hf => ?_
  obtain ⟨b, e, hb0, hBb⟩ := hf _ (.head _)
  have U5 := (U4.grow hw).moreBlk hBb (by have := U4.below.size; omega) (fun d hd hg => by
    have := U4.lt hd hg
    omega)
  clear hf F hw U4 KT
  refine TailSeq.cons_ rfl ?_
  have y0 := (U5.blk 0 rfl).cell (j := 0) (v := .bool false) rfl
  have y1 := (U5.blk 0 rfl).cell (j := 1) (v := .int .u8 0) rfl
  have y2 := (U5.blk 0 rfl).cell (j := 2) (v := .int .u64 0) rfl
  have y3 := (U5.blk 0 rfl).cell (j := 3) (v := .int .u64 0) rfl
  have y4 := (U5.blk 0 rfl).cell (j := 4) (v := .string ⟨#[]⟩) rfl
  have y5 := (U5.blk 0 rfl).cell (j := 5) (v := .slice none 0 0) rfl
  have y6 := (U5.blk 0 rfl).cell (j := 6) (v := .int .u8 0) rfl
  have y7 := (U5.blk 0 rfl).cell (j := 7) (v := .int .u8 0) rfl
  have y8 := (U5.blk 0 rfl).cell (j := 8) (v := .int .i64 0) rfl
  have y9 := (U5.blk 0 rfl).cell (j := 9) (v := .int .u8 0) rfl
  have y10 := (U5.blk 0 rfl).cell (j := 10) (v := .int .u8 0) rfl
  have y11 := (U5.blk 0 rfl).cell (j := 11) (v := .int .u64 0) rfl
  have y12 := (U5.blk 0 rfl).cell (j := 12) (v := .int .u64 0) rfl
  have yf := (U5.blk 0 rfl).frozen
  dsimp only
  go_simp
  refine TailSeq.nil_gen fun w6 hw6 => ?_
  have U6 := ((((((((((((((U5.put 0 rfl 0 (.bool gap)).put 0 rfl 1 (.int .u8 o)).put 0 rfl 2 (.int .u64 sq)).put 0 rfl 3 (.int .u64 tm)).put 0 rfl 4 (.string ru)).put 0 rfl 5 (.slice Al nl cl)).put 0 rfl 6 (.int .u8 st)).put 0 rfl 7 (.int .u8 pr)).put 0 rfl 8 (.int .i64 va)).put 0 rfl 9 (.int .u8 ow)).put 0 rfl 10 (.int .u8 go)).put 0 rfl 11 (.int .u64 gf2)).put 0 rfl 12 (.int .u64 gt))).same hw6
  simp only [List.setIfInBounds_toArray, List.set_cons_succ, List.set_cons_zero, List.eraseIdx_cons_zero] at U6
  clear hw6 U5 hBb y0 y1 y2 y3 y4 y5 y6 y7 y8 y9 y10 y11 y12 yf
  have y0 := (U6.blk 0 rfl).cell (j := 0) (v := .bool gap) rfl
  have y1 := (U6.blk 0 rfl).cell (j := 1) (v := .int .u8 o) rfl
  have y2 := (U6.blk 0 rfl).cell (j := 2) (v := .int .u64 sq) rfl
  have y3 := (U6.blk 0 rfl).cell (j := 3) (v := .int .u64 tm) rfl
  have y4 := (U6.blk 0 rfl).cell (j := 4) (v := .string ru) rfl
  have y5 := (U6.blk 0 rfl).cell (j := 5) (v := .slice Al nl cl) rfl
  have y6 := (U6.blk 0 rfl).cell (j := 6) (v := .int .u8 st) rfl
  have y7 := (U6.blk 0 rfl).cell (j := 7) (v := .int .u8 pr) rfl
  have y8 := (U6.blk 0 rfl).cell (j := 8) (v := .int .i64 va) rfl
  have y9 := (U6.blk 0 rfl).cell (j := 9) (v := .int .u8 ow) rfl
  have y10 := (U6.blk 0 rfl).cell (j := 10) (v := .int .u8 go) rfl
  have y11 := (U6.blk 0 rfl).cell (j := 11) (v := .int .u64 gf2) rfl
  have y12 := (U6.blk 0 rfl).cell (j := 12) (v := .int .u64 gt) rfl
  have z0 := (U6.blk 1 rfl).cell (j := 0) (v := .bool false) rfl
  have z1 := (U6.blk 1 rfl).cell (j := 1) (v := .int .u8 0) rfl
  have z2 := (U6.blk 1 rfl).cell (j := 2) (v := .int .u64 0) rfl
  have z3 := (U6.blk 1 rfl).cell (j := 3) (v := .int .u64 0) rfl
  have z4 := (U6.blk 1 rfl).cell (j := 4) (v := .string ⟨#[]⟩) rfl
  have z5 := (U6.blk 1 rfl).cell (j := 5) (v := .slice none 0 0) rfl
  have z6 := (U6.blk 1 rfl).cell (j := 6) (v := .int .u8 0) rfl
  have z7 := (U6.blk 1 rfl).cell (j := 7) (v := .int .u8 0) rfl
  have z8 := (U6.blk 1 rfl).cell (j := 8) (v := .int .i64 0) rfl
  have z9 := (U6.blk 1 rfl).cell (j := 9) (v := .int .u8 0) rfl
  have z10 := (U6.blk 1 rfl).cell (j := 10) (v := .int .u8 0) rfl
  have z11 := (U6.blk 1 rfl).cell (j := 11) (v := .int .u64 0) rfl
  have z12 := (U6.blk 1 rfl).cell (j := 12) (v := .int .u64 0) rfl
  have zf := (U6.blk 1 rfl).frozen
  go_wp2_with fail
  refine bodyPost_gen fun w7 hw7 => ?_
  have V := ((((((((((((((U6.put 1 rfl 0 (.bool gap)).put 0 rfl 1 (.int .u8 o)).put 0 rfl 2 (.int .u64 sq)).put 0 rfl 3 (.int .u64 tm)).put 0 rfl 4 (.string ru)).put 0 rfl 5 (.slice Al nl cl)).put 0 rfl 6 (.int .u8 st)).put 0 rfl 7 (.int .u8 pr)).put 0 rfl 8 (.int .i64 va)).put 0 rfl 9 (.int .u8 ow)).put 0 rfl 10 (.int .u8 go)).put 0 rfl 11 (.int .u64 gf2)).put 0 rfl 12 (.int .u64 gt))).same hw7
  simp only [List.setIfInBounds_toArray, List.set_cons_succ, List.set_cons_zero, List.eraseIdx_cons_succ, List.eraseIdx_cons_zero] at V
  clear hw7
  have a0 := (V.blk 0 rfl).cell (j := 0) (v := .bool gap) rfl
  have a1 := (V.blk 0 rfl).cell (j := 1) (v := .int .u8 o) rfl
  have a2 := (V.blk 0 rfl).cell (j := 2) (v := .int .u64 sq) rfl
  have a3 := (V.blk 0 rfl).cell (j := 3) (v := .int .u64 tm) rfl
  have a4 := (V.blk 0 rfl).cell (j := 4) (v := .string ru) rfl
  have a5 := (V.blk 0 rfl).cell (j := 5) (v := .slice Al nl cl) rfl
  have a6 := (V.blk 0 rfl).cell (j := 6) (v := .int .u8 st) rfl
  have a7 := (V.blk 0 rfl).cell (j := 7) (v := .int .u8 pr) rfl
  have a8 := (V.blk 0 rfl).cell (j := 8) (v := .int .i64 va) rfl
  have a9 := (V.blk 0 rfl).cell (j := 9) (v := .int .u8 ow) rfl
  have a10 := (V.blk 0 rfl).cell (j := 10) (v := .int .u8 go) rfl
  have a11 := (V.blk 0 rfl).cell (j := 11) (v := .int .u64 gf2) rfl
  have a12 := (V.blk 0 rfl).cell (j := 12) (v := .int .u64 gt) rfl
  refine bodyPost_ret (v := .tuple #[.agg #[.bool gap, .int .u8 o, .int .u64 sq, .int .u64 tm, .string ru, .slice Al nl cl, .int .u8 st, .int .u8 pr, .int .i64 va, .int .u8 ow, .int .u8 go, .int .u64 gf2, .int .u64 gt], .int .i64 0]) ?_ rfl ⟨rfl, V.below⟩
  simp [results, Tryz.results37, go_sem, a0, a1, a2, a3, a4, a5, a6, a7, a8, a9, a10, a11, a12]
end Go.Proofs.YtdmdfccadjfpiaaGreat
