/-
  Items of small numbers, with what they have: watchfirelaw04.Small's Item.
-/
import Derived.Test.YtdmdfccadjfpiaaGreatItT
import Derived.Test.YtdmdfccadjfpiaaGreatFree
import Derived.Test.YtdmdfccadjfpiaaGreatPackW
import Derived.Test.YtdmdfccadjfpiaaGreatConv
import Derived.IntWalk
namespace Go.Proofs.YtdmdfccadjfpiaaGreat
open Go.RowKit
set_option maxRecDepth 100000

/-- What an event has that may be one, but for its count. -/
structure GoodE (a : ItV) : Prop where
  gap : a.gap = false
  o : a.o < 32
  tm : a.tm ≤ 1099511627776
  pr : a.pr ≤ 7
  ru : nameB a.ru = true
  st : a.st = 0 ∨ a.st = 2
  ow : a.ow ≤ 2
  own : decide (a.ow ≠ 0) = ownName a.ru
  ps : chkL a.ps = 0
  go : a.go = 0
  gf : a.gf = 0
  gt : a.gt = 0
theorem GoodE.chk {a : ItV} (h : GoodE a) (sq : Nat) (h1 : 1 ≤ sq) (h2 : sq ≤ 1099511627776) : chkE a.o sq a.tm a.ru a.ps a.st a.pr a.ow = 0 := by
  obtain ⟨_, g1, g2, g3, g4, g5, g6, g7, g8, _, _, _⟩ := h
  unfold chkE
  rw [if_neg (by omega), if_neg (by rw [g4]; decide), if_neg (by omega), if_neg (by rw [g7]; simp), g8]
/-- The labels of small numbers. -/
def smallPs (k q : Nat) : List Pr := (List.range k).map fun i => (⟨#[UInt8.ofNat (97 + i)]⟩, ⟨#[UInt8.ofNat (48 + q)]⟩)
theorem smallPs_chk (k q : Nat) (hk : k < 4) (hq : q < 10) : chkL (smallPs k q) = 0 := by
  have h : ∀ k : Fin 4, ∀ q : Fin 10, chkL (smallPs k.val q.val) = 0 := by decide +kernel
  exact h ⟨k, hk⟩ ⟨q, hq⟩
theorem smallPs_succ (k q : Nat) : smallPs (k + 1) q = smallPs k q ++ [(⟨#[UInt8.ofNat (97 + k)]⟩, ⟨#[UInt8.ofNat (48 + q)]⟩)] := by simp [smallPs, List.range_succ]
theorem smallPs_len (k q : Nat) : (smallPs k q).length = k := by simp [smallPs]
theorem smallPs_sz (k q : Nat) : ∀ p ∈ smallPs k q, p.1.size = 1 ∧ p.2.size = 1 := by
  intro p hp
  obtain ⟨i, _, rfl⟩ := List.mem_map.1 hp
  exact ⟨rfl, rfl⟩
theorem infoPair5 : (Tryz.prog.info? 137).map (fun i => (i.zero, i.size, i.bytes)) = some (some (.agg #[.string ⟨#[]⟩, .string ⟨#[]⟩]), 2, 32) := by kernel_rfl
theorem conv1 {w : World} {g : Nat} (x : UInt8) (h : Blk w g #[.int .u8 x.toNat] 5) : (convert 58 9 (.slice (some ⟨g, 0, none⟩) 1 1)).run Tryz.prog w = .ok (.string ⟨#[x]⟩) w :=
  conv8 (l := [x]) (rd_one h (n := 1) rfl)
section
open FreeOrd
attribute [local go_sem] out

set_option maxHeartbeats 4000000 in
theorem smallItem_gap (o p ow sq mo ti ru la va : Nat) (stb : Bool) (w : World) (hsq : sq < 65536) (hmo : mo < 65536) :
    Calls Tryz.prog 34 #[.agg #[.bool true, .int .u8 o, .int .u8 p, .int .u8 ow, .int .u16 sq, .int .u16 mo, .int .u16 ti, .int .u8 ru, .int .u8 la, .int .u8 va, .bool stb]] w fun e w' => ∃ (o32 f t : Nat), o32 = o % 32 ∧ f < 4294967296 ∧ t < 4294967296 ∧ e = .returned (.agg #[.bool true, .int .u8 0, .int .u64 0, .int .u64 0, .string ⟨#[]⟩, .slice none 0 0, .int .u8 0, .int .u8 0, .int .i64 0, .int .u8 0, .int .u8 o32, .int .u64 f, .int .u64 t]) ∧ Below w.heap.size w w' := by
  obtain ⟨o32, ho32⟩ : ∃ n, n = o % 32 := ⟨_, rfl⟩
  have t1 : (o : Int).tmod 32 = (o32 : Int) := by rw [ho32]; rfl
  have lo : o32 < 32 := by omega
  have HO := Lib.hid ho32
  clear ho32
  have w1 : IntKind.u64.wrap (sq : Int) = (sq : Int) := by rw [IntKind.wrap_u64]; omega
  have w2 : IntKind.u64.wrap (1 + (sq : Int)) = ((1 + sq : Nat) : Int) := by rw [IntKind.wrap_u64]; omega
  have w3 : IntKind.u64.wrap (mo : Int) = (mo : Int) := by rw [IntKind.wrap_u64]; omega
  have w4 : IntKind.u64.wrap (((1 + sq : Nat) : Int) + (mo : Int)) = ((1 + sq + mo : Nat) : Int) := by rw [IntKind.wrap_u64]; omega
  have hB := Blk.new (w.alloc (.cells #[.bool true, .int .u8 o, .int .u8 p, .int .u8 ow, .int .u16 sq, .int .u16 mo, .int .u16 ti, .int .u8 ru, .int .u8 la, .int .u8 va, .bool stb] 27)) #[.bool false, .int .u8 0, .int .u64 0, .int .u64 0, .string ⟨#[]⟩, .slice none 0 0, .int .u8 0, .int .u8 0, .int .i64 0, .int .u8 0, .int .u8 0, .int .u64 0, .int .u64 0] 36
  rw [World.size_alloc] at hB
  have hb : Below w.heap.size w ((w.alloc (.cells #[.bool true, .int .u8 o, .int .u8 p, .int .u8 ow, .int .u16 sq, .int .u16 mo, .int .u16 ti, .int .u8 ru, .int .u8 la, .int .u8 va, .bool stb] 27)).alloc (.cells #[.bool false, .int .u8 0, .int .u64 0, .int .u64 0, .string ⟨#[]⟩, .slice none 0 0, .int .u8 0, .int .u8 0, .int .i64 0, .int .u8 0, .int .u8 0, .int .u64 0, .int .u64 0] 36)) := ((Below.refl _ _).alloc (Nat.le_refl _) _).alloc (by simp) _
  go_enter Tryz.func34, Tryz.ntmps34
  go_wp2_with fail
  (with_reducible refine (itemGap o32 _ _ _).mono ?_)
  rintro e w2 ⟨rfl, hb2⟩
  have hbw := hb.trans (hb2.mono hb.size)
  replace hB := hB.below hb2 hB.lt
  clear hb hb2
  have e0 := hB.cell (j := 0) rfl
  have e1 := hB.cell (j := 1) rfl
  have e2 := hB.cell (j := 2) rfl
  have e3 := hB.cell (j := 3) rfl
  have e4 := hB.cell (j := 4) rfl
  have e5 := hB.cell (j := 5) rfl
  have e6 := hB.cell (j := 6) rfl
  have e7 := hB.cell (j := 7) rfl
  have e8 := hB.cell (j := 8) rfl
  have e9 := hB.cell (j := 9) rfl
  have e10 := hB.cell (j := 10) rfl
  have e11 := hB.cell (j := 11) rfl
  have e12 := hB.cell (j := 12) rfl
  have fz := hB.frozen
  go_wp2_with fail
  refine bodyPost_gen fun w6 hw6 => ?_
  have hBo : Blk w6 (w.heap.size + 1) #[.bool true, .int .u8 0, .int .u64 0, .int .u64 0, .string ⟨#[]⟩, .slice none 0 0, .int .u8 0, .int .u8 0, .int .i64 0, .int .u8 0, .int .u8 o32, .int .u64 (1 + (sq : Int)), .int .u64 (1 + (sq : Int) + (mo : Int))] 36 := by
    rw [hw6]
    have := (((((((((((((hB.set_ 0 (.bool true)).set_ 1 (.int .u8 0)).set_ 2 (.int .u64 0)).set_ 3 (.int .u64 0)).set_ 4 (.string ⟨#[]⟩)).set_ 5 (.slice none 0 0)).set_ 6 (.int .u8 0)).set_ 7 (.int .u8 0)).set_ 8 (.int .i64 0)).set_ 9 (.int .u8 0)).set_ 10 (.int .u8 o32)).set_ 11 (.int .u64 (1 + (sq : Int)))).set_ 12 (.int .u64 (1 + (sq : Int) + (mo : Int))))
    simpa using this
  have hb6 : Below w.heap.size w w6 := by
    rw [hw6]
    exact (((((((((((((hbw.setCell (p := ⟨w.heap.size + 1, 0, none⟩) (Nat.le_succ _) _).setCell (p := ⟨w.heap.size + 1, 1, none⟩) (Nat.le_succ _) _).setCell (p := ⟨w.heap.size + 1, 2, none⟩) (Nat.le_succ _) _).setCell (p := ⟨w.heap.size + 1, 3, none⟩) (Nat.le_succ _) _).setCell (p := ⟨w.heap.size + 1, 4, none⟩) (Nat.le_succ _) _).setCell (p := ⟨w.heap.size + 1, 5, none⟩) (Nat.le_succ _) _).setCell (p := ⟨w.heap.size + 1, 6, none⟩) (Nat.le_succ _) _).setCell (p := ⟨w.heap.size + 1, 7, none⟩) (Nat.le_succ _) _).setCell (p := ⟨w.heap.size + 1, 8, none⟩) (Nat.le_succ _) _).setCell (p := ⟨w.heap.size + 1, 9, none⟩) (Nat.le_succ _) _).setCell (p := ⟨w.heap.size + 1, 10, none⟩) (Nat.le_succ _) _).setCell (p := ⟨w.heap.size + 1, 11, none⟩) (Nat.le_succ _) _).setCell (p := ⟨w.heap.size + 1, 12, none⟩) (Nat.le_succ _) _)
  clear hw6
  have a0 := hBo.cell (j := 0) (v := .bool true) rfl
  have a1 := hBo.cell (j := 1) (v := .int .u8 0) rfl
  have a2 := hBo.cell (j := 2) (v := .int .u64 0) rfl
  have a3 := hBo.cell (j := 3) (v := .int .u64 0) rfl
  have a4 := hBo.cell (j := 4) (v := .string ⟨#[]⟩) rfl
  have a5 := hBo.cell (j := 5) (v := .slice none 0 0) rfl
  have a6 := hBo.cell (j := 6) (v := .int .u8 0) rfl
  have a7 := hBo.cell (j := 7) (v := .int .u8 0) rfl
  have a8 := hBo.cell (j := 8) (v := .int .i64 0) rfl
  have a9 := hBo.cell (j := 9) (v := .int .u8 0) rfl
  have a10 := hBo.cell (j := 10) (v := .int .u8 o32) rfl
  have a11 := hBo.cell (j := 11) (v := .int .u64 (1 + (sq : Int))) rfl
  have a12 := hBo.cell (j := 12) (v := .int .u64 (1 + (sq : Int) + (mo : Int))) rfl
  refine bodyPost_ret (v := .agg #[.bool true, .int .u8 0, .int .u64 0, .int .u64 0, .string ⟨#[]⟩, .slice none 0 0, .int .u8 0, .int .u8 0, .int .i64 0, .int .u8 0, .int .u8 o32, .int .u64 (1 + (sq : Int)), .int .u64 (1 + (sq : Int) + (mo : Int))]) ?_ rfl ⟨o32, 1 + sq, 1 + sq + mo, HO.out, by omega, by omega, by simp, hb6⟩
  simp [results, Tryz.results34, go_sem, a0, a1, a2, a3, a4, a5, a6, a7, a8, a9, a10, a11, a12]
def rule4 (r : Nat) : ByteArray := if r = 0 then ⟨#[104, 111, 116]⟩ else if r = 1 then ⟨#[99, 111, 108, 100]⟩ else if r = 2 then ⟨#[100, 105, 115, 107, 46, 102, 117, 108, 108]⟩ else ⟨#[120]⟩
theorem rule4_at (r : Nat) (h : r < 4) : (#[.string ⟨#[104, 111, 116]⟩, .string ⟨#[99, 111, 108, 100]⟩, .string ⟨#[100, 105, 115, 107, 46, 102, 117, 108, 108]⟩, .string ⟨#[120]⟩] : Array Value)[r]? = some (.string (rule4 r)) := by
  have h : r = 0 ∨ r = 1 ∨ r = 2 ∨ r = 3 := by omega
  rcases h with h | h | h | h <;> rw [h] <;> rfl
theorem rule4_ok (r : Nat) (h : r < 4) : nameB (rule4 r) = true ∧ decide ((0 : Nat) ≠ 0) = ownName (rule4 r) := by
  have h : r = 0 ∨ r = 1 ∨ r = 2 ∨ r = 3 := by omega
  rcases h with h | h | h | h <;> rw [h] <;> decide +kernel
theorem own_x : nameB ⟨#[111, 119, 110, 46, 120]⟩ = true ∧ ∀ n : Nat, 0 < n → decide (n ≠ 0) = ownName ⟨#[111, 119, 110, 46, 120]⟩ := by
  refine ⟨by decide +kernel, fun n hn => ?_⟩
  rw [show ownName ⟨#[111, 119, 110, 46, 120]⟩ = true by decide +kernel]
  simp
  omega
set_option maxHeartbeats 16000000 in
theorem smallItem_event (o p ow sq mo ti ru la va : Nat) (stb : Bool) (w : World) (how : ow < 256) (hsq : sq < 65536) (hti : ti < 65536) (hla : la < 256) (hva : va < 256) :
    Calls Tryz.prog 34 #[.agg #[.bool false, .int .u8 o, .int .u8 p, .int .u8 ow, .int .u16 sq, .int .u16 mo, .int .u16 ti, .int .u8 ru, .int .u8 la, .int .u8 va, .bool stb]] w fun e w' => ∃ a : ItV, e = .returned (itV a) ∧ GoodE a ∧ a.o = o % 32 ∧ w'.ownsRow w.heap.size 137 2 a.lv a.ps.length (pairCells a.ps) ∧ a.ok w' ∧ Below w.heap.size w w' := by
  obtain ⟨o32, ho32⟩ : ∃ n, n = o % 32 := ⟨_, rfl⟩
  obtain ⟨r4, hr4⟩ : ∃ n, n = ru % 4 := ⟨_, rfl⟩
  obtain ⟨p8, hp8⟩ : ∃ n, n = p % 8 := ⟨_, rfl⟩
  obtain ⟨w8, hw8⟩ : ∃ n, n = ow % 8 := ⟨_, rfl⟩
  obtain ⟨l4, hl4⟩ : ∃ n, n = la % 4 := ⟨_, rfl⟩
  have t1 : (o : Int).tmod 32 = (o32 : Int) := by rw [ho32]; rfl
  have t2 : (ru : Int).tmod 4 = (r4 : Int) := by rw [hr4]; rfl
  have t3 : (p : Int).tmod 8 = (p8 : Int) := by rw [hp8]; rfl
  have t4 : (ow : Int).tmod 8 = (w8 : Int) := by rw [hw8]; rfl
  have t5 : (la : Int).tmod 4 = (l4 : Int) := by rw [hl4]; rfl
  have ll : l4 < 4 := by omega
  have HLA := Lib.hid hl4
  obtain ⟨q4, hq4⟩ : ∃ n, n = la / 4 := ⟨_, rfl⟩
  obtain ⟨q10, hq10⟩ : ∃ n, n = q4 % 10 := ⟨_, rfl⟩
  have t6 : (la : Int).tdiv 4 = (q4 : Int) := by rw [hq4]; rfl
  have t7 : (q4 : Int).tmod 10 = (q10 : Int) := by rw [hq10]; rfl
  have lq : q4 < 64 := by omega
  have lq10 : q10 < 10 := by omega
  have HQ4 := Lib.hid hq4; have HQ10 := Lib.hid hq10
  clear hq4 hq10
  have lo : o32 < 32 := by omega
  have r4lt : r4 < 4 := by omega
  have u1 : (r4 : Int) < 4 := by omega
  have lp : p8 < 8 := by omega
  have lw : w8 < 8 := by omega
  have hrule := rule4_at r4 r4lt
  have HO := Lib.hid ho32; have HR := Lib.hid hr4; have HP := Lib.hid hp8; have HW := Lib.hid hw8
  clear ho32 hr4 hp8 hw8 hl4
  have w1 : IntKind.u64.wrap (sq : Int) = (sq : Int) := by rw [IntKind.wrap_u64]; omega
  have w3 : IntKind.u64.wrap (ti : Int) = (ti : Int) := by rw [IntKind.wrap_u64]; omega
  have w4 : IntKind.i64.wrap (va : Int) = (va : Int) := by rw [IntKind.wrap_i64]; omega
  have w5 : IntKind.i64.wrap ((va : Int) - 100) = (va : Int) - 100 := by rw [IntKind.wrap_i64]; omega
  go_enter Tryz.func34, Tryz.ntmps34
  go_wp2_with fail
  have S0 := ((Upd.nil [] w).alloc #[.bool false, .int .u8 o, .int .u8 p, .int .u8 ow, .int .u16 sq, .int .u16 mo, .int .u16 ti, .int .u8 ru, .int .u8 la, .int .u8 va, .bool stb] 27).alloc #[.bool false, .int .u8 0, .int .u64 0, .int .u64 0, .string ⟨#[]⟩, .slice none 0 0, .int .u8 0, .int .u8 0, .int .i64 0, .int .u8 0, .int .u8 0, .int .u64 0, .int .u64 0] 36
  simp only [World.size_alloc] at S0
  obtain ⟨W, hW⟩ : ∃ W, W = (w.alloc (.cells #[.bool false, .int .u8 o, .int .u8 p, .int .u8 ow, .int .u16 sq, .int .u16 mo, .int .u16 ti, .int .u8 ru, .int .u8 la, .int .u8 va, .bool stb] 27)).alloc (.cells #[.bool false, .int .u8 0, .int .u64 0, .int .u64 0, .string ⟨#[]⟩, .slice none 0 0, .int .u8 0, .int .u8 0, .int .i64 0, .int .u8 0, .int .u8 0, .int .u64 0, .int .u64 0] 36) := ⟨_, rfl⟩
  rw [← hW] at S0 ⊢
  clear hW
  have F : ∀ w', Below W.heap.size W w' → w'.cell? ⟨w.heap.size, 0, none⟩ = some (.bool false) ∧ w'.cell? ⟨w.heap.size, 1, none⟩ = some (.int .u8 o) ∧ w'.cell? ⟨w.heap.size, 2, none⟩ = some (.int .u8 p) ∧ w'.cell? ⟨w.heap.size, 3, none⟩ = some (.int .u8 ow) ∧ w'.cell? ⟨w.heap.size, 4, none⟩ = some (.int .u16 sq) ∧ w'.cell? ⟨w.heap.size, 5, none⟩ = some (.int .u16 mo) ∧ w'.cell? ⟨w.heap.size, 6, none⟩ = some (.int .u16 ti) ∧ w'.cell? ⟨w.heap.size, 7, none⟩ = some (.int .u8 ru) ∧ w'.cell? ⟨w.heap.size, 8, none⟩ = some (.int .u8 la) ∧ w'.cell? ⟨w.heap.size, 9, none⟩ = some (.int .u8 va) ∧ w'.cell? ⟨w.heap.size, 10, none⟩ = some (.bool stb) := fun w' h => by
    have q := (S0.grow h).blk 1 rfl
    exact ⟨q.cell rfl, q.cell rfl, q.cell rfl, q.cell rfl, q.cell rfl, q.cell rfl, q.cell rfl, q.cell rfl, q.cell rfl, q.cell rfl, q.cell rfl⟩
  refine region_free (fun w' => Below W.heap.size W w') [5, 9, 10, 19] [20] [0, 1, 2, 3, 4, 5, 6, 7, 8, 9, 10, 11, 12, 13, 14, 15, 16, 17, 18, 19] (by kernel_rfl) (by kernel_rfl) (by kernel_rfl) ((Below.refl _ _).drew) ?_
  repeat (first
    | (refine RelSeq.pure_ (c := ?_) rfl rfl ?_ ?_; rotate_left; (focus (intro x w'; dsimp only; go_simp; (repeat' apply And.intro) <;> first | with_reducible rfl | assumption)); simp only [Act.put, List.setIfInBounds_toArray, List.set_cons_zero, List.set_cons_succ])
    | (refine RelSeq.grow_ (c := ?_) rfl rfl ?_ ?_; rotate_left; (focus (intro x w' hw _; dsimp only; obtain ⟨c0, c1, c2, c3, c4, c5, c6, c7, c8, c9, c10⟩ := F w' hw; have hbr := Below.refl w'.heap.size w'; go_simp; (repeat' apply And.intro) <;> first | with_reducible rfl | assumption)); simp only [Act.put, List.setIfInBounds_toArray, List.set_cons_zero, List.set_cons_succ]))
  refine RelSeq.rel_ (NewSl W.heap.size 4 #[.string ⟨#[104, 111, 116]⟩, .string ⟨#[99, 111, 108, 100]⟩, .string ⟨#[100, 105, 115, 107, 46, 102, 117, 108, 108]⟩, .string ⟨#[120]⟩] 9) rfl rfl NewSl.stable ?_ ?_
  focus
    intro x w' hw _; dsimp only
    have hba : Below w'.heap.size w' (w'.alloc (.cells #[.string ⟨#[104, 111, 116]⟩, .string ⟨#[99, 111, 108, 100]⟩, .string ⟨#[100, 105, 115, 107, 46, 102, 117, 108, 108]⟩, .string ⟨#[120]⟩] 9)) := (Below.refl _ _).alloc (Nat.le_refl _) _
    have hI := hw.trans (hba.mono hw.size)
    have hsz := hw.size
    go_simp
    (repeat' apply And.intro) <;> first | assumption | exact ⟨_, rfl, hsz, Blk.new _ _ _⟩
  simp only [Act.put, List.setIfInBounds_toArray, List.set_cons_zero, List.set_cons_succ, List.nil_append]
  repeat (first
    | (refine RelSeq.pure_ (c := ?_) rfl rfl ?_ ?_; rotate_left; (focus (intro x w'; dsimp only; go_simp; (repeat' apply And.intro) <;> first | with_reducible rfl | assumption)); simp only [Act.put, List.setIfInBounds_toArray, List.set_cons_zero, List.set_cons_succ])
    | (refine RelSeq.grow_ (c := ?_) rfl rfl ?_ ?_; rotate_left; (focus (intro x w' hw _; dsimp only; obtain ⟨c0, c1, c2, c3, c4, c5, c6, c7, c8, c9, c10⟩ := F w' hw; have hbr := Below.refl w'.heap.size w'; go_simp; (repeat' apply And.intro) <;> first | with_reducible rfl | assumption)); simp only [Act.put, List.setIfInBounds_toArray, List.set_cons_zero, List.set_cons_succ]))
  refine RelSeq.rel_ (NewPt W.heap.size r4 #[.string ⟨#[104, 111, 116]⟩, .string ⟨#[99, 111, 108, 100]⟩, .string ⟨#[100, 105, 115, 107, 46, 102, 117, 108, 108]⟩, .string ⟨#[120]⟩] 9) rfl rfl NewPt.stable ?_ ?_
  focus
    intro x w' hw hf; dsimp only
    obtain ⟨b, e, hb0, hB⟩ := hf _ (.head _) (by kernel_rfl)
    have hbr := Below.refl w'.heap.size w'
    go_simp
    (repeat' apply And.intro) <;> first | assumption | exact ⟨b, rfl, hb0, hB⟩
  simp only [Act.put, List.setIfInBounds_toArray, List.set_cons_zero, List.set_cons_succ, List.nil_append, List.cons_append]
  refine RelSeq.grow_ (c := ?_) rfl rfl ?_ ?_; rotate_left
  focus
    intro x w' hw hf; dsimp only
    obtain ⟨b, e, hb0, hB⟩ := hf _ (.tail _ (.head _)) (by kernel_rfl)
    have c0 := hB.cell (hrule)
    clear hB
    have hbr := Below.refl w'.heap.size w'
    go_simp
    (repeat' apply And.intro) <;> first | with_reducible rfl | assumption
  simp only [Act.put, List.setIfInBounds_toArray, List.set_cons_zero, List.set_cons_succ]
  repeat (first
    | (refine RelSeq.pure_ (c := ?_) rfl rfl ?_ ?_; rotate_left; (focus (intro x w'; dsimp only; go_simp; (repeat' apply And.intro) <;> first | with_reducible rfl | assumption)); simp only [Act.put, List.setIfInBounds_toArray, List.set_cons_zero, List.set_cons_succ])
    | (refine RelSeq.grow_ (c := ?_) rfl rfl ?_ ?_; rotate_left; (focus (intro x w' hw _; dsimp only; obtain ⟨c0, c1, c2, c3, c4, c5, c6, c7, c8, c9, c10⟩ := F w' hw; have hbr := Below.refl w'.heap.size w'; go_simp; (repeat' apply And.intro) <;> first | with_reducible rfl | assumption)); simp only [Act.put, List.setIfInBounds_toArray, List.set_cons_zero, List.set_cons_succ]))
  refine RelSeq.rel_ (NewPt W.heap.size 0 #[.int .u8 0, .int .u64 0, .int .u64 0, .string ⟨#[]⟩, .slice none 0 0, .int .u8 0, .int .u8 0, .int .i64 0, .int .u8 0] 32) rfl rfl NewPt.stable ?_ ?_
  focus
    intro x w' hw _; dsimp only
    have hba : Below w'.heap.size w' (w'.alloc (.cells #[.int .u8 0, .int .u64 0, .int .u64 0, .string ⟨#[]⟩, .slice none 0 0, .int .u8 0, .int .u8 0, .int .i64 0, .int .u8 0] 32)) := (Below.refl _ _).alloc (Nat.le_refl _) _
    have hI := hw.trans (hba.mono hw.size)
    have hsz := hw.size
    go_simp
    (repeat' apply And.intro) <;> first | assumption | exact ⟨_, rfl, hsz, Blk.new _ _ _⟩
  simp only [Act.put, List.setIfInBounds_toArray, List.set_cons_zero, List.set_cons_succ, List.nil_append, List.cons_append]
  refine RelSeq.nil_ fun x w1 hw hf => ?_
  obtain ⟨b, e, hb0, hB⟩ := hf _ (.tail _ (.tail _ (.head _)))
  have S1 := (S0.grow hw).moreBlk hB (by have := S0.below.size; omega) (fun d hd hg => by
    have := S0.lt hd hg
    omega)
  clear hf F hw S0
  refine TailSeq.cons_ rfl ?_
  have z0 := hB.cell (j := 0) rfl
  have z1 := hB.cell (j := 1) rfl
  have z2 := hB.cell (j := 2) rfl
  have z3 := hB.cell (j := 3) rfl
  have z4 := hB.cell (j := 4) rfl
  have z5 := hB.cell (j := 5) rfl
  have z6 := hB.cell (j := 6) rfl
  have z7 := hB.cell (j := 7) rfl
  have z8 := hB.cell (j := 8) rfl
  have f0 := hB.frozen
  dsimp only
  go_simp
  refine TailSeq.nil_gen fun w2 hw2 => ?_
  have S2 := ((((((((((S1.put 0 rfl 0 (.int .u8 o32)).put 0 rfl 1 (.int .u64 (1 + (sq : Int)))).put 0 rfl 2 (.int .u64 ti)).put 0 rfl 3 (.string (rule4 r4))).put 0 rfl 4 (.slice none 0 0)).put 0 rfl 5 (.int .u8 0)).put 0 rfl 6 (.int .u8 p8)).put 0 rfl 7 (.int .i64 (va - 100))).put 0 rfl 8 (.int .u8 0))).same hw2
  simp only [List.setIfInBounds_toArray, List.set_cons_succ, List.set_cons_zero, List.eraseIdx_cons_zero] at S2
  clear hw2 S1 hB z0 z1 z2 z3 z4 z5 z6 z7 z8 f0 hb0
  obtain ⟨i0, hi, hz0, hz1, hz2⟩ := info_parts infoPair5
  obtain ⟨q8, hq8⟩ : ∃ n, n = ow / 8 := ⟨_, rfl⟩
  obtain ⟨q2, hq2⟩ : ∃ n, n = q8 % 2 := ⟨_, rfl⟩
  have t8 : (ow : Int).tdiv 8 = (q8 : Int) := by rw [hq8]; rfl
  have t9 : (q8 : Int).tmod 2 = (q2 : Int) := by rw [hq2]; rfl
  have lq2 : q2 < 2 := by omega
  have lq8 : q8 < 32 := by omega
  have HQ8 := Lib.hid hq8; have HQ2 := Lib.hid hq2
  clear hq8 hq2
  have hrz : (rule4 r4).size ≤ maxLen := by unfold rule4 maxLen; split; decide; split; decide; split; decide; decide
  have hrn := rule4_ok r4 r4lt
  have hbn : b ≠ w.heap.size := fun h => S2.apartAt 0 2 (by decide) rfl rfl b (by simp [chBlk]) (by simp [chBlk, h])
  have hbm : w.heap.size ≠ b := fun h => hbn h.symm
  have c10 := (S2.blk 2 rfl).cell (j := 10) (v := .bool stb) rfl
  have c3 := (S2.blk 2 rfl).cell (j := 3) (v := .int .u8 ow) rfl
  have c8 := (S2.blk 2 rfl).cell (j := 8) (v := .int .u8 la) rfl
  have y3 := (S2.blk 0 rfl).cell (j := 3) (v := .string (rule4 r4)) rfl
  have y5 := (S2.blk 0 rfl).cell (j := 5) (v := .int .u8 0) rfl
  have y8 := (S2.blk 0 rfl).cell (j := 8) (v := .int .u8 0) rfl
  have yf := (S2.blk 0 rfl).frozen
  cases stb
  · by_cases h7 : w8 = 7
    · have e7 : ((w8 : Int) == (7 : Int)) = true := by simp [h7]
      clear h7
      have S3 := ((S2.put 0 rfl 8 (.int .u8 (1 + (q2 : Int)))).put 0 rfl 3 (.string ⟨#[111, 119, 110, 46, 120]⟩)).nilRow 137 2
      simp only [List.setIfInBounds_toArray, List.set_cons_succ, List.set_cons_zero, List.eraseIdx_cons_zero] at S3
      go_wp2_with fail
      go_loopw [60] (fun i wr => ∃ (k : Nat) (lv : Value) (ps : List Pr), k ≤ l4 ∧ i = .int .u8 k ∧ ps = smallPs k q10 ∧ Upd [] w [chRow 137 2 lv ps.length (pairCells ps), chBlk b #[.int .u8 o32, .int .u64 (1 + (sq : Int)), .int .u64 ti, .string ⟨#[111, 119, 110, 46, 120]⟩, lv, .int .u8 0, .int .u8 p8, .int .i64 (va - 100), .int .u8 (1 + (q2 : Int))] 32, chBlk (w.heap.size + 1) #[.bool false, .int .u8 0, .int .u64 0, .int .u64 0, .string ⟨#[]⟩, .slice none 0 0, .int .u8 0, .int .u8 0, .int .i64 0, .int .u8 0, .int .u8 0, .int .u64 0, .int .u64 0] 36, chBlk w.heap.size #[.bool false, .int .u8 o, .int .u8 p, .int .u8 ow, .int .u16 sq, .int .u16 mo, .int .u16 ti, .int .u8 ru, .int .u8 la, .int .u8 va, .bool false] 27] wr) (fun i _ => l4 - (intOf i).toNat)
      case atStart => exact ⟨0, _, [], Nat.zero_le _, rfl, rfl, S3⟩
      case round =>
        obtain ⟨k, lv, ps, hk, rfl, hps, S4⟩ := hrel
        have hpl : ps.length = k := by rw [hps, smallPs_len]
        clear S2 S3 c10 c3 c8 y3 y5 y8 yf
        have hpb : ps.length ≤ 4 := by omega
        have HPL := Lib.hid hpl
        have HPS := Lib.hid hps
        clear hpl hps
        obtain ⟨Al, cl, rfl⟩ := owns_slice (S4.row 0 rfl)
        have e4 := (S4.blk 1 rfl).cell (j := 4) (v := .slice Al ps.length cl) rfl
        have c8 := (S4.blk 3 rfl).cell (j := 8) (v := .int .u8 la) rfl
        have lt8 := (S4.blk 3 rfl).lt
        have lt4 := (S4.blk 1 rfl).lt
        by_cases hkn : k < l4
        · obtain ⟨bk, hbk, hbk2⟩ : ∃ c : UInt8, (c.toNat : Int) = 97 + (k : Int) ∧ c = UInt8.ofNat (97 + k) := ⟨UInt8.ofNat (97 + k), by rw [UInt8.toNat_ofNat']; omega, rfl⟩
          obtain ⟨bq, hbq, hbq2⟩ : ∃ c : UInt8, (c.toNat : Int) = 48 + (q10 : Int) ∧ c = UInt8.ofNat (48 + q10) := ⟨UInt8.ofNat (48 + q10), by rw [UInt8.toNat_ofNat']; omega, rfl⟩
          have HBK := Lib.hid hbk2; have HBQ := Lib.hid hbq2
          clear hbk2 hbq2
          have cv1 : ∀ W g, Blk W g #[.int .u8 (97 + (k : Int))] 5 → (convert 58 9 (.slice (some ⟨g, 0, none⟩) 1 1)).run Tryz.prog W = .ok (.string ⟨#[bk]⟩) W := fun W g h => conv1 bk (by rw [hbk]; exact h)
          have cv2 : ∀ W g, Blk W g #[.int .u8 (48 + (q10 : Int))] 5 → (convert 58 9 (.slice (some ⟨g, 0, none⟩) 1 1)).run Tryz.prog W = .ok (.string ⟨#[bq]⟩) W := fun W g h => conv1 bq (by rw [hbq]; exact h)
          have cvA := cv1 _ _ (Blk.new wr #[.int .u8 (97 + (k : Int))] 5)
          have cvB := cv2 _ _ (Blk.new (wr.alloc (.cells #[.int .u8 (97 + (k : Int))] 5)) #[.int .u8 (48 + (q10 : Int))] 5)
          rw [World.size_alloc] at cvB
          clear cv1 cv2 hbk hbq
          go_wp2_with (at_builtin; refine wpl_stop fun W hW => ?_)
          refine Stopped.mk ?_
          (try rw [← hW])
          have T1 := ((S4.alloc #[.int .u8 (97 + (k : Int))] 5).alloc #[.int .u8 (48 + (q10 : Int))] 5).alloc #[.string ⟨#[bk]⟩, .string ⟨#[bq]⟩] 137
          simp only [World.size_alloc] at T1
          have T2 := T1.same hW
          clear hW T1 S4 e4 c8 cvA cvB lt4 lt8
          refine wpl_append_rd rfl (.tmp 64) (.tmp 77) 29 rfl 0 137 i0 _ 2 32 Tryz.underlying29 hi hz0 hz1 hz2 rfl (by decide) (.slice Al ps.length cl) ps.length _ rfl (T2.row 3 rfl) (.slice (some ⟨wr.heap.size + 1 + 1, 0, none⟩) 1 1) 1 _ rfl (rd_one (T2.blk 0 rfl) (n := 2) rfl) (by intro u hu; simp at hu; rcases hu with rfl | rfl <;> rfl) (by unfold maxLen; omega) (by omega) (Nat.zero_le _) fun v4 w4 hown4 hgr4 hv4 => ?_
          have T3 := (T2.app 3 rfl hown4 hgr4 hv4).pick [0, 4, 5, 6] (by decide)
          simp only [List.filterMap_cons, List.filterMap_nil, List.getElem?_cons_zero, List.getElem?_cons_succ, List.eraseIdx_cons_succ, List.eraseIdx_cons_zero] at T3
          obtain ⟨A4, c4, rfl⟩ := owns_slice hown4
          clear hown4 hgr4 hv4 T2
          have e4 := (T3.blk 1 rfl).cell (j := 4) (v := .slice Al ps.length cl) rfl
          have fz := (T3.blk 1 rfl).frozen
          have T4 := (T3.put 1 rfl 4 (.slice A4 (ps.length + 1) c4)).front 1 rfl
          simp only [List.setIfInBounds_toArray, List.set_cons_succ, List.set_cons_zero, List.eraseIdx_cons_succ, List.eraseIdx_cons_zero] at T4
          clear T3
          go_wp2_with fail
          go_roundw
          case rel => exact ⟨k + 1, _, ps ++ [(⟨#[bk]⟩, ⟨#[bq]⟩)], by omega, by go_num, by rw [smallPs_succ, HPS.out, HBK.out, HBQ.out], by rw [List.length_append, pairCells_append]; exact T4⟩
          case measure => simp [intOf]; omega
        · obtain rfl : k = l4 := by omega
          have hkk : decide ((k : Int) < (k : Int)) = false := by simp
          have e0 := (S4.blk 1 rfl).cell (j := 0) (v := .int .u8 o32) rfl
          have e1 := (S4.blk 1 rfl).cell (j := 1) (v := .int .u64 (1 + (sq : Int))) rfl
          have e2 := (S4.blk 1 rfl).cell (j := 2) (v := .int .u64 ti) rfl
          have e3 := (S4.blk 1 rfl).cell (j := 3) (v := .string ⟨#[111, 119, 110, 46, 120]⟩) rfl
          have e5 := (S4.blk 1 rfl).cell (j := 5) (v := .int .u8 0) rfl
          have e6 := (S4.blk 1 rfl).cell (j := 6) (v := .int .u8 p8) rfl
          have e7 := (S4.blk 1 rfl).cell (j := 7) (v := .int .i64 (va - 100)) rfl
          have e8 := (S4.blk 1 rfl).cell (j := 8) (v := .int .u8 (1 + (q2 : Int))) rfl
          clear HPL hkn
          go_wp2_with fail
          (with_reducible refine (itemOf _ _ _ _ _ _ _ _ _ _ _ _).mono ?_)
          rintro e w5 ⟨rfl, hb5⟩
          have S5 := S4.grow hb5
          clear S4 hb5 c8 e0 e1 e2 e3 e4 e5 e6 e7 e8 lt8 lt4
          have rc0 := (S5.blk 2 rfl).cell (j := 0) (v := .bool false) rfl
          have rc1 := (S5.blk 2 rfl).cell (j := 1) (v := .int .u8 0) rfl
          have rc2 := (S5.blk 2 rfl).cell (j := 2) (v := .int .u64 0) rfl
          have rc3 := (S5.blk 2 rfl).cell (j := 3) (v := .int .u64 0) rfl
          have rc4 := (S5.blk 2 rfl).cell (j := 4) (v := .string ⟨#[]⟩) rfl
          have rc5 := (S5.blk 2 rfl).cell (j := 5) (v := .slice none 0 0) rfl
          have rc6 := (S5.blk 2 rfl).cell (j := 6) (v := .int .u8 0) rfl
          have rc7 := (S5.blk 2 rfl).cell (j := 7) (v := .int .u8 0) rfl
          have rc8 := (S5.blk 2 rfl).cell (j := 8) (v := .int .i64 0) rfl
          have rc9 := (S5.blk 2 rfl).cell (j := 9) (v := .int .u8 0) rfl
          have rc10 := (S5.blk 2 rfl).cell (j := 10) (v := .int .u8 0) rfl
          have rc11 := (S5.blk 2 rfl).cell (j := 11) (v := .int .u64 0) rfl
          have rc12 := (S5.blk 2 rfl).cell (j := 12) (v := .int .u64 0) rfl
          have fz := (S5.blk 2 rfl).frozen
          go_wp2_with fail
          refine bodyPost_gen fun w6 hw6 => ?_
          have S6 := (((((((((((((S5.put 2 rfl 0 (.bool false)).put 0 rfl 1 (.int .u8 o32)).put 0 rfl 2 (.int .u64 (1 + (sq : Int)))).put 0 rfl 3 (.int .u64 ti)).put 0 rfl 4 (.string ⟨#[111, 119, 110, 46, 120]⟩)).put 0 rfl 5 (.slice Al ps.length cl)).put 0 rfl 6 (.int .u8 0)).put 0 rfl 7 (.int .u8 p8)).put 0 rfl 8 (.int .i64 (va - 100))).put 0 rfl 9 (.int .u8 (1 + (q2 : Int)))).put 0 rfl 10 (.int .u8 0)).put 0 rfl 11 (.int .u64 0)).put 0 rfl 12 (.int .u64 0)).same hw6
          simp only [List.setIfInBounds_toArray, List.set_cons_succ, List.set_cons_zero, List.eraseIdx_cons_succ, List.eraseIdx_cons_zero] at S6
          clear hw6 S5 rc0 rc1 rc2 rc3 rc4 rc5 rc6 rc7 rc8 rc9 rc10 rc11 rc12 fz
          have a0 := (S6.blk 0 rfl).cell (j := 0) (v := .bool false) rfl
          have a1 := (S6.blk 0 rfl).cell (j := 1) (v := .int .u8 o32) rfl
          have a2 := (S6.blk 0 rfl).cell (j := 2) (v := .int .u64 (1 + (sq : Int))) rfl
          have a3 := (S6.blk 0 rfl).cell (j := 3) (v := .int .u64 ti) rfl
          have a4 := (S6.blk 0 rfl).cell (j := 4) (v := .string ⟨#[111, 119, 110, 46, 120]⟩) rfl
          have a5 := (S6.blk 0 rfl).cell (j := 5) (v := .slice Al ps.length cl) rfl
          have a6 := (S6.blk 0 rfl).cell (j := 6) (v := .int .u8 0) rfl
          have a7 := (S6.blk 0 rfl).cell (j := 7) (v := .int .u8 p8) rfl
          have a8 := (S6.blk 0 rfl).cell (j := 8) (v := .int .i64 (va - 100)) rfl
          have a9 := (S6.blk 0 rfl).cell (j := 9) (v := .int .u8 (1 + (q2 : Int))) rfl
          have a10 := (S6.blk 0 rfl).cell (j := 10) (v := .int .u8 0) rfl
          have a11 := (S6.blk 0 rfl).cell (j := 11) (v := .int .u64 0) rfl
          have a12 := (S6.blk 0 rfl).cell (j := 12) (v := .int .u64 0) rfl
          have hrow := S6.row 1 rfl
          have hge := S6.own _ (.tail _ (.head _))
          have hb6 := S6.below
          have hrow' := owns_base (base' := w.heap.size) hrow (fun g hg => (hge g (by simpa [chRow] using hg)).resolve_left (fun h => nomatch h))
          have hpz : ∀ p ∈ ps, p.1.size ≤ maxLen ∧ p.2.size ≤ maxLen := by
            unfold maxLen
            rw [HPS.out]
            intro p hp
            have := smallPs_sz _ _ p hp
            omega
          have hps := smallPs_chk k q10 ll lq10
          rw [← HPS.out] at hps
          clear hge S6
          refine bodyPost_ret (v := .agg #[.bool false, .int .u8 o32, .int .u64 (1 + (sq : Int)), .int .u64 ti, .string ⟨#[111, 119, 110, 46, 120]⟩, .slice Al ps.length cl, .int .u8 0, .int .u8 p8, .int .i64 (va - 100), .int .u8 (1 + (q2 : Int)), .int .u8 0, .int .u64 0, .int .u64 0]) ?_ rfl ⟨⟨false, o32, 1 + sq, ti, ⟨#[111, 119, 110, 46, 120]⟩, .slice Al ps.length cl, ps, 0, p8, (va : Int) - 100, 1 + q2, 0, 0, 0⟩, by simp [itV], ⟨rfl, lo, by dsimp only; omega, by dsimp only; omega, own_x.1, .inl rfl, by dsimp only; omega, (own_x.2 (1 + q2) (by omega)), hps, rfl, rfl, rfl⟩, HO.out, hrow', ⟨by dsimp only; omega, by dsimp only; omega, by dsimp only; omega, (show (⟨#[111, 119, 110, 46, 120]⟩ : ByteArray).size ≤ maxLen by unfold maxLen; decide), rd_of_owns hrow, hpz, by dsimp only; omega, by dsimp only; omega, by dsimp only; omega, by dsimp only; omega, by dsimp only; omega, by dsimp only; omega, by dsimp only; omega⟩, hb6⟩
          simp [results, Tryz.results34, go_sem, a0, a1, a2, a3, a4, a5, a6, a7, a8, a9, a10, a11, a12]
    · have e7 : ((w8 : Int) == (7 : Int)) = false := by simp; omega
      have S3 := S2.nilRow 137 2
      go_wp2_with fail
      go_loopw [60] (fun i wr => ∃ (k : Nat) (lv : Value) (ps : List Pr), k ≤ l4 ∧ i = .int .u8 k ∧ ps = smallPs k q10 ∧ Upd [] w [chRow 137 2 lv ps.length (pairCells ps), chBlk b #[.int .u8 o32, .int .u64 (1 + (sq : Int)), .int .u64 ti, .string (rule4 r4), lv, .int .u8 0, .int .u8 p8, .int .i64 (va - 100), .int .u8 0] 32, chBlk (w.heap.size + 1) #[.bool false, .int .u8 0, .int .u64 0, .int .u64 0, .string ⟨#[]⟩, .slice none 0 0, .int .u8 0, .int .u8 0, .int .i64 0, .int .u8 0, .int .u8 0, .int .u64 0, .int .u64 0] 36, chBlk w.heap.size #[.bool false, .int .u8 o, .int .u8 p, .int .u8 ow, .int .u16 sq, .int .u16 mo, .int .u16 ti, .int .u8 ru, .int .u8 la, .int .u8 va, .bool false] 27] wr) (fun i _ => l4 - (intOf i).toNat)
      case atStart => exact ⟨0, _, [], Nat.zero_le _, rfl, rfl, S3⟩
      case round =>
        obtain ⟨k, lv, ps, hk, rfl, hps, S4⟩ := hrel
        have hpl : ps.length = k := by rw [hps, smallPs_len]
        clear S2 S3 c10 c3 c8 y3 y5 y8 yf
        have hpb : ps.length ≤ 4 := by omega
        have HPL := Lib.hid hpl
        have HPS := Lib.hid hps
        clear hpl hps
        obtain ⟨Al, cl, rfl⟩ := owns_slice (S4.row 0 rfl)
        have e4 := (S4.blk 1 rfl).cell (j := 4) (v := .slice Al ps.length cl) rfl
        have c8 := (S4.blk 3 rfl).cell (j := 8) (v := .int .u8 la) rfl
        have lt8 := (S4.blk 3 rfl).lt
        have lt4 := (S4.blk 1 rfl).lt
        by_cases hkn : k < l4
        · obtain ⟨bk, hbk, hbk2⟩ : ∃ c : UInt8, (c.toNat : Int) = 97 + (k : Int) ∧ c = UInt8.ofNat (97 + k) := ⟨UInt8.ofNat (97 + k), by rw [UInt8.toNat_ofNat']; omega, rfl⟩
          obtain ⟨bq, hbq, hbq2⟩ : ∃ c : UInt8, (c.toNat : Int) = 48 + (q10 : Int) ∧ c = UInt8.ofNat (48 + q10) := ⟨UInt8.ofNat (48 + q10), by rw [UInt8.toNat_ofNat']; omega, rfl⟩
          have HBK := Lib.hid hbk2; have HBQ := Lib.hid hbq2
          clear hbk2 hbq2
          have cv1 : ∀ W g, Blk W g #[.int .u8 (97 + (k : Int))] 5 → (convert 58 9 (.slice (some ⟨g, 0, none⟩) 1 1)).run Tryz.prog W = .ok (.string ⟨#[bk]⟩) W := fun W g h => conv1 bk (by rw [hbk]; exact h)
          have cv2 : ∀ W g, Blk W g #[.int .u8 (48 + (q10 : Int))] 5 → (convert 58 9 (.slice (some ⟨g, 0, none⟩) 1 1)).run Tryz.prog W = .ok (.string ⟨#[bq]⟩) W := fun W g h => conv1 bq (by rw [hbq]; exact h)
          have cvA := cv1 _ _ (Blk.new wr #[.int .u8 (97 + (k : Int))] 5)
          have cvB := cv2 _ _ (Blk.new (wr.alloc (.cells #[.int .u8 (97 + (k : Int))] 5)) #[.int .u8 (48 + (q10 : Int))] 5)
          rw [World.size_alloc] at cvB
          clear cv1 cv2 hbk hbq
          go_wp2_with (at_builtin; refine wpl_stop fun W hW => ?_)
          refine Stopped.mk ?_
          (try rw [← hW])
          have T1 := ((S4.alloc #[.int .u8 (97 + (k : Int))] 5).alloc #[.int .u8 (48 + (q10 : Int))] 5).alloc #[.string ⟨#[bk]⟩, .string ⟨#[bq]⟩] 137
          simp only [World.size_alloc] at T1
          have T2 := T1.same hW
          clear hW T1 S4 e4 c8 cvA cvB lt4 lt8
          refine wpl_append_rd rfl (.tmp 64) (.tmp 77) 29 rfl 0 137 i0 _ 2 32 Tryz.underlying29 hi hz0 hz1 hz2 rfl (by decide) (.slice Al ps.length cl) ps.length _ rfl (T2.row 3 rfl) (.slice (some ⟨wr.heap.size + 1 + 1, 0, none⟩) 1 1) 1 _ rfl (rd_one (T2.blk 0 rfl) (n := 2) rfl) (by intro u hu; simp at hu; rcases hu with rfl | rfl <;> rfl) (by unfold maxLen; omega) (by omega) (Nat.zero_le _) fun v4 w4 hown4 hgr4 hv4 => ?_
          have T3 := (T2.app 3 rfl hown4 hgr4 hv4).pick [0, 4, 5, 6] (by decide)
          simp only [List.filterMap_cons, List.filterMap_nil, List.getElem?_cons_zero, List.getElem?_cons_succ, List.eraseIdx_cons_succ, List.eraseIdx_cons_zero] at T3
          obtain ⟨A4, c4, rfl⟩ := owns_slice hown4
          clear hown4 hgr4 hv4 T2
          have e4 := (T3.blk 1 rfl).cell (j := 4) (v := .slice Al ps.length cl) rfl
          have fz := (T3.blk 1 rfl).frozen
          have T4 := (T3.put 1 rfl 4 (.slice A4 (ps.length + 1) c4)).front 1 rfl
          simp only [List.setIfInBounds_toArray, List.set_cons_succ, List.set_cons_zero, List.eraseIdx_cons_succ, List.eraseIdx_cons_zero] at T4
          clear T3
          go_wp2_with fail
          go_roundw
          case rel => exact ⟨k + 1, _, ps ++ [(⟨#[bk]⟩, ⟨#[bq]⟩)], by omega, by go_num, by rw [smallPs_succ, HPS.out, HBK.out, HBQ.out], by rw [List.length_append, pairCells_append]; exact T4⟩
          case measure => simp [intOf]; omega
        · obtain rfl : k = l4 := by omega
          have hkk : decide ((k : Int) < (k : Int)) = false := by simp
          have e0 := (S4.blk 1 rfl).cell (j := 0) (v := .int .u8 o32) rfl
          have e1 := (S4.blk 1 rfl).cell (j := 1) (v := .int .u64 (1 + (sq : Int))) rfl
          have e2 := (S4.blk 1 rfl).cell (j := 2) (v := .int .u64 ti) rfl
          have e3 := (S4.blk 1 rfl).cell (j := 3) (v := .string (rule4 r4)) rfl
          have e5 := (S4.blk 1 rfl).cell (j := 5) (v := .int .u8 0) rfl
          have e6 := (S4.blk 1 rfl).cell (j := 6) (v := .int .u8 p8) rfl
          have e7 := (S4.blk 1 rfl).cell (j := 7) (v := .int .i64 (va - 100)) rfl
          have e8 := (S4.blk 1 rfl).cell (j := 8) (v := .int .u8 0) rfl
          clear HPL hkn
          go_wp2_with fail
          (with_reducible refine (itemOf _ _ _ _ _ _ _ _ _ _ _ _).mono ?_)
          rintro e w5 ⟨rfl, hb5⟩
          have S5 := S4.grow hb5
          clear S4 hb5 c8 e0 e1 e2 e3 e4 e5 e6 e7 e8 lt8 lt4
          have rc0 := (S5.blk 2 rfl).cell (j := 0) (v := .bool false) rfl
          have rc1 := (S5.blk 2 rfl).cell (j := 1) (v := .int .u8 0) rfl
          have rc2 := (S5.blk 2 rfl).cell (j := 2) (v := .int .u64 0) rfl
          have rc3 := (S5.blk 2 rfl).cell (j := 3) (v := .int .u64 0) rfl
          have rc4 := (S5.blk 2 rfl).cell (j := 4) (v := .string ⟨#[]⟩) rfl
          have rc5 := (S5.blk 2 rfl).cell (j := 5) (v := .slice none 0 0) rfl
          have rc6 := (S5.blk 2 rfl).cell (j := 6) (v := .int .u8 0) rfl
          have rc7 := (S5.blk 2 rfl).cell (j := 7) (v := .int .u8 0) rfl
          have rc8 := (S5.blk 2 rfl).cell (j := 8) (v := .int .i64 0) rfl
          have rc9 := (S5.blk 2 rfl).cell (j := 9) (v := .int .u8 0) rfl
          have rc10 := (S5.blk 2 rfl).cell (j := 10) (v := .int .u8 0) rfl
          have rc11 := (S5.blk 2 rfl).cell (j := 11) (v := .int .u64 0) rfl
          have rc12 := (S5.blk 2 rfl).cell (j := 12) (v := .int .u64 0) rfl
          have fz := (S5.blk 2 rfl).frozen
          go_wp2_with fail
          refine bodyPost_gen fun w6 hw6 => ?_
          have S6 := (((((((((((((S5.put 2 rfl 0 (.bool false)).put 0 rfl 1 (.int .u8 o32)).put 0 rfl 2 (.int .u64 (1 + (sq : Int)))).put 0 rfl 3 (.int .u64 ti)).put 0 rfl 4 (.string (rule4 r4))).put 0 rfl 5 (.slice Al ps.length cl)).put 0 rfl 6 (.int .u8 0)).put 0 rfl 7 (.int .u8 p8)).put 0 rfl 8 (.int .i64 (va - 100))).put 0 rfl 9 (.int .u8 0)).put 0 rfl 10 (.int .u8 0)).put 0 rfl 11 (.int .u64 0)).put 0 rfl 12 (.int .u64 0)).same hw6
          simp only [List.setIfInBounds_toArray, List.set_cons_succ, List.set_cons_zero, List.eraseIdx_cons_succ, List.eraseIdx_cons_zero] at S6
          clear hw6 S5 rc0 rc1 rc2 rc3 rc4 rc5 rc6 rc7 rc8 rc9 rc10 rc11 rc12 fz
          have a0 := (S6.blk 0 rfl).cell (j := 0) (v := .bool false) rfl
          have a1 := (S6.blk 0 rfl).cell (j := 1) (v := .int .u8 o32) rfl
          have a2 := (S6.blk 0 rfl).cell (j := 2) (v := .int .u64 (1 + (sq : Int))) rfl
          have a3 := (S6.blk 0 rfl).cell (j := 3) (v := .int .u64 ti) rfl
          have a4 := (S6.blk 0 rfl).cell (j := 4) (v := .string (rule4 r4)) rfl
          have a5 := (S6.blk 0 rfl).cell (j := 5) (v := .slice Al ps.length cl) rfl
          have a6 := (S6.blk 0 rfl).cell (j := 6) (v := .int .u8 0) rfl
          have a7 := (S6.blk 0 rfl).cell (j := 7) (v := .int .u8 p8) rfl
          have a8 := (S6.blk 0 rfl).cell (j := 8) (v := .int .i64 (va - 100)) rfl
          have a9 := (S6.blk 0 rfl).cell (j := 9) (v := .int .u8 0) rfl
          have a10 := (S6.blk 0 rfl).cell (j := 10) (v := .int .u8 0) rfl
          have a11 := (S6.blk 0 rfl).cell (j := 11) (v := .int .u64 0) rfl
          have a12 := (S6.blk 0 rfl).cell (j := 12) (v := .int .u64 0) rfl
          have hrow := S6.row 1 rfl
          have hge := S6.own _ (.tail _ (.head _))
          have hb6 := S6.below
          have hrow' := owns_base (base' := w.heap.size) hrow (fun g hg => (hge g (by simpa [chRow] using hg)).resolve_left (fun h => nomatch h))
          have hpz : ∀ p ∈ ps, p.1.size ≤ maxLen ∧ p.2.size ≤ maxLen := by
            unfold maxLen
            rw [HPS.out]
            intro p hp
            have := smallPs_sz _ _ p hp
            omega
          have hps := smallPs_chk k q10 ll lq10
          rw [← HPS.out] at hps
          clear hge S6
          refine bodyPost_ret (v := .agg #[.bool false, .int .u8 o32, .int .u64 (1 + (sq : Int)), .int .u64 ti, .string (rule4 r4), .slice Al ps.length cl, .int .u8 0, .int .u8 p8, .int .i64 (va - 100), .int .u8 0, .int .u8 0, .int .u64 0, .int .u64 0]) ?_ rfl ⟨⟨false, o32, 1 + sq, ti, (rule4 r4), .slice Al ps.length cl, ps, 0, p8, (va : Int) - 100, 0, 0, 0, 0⟩, by simp [itV], ⟨rfl, lo, by dsimp only; omega, by dsimp only; omega, hrn.1, .inl rfl, by dsimp only; omega, hrn.2, hps, rfl, rfl, rfl⟩, HO.out, hrow', ⟨by dsimp only; omega, by dsimp only; omega, by dsimp only; omega, hrz, rd_of_owns hrow, hpz, by dsimp only; omega, by dsimp only; omega, by dsimp only; omega, by dsimp only; omega, by dsimp only; omega, by dsimp only; omega, by dsimp only; omega⟩, hb6⟩
          simp [results, Tryz.results34, go_sem, a0, a1, a2, a3, a4, a5, a6, a7, a8, a9, a10, a11, a12]
  · by_cases h7 : w8 = 7
    · have e7 : ((w8 : Int) == (7 : Int)) = true := by simp [h7]
      clear h7
      have S3 := (((S2.put 0 rfl 5 (.int .u8 2)).put 0 rfl 8 (.int .u8 (1 + (q2 : Int)))).put 0 rfl 3 (.string ⟨#[111, 119, 110, 46, 120]⟩)).nilRow 137 2
      simp only [List.setIfInBounds_toArray, List.set_cons_succ, List.set_cons_zero, List.eraseIdx_cons_zero] at S3
      go_wp2_with fail
      go_loopw [60] (fun i wr => ∃ (k : Nat) (lv : Value) (ps : List Pr), k ≤ l4 ∧ i = .int .u8 k ∧ ps = smallPs k q10 ∧ Upd [] w [chRow 137 2 lv ps.length (pairCells ps), chBlk b #[.int .u8 o32, .int .u64 (1 + (sq : Int)), .int .u64 ti, .string ⟨#[111, 119, 110, 46, 120]⟩, lv, .int .u8 2, .int .u8 p8, .int .i64 (va - 100), .int .u8 (1 + (q2 : Int))] 32, chBlk (w.heap.size + 1) #[.bool false, .int .u8 0, .int .u64 0, .int .u64 0, .string ⟨#[]⟩, .slice none 0 0, .int .u8 0, .int .u8 0, .int .i64 0, .int .u8 0, .int .u8 0, .int .u64 0, .int .u64 0] 36, chBlk w.heap.size #[.bool false, .int .u8 o, .int .u8 p, .int .u8 ow, .int .u16 sq, .int .u16 mo, .int .u16 ti, .int .u8 ru, .int .u8 la, .int .u8 va, .bool true] 27] wr) (fun i _ => l4 - (intOf i).toNat)
      case atStart => exact ⟨0, _, [], Nat.zero_le _, rfl, rfl, S3⟩
      case round =>
        obtain ⟨k, lv, ps, hk, rfl, hps, S4⟩ := hrel
        have hpl : ps.length = k := by rw [hps, smallPs_len]
        clear S2 S3 c10 c3 c8 y3 y5 y8 yf
        have hpb : ps.length ≤ 4 := by omega
        have HPL := Lib.hid hpl
        have HPS := Lib.hid hps
        clear hpl hps
        obtain ⟨Al, cl, rfl⟩ := owns_slice (S4.row 0 rfl)
        have e4 := (S4.blk 1 rfl).cell (j := 4) (v := .slice Al ps.length cl) rfl
        have c8 := (S4.blk 3 rfl).cell (j := 8) (v := .int .u8 la) rfl
        have lt8 := (S4.blk 3 rfl).lt
        have lt4 := (S4.blk 1 rfl).lt
        by_cases hkn : k < l4
        · obtain ⟨bk, hbk, hbk2⟩ : ∃ c : UInt8, (c.toNat : Int) = 97 + (k : Int) ∧ c = UInt8.ofNat (97 + k) := ⟨UInt8.ofNat (97 + k), by rw [UInt8.toNat_ofNat']; omega, rfl⟩
          obtain ⟨bq, hbq, hbq2⟩ : ∃ c : UInt8, (c.toNat : Int) = 48 + (q10 : Int) ∧ c = UInt8.ofNat (48 + q10) := ⟨UInt8.ofNat (48 + q10), by rw [UInt8.toNat_ofNat']; omega, rfl⟩
          have HBK := Lib.hid hbk2; have HBQ := Lib.hid hbq2
          clear hbk2 hbq2
          have cv1 : ∀ W g, Blk W g #[.int .u8 (97 + (k : Int))] 5 → (convert 58 9 (.slice (some ⟨g, 0, none⟩) 1 1)).run Tryz.prog W = .ok (.string ⟨#[bk]⟩) W := fun W g h => conv1 bk (by rw [hbk]; exact h)
          have cv2 : ∀ W g, Blk W g #[.int .u8 (48 + (q10 : Int))] 5 → (convert 58 9 (.slice (some ⟨g, 0, none⟩) 1 1)).run Tryz.prog W = .ok (.string ⟨#[bq]⟩) W := fun W g h => conv1 bq (by rw [hbq]; exact h)
          have cvA := cv1 _ _ (Blk.new wr #[.int .u8 (97 + (k : Int))] 5)
          have cvB := cv2 _ _ (Blk.new (wr.alloc (.cells #[.int .u8 (97 + (k : Int))] 5)) #[.int .u8 (48 + (q10 : Int))] 5)
          rw [World.size_alloc] at cvB
          clear cv1 cv2 hbk hbq
          go_wp2_with (at_builtin; refine wpl_stop fun W hW => ?_)
          refine Stopped.mk ?_
          (try rw [← hW])
          have T1 := ((S4.alloc #[.int .u8 (97 + (k : Int))] 5).alloc #[.int .u8 (48 + (q10 : Int))] 5).alloc #[.string ⟨#[bk]⟩, .string ⟨#[bq]⟩] 137
          simp only [World.size_alloc] at T1
          have T2 := T1.same hW
          clear hW T1 S4 e4 c8 cvA cvB lt4 lt8
          refine wpl_append_rd rfl (.tmp 64) (.tmp 77) 29 rfl 0 137 i0 _ 2 32 Tryz.underlying29 hi hz0 hz1 hz2 rfl (by decide) (.slice Al ps.length cl) ps.length _ rfl (T2.row 3 rfl) (.slice (some ⟨wr.heap.size + 1 + 1, 0, none⟩) 1 1) 1 _ rfl (rd_one (T2.blk 0 rfl) (n := 2) rfl) (by intro u hu; simp at hu; rcases hu with rfl | rfl <;> rfl) (by unfold maxLen; omega) (by omega) (Nat.zero_le _) fun v4 w4 hown4 hgr4 hv4 => ?_
          have T3 := (T2.app 3 rfl hown4 hgr4 hv4).pick [0, 4, 5, 6] (by decide)
          simp only [List.filterMap_cons, List.filterMap_nil, List.getElem?_cons_zero, List.getElem?_cons_succ, List.eraseIdx_cons_succ, List.eraseIdx_cons_zero] at T3
          obtain ⟨A4, c4, rfl⟩ := owns_slice hown4
          clear hown4 hgr4 hv4 T2
          have e4 := (T3.blk 1 rfl).cell (j := 4) (v := .slice Al ps.length cl) rfl
          have fz := (T3.blk 1 rfl).frozen
          have T4 := (T3.put 1 rfl 4 (.slice A4 (ps.length + 1) c4)).front 1 rfl
          simp only [List.setIfInBounds_toArray, List.set_cons_succ, List.set_cons_zero, List.eraseIdx_cons_succ, List.eraseIdx_cons_zero] at T4
          clear T3
          go_wp2_with fail
          go_roundw
          case rel => exact ⟨k + 1, _, ps ++ [(⟨#[bk]⟩, ⟨#[bq]⟩)], by omega, by go_num, by rw [smallPs_succ, HPS.out, HBK.out, HBQ.out], by rw [List.length_append, pairCells_append]; exact T4⟩
          case measure => simp [intOf]; omega
        · obtain rfl : k = l4 := by omega
          have hkk : decide ((k : Int) < (k : Int)) = false := by simp
          have e0 := (S4.blk 1 rfl).cell (j := 0) (v := .int .u8 o32) rfl
          have e1 := (S4.blk 1 rfl).cell (j := 1) (v := .int .u64 (1 + (sq : Int))) rfl
          have e2 := (S4.blk 1 rfl).cell (j := 2) (v := .int .u64 ti) rfl
          have e3 := (S4.blk 1 rfl).cell (j := 3) (v := .string ⟨#[111, 119, 110, 46, 120]⟩) rfl
          have e5 := (S4.blk 1 rfl).cell (j := 5) (v := .int .u8 2) rfl
          have e6 := (S4.blk 1 rfl).cell (j := 6) (v := .int .u8 p8) rfl
          have e7 := (S4.blk 1 rfl).cell (j := 7) (v := .int .i64 (va - 100)) rfl
          have e8 := (S4.blk 1 rfl).cell (j := 8) (v := .int .u8 (1 + (q2 : Int))) rfl
          clear HPL hkn
          go_wp2_with fail
          (with_reducible refine (itemOf _ _ _ _ _ _ _ _ _ _ _ _).mono ?_)
          rintro e w5 ⟨rfl, hb5⟩
          have S5 := S4.grow hb5
          clear S4 hb5 c8 e0 e1 e2 e3 e4 e5 e6 e7 e8 lt8 lt4
          have rc0 := (S5.blk 2 rfl).cell (j := 0) (v := .bool false) rfl
          have rc1 := (S5.blk 2 rfl).cell (j := 1) (v := .int .u8 0) rfl
          have rc2 := (S5.blk 2 rfl).cell (j := 2) (v := .int .u64 0) rfl
          have rc3 := (S5.blk 2 rfl).cell (j := 3) (v := .int .u64 0) rfl
          have rc4 := (S5.blk 2 rfl).cell (j := 4) (v := .string ⟨#[]⟩) rfl
          have rc5 := (S5.blk 2 rfl).cell (j := 5) (v := .slice none 0 0) rfl
          have rc6 := (S5.blk 2 rfl).cell (j := 6) (v := .int .u8 0) rfl
          have rc7 := (S5.blk 2 rfl).cell (j := 7) (v := .int .u8 0) rfl
          have rc8 := (S5.blk 2 rfl).cell (j := 8) (v := .int .i64 0) rfl
          have rc9 := (S5.blk 2 rfl).cell (j := 9) (v := .int .u8 0) rfl
          have rc10 := (S5.blk 2 rfl).cell (j := 10) (v := .int .u8 0) rfl
          have rc11 := (S5.blk 2 rfl).cell (j := 11) (v := .int .u64 0) rfl
          have rc12 := (S5.blk 2 rfl).cell (j := 12) (v := .int .u64 0) rfl
          have fz := (S5.blk 2 rfl).frozen
          go_wp2_with fail
          refine bodyPost_gen fun w6 hw6 => ?_
          have S6 := (((((((((((((S5.put 2 rfl 0 (.bool false)).put 0 rfl 1 (.int .u8 o32)).put 0 rfl 2 (.int .u64 (1 + (sq : Int)))).put 0 rfl 3 (.int .u64 ti)).put 0 rfl 4 (.string ⟨#[111, 119, 110, 46, 120]⟩)).put 0 rfl 5 (.slice Al ps.length cl)).put 0 rfl 6 (.int .u8 2)).put 0 rfl 7 (.int .u8 p8)).put 0 rfl 8 (.int .i64 (va - 100))).put 0 rfl 9 (.int .u8 (1 + (q2 : Int)))).put 0 rfl 10 (.int .u8 0)).put 0 rfl 11 (.int .u64 0)).put 0 rfl 12 (.int .u64 0)).same hw6
          simp only [List.setIfInBounds_toArray, List.set_cons_succ, List.set_cons_zero, List.eraseIdx_cons_succ, List.eraseIdx_cons_zero] at S6
          clear hw6 S5 rc0 rc1 rc2 rc3 rc4 rc5 rc6 rc7 rc8 rc9 rc10 rc11 rc12 fz
          have a0 := (S6.blk 0 rfl).cell (j := 0) (v := .bool false) rfl
          have a1 := (S6.blk 0 rfl).cell (j := 1) (v := .int .u8 o32) rfl
          have a2 := (S6.blk 0 rfl).cell (j := 2) (v := .int .u64 (1 + (sq : Int))) rfl
          have a3 := (S6.blk 0 rfl).cell (j := 3) (v := .int .u64 ti) rfl
          have a4 := (S6.blk 0 rfl).cell (j := 4) (v := .string ⟨#[111, 119, 110, 46, 120]⟩) rfl
          have a5 := (S6.blk 0 rfl).cell (j := 5) (v := .slice Al ps.length cl) rfl
          have a6 := (S6.blk 0 rfl).cell (j := 6) (v := .int .u8 2) rfl
          have a7 := (S6.blk 0 rfl).cell (j := 7) (v := .int .u8 p8) rfl
          have a8 := (S6.blk 0 rfl).cell (j := 8) (v := .int .i64 (va - 100)) rfl
          have a9 := (S6.blk 0 rfl).cell (j := 9) (v := .int .u8 (1 + (q2 : Int))) rfl
          have a10 := (S6.blk 0 rfl).cell (j := 10) (v := .int .u8 0) rfl
          have a11 := (S6.blk 0 rfl).cell (j := 11) (v := .int .u64 0) rfl
          have a12 := (S6.blk 0 rfl).cell (j := 12) (v := .int .u64 0) rfl
          have hrow := S6.row 1 rfl
          have hge := S6.own _ (.tail _ (.head _))
          have hb6 := S6.below
          have hrow' := owns_base (base' := w.heap.size) hrow (fun g hg => (hge g (by simpa [chRow] using hg)).resolve_left (fun h => nomatch h))
          have hpz : ∀ p ∈ ps, p.1.size ≤ maxLen ∧ p.2.size ≤ maxLen := by
            unfold maxLen
            rw [HPS.out]
            intro p hp
            have := smallPs_sz _ _ p hp
            omega
          have hps := smallPs_chk k q10 ll lq10
          rw [← HPS.out] at hps
          clear hge S6
          refine bodyPost_ret (v := .agg #[.bool false, .int .u8 o32, .int .u64 (1 + (sq : Int)), .int .u64 ti, .string ⟨#[111, 119, 110, 46, 120]⟩, .slice Al ps.length cl, .int .u8 2, .int .u8 p8, .int .i64 (va - 100), .int .u8 (1 + (q2 : Int)), .int .u8 0, .int .u64 0, .int .u64 0]) ?_ rfl ⟨⟨false, o32, 1 + sq, ti, ⟨#[111, 119, 110, 46, 120]⟩, .slice Al ps.length cl, ps, 2, p8, (va : Int) - 100, 1 + q2, 0, 0, 0⟩, by simp [itV], ⟨rfl, lo, by dsimp only; omega, by dsimp only; omega, own_x.1, .inr rfl, by dsimp only; omega, (own_x.2 (1 + q2) (by omega)), hps, rfl, rfl, rfl⟩, HO.out, hrow', ⟨by dsimp only; omega, by dsimp only; omega, by dsimp only; omega, (show (⟨#[111, 119, 110, 46, 120]⟩ : ByteArray).size ≤ maxLen by unfold maxLen; decide), rd_of_owns hrow, hpz, by dsimp only; omega, by dsimp only; omega, by dsimp only; omega, by dsimp only; omega, by dsimp only; omega, by dsimp only; omega, by dsimp only; omega⟩, hb6⟩
          simp [results, Tryz.results34, go_sem, a0, a1, a2, a3, a4, a5, a6, a7, a8, a9, a10, a11, a12]
    · have e7 : ((w8 : Int) == (7 : Int)) = false := by simp; omega
      have S3 := (S2.put 0 rfl 5 (.int .u8 2)).nilRow 137 2
      simp only [List.setIfInBounds_toArray, List.set_cons_succ, List.set_cons_zero, List.eraseIdx_cons_zero] at S3
      go_wp2_with fail
      go_loopw [60] (fun i wr => ∃ (k : Nat) (lv : Value) (ps : List Pr), k ≤ l4 ∧ i = .int .u8 k ∧ ps = smallPs k q10 ∧ Upd [] w [chRow 137 2 lv ps.length (pairCells ps), chBlk b #[.int .u8 o32, .int .u64 (1 + (sq : Int)), .int .u64 ti, .string (rule4 r4), lv, .int .u8 2, .int .u8 p8, .int .i64 (va - 100), .int .u8 0] 32, chBlk (w.heap.size + 1) #[.bool false, .int .u8 0, .int .u64 0, .int .u64 0, .string ⟨#[]⟩, .slice none 0 0, .int .u8 0, .int .u8 0, .int .i64 0, .int .u8 0, .int .u8 0, .int .u64 0, .int .u64 0] 36, chBlk w.heap.size #[.bool false, .int .u8 o, .int .u8 p, .int .u8 ow, .int .u16 sq, .int .u16 mo, .int .u16 ti, .int .u8 ru, .int .u8 la, .int .u8 va, .bool true] 27] wr) (fun i _ => l4 - (intOf i).toNat)
      case atStart => exact ⟨0, _, [], Nat.zero_le _, rfl, rfl, S3⟩
      case round =>
        obtain ⟨k, lv, ps, hk, rfl, hps, S4⟩ := hrel
        have hpl : ps.length = k := by rw [hps, smallPs_len]
        clear S2 S3 c10 c3 c8 y3 y5 y8 yf
        have hpb : ps.length ≤ 4 := by omega
        have HPL := Lib.hid hpl
        have HPS := Lib.hid hps
        clear hpl hps
        obtain ⟨Al, cl, rfl⟩ := owns_slice (S4.row 0 rfl)
        have e4 := (S4.blk 1 rfl).cell (j := 4) (v := .slice Al ps.length cl) rfl
        have c8 := (S4.blk 3 rfl).cell (j := 8) (v := .int .u8 la) rfl
        have lt8 := (S4.blk 3 rfl).lt
        have lt4 := (S4.blk 1 rfl).lt
        by_cases hkn : k < l4
        · obtain ⟨bk, hbk, hbk2⟩ : ∃ c : UInt8, (c.toNat : Int) = 97 + (k : Int) ∧ c = UInt8.ofNat (97 + k) := ⟨UInt8.ofNat (97 + k), by rw [UInt8.toNat_ofNat']; omega, rfl⟩
          obtain ⟨bq, hbq, hbq2⟩ : ∃ c : UInt8, (c.toNat : Int) = 48 + (q10 : Int) ∧ c = UInt8.ofNat (48 + q10) := ⟨UInt8.ofNat (48 + q10), by rw [UInt8.toNat_ofNat']; omega, rfl⟩
          have HBK := Lib.hid hbk2; have HBQ := Lib.hid hbq2
          clear hbk2 hbq2
          have cv1 : ∀ W g, Blk W g #[.int .u8 (97 + (k : Int))] 5 → (convert 58 9 (.slice (some ⟨g, 0, none⟩) 1 1)).run Tryz.prog W = .ok (.string ⟨#[bk]⟩) W := fun W g h => conv1 bk (by rw [hbk]; exact h)
          have cv2 : ∀ W g, Blk W g #[.int .u8 (48 + (q10 : Int))] 5 → (convert 58 9 (.slice (some ⟨g, 0, none⟩) 1 1)).run Tryz.prog W = .ok (.string ⟨#[bq]⟩) W := fun W g h => conv1 bq (by rw [hbq]; exact h)
          have cvA := cv1 _ _ (Blk.new wr #[.int .u8 (97 + (k : Int))] 5)
          have cvB := cv2 _ _ (Blk.new (wr.alloc (.cells #[.int .u8 (97 + (k : Int))] 5)) #[.int .u8 (48 + (q10 : Int))] 5)
          rw [World.size_alloc] at cvB
          clear cv1 cv2 hbk hbq
          go_wp2_with (at_builtin; refine wpl_stop fun W hW => ?_)
          refine Stopped.mk ?_
          (try rw [← hW])
          have T1 := ((S4.alloc #[.int .u8 (97 + (k : Int))] 5).alloc #[.int .u8 (48 + (q10 : Int))] 5).alloc #[.string ⟨#[bk]⟩, .string ⟨#[bq]⟩] 137
          simp only [World.size_alloc] at T1
          have T2 := T1.same hW
          clear hW T1 S4 e4 c8 cvA cvB lt4 lt8
          refine wpl_append_rd rfl (.tmp 64) (.tmp 77) 29 rfl 0 137 i0 _ 2 32 Tryz.underlying29 hi hz0 hz1 hz2 rfl (by decide) (.slice Al ps.length cl) ps.length _ rfl (T2.row 3 rfl) (.slice (some ⟨wr.heap.size + 1 + 1, 0, none⟩) 1 1) 1 _ rfl (rd_one (T2.blk 0 rfl) (n := 2) rfl) (by intro u hu; simp at hu; rcases hu with rfl | rfl <;> rfl) (by unfold maxLen; omega) (by omega) (Nat.zero_le _) fun v4 w4 hown4 hgr4 hv4 => ?_
          have T3 := (T2.app 3 rfl hown4 hgr4 hv4).pick [0, 4, 5, 6] (by decide)
          simp only [List.filterMap_cons, List.filterMap_nil, List.getElem?_cons_zero, List.getElem?_cons_succ, List.eraseIdx_cons_succ, List.eraseIdx_cons_zero] at T3
          obtain ⟨A4, c4, rfl⟩ := owns_slice hown4
          clear hown4 hgr4 hv4 T2
          have e4 := (T3.blk 1 rfl).cell (j := 4) (v := .slice Al ps.length cl) rfl
          have fz := (T3.blk 1 rfl).frozen
          have T4 := (T3.put 1 rfl 4 (.slice A4 (ps.length + 1) c4)).front 1 rfl
          simp only [List.setIfInBounds_toArray, List.set_cons_succ, List.set_cons_zero, List.eraseIdx_cons_succ, List.eraseIdx_cons_zero] at T4
          clear T3
          go_wp2_with fail
          go_roundw
          case rel => exact ⟨k + 1, _, ps ++ [(⟨#[bk]⟩, ⟨#[bq]⟩)], by omega, by go_num, by rw [smallPs_succ, HPS.out, HBK.out, HBQ.out], by rw [List.length_append, pairCells_append]; exact T4⟩
          case measure => simp [intOf]; omega
        · obtain rfl : k = l4 := by omega
          have hkk : decide ((k : Int) < (k : Int)) = false := by simp
          have e0 := (S4.blk 1 rfl).cell (j := 0) (v := .int .u8 o32) rfl
          have e1 := (S4.blk 1 rfl).cell (j := 1) (v := .int .u64 (1 + (sq : Int))) rfl
          have e2 := (S4.blk 1 rfl).cell (j := 2) (v := .int .u64 ti) rfl
          have e3 := (S4.blk 1 rfl).cell (j := 3) (v := .string (rule4 r4)) rfl
          have e5 := (S4.blk 1 rfl).cell (j := 5) (v := .int .u8 2) rfl
          have e6 := (S4.blk 1 rfl).cell (j := 6) (v := .int .u8 p8) rfl
          have e7 := (S4.blk 1 rfl).cell (j := 7) (v := .int .i64 (va - 100)) rfl
          have e8 := (S4.blk 1 rfl).cell (j := 8) (v := .int .u8 0) rfl
          clear HPL hkn
          go_wp2_with fail
          (with_reducible refine (itemOf _ _ _ _ _ _ _ _ _ _ _ _).mono ?_)
          rintro e w5 ⟨rfl, hb5⟩
          have S5 := S4.grow hb5
          clear S4 hb5 c8 e0 e1 e2 e3 e4 e5 e6 e7 e8 lt8 lt4
          have rc0 := (S5.blk 2 rfl).cell (j := 0) (v := .bool false) rfl
          have rc1 := (S5.blk 2 rfl).cell (j := 1) (v := .int .u8 0) rfl
          have rc2 := (S5.blk 2 rfl).cell (j := 2) (v := .int .u64 0) rfl
          have rc3 := (S5.blk 2 rfl).cell (j := 3) (v := .int .u64 0) rfl
          have rc4 := (S5.blk 2 rfl).cell (j := 4) (v := .string ⟨#[]⟩) rfl
          have rc5 := (S5.blk 2 rfl).cell (j := 5) (v := .slice none 0 0) rfl
          have rc6 := (S5.blk 2 rfl).cell (j := 6) (v := .int .u8 0) rfl
          have rc7 := (S5.blk 2 rfl).cell (j := 7) (v := .int .u8 0) rfl
          have rc8 := (S5.blk 2 rfl).cell (j := 8) (v := .int .i64 0) rfl
          have rc9 := (S5.blk 2 rfl).cell (j := 9) (v := .int .u8 0) rfl
          have rc10 := (S5.blk 2 rfl).cell (j := 10) (v := .int .u8 0) rfl
          have rc11 := (S5.blk 2 rfl).cell (j := 11) (v := .int .u64 0) rfl
          have rc12 := (S5.blk 2 rfl).cell (j := 12) (v := .int .u64 0) rfl
          have fz := (S5.blk 2 rfl).frozen
          go_wp2_with fail
          refine bodyPost_gen fun w6 hw6 => ?_
          have S6 := (((((((((((((S5.put 2 rfl 0 (.bool false)).put 0 rfl 1 (.int .u8 o32)).put 0 rfl 2 (.int .u64 (1 + (sq : Int)))).put 0 rfl 3 (.int .u64 ti)).put 0 rfl 4 (.string (rule4 r4))).put 0 rfl 5 (.slice Al ps.length cl)).put 0 rfl 6 (.int .u8 2)).put 0 rfl 7 (.int .u8 p8)).put 0 rfl 8 (.int .i64 (va - 100))).put 0 rfl 9 (.int .u8 0)).put 0 rfl 10 (.int .u8 0)).put 0 rfl 11 (.int .u64 0)).put 0 rfl 12 (.int .u64 0)).same hw6
          simp only [List.setIfInBounds_toArray, List.set_cons_succ, List.set_cons_zero, List.eraseIdx_cons_succ, List.eraseIdx_cons_zero] at S6
          clear hw6 S5 rc0 rc1 rc2 rc3 rc4 rc5 rc6 rc7 rc8 rc9 rc10 rc11 rc12 fz
          have a0 := (S6.blk 0 rfl).cell (j := 0) (v := .bool false) rfl
          have a1 := (S6.blk 0 rfl).cell (j := 1) (v := .int .u8 o32) rfl
          have a2 := (S6.blk 0 rfl).cell (j := 2) (v := .int .u64 (1 + (sq : Int))) rfl
          have a3 := (S6.blk 0 rfl).cell (j := 3) (v := .int .u64 ti) rfl
          have a4 := (S6.blk 0 rfl).cell (j := 4) (v := .string (rule4 r4)) rfl
          have a5 := (S6.blk 0 rfl).cell (j := 5) (v := .slice Al ps.length cl) rfl
          have a6 := (S6.blk 0 rfl).cell (j := 6) (v := .int .u8 2) rfl
          have a7 := (S6.blk 0 rfl).cell (j := 7) (v := .int .u8 p8) rfl
          have a8 := (S6.blk 0 rfl).cell (j := 8) (v := .int .i64 (va - 100)) rfl
          have a9 := (S6.blk 0 rfl).cell (j := 9) (v := .int .u8 0) rfl
          have a10 := (S6.blk 0 rfl).cell (j := 10) (v := .int .u8 0) rfl
          have a11 := (S6.blk 0 rfl).cell (j := 11) (v := .int .u64 0) rfl
          have a12 := (S6.blk 0 rfl).cell (j := 12) (v := .int .u64 0) rfl
          have hrow := S6.row 1 rfl
          have hge := S6.own _ (.tail _ (.head _))
          have hb6 := S6.below
          have hrow' := owns_base (base' := w.heap.size) hrow (fun g hg => (hge g (by simpa [chRow] using hg)).resolve_left (fun h => nomatch h))
          have hpz : ∀ p ∈ ps, p.1.size ≤ maxLen ∧ p.2.size ≤ maxLen := by
            unfold maxLen
            rw [HPS.out]
            intro p hp
            have := smallPs_sz _ _ p hp
            omega
          have hps := smallPs_chk k q10 ll lq10
          rw [← HPS.out] at hps
          clear hge S6
          refine bodyPost_ret (v := .agg #[.bool false, .int .u8 o32, .int .u64 (1 + (sq : Int)), .int .u64 ti, .string (rule4 r4), .slice Al ps.length cl, .int .u8 2, .int .u8 p8, .int .i64 (va - 100), .int .u8 0, .int .u8 0, .int .u64 0, .int .u64 0]) ?_ rfl ⟨⟨false, o32, 1 + sq, ti, (rule4 r4), .slice Al ps.length cl, ps, 2, p8, (va : Int) - 100, 0, 0, 0, 0⟩, by simp [itV], ⟨rfl, lo, by dsimp only; omega, by dsimp only; omega, hrn.1, .inr rfl, by dsimp only; omega, hrn.2, hps, rfl, rfl, rfl⟩, HO.out, hrow', ⟨by dsimp only; omega, by dsimp only; omega, by dsimp only; omega, hrz, rd_of_owns hrow, hpz, by dsimp only; omega, by dsimp only; omega, by dsimp only; omega, by dsimp only; omega, by dsimp only; omega, by dsimp only; omega, by dsimp only; omega⟩, hb6⟩
          simp [results, Tryz.results34, go_sem, a0, a1, a2, a3, a4, a5, a6, a7, a8, a9, a10, a11, a12]
end
end Go.Proofs.YtdmdfccadjfpiaaGreat
