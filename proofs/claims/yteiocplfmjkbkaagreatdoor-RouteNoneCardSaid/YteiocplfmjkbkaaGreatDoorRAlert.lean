/-
  An alert of small numbers: what watchfirelaw18.Alert's method Alert returns, for every six bytes.
-/
import Derived.Test.YteiocplfmjkbkaaGreatDoorRLabs
import Derived.Test.YteiocplfmjkbkaaGreatDoorFree
import Derived.Maps.AppendAt
namespace Go.Proofs.YteiocplfmjkbkaaGreatDoor
open Go.RowKit FreeOrd
set_option maxRecDepth 100000
attribute [local go_sem] out

def ruleB (r : Nat) : ByteArray := if r % 3 = 0 then ⟨#[104, 111, 116]⟩ else if r % 3 = 1 then ⟨#[99, 111, 108, 100]⟩ else ⟨#[120]⟩
def stOf (s : Nat) : Nat := if s % 4 = 0 then 0 else if s % 4 = 1 then 2 else if s % 4 = 2 then 3 else 2
def keyB (i : Nat) : ByteArray := if i = 0 then ⟨#[97]⟩ else if i = 1 then ⟨#[98]⟩ else ⟨#[110, 111, 100, 101]⟩
def valB (n : Nat) : ByteArray := if n % 3 = 0 then ⟨#[]⟩ else if n % 3 = 1 then ⟨#[120]⟩ else ⟨#[121]⟩
def smallL (l : List Nat) : List (ByteArray × ByteArray) := (l.zipIdx.filter fun p => p.1 % 3 ≠ 0).map fun p => (keyB p.2, valB p.1)

theorem smallL_succ (l : List Nat) (k n : Nat) (h : l[k]? = some n) : smallL (l.take (k + 1)) = smallL (l.take k) ++ if n % 3 = 0 then [] else [(keyB k, valB n)] := by
  have hk : k < l.length := (List.getElem?_eq_some_iff.1 h).1
  have e : l[k] = n := (List.getElem?_eq_some_iff.1 h).2
  rw [List.take_succ_eq_append_getElem hk, e]
  unfold smallL
  rw [List.zipIdx_append, List.filter_append, List.map_append]
  congr 1
  rw [List.length_take, Nat.min_eq_left (by omega)]
  by_cases h0 : n % 3 = 0 <;> simp [h0]
theorem smallL_len (l : List Nat) : (smallL l).length ≤ l.length := by
  unfold smallL
  rw [List.length_map]
  exact Nat.le_trans (List.length_filter_le _ _) (by rw [List.length_zipIdx]; exact Nat.le_refl _)
theorem rule_at (r : Nat) : (#[Value.string ⟨#[104, 111, 116]⟩, .string ⟨#[99, 111, 108, 100]⟩, .string ⟨#[120]⟩] : Array Value)[r % 3]? = some (.string (ruleB r)) := by
  unfold ruleB
  have h : r % 3 = 0 ∨ r % 3 = 1 ∨ r % 3 = 2 := by omega
  rcases h with h | h | h <;> rw [h] <;> rfl
theorem key_at (k : Nat) (h : k < 3) : (#[Value.string ⟨#[97]⟩, .string ⟨#[98]⟩, .string ⟨#[110, 111, 100, 101]⟩] : Array Value)[k]? = some (.string (keyB k)) := by
  have h : k = 0 ∨ k = 1 ∨ k = 2 := by omega
  rcases h with h | h | h <;> rw [h] <;> rfl
theorem val_at (n m : Nat) (h : m = n % 3) : (#[Value.string ⟨#[]⟩, .string ⟨#[120]⟩, .string ⟨#[121]⟩] : Array Value)[m]? = some (.string (valB n)) := by
  subst h
  unfold valB
  have h : n % 3 = 0 ∨ n % 3 = 1 ∨ n % 3 = 2 := by omega
  rcases h with h | h | h <;> rw [h] <;> rfl
theorem st_at (s : Nat) : (#[Value.int .u8 0, .int .u8 2, .int .u8 3, .int .u8 2] : Array Value)[s % 4]? = some (.int .u8 (stOf s)) := by
  unfold stOf
  have h : s % 4 = 0 ∨ s % 4 = 1 ∨ s % 4 = 2 ∨ s % 4 = 3 := by omega
  rcases h with h | h | h | h <;> rw [h] <;> rfl

set_option maxHeartbeats 1000000 in
theorem smallAlertO (o r A B N s : Nat) (_ho : o < 256) (_hr : r < 256) (hA : A < 256) (hB : B < 256) (hN : N < 256) (hs : s < 256) (w : World) :
    Calls Tryz.prog 9 #[.agg #[.int .u8 o, .int .u8 r, .int .u8 A, .int .u8 B, .int .u8 N, .int .u8 s]] w fun e w' =>
      ∃ lv, e = .returned (.agg #[.int .u8 (o % 3 : Nat), .string (ruleB r), lv, .int .u8 (stOf s), .int .u64 0, .int .u8 (s / 4 % 8 : Nat), .int .i64 A]) ∧
        w'.ownsRow w.heap.size 71 2 lv (smallL [A, B, N]).length (pairCells (smallL [A, B, N])) ∧ Below w.heap.size w w' := by
  obtain ⟨o3, ho3⟩ : ∃ n, n = o % 3 := ⟨_, rfl⟩
  obtain ⟨r3, hr3⟩ : ∃ n, n = r % 3 := ⟨_, rfl⟩
  obtain ⟨s4, hs4⟩ : ∃ n, n = s % 4 := ⟨_, rfl⟩
  obtain ⟨q4, hq4⟩ : ∃ n, n = s / 4 := ⟨_, rfl⟩
  obtain ⟨q8, hq8⟩ : ∃ n, n = q4 % 8 := ⟨_, rfl⟩
  have t1 : (o : Int).tmod 3 = (o3 : Int) := by rw [ho3]; rfl
  have t2 : (r : Int).tmod 3 = (r3 : Int) := by rw [hr3]; rfl
  have t3 : (s : Int).tmod 4 = (s4 : Int) := by rw [hs4]; rfl
  have t4 : (s : Int).tdiv 4 = (q4 : Int) := by rw [hq4]; rfl
  have w1 : IntKind.u8.wrap (q4 : Int) = (q4 : Int) := by rw [IntKind.wrap_u8]; omega
  have w2 : IntKind.i64.wrap (A : Int) = (A : Int) := by rw [IntKind.wrap_i64]; omega
  have t5 : (q4 : Int).tmod 8 = (q8 : Int) := by rw [hq8]; rfl
  have hrule := hr3 ▸ rule_at r
  have hst := hs4 ▸ st_at s
  have r3lt : r3 < 3 := by omega
  have s4lt : s4 < 4 := by omega
  have u1 : (r3 : Int) < 3 := by omega
  have u2 : (s4 : Int) < 4 := by omega
  have Hq := Lib.hid hq8; have Ho := Lib.hid ho3; have Hq4 := Lib.hid hq4
  clear hr3 hs4 hq8 ho3 hq4
  obtain ⟨i0, hi, hz0, hz1, hz2⟩ := info_parts infoPair
  go_enter Tryz.func9, Tryz.ntmps9
  go_wp2_with fail
  obtain ⟨Inv, I0, F, S⟩ : ∃ Inv : World → Prop, Inv ((w.alloc (Obj.cells #[.int .u8 o, .int .u8 r, .int .u8 A, .int .u8 B, .int .u8 N, .int .u8 s] 32)).alloc (Obj.cells #[.int .u8 0, .string ⟨#[]⟩, .slice none 0 0, .int .u8 0, .int .u64 0, .int .u8 0, .int .i64 0] 37)).drew ∧
      (∀ w', Inv w' → w'.cell? ⟨w.heap.size, 0, none⟩ = some (.int .u8 o) ∧ w'.cell? ⟨w.heap.size, 1, none⟩ = some (.int .u8 r) ∧ w'.cell? ⟨w.heap.size, 2, none⟩ = some (.int .u8 A) ∧ w'.cell? ⟨w.heap.size, 3, none⟩ = some (.int .u8 B)
       ∧ w'.cell? ⟨w.heap.size, 4, none⟩ = some (.int .u8 N) ∧ w'.cell? ⟨w.heap.size, 5, none⟩ = some (.int .u8 s)) ∧
      (∀ w' w'', Inv w' → Below w'.heap.size w' w'' → Inv w'' ∧ Holds w [(w.heap.size + 1, #[.int .u8 0, .string ⟨#[]⟩, .slice none 0 0, .int .u8 0, .int .u64 0, .int .u8 0, .int .i64 0], 37), (w.heap.size, #[.int .u8 o, .int .u8 r, .int .u8 A, .int .u8 B, .int .u8 N, .int .u8 s], 32)] w'') := by
    refine ⟨Holds w _, ((Holds.nil w).new _ _ _ rfl).new (w.heap.size + 1) _ _ (by simp) |>.drew, fun w' h => ?_, fun w' w'' h hb => ⟨h.grow hb, (h.grow hb)⟩⟩
    refine ⟨?_, ?_, ?_, ?_, ?_, ?_⟩
    all_goals first | exact h.cell (.head _) rfl | exact h.cell (.tail _ (.head _)) rfl
  refine region_free Inv [3, 7, 8, 9, 13, 14, 23] [24] [0, 1, 2, 3, 4, 5, 6, 7, 8, 9, 10, 11, 12, 13, 14, 15, 16, 17, 18, 19, 20, 21, 22, 23] (by kernel_rfl) (by kernel_rfl) (by kernel_rfl) I0 ?_
  clear I0
  -- the rules
  repeat (first
    | (refine RelSeq.pure_ (c := ?_) rfl rfl ?_ ?_; rotate_left; (focus (intro x w'; dsimp only; go_simp; (repeat' apply And.intro) <;> first | with_reducible rfl | assumption)); simp only [Act.put, List.setIfInBounds_toArray, List.set_cons_zero, List.set_cons_succ])
    | (refine RelSeq.grow_ (c := ?_) rfl rfl ?_ ?_; rotate_left; (focus (intro x w' hw _; dsimp only; obtain ⟨c0, c1, c2, c3, c4, c5⟩ := F w' hw; have hbr := Below.refl w'.heap.size w'; go_simp; (repeat' apply And.intro) <;> first | with_reducible rfl | assumption)); simp only [Act.put, List.setIfInBounds_toArray, List.set_cons_zero, List.set_cons_succ]))
  refine RelSeq.rel_ (NewSl w.heap.size 3 #[.string ⟨#[104, 111, 116]⟩, .string ⟨#[99, 111, 108, 100]⟩, .string ⟨#[120]⟩] 9) rfl rfl NewSl.stable ?_ ?_
  focus
    intro x w' hw _; dsimp only
    have hba : Below w'.heap.size w' (w'.alloc (.cells #[.string ⟨#[104, 111, 116]⟩, .string ⟨#[99, 111, 108, 100]⟩, .string ⟨#[120]⟩] 9)) := (Below.refl _ _).alloc (Nat.le_refl _) _
    have hI := (S w' _ hw hba).1
    have hsz := (S w' w' hw (Below.refl _ _)).2.1.size
    go_simp
    (repeat' apply And.intro) <;> first | assumption | exact ⟨_, rfl, hsz, Blk.new _ _ _⟩
  simp only [Act.put, List.setIfInBounds_toArray, List.set_cons_zero, List.set_cons_succ, List.nil_append]
  repeat (first
    | (refine RelSeq.pure_ (c := ?_) rfl rfl ?_ ?_; rotate_left; (focus (intro x w'; dsimp only; go_simp; (repeat' apply And.intro) <;> first | with_reducible rfl | assumption)); simp only [Act.put, List.setIfInBounds_toArray, List.set_cons_zero, List.set_cons_succ])
    | (refine RelSeq.grow_ (c := ?_) rfl rfl ?_ ?_; rotate_left; (focus (intro x w' hw _; dsimp only; obtain ⟨c0, c1, c2, c3, c4, c5⟩ := F w' hw; have hbr := Below.refl w'.heap.size w'; go_simp; (repeat' apply And.intro) <;> first | with_reducible rfl | assumption)); simp only [Act.put, List.setIfInBounds_toArray, List.set_cons_zero, List.set_cons_succ]))
  refine RelSeq.rel_ (NewPt w.heap.size r3 #[.string ⟨#[104, 111, 116]⟩, .string ⟨#[99, 111, 108, 100]⟩, .string ⟨#[120]⟩] 9) rfl rfl NewPt.stable ?_ ?_
  focus
    intro x w' hw hf; dsimp only
    obtain ⟨b, e, hb0, hB⟩ := hf _ (.head _) (by kernel_rfl)
    have hbr := Below.refl w'.heap.size w'
    go_simp
    (repeat' apply And.intro) <;> first | assumption | exact ⟨b, rfl, hb0, hB⟩
  simp only [Act.put, List.setIfInBounds_toArray, List.set_cons_zero, List.set_cons_succ, List.nil_append, List.cons_append]
  refine RelSeq.grow_ (c := ?_) rfl rfl ?_ ?_; rotate_left
  focus
    intro x w' hw hf; dsimp only
    obtain ⟨b, e, hb0, hB⟩ := hf _ (.tail _ (.head _)) (by kernel_rfl)
    have c0 := hB.cell (hrule)
    clear hB
    have hbr := Below.refl w'.heap.size w'
    go_simp
    (repeat' apply And.intro) <;> first | with_reducible rfl | assumption
  simp only [Act.put, List.setIfInBounds_toArray, List.set_cons_zero, List.set_cons_succ]
  -- the states
  refine RelSeq.rel_ (NewSl w.heap.size 4 #[.int .u8 0, .int .u8 2, .int .u8 3, .int .u8 2] 34) rfl rfl NewSl.stable ?_ ?_
  focus
    intro x w' hw _; dsimp only
    have hba : Below w'.heap.size w' (w'.alloc (.cells #[.int .u8 0, .int .u8 2, .int .u8 3, .int .u8 2] 34)) := (Below.refl _ _).alloc (Nat.le_refl _) _
    have hI := (S w' _ hw hba).1
    have hsz := (S w' w' hw (Below.refl _ _)).2.1.size
    go_simp
    (repeat' apply And.intro) <;> first | assumption | exact ⟨_, rfl, hsz, Blk.new _ _ _⟩
  simp only [Act.put, List.setIfInBounds_toArray, List.set_cons_zero, List.set_cons_succ, List.nil_append, List.cons_append]
  repeat (first
    | (refine RelSeq.pure_ (c := ?_) rfl rfl ?_ ?_; rotate_left; (focus (intro x w'; dsimp only; go_simp; (repeat' apply And.intro) <;> first | with_reducible rfl | assumption)); simp only [Act.put, List.setIfInBounds_toArray, List.set_cons_zero, List.set_cons_succ])
    | (refine RelSeq.grow_ (c := ?_) rfl rfl ?_ ?_; rotate_left; (focus (intro x w' hw _; dsimp only; obtain ⟨c0, c1, c2, c3, c4, c5⟩ := F w' hw; have hbr := Below.refl w'.heap.size w'; go_simp; (repeat' apply And.intro) <;> first | with_reducible rfl | assumption)); simp only [Act.put, List.setIfInBounds_toArray, List.set_cons_zero, List.set_cons_succ]))
  refine RelSeq.rel_ (NewPt w.heap.size s4 #[.int .u8 0, .int .u8 2, .int .u8 3, .int .u8 2] 34) rfl rfl NewPt.stable ?_ ?_
  focus
    intro x w' hw hf; dsimp only
    obtain ⟨b, e, hb0, hB⟩ := hf _ (.tail _ (.tail _ (.head _))) (by kernel_rfl)
    have hbr := Below.refl w'.heap.size w'
    go_simp
    (repeat' apply And.intro) <;> first | assumption | exact ⟨b, rfl, hb0, hB⟩
  simp only [Act.put, List.setIfInBounds_toArray, List.set_cons_zero, List.set_cons_succ, List.nil_append, List.cons_append]
  refine RelSeq.grow_ (c := ?_) rfl rfl ?_ ?_; rotate_left
  focus
    intro x w' hw hf; dsimp only
    obtain ⟨b, e, hb0, hB⟩ := hf _ (.tail _ (.tail _ (.tail _ (.head _)))) (by kernel_rfl)
    have c0 := hB.cell (hst)
    clear hB
    have hbr := Below.refl w'.heap.size w'
    go_simp
    (repeat' apply And.intro) <;> first | with_reducible rfl | assumption
  simp only [Act.put, List.setIfInBounds_toArray, List.set_cons_zero, List.set_cons_succ]
  repeat (first
    | (refine RelSeq.pure_ (c := ?_) rfl rfl ?_ ?_; rotate_left; (focus (intro x w'; dsimp only; go_simp; (repeat' apply And.intro) <;> first | with_reducible rfl | assumption)); simp only [Act.put, List.setIfInBounds_toArray, List.set_cons_zero, List.set_cons_succ])
    | (refine RelSeq.grow_ (c := ?_) rfl rfl ?_ ?_; rotate_left; (focus (intro x w' hw _; dsimp only; obtain ⟨c0, c1, c2, c3, c4, c5⟩ := F w' hw; have hbr := Below.refl w'.heap.size w'; go_simp; (repeat' apply And.intro) <;> first | with_reducible rfl | assumption)); simp only [Act.put, List.setIfInBounds_toArray, List.set_cons_zero, List.set_cons_succ]))
  -- the alert's own variable, and the store into it
  refine RelSeq.rel_ (NewPt (w.heap.size + 2) 0 #[.int .u8 0, .string ⟨#[]⟩, .slice none 0 0, .int .u8 0, .int .u64 0, .int .u8 0, .int .i64 0] 37) rfl rfl NewPt.stable ?_ ?_
  focus
    intro x w' hw _; dsimp only
    have hba : Below w'.heap.size w' (w'.alloc (.cells #[.int .u8 0, .string ⟨#[]⟩, .slice none 0 0, .int .u8 0, .int .u64 0, .int .u8 0, .int .i64 0] 37)) := (Below.refl _ _).alloc (Nat.le_refl _) _
    have hI := (S w' _ hw hba).1
    have hsz : w.heap.size + 2 ≤ w'.heap.size := ((S w' w' hw (Below.refl _ _)).2.2 _ (.head _)).lt
    go_simp
    (repeat' apply And.intro) <;> first | assumption | exact ⟨_, rfl, hsz, Blk.new _ _ _⟩
  simp only [Act.put, List.setIfInBounds_toArray, List.set_cons_zero, List.set_cons_succ, List.nil_append, List.cons_append]
  refine RelSeq.nil_ fun x w1 hw hf => ?_
  obtain ⟨b, e, hb0, hB⟩ := hf _ (.tail _ (.tail _ (.tail _ (.tail _ (.head _)))))
  have hH := (S w1 w1 hw (Below.refl _ _)).2
  have hb1 : w.heap.size ≤ b := by omega
  clear hf F S hw
  refine TailSeq.cons_ rfl ?_
  have c0 := hB.cell (j := 0) rfl
  have c1 := hB.cell (j := 1) rfl
  have c2 := hB.cell (j := 2) rfl
  have c3 := hB.cell (j := 3) rfl
  have c4 := hB.cell (j := 4) rfl
  have c5 := hB.cell (j := 5) rfl
  have c6 := hB.cell (j := 6) rfl
  have f0 := hB.frozen
  dsimp only
  go_simp
  refine TailSeq.nil_gen fun w2 hw2 => ?_
  have hB2 : Blk w2 b #[.int .u8 o3, .string (ruleB r), .slice none 0 0, .int .u8 (stOf s), .int .u64 0, .int .u8 q8, .int .i64 A] 37 := by
    rw [hw2]
    have := ((((((hB.set_ 0 (.int .u8 o3)).set_ 1 (.string (ruleB r))).set_ 2 (.slice none 0 0)).set_ 3 (.int .u8 (stOf s))).set_ 4 (.int .u64 0)).set_ 5 (.int .u8 q8)).set_ 6 (.int .i64 A)
    simpa using this
  have hb2 : Below w.heap.size w w2 := by
    rw [hw2]
    exact ((((((hH.1.setCell (p := ⟨b, 0, none⟩) hb1 _).setCell (p := ⟨b, 1, none⟩) hb1 _).setCell (p := ⟨b, 2, none⟩) hb1 _).setCell (p := ⟨b, 3, none⟩) hb1 _).setCell (p := ⟨b, 4, none⟩) hb1 _).setCell (p := ⟨b, 5, none⟩) hb1 _).setCell (p := ⟨b, 6, none⟩) hb1 _
  have hbw : b ≠ w.heap.size := by omega
  have hbw1 : b ≠ w.heap.size + 1 := by omega
  have hB0 : Blk w2 w.heap.size #[.int .u8 o, .int .u8 r, .int .u8 A, .int .u8 B, .int .u8 N, .int .u8 s] 32 := by
    have h1 : Blk w1 w.heap.size #[.int .u8 o, .int .u8 r, .int .u8 A, .int .u8 B, .int .u8 N, .int .u8 s] 32 := hH.2 _ (.tail _ (.head _))
    rw [hw2]
    exact ((((((h1.far (p := ⟨b, 0, none⟩) hbw.symm _).far (p := ⟨b, 1, none⟩) hbw.symm _).far (p := ⟨b, 2, none⟩) hbw.symm _).far (p := ⟨b, 3, none⟩) hbw.symm _).far (p := ⟨b, 4, none⟩) hbw.symm _).far (p := ⟨b, 5, none⟩) hbw.symm _).far (p := ⟨b, 6, none⟩) hbw.symm _
  have hB1 : Blk w2 (w.heap.size + 1) #[.int .u8 0, .string ⟨#[]⟩, .slice none 0 0, .int .u8 0, .int .u64 0, .int .u8 0, .int .i64 0] 37 := by
    have h1 : Blk w1 (w.heap.size + 1) #[.int .u8 0, .string ⟨#[]⟩, .slice none 0 0, .int .u8 0, .int .u64 0, .int .u8 0, .int .i64 0] 37 := hH.2 _ (.head _)
    rw [hw2]
    exact ((((((h1.far (p := ⟨b, 0, none⟩) hbw1.symm _).far (p := ⟨b, 1, none⟩) hbw1.symm _).far (p := ⟨b, 2, none⟩) hbw1.symm _).far (p := ⟨b, 3, none⟩) hbw1.symm _).far (p := ⟨b, 4, none⟩) hbw1.symm _).far (p := ⟨b, 5, none⟩) hbw1.symm _).far (p := ⟨b, 6, none⟩) hbw1.symm _
  clear hw2 hB hH c0 c1 c2 c3 c4 c5 c6 f0
  have c2 := hB0.cell (j := 2) (v := .int .u8 A) rfl
  have c3 := hB0.cell (j := 3) (v := .int .u8 B) rfl
  have c4 := hB0.cell (j := 4) (v := .int .u8 N) rfl
  go_wp2_with fail
  generalize hL : [A, B, N] = L
  have hcells : ∀ (k n : Nat), L[k]? = some n → (#[Value.int .u8 A, .int .u8 B, .int .u8 N] : Array Value)[k]? = some (Value.int .u8 (n : Nat)) ∧ n < 256 := by
    intro k n hn
    rw [← hL] at hn
    match k, hn with
    | 0, hn => simp at hn; subst hn; exact ⟨rfl, hA⟩
    | 1, hn => simp at hn; subst hn; exact ⟨rfl, hB⟩
    | 2, hn => simp at hn; subst hn; exact ⟨rfl, hN⟩
    | k + 3, hn => simp at hn
  have hlen : L.length = 3 := by rw [← hL]; rfl
  have HL := Lib.hid hL; have HC := Lib.hid hcells; have HN := Lib.hid hlen
  clear hL hcells hlen c2 c3 c4
  go_loopw [37] (fun i wr => ∃ k lv, k ≤ 3 ∧ i = .int .i64 (k : Nat) ∧ wr.ownsRow w.heap.size 71 2 lv (smallL (L.take k)).length (pairCells (smallL (L.take k))) ∧
      Blk wr b #[.int .u8 o3, .string (ruleB r), lv, .int .u8 (stOf s), .int .u64 0, .int .u8 q8, .int .i64 A] 37 ∧ Blk wr w2.heap.size #[.int .u8 A, .int .u8 B, .int .u8 N] 5 ∧
      Blk wr (w.heap.size + 1) #[.int .u8 0, .string ⟨#[]⟩, .slice none 0 0, .int .u8 0, .int .u64 0, .int .u8 0, .int .i64 0] 37 ∧ Below w.heap.size w wr)
    (fun i _ => 3 - (intOf i).toNat)
  case atStart =>
    exact ⟨0, _, Nat.zero_le _, rfl, World.ownsRow_nil _ _ _ _, hB2.alloc _, Blk.new _ _ _, hB1.alloc _, hb2.alloc hb2.size _⟩
  case round =>
    obtain ⟨k, lv, hk, rfl, hown, hBb, hB5, hBr, hbe⟩ := hrel
    by_cases hlt : k < 3
    · obtain ⟨n, hn⟩ : ∃ n, L[k]? = some n := ⟨_, List.getElem?_eq_getElem (by rw [HN.out]; exact hlt)⟩
      obtain ⟨hcl, hn256⟩ := HC.out k n hn
      have c0 := hB5.cell hcl
      obtain ⟨n3, hn3⟩ : ∃ m, m = n % 3 := ⟨_, rfl⟩
      have tn : (n : Int).tmod 3 = (n3 : Int) := by rw [hn3]; rfl
      have hsucc := smallL_succ L k n hn
      clear hcl
      by_cases h0 : n3 = 0
      · have Hs := Lib.hid (show smallL (L.take (k + 1)) = smallL (L.take k) by rw [hsucc, if_pos (by omega)]; simp)
        have h00 : (n3 : Int) ≤ 0 := by omega
        have Hn := Lib.hid hn3; clear hn3 hsucc h0 hn
        go_wp2_with fail
        go_roundw
        case rel => exact ⟨k + 1, lv, by omega, by go_num, by rw [Hs.out]; exact hown, hBb, hB5, hBr, hbe⟩
        case measure => simp [intOf]; omega
      · have Hs := Lib.hid (show smallL (L.take (k + 1)) = smallL (L.take k) ++ [(keyB k, valB n)] by rw [hsucc, if_neg (by omega)])
        have h00 : (0 : Int) < (n3 : Int) := by omega
        have n3lt : (n3 : Int) < 3 := by omega
        have Hn := Lib.hid hn3; clear hn3 hsucc h0 hn
        go_wp2_with fail
        obtain ⟨Inv, I0, F, S⟩ : ∃ Inv : World → Prop, Inv wr.drew ∧ (∀ w', Inv w' → w'.cell? ⟨b, 2, none⟩ = some lv) ∧
            (∀ w' w'', Inv w' → Below w'.heap.size w' w'' → Inv w'' ∧ w.heap.size ≤ w''.heap.size) ∧ (∀ w', Inv w' → Below wr.heap.size wr w') := by
          refine ⟨fun w' => Below wr.heap.size wr w', (Below.refl _ _).drew, fun w' h => (hBb.below h hBb.lt).cell rfl, fun w' w'' h hb => ⟨h.trans (hb.mono h.size), ?_⟩, fun _ h => h⟩
          have := hbe.size; have := h.size; have := hb.size; omega
        obtain ⟨S, S2⟩ := S
        have hkey := key_at k hlt
        have hval := val_at n n3 Hn.out
        have k3 : (k : Int) < 3 := by omega
        refine region_free Inv [2, 4, 5, 6, 9, 10, 12] [13, 15] [0, 1, 2, 3, 4, 5, 6, 7, 8, 9, 10, 11, 12, 14] (by kernel_rfl) (by kernel_rfl) (by kernel_rfl) I0 ?_
        clear I0
        repeat (first
          | (refine RelSeq.pure_ (c := ?_) rfl rfl ?_ ?_; rotate_left; (focus (intro x w'; dsimp only; go_simp; (repeat' apply And.intro) <;> first | with_reducible rfl | assumption)); simp only [Act.put, List.setIfInBounds_toArray, List.set_cons_zero, List.set_cons_succ])
          | (refine RelSeq.grow_ (c := ?_) rfl rfl ?_ ?_; rotate_left; (focus (intro x w' hw _; dsimp only; obtain c2 := F w' hw; have hbr := Below.refl w'.heap.size w'; go_simp; (repeat' apply And.intro) <;> first | with_reducible rfl | assumption)); simp only [Act.put, List.setIfInBounds_toArray, List.set_cons_zero, List.set_cons_succ]))
        refine RelSeq.rel_ (NewSl w.heap.size 3 #[.string ⟨#[97]⟩, .string ⟨#[98]⟩, .string ⟨#[110, 111, 100, 101]⟩] 9) rfl rfl NewSl.stable ?_ ?_
        focus
          intro x w' hw _; dsimp only
          have hba : Below w'.heap.size w' (w'.alloc (.cells #[.string ⟨#[97]⟩, .string ⟨#[98]⟩, .string ⟨#[110, 111, 100, 101]⟩] 9)) := (Below.refl _ _).alloc (Nat.le_refl _) _
          have hI := (S w' _ hw hba).1
          have hsz := (S w' w' hw (Below.refl _ _)).2
          go_simp
          (repeat' apply And.intro) <;> first | assumption | exact ⟨_, rfl, hsz, Blk.new _ _ _⟩
        simp only [Act.put, List.setIfInBounds_toArray, List.set_cons_zero, List.set_cons_succ, List.nil_append]
        repeat (first
          | (refine RelSeq.pure_ (c := ?_) rfl rfl ?_ ?_; rotate_left; (focus (intro x w'; dsimp only; go_simp; (repeat' apply And.intro) <;> first | with_reducible rfl | assumption)); simp only [Act.put, List.setIfInBounds_toArray, List.set_cons_zero, List.set_cons_succ])
          | (refine RelSeq.grow_ (c := ?_) rfl rfl ?_ ?_; rotate_left; (focus (intro x w' hw _; dsimp only; obtain c2 := F w' hw; have hbr := Below.refl w'.heap.size w'; go_simp; (repeat' apply And.intro) <;> first | with_reducible rfl | assumption)); simp only [Act.put, List.setIfInBounds_toArray, List.set_cons_zero, List.set_cons_succ]))
        refine RelSeq.rel_ (NewPt w.heap.size k #[.string ⟨#[97]⟩, .string ⟨#[98]⟩, .string ⟨#[110, 111, 100, 101]⟩] 9) rfl rfl NewPt.stable ?_ ?_
        focus
          intro x w' hw hf; dsimp only
          obtain ⟨b, e, hb0, hB⟩ := hf _ (.head _) (by kernel_rfl)
          have hbr := Below.refl w'.heap.size w'
          go_simp
          (repeat' apply And.intro) <;> first | assumption | exact ⟨b, rfl, hb0, hB⟩
        simp only [Act.put, List.setIfInBounds_toArray, List.set_cons_zero, List.set_cons_succ, List.nil_append, List.cons_append]
        refine RelSeq.grow_ (c := ?_) rfl rfl ?_ ?_; rotate_left
        focus
          intro x w' hw hf; dsimp only
          obtain ⟨b, e, hb0, hB⟩ := hf _ (.tail _ (.head _)) (by kernel_rfl)
          have c0 := hB.cell (hkey)
          clear hB
          have hbr := Below.refl w'.heap.size w'
          go_simp
          (repeat' apply And.intro) <;> first | with_reducible rfl | assumption
        simp only [Act.put, List.setIfInBounds_toArray, List.set_cons_zero, List.set_cons_succ]
        refine RelSeq.rel_ (NewSl w.heap.size 3 #[.string ⟨#[]⟩, .string ⟨#[120]⟩, .string ⟨#[121]⟩] 9) rfl rfl NewSl.stable ?_ ?_
        focus
          intro x w' hw _; dsimp only
          have hba : Below w'.heap.size w' (w'.alloc (.cells #[.string ⟨#[]⟩, .string ⟨#[120]⟩, .string ⟨#[121]⟩] 9)) := (Below.refl _ _).alloc (Nat.le_refl _) _
          have hI := (S w' _ hw hba).1
          have hsz := (S w' w' hw (Below.refl _ _)).2
          go_simp
          (repeat' apply And.intro) <;> first | assumption | exact ⟨_, rfl, hsz, Blk.new _ _ _⟩
        simp only [Act.put, List.setIfInBounds_toArray, List.set_cons_zero, List.set_cons_succ, List.nil_append, List.cons_append]
        repeat (first
          | (refine RelSeq.pure_ (c := ?_) rfl rfl ?_ ?_; rotate_left; (focus (intro x w'; dsimp only; go_simp; (repeat' apply And.intro) <;> first | with_reducible rfl | assumption)); simp only [Act.put, List.setIfInBounds_toArray, List.set_cons_zero, List.set_cons_succ])
          | (refine RelSeq.grow_ (c := ?_) rfl rfl ?_ ?_; rotate_left; (focus (intro x w' hw _; dsimp only; obtain c2 := F w' hw; have hbr := Below.refl w'.heap.size w'; go_simp; (repeat' apply And.intro) <;> first | with_reducible rfl | assumption)); simp only [Act.put, List.setIfInBounds_toArray, List.set_cons_zero, List.set_cons_succ]))
        refine RelSeq.rel_ (NewPt w.heap.size n3 #[.string ⟨#[]⟩, .string ⟨#[120]⟩, .string ⟨#[121]⟩] 9) rfl rfl NewPt.stable ?_ ?_
        focus
          intro x w' hw hf; dsimp only
          obtain ⟨b, e, hb0, hB⟩ := hf _ (.tail _ (.tail _ (.head _))) (by kernel_rfl)
          have hbr := Below.refl w'.heap.size w'
          go_simp
          (repeat' apply And.intro) <;> first | assumption | exact ⟨b, rfl, hb0, hB⟩
        simp only [Act.put, List.setIfInBounds_toArray, List.set_cons_zero, List.set_cons_succ, List.nil_append, List.cons_append]
        refine RelSeq.grow_ (c := ?_) rfl rfl ?_ ?_; rotate_left
        focus
          intro x w' hw hf; dsimp only
          obtain ⟨b, e, hb0, hB⟩ := hf _ (.tail _ (.tail _ (.tail _ (.head _)))) (by kernel_rfl)
          have c0 := hB.cell (hval)
          clear hB
          have hbr := Below.refl w'.heap.size w'
          go_simp
          (repeat' apply And.intro) <;> first | with_reducible rfl | assumption
        simp only [Act.put, List.setIfInBounds_toArray, List.set_cons_zero, List.set_cons_succ]
        repeat (first
          | (refine RelSeq.pure_ (c := ?_) rfl rfl ?_ ?_; rotate_left; (focus (intro x w'; dsimp only; go_simp; (repeat' apply And.intro) <;> first | with_reducible rfl | assumption)); simp only [Act.put, List.setIfInBounds_toArray, List.set_cons_zero, List.set_cons_succ])
          | (refine RelSeq.grow_ (c := ?_) rfl rfl ?_ ?_; rotate_left; (focus (intro x w' hw _; dsimp only; obtain c2 := F w' hw; have hbr := Below.refl w'.heap.size w'; go_simp; (repeat' apply And.intro) <;> first | with_reducible rfl | assumption)); simp only [Act.put, List.setIfInBounds_toArray, List.set_cons_zero, List.set_cons_succ]))
        refine RelSeq.rel_ (NewSl w.heap.size 1 #[.string (keyB k), .string (valB n)] 71) rfl rfl NewSl.stable ?_ ?_
        focus
          intro x w' hw _; dsimp only
          have hba : Below w'.heap.size w' (w'.alloc (.cells #[.string (keyB k), .string (valB n)] 71)) := (Below.refl _ _).alloc (Nat.le_refl _) _
          have hI := (S w' _ hw hba).1
          have hsz := (S w' w' hw (Below.refl _ _)).2
          go_simp
          (repeat' apply And.intro) <;> first | assumption | exact ⟨_, rfl, hsz, Blk.new _ _ _⟩
        simp only [Act.put, List.setIfInBounds_toArray, List.set_cons_zero, List.set_cons_succ, List.nil_append, List.cons_append]
        repeat (first
          | (refine RelSeq.pure_ (c := ?_) rfl rfl ?_ ?_; rotate_left; (focus (intro x w'; dsimp only; go_simp; (repeat' apply And.intro) <;> first | with_reducible rfl | assumption)); simp only [Act.put, List.setIfInBounds_toArray, List.set_cons_zero, List.set_cons_succ])
          | (refine RelSeq.grow_ (c := ?_) rfl rfl ?_ ?_; rotate_left; (focus (intro x w' hw _; dsimp only; obtain c2 := F w' hw; have hbr := Below.refl w'.heap.size w'; go_simp; (repeat' apply And.intro) <;> first | with_reducible rfl | assumption)); simp only [Act.put, List.setIfInBounds_toArray, List.set_cons_zero, List.set_cons_succ]))
        refine RelSeq.nil_ fun y w3 hw hf => ?_
        obtain ⟨b57, e57, hb57, hB57⟩ := hf _ (.tail _ (.tail _ (.tail _ (.tail _ (.head _)))))
        have hb3 := S2 w3 hw
        clear hf F S S2 hw
        refine TailSeq.cons_ rfl ?_
        have hown3 := owns_below hown hb3
        have hBb3 := hBb.below hb3 hBb.lt
        have hl3 : (smallL (L.take k)).length ≤ 3 := Nat.le_trans (smallL_len _) (by rw [List.length_take]; omega)
        refine wp_append_new (.tmp 46) (.tmp 57) 33 rfl w.heap.size 71 i0 _ 2 32 Tryz.underlying33 hi hz0 hz1 hz2 rfl (by decide) lv _ _ rfl hown3 b57 1 1 [.string (keyB k), .string (valB n)] (by exact e57) rfl ?_ ?_ ?_ ?_ ?_ ?_
        · intro j u hj
          match j, hj with
          | 0, hj => simp at hj; subst hj; exact hB57.cell rfl
          | 1, hj => simp at hj; subst hj; exact hB57.cell rfl
          | j + 2, hj => simp at hj
        · intro u hu; simp at hu; rcases hu with rfl | rfl <;> rfl
        · unfold maxLen; omega
        · omega
        · have := hbe.size; have := hb3.size; omega
        intro v' w4 hown4 hgrow hat
        refine ⟨rfl, ?_⟩
        have hBb4 := hBb3.grown hgrow (owns_ne hown3 hBb3 (by decide))
        have hB54 := (hB5.below hb3 hB5.lt).grown hgrow (owns_ne hown3 (hB5.below hb3 hB5.lt) (by decide))
        have hBr4 := (hBr.below hb3 hBr.lt).grown hgrow (owns_ne hown3 (hBr.below hb3 hBr.lt) (by decide))
        have hbe3 : Below w.heap.size w w3 := hbe.trans (hb3.mono hbe.size)
        have hbe4 : Below w.heap.size w w4 := hbe3.grown hgrow hbe3.size (fun q hq => (hown3.lt q hq).1)
        clear hBb3 hgrow hat hB57 e57
        simp only [out, Act.put, List.setIfInBounds_toArray, List.set_cons_zero, List.set_cons_succ]
        refine TailSeq.cons_ rfl ?_
        have d2 := hBb4.cell (j := 2) (v := lv) rfl
        have f2 := hBb4.frozen 2
        obtain ⟨A4, cap4, rfl⟩ := owns_slice hown4
        go_simp
        refine TailSeq.nil_gen fun w5 hw5 => ?_
        have hB6 : Blk w5 b #[.int .u8 o3, .string (ruleB r), .slice A4 ((smallL (L.take k)).length + 1) cap4, .int .u8 (stOf s), .int .u64 0, .int .u8 q8, .int .i64 A] 37 := by
          rw [hw5]
          have := hBb4.set_ 2 (.slice A4 ((smallL (L.take k)).length + 1) cap4)
          simpa using this
        have hown5 := owns_set hown4 hBb4 (by decide) 2 (.slice A4 ((smallL (L.take k)).length + 1) cap4)
        rw [← hw5] at hown5
        have hB55 : Blk w5 w2.heap.size #[.int .u8 A, .int .u8 B, .int .u8 N] 5 := by
          rw [hw5]; exact hB54.far (p := ⟨b, 2, none⟩) (hB54.ne_ hBb4 (by decide)) _
        have hBr5 : Blk w5 (w.heap.size + 1) #[.int .u8 0, .string ⟨#[]⟩, .slice none 0 0, .int .u8 0, .int .u64 0, .int .u8 0, .int .i64 0] 37 := by
          rw [hw5]; exact hBr4.far (p := ⟨b, 2, none⟩) hbw1.symm _
        have hbe5 : Below w.heap.size w w5 := by rw [hw5]; exact hbe4.setCell (p := ⟨b, 2, none⟩) hb1 _
        clear hw5 hBb4 hown4 hB54 hBr4 hbe4 d2 f2 hown hown3 hBb hB5 hBr hbe hbe3 hb3
        go_wp2_with fail
        go_roundw
        case rel =>
          refine ⟨k + 1, .slice A4 ((smallL (L.take k)).length + 1) cap4, by omega, by go_num, ?_, hB6, hB55, hBr5, hbe5⟩
          rw [Hs.out, List.length_append, pairCells_append]
          exact hown5
        case measure => simp [intOf]; omega
    · have hk3 : k = 3 := by omega
      have hfull : L.take k = [A, B, N] := by rw [hk3, ← HL.out]; rfl
      have hown' : wr.ownsRow w.heap.size 71 2 lv (smallL [A, B, N]).length (pairCells (smallL [A, B, N])) := by rw [← hfull]; exact hown
      clear hown hfull hk3
      have a0 := hBb.cell (j := 0) (v := .int .u8 o3) rfl
      have a1 := hBb.cell (j := 1) (v := .string (ruleB r)) rfl
      have a2 := hBb.cell (j := 2) (v := lv) rfl
      have a3 := hBb.cell (j := 3) (v := .int .u8 (stOf s)) rfl
      have a4 := hBb.cell (j := 4) (v := .int .u64 0) rfl
      have a5 := hBb.cell (j := 5) (v := .int .u8 q8) rfl
      have a6 := hBb.cell (j := 6) (v := .int .i64 A) rfl
      have r0 := hBr.cell (j := 0) (v := .int .u8 0) rfl
      have r1 := hBr.cell (j := 1) (v := .string ⟨#[]⟩) rfl
      have r2 := hBr.cell (j := 2) (v := .slice none 0 0) rfl
      have r3' := hBr.cell (j := 3) (v := .int .u8 0) rfl
      have r4 := hBr.cell (j := 4) (v := .int .u64 0) rfl
      have r5 := hBr.cell (j := 5) (v := .int .u8 0) rfl
      have r6 := hBr.cell (j := 6) (v := .int .i64 0) rfl
      have fr := hBr.frozen
      obtain ⟨A4, cap4, rfl⟩ := owns_slice hown'
      go_wp2_with fail
      refine bodyPost_gen fun w6 hw6 => ?_
      have hBo : Blk w6 (w.heap.size + 1) #[.int .u8 o3, .string (ruleB r), .slice A4 (smallL [A, B, N]).length cap4, .int .u8 (stOf s), .int .u64 0, .int .u8 q8, .int .i64 A] 37 := by
        rw [hw6]
        have := ((((((hBr.set_ 0 (.int .u8 o3)).set_ 1 (.string (ruleB r))).set_ 2 (.slice A4 (smallL [A, B, N]).length cap4)).set_ 3 (.int .u8 (stOf s))).set_ 4 (.int .u64 0)).set_ 5 (.int .u8 q8)).set_ 6 (.int .i64 A)
        simpa using this
      have hb6 : Below w.heap.size w w6 := by
        rw [hw6]
        exact ((((((hbe.setCell (p := ⟨w.heap.size + 1, 0, none⟩) (Nat.le_succ _) _).setCell (p := ⟨w.heap.size + 1, 1, none⟩) (Nat.le_succ _) _).setCell (p := ⟨w.heap.size + 1, 2, none⟩) (Nat.le_succ _) _).setCell (p := ⟨w.heap.size + 1, 3, none⟩) (Nat.le_succ _) _).setCell (p := ⟨w.heap.size + 1, 4, none⟩) (Nat.le_succ _) _).setCell (p := ⟨w.heap.size + 1, 5, none⟩) (Nat.le_succ _) _).setCell (p := ⟨w.heap.size + 1, 6, none⟩) (Nat.le_succ _) _
      have hrw : w6.ownsRow w.heap.size 71 2 (.slice A4 (smallL [A, B, N]).length cap4) (smallL [A, B, N]).length (pairCells (smallL [A, B, N])) := by
        rw [hw6]
        have e1 := owns_set hown' hBr (by decide) 0 (.int .u8 o3)
        have b1 := hBr.set_ 0 (.int .u8 o3)
        have e2 := owns_set e1 b1 (by decide) 1 (.string (ruleB r))
        have b2 := b1.set_ 1 (.string (ruleB r))
        have e3 := owns_set e2 b2 (by decide) 2 (.slice A4 (smallL [A, B, N]).length cap4)
        have b3 := b2.set_ 2 (.slice A4 (smallL [A, B, N]).length cap4)
        have e4 := owns_set e3 b3 (by decide) 3 (.int .u8 (stOf s))
        have b4 := b3.set_ 3 (.int .u8 (stOf s))
        have e5 := owns_set e4 b4 (by decide) 4 (.int .u64 0)
        have b5 := b4.set_ 4 (.int .u64 0)
        have e6 := owns_set e5 b5 (by decide) 5 (.int .u8 q8)
        have b6 := b5.set_ 5 (.int .u8 q8)
        exact owns_set e6 b6 (by decide) 6 (.int .i64 A)
      have e3 := Ho.out; subst e3
      have e8 := Hq.out; subst e8
      have e4 := Hq4.out; subst e4
      clear hw6 a0 a1 a2 a3 a4 a5 a6 r0 r1 r2 r3' r4 r5 r6 fr
      have a0 := hBo.cell (j := 0) (v := .int .u8 (o % 3 : Nat)) rfl
      have a1 := hBo.cell (j := 1) (v := .string (ruleB r)) rfl
      have a2 := hBo.cell (j := 2) (v := .slice A4 (smallL [A, B, N]).length cap4) rfl
      have a3 := hBo.cell (j := 3) (v := .int .u8 (stOf s)) rfl
      have a4 := hBo.cell (j := 4) (v := .int .u64 0) rfl
      have a5 := hBo.cell (j := 5) (v := .int .u8 (s / 4 % 8 : Nat)) rfl
      have a6 := hBo.cell (j := 6) (v := .int .i64 A) rfl
      refine bodyPost_ret (v := .agg #[.int .u8 (o % 3 : Nat), .string (ruleB r), .slice A4 (smallL [A, B, N]).length cap4, .int .u8 (stOf s), .int .u64 0, .int .u8 (s / 4 % 8 : Nat), .int .i64 A]) ?_ rfl ⟨_, rfl, hrw, hb6⟩
      simp [results, Tryz.results9, go_sem, a0, a1, a2, a3, a4, a5, a6]
theorem smallAlert (o r A B N s : Nat) (_ho : o < 256) (_hr : r < 256) (hA : A < 256) (hB : B < 256) (hN : N < 256) (hs : s < 256) (w : World) :
    Calls Tryz.prog 9 #[.agg #[.int .u8 o, .int .u8 r, .int .u8 A, .int .u8 B, .int .u8 N, .int .u8 s]] w fun e w' =>
      ∃ lv, e = .returned (.agg #[.int .u8 (o % 3 : Nat), .string (ruleB r), lv, .int .u8 (stOf s), .int .u64 0, .int .u8 (s / 4 % 8 : Nat), .int .i64 A]) ∧
        Rd w' 2 lv (smallL [A, B, N]).length (pairCells (smallL [A, B, N])) ∧ Below w.heap.size w w' :=
  (smallAlertO o r A B N s _ho _hr hA hB hN hs w).mono fun _ _ ⟨lv, h1, h2, h3⟩ => ⟨lv, h1, rd_of_owns h2, h3⟩
end Go.Proofs.YteiocplfmjkbkaaGreatDoor
