/-
  An act of the disk's law: its cells; its name.
-/
import Derived.Test.YtdjdhakmigofmaaDCopy
import Derived.Test.YtdjdhakmigofmaaCrashN
namespace Go.Proofs.Ytdjdhakmigofmaa
open Go.RowKit FreeNew
set_option maxRecDepth 100000
attribute [local go_sem] out

/-- A name of few. -/
def nm4 (q : Nat) : ByteArray := if q = 0 then ⟨#[97]⟩ else if q = 1 then ⟨#[98]⟩ else if q = 2 then ⟨#[115, 46, 49]⟩ else ⟨#[110, 101, 119]⟩
theorem nm4_size (q : Nat) : (nm4 q).size ≤ 3 := by
  unfold nm4
  split
  · decide
  split
  · decide
  split <;> decide
theorem nm4_word (q : Nat) : wordB (nm4 q) 16 true = true := by
  unfold nm4
  split
  · decide
  split
  · decide
  split <;> decide
structure ActV where
  kind : Nat
  a : Nat
  b : Nat
  bv : Value
  bytes : List UInt8
  n : Int
  name : ByteArray
  raw : Bool
  tv : Value
  tears : List (Nat × Nat)
def actCells (x : ActV) : List Value := [.int .u8 x.kind, .int .u8 x.a, .int .u8 x.b, x.bv, .int .i64 x.n, .string x.name, .bool x.raw, x.tv]
def ActV.ok (x : ActV) (w : World) : Prop := x.kind < 256 ∧ x.a < 256 ∧ x.b < 256 ∧ Rd w 1 x.bv x.bytes.length (u8L x.bytes) ∧ -9223372036854775808 ≤ x.n ∧ x.n ≤ 9223372036854775807 ∧ x.name.size ≤ maxLen ∧ Rd w 2 x.tv x.tears.length (tearCells x.tears) ∧ ∀ t ∈ x.tears, t.1 < 65536 ∧ t.2 < 65536

set_option maxHeartbeats 1000000 in
theorem actNameRaw (kind a b : Nat) (A1 : Option Addr) (n1 c1 : Nat) (n : Int) (nm : ByteArray) (A2 : Option Addr) (n2 c2 : Nat) (q : Nat) (w : World) :
    Calls Try.prog 15 #[.agg #[.int .u8 kind, .int .u8 a, .int .u8 b, .slice A1 n1 c1, .int .i64 n, .string nm, .bool true, .slice A2 n2 c2], .int .u8 q] w fun e w' => e = .returned (.string nm) ∧ Below w.heap.size w w' := by
  go_enter Try.func15, Try.ntmps15
  go_wp2_with fail
  go_ret
  exact ⟨rfl, (Below.refl _ _).alloc (Nat.le_refl _) _⟩
set_option maxHeartbeats 2000000 in
theorem actNameFew (kind a b : Nat) (A1 : Option Addr) (n1 c1 : Nat) (n : Int) (nm : ByteArray) (A2 : Option Addr) (n2 c2 : Nat) (q : Nat) (_hq : q < 256) (w : World) :
    Calls Try.prog 15 #[.agg #[.int .u8 kind, .int .u8 a, .int .u8 b, .slice A1 n1 c1, .int .i64 n, .string nm, .bool false, .slice A2 n2 c2], .int .u8 q] w fun e w' => e = .returned (.string (nm4 (q % 4))) ∧ Below w.heap.size w w' := by
  have h4 : q % 4 = 0 ∨ q % 4 = 1 ∨ q % 4 = 2 ∨ q % 4 = 3 := by omega
  rcases h4 with h4 | h4 | h4 | h4
  · have r1 : (q : Int).tmod 4 = 0 := by
      have : (q : Int).tmod 4 = ((q % 4 : Nat) : Int) := rfl
      rw [this, h4]; rfl
    have e : nm4 (q % 4) = ⟨#[97]⟩ := by rw [h4]; rfl
    rw [e]
    clear e h4
    go_enter Try.func15, Try.ntmps15
    go_wp2_with fail
    go_ret
    exact ⟨rfl, ((Below.refl _ _).alloc (Nat.le_refl _) _).alloc (by simp) _⟩
  · have r1 : (q : Int).tmod 4 = 1 := by
      have : (q : Int).tmod 4 = ((q % 4 : Nat) : Int) := rfl
      rw [this, h4]; rfl
    have e : nm4 (q % 4) = ⟨#[98]⟩ := by rw [h4]; rfl
    rw [e]
    clear e h4
    go_enter Try.func15, Try.ntmps15
    go_wp2_with fail
    go_ret
    exact ⟨rfl, ((Below.refl _ _).alloc (Nat.le_refl _) _).alloc (by simp) _⟩
  · have r1 : (q : Int).tmod 4 = 2 := by
      have : (q : Int).tmod 4 = ((q % 4 : Nat) : Int) := rfl
      rw [this, h4]; rfl
    have e : nm4 (q % 4) = ⟨#[115, 46, 49]⟩ := by rw [h4]; rfl
    rw [e]
    clear e h4
    go_enter Try.func15, Try.ntmps15
    go_wp2_with fail
    go_ret
    exact ⟨rfl, ((Below.refl _ _).alloc (Nat.le_refl _) _).alloc (by simp) _⟩
  · have r1 : (q : Int).tmod 4 = 3 := by
      have : (q : Int).tmod 4 = ((q % 4 : Nat) : Int) := rfl
      rw [this, h4]; rfl
    have e : nm4 (q % 4) = ⟨#[110, 101, 119]⟩ := by rw [h4]; rfl
    rw [e]
    clear e h4
    go_enter Try.func15, Try.ntmps15
    go_wp2_with fail
    go_ret
    exact ⟨rfl, ((Below.refl _ _).alloc (Nat.le_refl _) _).alloc (by simp) _⟩

theorem loadI64 (b j : Nat) (s : Int) (w : World) (hc : w.cell? ⟨b, j, none⟩ = some (.int .i64 s)) :
    Calls Try.prog 43 #[.pointer (some ⟨b, j, none⟩)] w fun e w' => e = .returned (.int .i64 s) ∧ w = w' := by
  have hld := run_call_load (P := Try.prog) Try.func53 (by kernel_rfl) (by kernel_rfl) (by kernel_rfl) .i64 (by kernel_rfl) hc
  go_enter Try.func43, Try.ntmps43
  go_wp2_with fail
  go_ret
  exact ⟨rfl, rfl⟩
set_option maxHeartbeats 1000000 in
theorem diskCounts (d : Nat) (m : Value) (a b : Int) (w : World) (hB : Blk w d #[m, .int .i64 a, .int .i64 b] 81) :
    Calls Try.prog 18 #[.pointer (some ⟨d, 0, none⟩)] w fun e w' => e = .returned (.tuple #[.int .i64 a, .int .i64 b]) ∧ Below w.heap.size w w' := by
  have F : ∀ w', Below w.heap.size w w' → w'.cell? ⟨d, 1, none⟩ = some (.int .i64 a) ∧ w'.cell? ⟨d, 2, none⟩ = some (.int .i64 b) := fun w' h => ⟨(hB.below h hB.lt).cell rfl, (hB.below h hB.lt).cell rfl⟩
  clear hB
  go_enter Try.func18, Try.ntmps18
  go_wp2_with fail
  refine region_free (fun w' => Below w.heap.size w w') [] [8, 9] [0, 1, 2, 3, 4, 5, 6, 7] (by kernel_rfl) (by kernel_rfl) (by kernel_rfl) ((Below.refl _ _).drew) ?_
  repeat (first
    | (refine RelSeq.pure_ (c := ?_) rfl rfl ?_ ?_; rotate_left; (focus (intro x w'; dsimp only; go_simp; (repeat' apply And.intro) <;> first | with_reducible rfl | assumption)); simp only [Act.put, List.setIfInBounds_toArray, List.set_cons_zero, List.set_cons_succ])
    | (refine RelSeq.skip_ rfl (fun _ => rfl) ?_; simp only [Act.put, List.setIfInBounds_toArray, List.set_cons_zero, List.set_cons_succ])
    | (refine RelSeq.pureG_ (c := ?_) rfl (fun _ => rfl) rfl ?_ ?_; rotate_left; (focus (intro x w'; dsimp only; go_simp; (repeat' apply And.intro) <;> first | with_reducible rfl | assumption)); simp only [Act.put, List.setIfInBounds_toArray, List.set_cons_zero, List.set_cons_succ])
    | (refine RelSeq.grow_ (c := ?_) rfl rfl ?_ ?_; rotate_left; (focus (intro x w' hw _; dsimp only; obtain ⟨d0, d1⟩ := F w' hw; have hbr := Below.refl w'.heap.size w'; go_simp; (repeat' apply And.intro) <;> first | with_reducible rfl | assumption)); simp only [Act.put, List.setIfInBounds_toArray, List.set_cons_zero, List.set_cons_succ])
    | (refine RelSeq.growG_ (c := ?_) rfl (fun _ => rfl) rfl ?_ ?_; rotate_left; (focus (intro x w' hw _; dsimp only; obtain ⟨d0, d1⟩ := F w' hw; have hbr := Below.refl w'.heap.size w'; go_simp; (repeat' apply And.intro) <;> first | with_reducible rfl | assumption)); simp only [Act.put, List.setIfInBounds_toArray, List.set_cons_zero, List.set_cons_succ]))
  refine RelSeq.grow_ (c := .int .i64 a) rfl rfl ?_ ?_
  focus
    intro x w' hw _; dsimp only
    obtain ⟨d0, d1⟩ := F w' hw
    have hbr := Below.refl w'.heap.size w'
    go_simp
    (with_reducible refine (loadI64 _ _ _ _ d0).mono ?_)
    rintro e w2 ⟨rfl, rfl⟩
    go_simp
    all_goals ((repeat' apply And.intro) <;> first | with_reducible rfl | assumption)
  simp only [Act.put, List.setIfInBounds_toArray, List.set_cons_zero, List.set_cons_succ]
  repeat (first
    | (refine RelSeq.pure_ (c := ?_) rfl rfl ?_ ?_; rotate_left; (focus (intro x w'; dsimp only; go_simp; (repeat' apply And.intro) <;> first | with_reducible rfl | assumption)); simp only [Act.put, List.setIfInBounds_toArray, List.set_cons_zero, List.set_cons_succ])
    | (refine RelSeq.skip_ rfl (fun _ => rfl) ?_; simp only [Act.put, List.setIfInBounds_toArray, List.set_cons_zero, List.set_cons_succ])
    | (refine RelSeq.pureG_ (c := ?_) rfl (fun _ => rfl) rfl ?_ ?_; rotate_left; (focus (intro x w'; dsimp only; go_simp; (repeat' apply And.intro) <;> first | with_reducible rfl | assumption)); simp only [Act.put, List.setIfInBounds_toArray, List.set_cons_zero, List.set_cons_succ])
    | (refine RelSeq.grow_ (c := ?_) rfl rfl ?_ ?_; rotate_left; (focus (intro x w' hw _; dsimp only; obtain ⟨d0, d1⟩ := F w' hw; have hbr := Below.refl w'.heap.size w'; go_simp; (repeat' apply And.intro) <;> first | with_reducible rfl | assumption)); simp only [Act.put, List.setIfInBounds_toArray, List.set_cons_zero, List.set_cons_succ])
    | (refine RelSeq.growG_ (c := ?_) rfl (fun _ => rfl) rfl ?_ ?_; rotate_left; (focus (intro x w' hw _; dsimp only; obtain ⟨d0, d1⟩ := F w' hw; have hbr := Below.refl w'.heap.size w'; go_simp; (repeat' apply And.intro) <;> first | with_reducible rfl | assumption)); simp only [Act.put, List.setIfInBounds_toArray, List.set_cons_zero, List.set_cons_succ]))
  refine RelSeq.grow_ (c := .int .i64 b) rfl rfl ?_ ?_
  focus
    intro x w' hw _; dsimp only
    obtain ⟨d0, d1⟩ := F w' hw
    have hbr := Below.refl w'.heap.size w'
    go_simp
    (with_reducible refine (loadI64 _ _ _ _ d1).mono ?_)
    rintro e w2 ⟨rfl, rfl⟩
    go_simp
    all_goals ((repeat' apply And.intro) <;> first | with_reducible rfl | assumption)
  simp only [Act.put, List.setIfInBounds_toArray, List.set_cons_zero, List.set_cons_succ]
  refine RelSeq.nil_ fun x w1 hw1 _ _ => ?_
  clear F
  refine TailSeq.cons_ rfl ?_
  go_simp
  refine TailSeq.cons_ rfl ?_
  go_simp
  refine TailSeq.nil_ ?_
  go_wp2_with fail
  go_ret2
  exact ⟨rfl, hw1⟩
end Go.Proofs.Ytdjdhakmigofmaa
