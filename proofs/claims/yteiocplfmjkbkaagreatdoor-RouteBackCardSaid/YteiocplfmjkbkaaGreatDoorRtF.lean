/-
  Plain: which nodes of a tree tell of an alert; how deep a node lies.
-/
import Derived.Test.YteiocplfmjkbkaaGreatDoorRt5
namespace Go.Proofs.YteiocplfmjkbkaaGreatDoor
open Go.RowKit
set_option maxRecDepth 100000

/-- A node of a tree. -/
structure RN where
  asks : List Aq
  tgt : ByteArray
  bys : List ByteArray
  wait : Nat
  between : Nat
  again : Nat
  more : Bool
  above : Int
/-- A node with its slices' values. -/
structure RNV where
  p : RN
  va : Value
  vb : Value
def rn8 (n : RNV) : List Value := [n.va, .string n.p.tgt, n.vb, .int .u64 (n.p.wait : Nat), .int .u64 (n.p.between : Nat), .int .u64 (n.p.again : Nat), .bool n.p.more, .int .i64 n.p.above]
theorem rn8_len (n : RNV) : (rn8 n).length = 8 := rfl
/-- the nodes below one, from a place on -/
def loopT (ns : List RN) (hold : RN → Bool) (rec : Nat → List Nat) (a : Nat) : Nat → Nat → List Nat
  | 0, _ => []
  | k + 1, i => match ns[i]? with
    | none => []
    | some n => if n.above = (a : Int) ∧ hold n = true then rec i ++ (if n.more = true then loopT ns hold rec a k (i + 1) else []) else loopT ns hold rec a k (i + 1)
def orAt (a : Nat) (o : List Nat) : List Nat := if o = [] then [a] else o
/-- which nodes tell: below a node that takes it -/
def findT (ns : List RN) (hold : RN → Bool) : Nat → Nat → List Nat
  | 0, a => [a]
  | f + 1, a => orAt a (loopT ns hold (findT ns hold f) a (ns.length - (a + 1)) (a + 1))
theorem orAt_ne (a : Nat) (o : List Nat) : orAt a o ≠ [] := by
  unfold orAt
  split
  · simp
  · assumption
theorem findT_ne (ns : List RN) (hold : RN → Bool) (f a : Nat) : findT ns hold f a ≠ [] := by
  cases f with
  | zero => simp [findT]
  | succ f => exact orAt_ne _ _
theorem loopT_len (ns : List RN) (hold : RN → Bool) (rec : Nat → List Nat) (a : Nat) (hr : ∀ i, a < i → i < ns.length → (rec i).length ≤ 2 ^ (ns.length - 1 - i)) : ∀ k i, a < i → k = ns.length - i → (loopT ns hold rec a k i).length + 1 ≤ 2 ^ k := by
  intro k
  induction k with
  | zero => intro i _ _; simp [loopT]
  | succ k ih =>
    intro i ha hk
    have h1 := ih (i + 1) (by omega) (by omega)
    have h0 : 1 ≤ 2 ^ k := Nat.one_le_two_pow
    have e2 : 2 ^ (k + 1) = 2 ^ k + 2 ^ k := by rw [Nat.pow_succ]; omega
    unfold loopT
    cases hn : ns[i]? with
    | none => simp; omega
    | some n =>
      have hi : i < ns.length := (List.getElem?_eq_some_iff.1 hn).1
      have h2 := hr i ha hi
      rw [show ns.length - 1 - i = k by omega] at h2
      dsimp only
      split
      · rw [List.length_append]
        split
        · omega
        · simp; omega
      · omega
theorem findT_len (ns : List RN) (hold : RN → Bool) : ∀ f a, a < ns.length → ns.length ≤ a + f + 1 → (findT ns hold f a).length ≤ 2 ^ (ns.length - 1 - a) := by
  intro f
  induction f with
  | zero => intro a ha hf; rw [show ns.length - 1 - a = 0 by omega]; simp [findT]
  | succ f ih =>
    intro a ha hf
    have h := loopT_len ns hold (findT ns hold f) a (fun i h1 h2 => ih i h2 (by omega)) (ns.length - (a + 1)) (a + 1) (by omega) rfl
    rw [show ns.length - (a + 1) = ns.length - 1 - a by omega] at h
    unfold findT orAt
    rw [show ns.length - (a + 1) = ns.length - 1 - a by omega]
    split
    · simp only [List.length_cons, List.length_nil]; exact Nat.one_le_two_pow
    · omega
/-- A loop's step. -/
theorem loopT_take {ns : List RN} {hold : RN → Bool} {rec : Nat → List Nat} {a k i : Nat} {n : RN} (hn : ns[i]? = some n) (h1 : n.above = (a : Int)) (h2 : hold n = true) : loopT ns hold rec a (k + 1) i = rec i ++ (if n.more = true then loopT ns hold rec a k (i + 1) else []) := by
  rw [loopT, hn]; dsimp only; rw [if_pos ⟨h1, h2⟩]
theorem loopT_skip {ns : List RN} {hold : RN → Bool} {rec : Nat → List Nat} {a k i : Nat} {n : RN} (hn : ns[i]? = some n) (h : ¬ (n.above = (a : Int) ∧ hold n = true)) : loopT ns hold rec a (k + 1) i = loopT ns hold rec a k (i + 1) := by
  rw [loopT, hn]; dsimp only; rw [if_neg h]
end Go.Proofs.YteiocplfmjkbkaaGreatDoor
