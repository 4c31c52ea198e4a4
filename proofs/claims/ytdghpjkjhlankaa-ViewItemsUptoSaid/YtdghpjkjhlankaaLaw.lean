/-
  The plain law: two small alerts' texts are alike just where the alerts are one and are known alike.
-/
import Derived.Test.YtdghpjkjhlankaaAlert
import Derived.Test.YtdghpjkjhlankaaOne
import Derived.Test.YtdghpjkjhlankaaTopo
namespace Go.Proofs.Ytdghpjkjhlankaa
open Go.RowKit
set_option maxRecDepth 100000

theorem sep_split {c : UInt8} : ∀ (a a' b b' : List UInt8), c ∉ a → c ∉ a' → a ++ c :: b = a' ++ c :: b' → a = a' ∧ b = b'
  | [], [], b, b', _, _, h => by simpa using h
  | [], y :: a', b, b', _, h2, h => by
    simp at h
    exact absurd h.1 (by simp at h2; exact h2.1)
  | x :: a, [], b, b', h1, _, h => by
    simp at h
    exact absurd h.1.symm (by simp at h1; exact h1.1)
  | x :: a, y :: a', b, b', h1, h2, h => by
    simp at h h1 h2
    obtain ⟨e, h⟩ := h
    obtain ⟨i, j⟩ := sep_split a a' b b' h1.2 h2.2 h
    exact ⟨by rw [e, i], j⟩

/-- A number back out of its digits. -/
def undec (l : List UInt8) : Nat := l.foldl (fun n c => n * 10 + (c.toNat - 48)) 0
theorem undec_decB : ∀ (k n : Nat), n < 10 ^ (k + 1) → undec (decB n).data.toList = n := by
  intro k
  induction k with
  | zero =>
    intro n h
    rw [decB_small n (by omega)]
    have : n ≤ 9 := by omega
    simp [undec, UInt8.toNat_ofNat]
    omega
  | succ k ih =>
    intro n h
    by_cases h9 : n ≤ 9
    · rw [decB_small n h9]
      simp [undec, UInt8.toNat_ofNat]
      omega
    · rw [decB_big n (by omega), decB_small (n % 10) (by omega)]
      have h1 := ih (n / 10) (by rw [Nat.pow_succ] at h; omega)
      unfold undec at h1 ⊢
      rw [ByteArray.data_append, Array.toList_append, List.foldl_append, h1]
      simp [UInt8.toNat_ofNat]
      omega
theorem decB_inj {a b : Nat} (ha : a < 256) (hb : b < 256) (h : decB a = decB b) : a = b := by
  rw [← undec_decB 2 a (by omega), ← undec_decB 2 b (by omega), h]

def unlikeNames : List ByteArray := mainB :: ((List.range (min (1 + 2) 3)).map hubB ++ [edgeB 0])
theorem dec0 : decB 0 = ⟨#[48]⟩ := decB_small 0 (by decide)
theorem dec1 : decB 1 = ⟨#[49]⟩ := decB_small 1 (by decide)
theorem dec2 : decB 2 = ⟨#[50]⟩ := decB_small 2 (by decide)
theorem origin0 : originB unlikeNames 0 = ⟨#[109, 97, 105, 110]⟩ := rfl
theorem origin1 : originB unlikeNames 1 = ⟨#[104, 117, 98, 48]⟩ := by
  show hubB 0 = _
  unfold hubB; rw [dec0]; rfl
theorem origin2 : originB unlikeNames 2 = ⟨#[104, 117, 98, 49]⟩ := by
  show hubB 1 = _
  unfold hubB; rw [dec1]; rfl

theorem smallL_mod (A B N : Nat) : smallL [A, B, N] = smallL [A % 3, B % 3, N % 3] := by
  have h : ∀ n, valB n = valB (n % 3) := fun n => by simp [valB]
  simp only [smallL, List.zipIdx, List.filter, Nat.mod_mod]
  cases h1 : decide (A % 3 ≠ 0) <;> cases h2 : decide (B % 3 ≠ 0) <;> cases h3 : decide (N % 3 ≠ 0) <;> simp [h A, h B, h N]

theorem text_inj3 : ∀ a b n a' b' n' : Fin 3, textL (smallL [a.1, b.1, n.1]) = textL (smallL [a'.1, b'.1, n'.1]) → smallL [a.1, b.1, n.1] = smallL [a'.1, b'.1, n'.1] := by decide +kernel
theorem text_free3 : ∀ a b n : Fin 3, (125 : UInt8) ∉ textL (smallL [a.1, b.1, n.1]) := by decide +kernel
theorem text_inj (A B N A' B' N' : Nat) (h : textL (smallL [A, B, N]) = textL (smallL [A', B', N'])) : smallL [A, B, N] = smallL [A', B', N'] := by
  rw [smallL_mod A, smallL_mod A'] at h ⊢
  exact text_inj3 ⟨A % 3, by omega⟩ ⟨B % 3, by omega⟩ ⟨N % 3, by omega⟩ ⟨A' % 3, by omega⟩ ⟨B' % 3, by omega⟩ ⟨N' % 3, by omega⟩ h
theorem text_free (A B N : Nat) : (125 : UInt8) ∉ textL (smallL [A, B, N]) := by
  rw [smallL_mod]
  exact text_free3 ⟨A % 3, by omega⟩ ⟨B % 3, by omega⟩ ⟨N % 3, by omega⟩
theorem text_len3 : ∀ a b n : Fin 3, (textL (smallL [a.1, b.1, n.1])).length ≤ 100 := by decide +kernel
theorem text_len (A B N : Nat) : (textL (smallL [A, B, N])).length ≤ 100 := by
  rw [smallL_mod]
  exact text_len3 ⟨A % 3, by omega⟩ ⟨B % 3, by omega⟩ ⟨N % 3, by omega⟩

theorem bytes_ext {a b : ByteArray} (h : a.data.toList = b.data.toList) : a = b := by
  cases a; cases b; simp at h; rw [h]

theorem origin_inj (o o' : Nat) (h : o < 3) (h' : o' < 3) (e : (originB unlikeNames o).data.toList = (originB unlikeNames o').data.toList) : o = o' := by
  have c : o = 0 ∨ o = 1 ∨ o = 2 := by omega
  have c' : o' = 0 ∨ o' = 1 ∨ o' = 2 := by omega
  rcases c with rfl | rfl | rfl <;> rcases c' with rfl | rfl | rfl <;> simp [origin0, origin1, origin2] at e ⊢
theorem origin_free (o : Nat) (h : o < 3) : (32 : UInt8) ∉ (originB unlikeNames o).data.toList := by
  have c : o = 0 ∨ o = 1 ∨ o = 2 := by omega
  rcases c with rfl | rfl | rfl <;> simp [origin0, origin1, origin2]
theorem rule_free (r : Nat) : (123 : UInt8) ∉ (ruleB r).data.toList := by
  unfold ruleB
  split
  · simp
  · split <;> simp
theorem st_cases (s : Nat) : stOf s = 0 ∨ stOf s = 2 ∨ stOf s = 3 := by
  unfold stOf
  split
  · simp
  · split
    · simp
    · split <;> simp
theorem state_inj (s s' : Nat) (e : (stateB (stOf s)).data.toList = (stateB (stOf s')).data.toList) : stOf s = stOf s' := by
  rcases st_cases s with h | h | h <;> rcases st_cases s' with h' | h' | h' <;> rw [h, h'] at e ⊢ <;> simp [stateB] at e
theorem state_free (s : Nat) : (32 : UInt8) ∉ (stateB (stOf s)).data.toList := by
  rcases st_cases s with h | h | h <;> rw [h] <;> simp [stateB]
theorem dec_free (x : Nat) (h : x < 9) : (32 : UInt8) ∉ (decB x).data.toList := by
  have c : x = 0 ∨ x = 1 ∨ x = 2 ∨ x = 3 ∨ x = 4 ∨ x = 5 ∨ x = 6 ∨ x = 7 ∨ x = 8 := by omega
  rw [decB_small x (by omega)]
  rcases c with rfl | rfl | rfl | rfl | rfl | rfl | rfl | rfl | rfl <;> decide
theorem sdec_nat (A : Nat) : sdecB (A : Int) = decB A := by
  unfold sdecB
  simp
  intro h
  omega

theorem alert_inj (o r A B N s x o' r' A' B' N' s' x' : Nat) (ho : o < 3) (ho' : o' < 3) (hx : x < 9) (hx' : x' < 9) (hA : A < 256) (hA' : A' < 256)
    (e : alertB unlikeNames o (ruleB r) (smallL [A, B, N]) (stOf s) x A = alertB unlikeNames o' (ruleB r') (smallL [A', B', N']) (stOf s') x' A') :
    o = o' ∧ ruleB r = ruleB r' ∧ smallL [A, B, N] = smallL [A', B', N'] ∧ stOf s = stOf s' ∧ x = x' ∧ A = A' := by
  have e := congrArg (fun b : ByteArray => b.data.toList) e
  simp only [alertB, ByteArray.data_append, Array.toList_append, List.append_assoc, sdec_nat, List.cons_append, List.nil_append] at e
  obtain ⟨e1, e⟩ := sep_split _ _ _ _ (origin_free o ho) (origin_free o' ho') e
  obtain ⟨e2, e⟩ := sep_split _ _ _ _ (rule_free r) (rule_free r') e
  obtain ⟨e3, e⟩ := sep_split _ _ _ _ (text_free A B N) (text_free A' B' N') e
  simp only [List.cons.injEq, true_and] at e
  obtain ⟨e4, e⟩ := sep_split _ _ _ _ (state_free s) (state_free s') e
  simp only [List.cons.injEq, true_and] at e
  obtain ⟨e5, e⟩ := sep_split _ _ _ _ (dec_free x hx) (dec_free x' hx') e
  simp only [List.cons.injEq, true_and] at e
  exact ⟨origin_inj o o' ho ho' e1, bytes_ext e2, text_inj _ _ _ _ _ _ e3, state_inj s s' e4, decB_inj (by omega) (by omega) (bytes_ext e5), decB_inj hA hA' (bytes_ext e)⟩

theorem law (o r A B N s x o' r' A' B' N' s' x' : Nat) (ho : o < 3) (ho' : o' < 3) (hx : x < 9) (hx' : x' < 9) (hA : A < 256) (hA' : A' < 256) :
    decide (alertB unlikeNames o (ruleB r) (smallL [A, B, N]) (stOf s) x A = alertB unlikeNames o' (ruleB r') (smallL [A', B', N']) (stOf s') x' A') =
      (oneB o (ruleB r) (smallL [A, B, N]) o' (ruleB r') (smallL [A', B', N']) && decide (stOf s = stOf s') && decide (x = x') && decide (A = A')) := by
  rw [Bool.eq_iff_iff]
  simp only [oneB, sameB, Bool.and_eq_true, decide_eq_true_eq]
  constructor
  · intro e
    obtain ⟨h1, h2, h3, h4, h5, h6⟩ := alert_inj o r A B N s x o' r' A' B' N' s' x' ho ho' hx hx' hA hA' e
    exact ⟨⟨⟨⟨⟨h1, h2⟩, h3⟩, h4⟩, h5⟩, h6⟩
  · rintro ⟨⟨⟨⟨⟨h1, h2⟩, h3⟩, h4⟩, h5⟩, h6⟩
    rw [h1, h2, h3, h4, h5, h6]
end Go.Proofs.Ytdghpjkjhlankaa
