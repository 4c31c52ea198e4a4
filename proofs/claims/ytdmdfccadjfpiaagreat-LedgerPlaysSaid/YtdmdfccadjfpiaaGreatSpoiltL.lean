/-
  The plain law of spoilt records: a byte turned behind a record's length is found.
-/
import Derived.Test.YtdmdfccadjfpiaaGreatConv
namespace Go.Proofs.YtdmdfccadjfpiaaGreat
open Go.RowKit
set_option maxRecDepth 100000

theorem xor_zero {a b : Nat} (h : a ^^^ b = 0) : a = b := by
  have := congrArg (· ^^^ b) h
  simpa [Nat.xor_assoc] using this
theorem set_right {α : Type} (a b : List α) (i : Nat) (x : α) (h : a.length ≤ i) : (a ++ b).set i x = a ++ b.set (i - a.length) x := by
  rw [List.set_append, if_neg (by omega)]
theorem set_left {α : Type} (a b : List α) (i : Nat) (x : α) (h : i < a.length) : (a ++ b).set i x = a.set i x ++ b := by
  rw [List.set_append, if_pos h]
theorem crcStep_zero {x : Nat} (h : x < 4294967296) (h0 : crcStep x = 0) : x = 0 := by
  unfold crcStep at h0
  split at h0
  · have := xor_zero h0
    omega
  · omega
theorem crcSteps_zero {x : Nat} (h : x < 4294967296) : ∀ k, crcSteps k x = 0 → x = 0
  | 0, h0 => h0
  | k + 1, h0 => crcSteps_zero h k (crcStep_zero (crcSteps_lt h k) h0)
theorem crcUp_inj {m n : Nat} {c e : UInt8} (hm : m < 4294967296) (hn : n < 4294967296) (h : crcUp m c = crcUp n e) : m ^^^ c.toNat = n ^^^ e.toNat := by
  have hc := c.toNat_lt
  have he := e.toNat_lt
  have l1 : m ^^^ c.toNat < 4294967296 := Nat.xor_lt_two_pow (n := 32) hm (by omega)
  have l2 : n ^^^ e.toNat < 4294967296 := Nat.xor_lt_two_pow (n := 32) hn (by omega)
  unfold crcUp at h
  have h2 : crcSteps 8 ((m ^^^ c.toNat) ^^^ (n ^^^ e.toNat)) = 0 := by rw [crcSteps_xor, h, Nat.xor_self]
  have h3 := crcSteps_zero (Nat.xor_lt_two_pow (n := 32) l1 l2) 8 h2
  exact xor_zero h3
theorem crcOver_inj (l : List UInt8) : ∀ m n, m < 4294967296 → n < 4294967296 → crcOver m l = crcOver n l → m = n := by
  induction l with
  | nil => intro m n _ _ h; exact h
  | cons c r ih =>
    intro m n hm hn h
    have h1 := ih (crcUp m c) (crcUp n c) (crcUp_lt m c hm) (crcUp_lt n c hn) h
    have h2 := crcUp_inj hm hn h1
    have h3 := congrArg (· ^^^ c.toNat) h2
    simpa [Nat.xor_assoc] using h3
/-- One byte turned: another sum. -/
theorem crcSum_byte (p q : List UInt8) (b e : UInt8) (h : b ≠ e) : crcSum (p ++ b :: q) ≠ crcSum (p ++ e :: q) := by
  intro hs
  have l0 := crcOver_lt p 4294967295 (by decide)
  have l1 := crcOver_lt (p ++ b :: q) 4294967295 (by decide)
  have l2 := crcOver_lt (p ++ e :: q) 4294967295 (by decide)
  unfold crcSum at hs
  have h1 : crcOver 4294967295 (p ++ b :: q) = crcOver 4294967295 (p ++ e :: q) := by omega
  rw [crcOver_append, crcOver_append] at h1
  have h2 := crcOver_inj q _ _ (crcUp_lt _ b l0) (crcUp_lt _ e l0) h1
  have h3 := crcUp_inj l0 l0 h2
  have h4 := congrArg (crcOver 4294967295 p ^^^ ·) h3
  simp only [← Nat.xor_assoc, Nat.xor_self, Nat.zero_xor] at h4
  exact h (UInt8.toNat_inj.1 h4)

theorem unfour_of (n : Nat) (hn : n < 4294967296) : unfour ((UInt8.ofNat (n % 256)).toNat) ((UInt8.ofNat (n / 256 % 256)).toNat) ((UInt8.ofNat (n / 65536 % 256)).toNat) ((UInt8.ofNat (n / 16777216)).toNat) = n := by
  simp only [UInt8.toNat_ofNat']
  unfold unfour
  omega
theorem four_len (n : Nat) : (four n).length = 4 := rfl
/-- A record, as it begins bytes. -/
theorem takeL_any (n s : Nat) (hn : n ≤ 524288) (hs : s < 4294967296) (m : List UInt8) (hm : n ≤ m.length) :
    takeL (four n ++ four s ++ m) = if crcSum (four n ++ m.take n) = s then some (m.take n) else none := by
  show takeL (_ :: _ :: _ :: _ :: _ :: _ :: _ :: _ :: m) = _
  simp only [takeL]
  rw [unfour_of n (by omega), unfour_of s hs, if_neg (by omega)]
  rfl
theorem takeL_lay (r rest : List UInt8) (h : r.length ≤ 524288) : takeL (layL r ++ rest) = some r := by
  unfold layL
  rw [List.append_assoc, takeL_any r.length _ h (crcSum_lt _) (r ++ rest) (by simp)]
  rw [List.take_left' rfl, if_pos rfl]
theorem layL_len (r : List UInt8) : (layL r).length = r.length + 8 := by simp [layL, four]
theorem scanL_lay (r rest : List UInt8) (h : r.length ≤ 524288) : scanL (layL r ++ rest) = r :: scanL rest := by
  rw [scanL_some (takeL_lay r rest h), ← layL_len, List.drop_left' rfl]
def layAll (rs : List (List UInt8)) : List UInt8 := rs.flatMap layL
theorem layAll_append (a b : List (List UInt8)) : layAll (a ++ b) = layAll a ++ layAll b := by simp [layAll]
theorem layAll_len (rs : List (List UInt8)) : (layAll rs).length = lenR rs := by
  induction rs with
  | nil => rfl
  | cons r rs ih =>
    have : layAll (r :: rs) = layL r ++ layAll rs := rfl
    rw [this, List.length_append, layL_len, ih]
    rfl
theorem scanL_all (rs : List (List UInt8)) (rest : List UInt8) (h : ∀ r ∈ rs, r.length ≤ 524288) : scanL (layAll rs ++ rest) = rs ++ scanL rest := by
  induction rs with
  | nil => rfl
  | cons r rs ih =>
    have : layAll (r :: rs) ++ rest = layL r ++ (layAll rs ++ rest) := by simp [layAll]
    rw [this, scanL_lay r _ (h r (.head _)), ih fun x hx => h x (.tail _ hx)]
    rfl
theorem lenR_scan (k : Nat) : ∀ l : List UInt8, l.length ≤ k → lenR (scanL l) ≤ l.length := by
  induction k with
  | zero =>
    intro l hl
    have : l = [] := List.eq_nil_of_length_eq_zero (by omega)
    subst this
    rw [scanL_none (by rfl)]
    exact Nat.zero_le _
  | succ k ih =>
    intro l hl
    cases hx : takeL l with
    | none => rw [scanL_none hx]; exact Nat.zero_le _
    | some x =>
      have := takeL_len hx
      rw [scanL_some hx]
      have h2 := ih (l.drop (x.length + 8)) (by simp; omega)
      simp only [lenR, List.length_drop] at h2 ⊢
      omega
/-- A record of which a byte behind its length is turned is none. -/
theorem takeL_bad (r rest : List UInt8) (h : r.length ≤ 524288) (j : Nat) (x e : UInt8) (hj : 4 ≤ j) (hx : (layL r)[j]? = some x) (hne : x ≠ e) : takeL ((layL r ++ rest).set j e) = none := by
  have hjl : j < r.length + 8 := by
    rcases Nat.lt_or_ge j (layL r).length with h | h
    · rwa [layL_len] at h
    · rw [List.getElem?_eq_none h] at hx; cases hx
  by_cases h8 : j < 8
  · have hset : (layL r ++ rest).set j e = four r.length ++ ((four (crcSum (four r.length ++ r))).set (j - 4) e) ++ (r ++ rest) := by
      unfold layL
      rw [List.append_assoc, List.append_assoc, set_right _ _ _ _ (by rw [four_len]; omega), set_left _ _ _ _ (by rw [four_len, four_len]; omega), four_len, List.append_assoc]
    have hxv : (four (crcSum (four r.length ++ r)))[j - 4]? = some x := by
      unfold layL at hx
      rw [List.append_assoc, List.getElem?_append_right (by simp [four]; omega), List.getElem?_append_left (by simp [four]; omega)] at hx
      simpa [four_len] using hx
    rw [hset]
    obtain ⟨y4, y5, y6, y7, hy⟩ : ∃ y4 y5 y6 y7, (four (crcSum (four r.length ++ r))).set (j - 4) e = [y4, y5, y6, y7] := by
      have hl : ((four (crcSum (four r.length ++ r))).set (j - 4) e).length = 4 := by simp [four]
      match hq : (four (crcSum (four r.length ++ r))).set (j - 4) e, hl with
      | [a, b, c, d], _ => exact ⟨a, b, c, d, rfl⟩
    rw [hy, ← unfour_four y4 y5 y6 y7, takeL_any r.length _ h (unfour_lt _ _ _ _) (r ++ rest) (by simp), List.take_left' rfl, if_neg]
    intro hs
    have h1 : [y4, y5, y6, y7] = four (crcSum (four r.length ++ r)) := by rw [hs, unfour_four]
    rw [← hy] at h1
    have h2 := congrArg (·[j - 4]?) h1
    simp only [hxv] at h2
    rw [List.getElem?_set_self (by rw [four_len]; omega)] at h2
    exact hne (Option.some.inj h2).symm
  · obtain ⟨k, rfl⟩ : ∃ k, j = 8 + k := ⟨j - 8, by omega⟩
    have hxr : r[k]? = some x := by
      unfold layL at hx
      rw [List.getElem?_append_right (by simp [four])] at hx
      simpa [four] using hx
    have hset : (layL r ++ rest).set (8 + k) e = four r.length ++ four (crcSum (four r.length ++ r)) ++ (r.set k e ++ rest) := by
      unfold layL
      rw [List.append_assoc, set_right _ _ _ _ (by simp [four]), set_left _ _ _ _ (by simp [four]; omega)]
      simp [four]
    rw [hset, takeL_any r.length _ h (crcSum_lt _) (r.set k e ++ rest) (by simp)]
    rw [List.take_left' (by simp), if_neg]
    have hkl : k < r.length := by omega
    have hs1 : r.set k e = r.take k ++ e :: r.drop (k + 1) := List.set_eq_take_append_cons_drop .. |>.trans (by rw [if_pos hkl])
    have hs2 : r = r.take k ++ x :: r.drop (k + 1) := by
      have : r[k] = x := by rw [List.getElem?_eq_getElem hkl] at hxr; exact Option.some.inj hxr
      rw [← this, List.getElem_cons_drop, List.take_append_drop]
    intro hs
    rw [hs1, ← List.append_assoc] at hs
    have hs3 : crcSum (four r.length ++ r) = crcSum (four r.length ++ r.take k ++ x :: r.drop (k + 1)) := by
      congr 1
      rw [List.append_assoc, ← hs2]
    rw [hs3] at hs
    exact crcSum_byte _ _ x e hne hs.symm
end Go.Proofs.YtdmdfccadjfpiaaGreat
