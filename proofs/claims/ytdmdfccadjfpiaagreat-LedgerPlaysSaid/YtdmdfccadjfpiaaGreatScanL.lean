/-
  Records one behind the other, as lists: what Scan finds; rows of rows.
-/
import Derived.Test.YtdmdfccadjfpiaaGreatTake
namespace Go.Proofs.YtdmdfccadjfpiaaGreat
open Go.RowKit
set_option maxRecDepth 100000

theorem takeL_len {l x : List UInt8} (h : takeL l = some x) : x.length + 8 ≤ l.length := by
  unfold takeL at h
  split at h
  · simp only at h
    split at h
    · cases h
    · split at h
      · injection h with h
        subst h
        simp
        omega
      · cases h
  · cases h
/-- All records from the beginning up to the first that isn't one. -/
def scanL (l : List UInt8) : List (List UInt8) :=
  match h : takeL l with
  | none => []
  | some x => x :: scanL (l.drop (x.length + 8))
termination_by l.length
decreasing_by
  have := takeL_len h
  simp
  omega
theorem scanL_none {l : List UInt8} (h : takeL l = none) : scanL l = [] := by
  rw [scanL]
  split
  · rfl
  · rename_i h2; rw [h] at h2; cases h2
theorem scanL_some {l x : List UInt8} (h : takeL l = some x) : scanL l = x :: scanL (l.drop (x.length + 8)) := by
  rw [scanL]
  split
  · rename_i h2; rw [h] at h2; cases h2
  · rename_i y h2; rw [h] at h2; injection h2 with h2; subst h2; rfl
/-- How many bytes records take. -/
def lenR : List (List UInt8) → Nat
  | [] => 0
  | x :: r => x.length + 8 + lenR r
theorem lenR_append (a b : List (List UInt8)) : lenR (a ++ b) = lenR a + lenR b := by
  induction a with
  | nil => simp [lenR]
  | cons x r ih => simp only [List.cons_append, lenR, ih]; omega
theorem lenR_ge (a : List (List UInt8)) : 8 * a.length ≤ lenR a := by
  induction a with
  | nil => simp [lenR]
  | cons x r ih => simp only [List.length_cons, lenR]; omega
theorem scanL_snoc (l : List UInt8) (done : List (List UInt8)) (k : Nat) (x : List UInt8) (h : done ++ scanL (l.drop k) = scanL l) (hx : takeL (l.drop k) = some x) :
    (done ++ [x]) ++ scanL (l.drop (k + (x.length + 8))) = scanL l := by
  rw [← h, scanL_some hx, List.drop_drop, List.append_assoc]
  rfl

/-! ### rows of rows -/
section
variable {w w' : World} {base base' b : Nat} {e e' : TypeId} {size size' n n' : Nat} {v v' : Value} {xs xs' : List Value}
theorem But.grownBy (h : But b w w') : w.grownBy w' (some b) := ⟨h.os, h.tape, h.output, h.size, fun k hk hne => h.block k hk (fun e => hne (by rw [e]))⟩
theorem But.grown {w0 : World} {row : Option Nat} (h : But b w0 w) (hg : w.grownBy w' row) (hr : ∀ k, row = some k → w0.heap.size ≤ k) : But b w0 w' :=
  ⟨hg.os.trans h.os, hg.tape.trans h.tape, hg.output.trans h.output, Nat.le_trans h.size hg.size, fun k hk hne => by
    rw [hg.block k (Nat.lt_of_lt_of_le hk h.size) (fun e => by have := hr k e.symm; omega)]
    exact h.block k hk hne⟩
theorem owns_row_ne (h : w.ownsRow base e size v n xs) (h' : w.ownsRow base' e' size' v' n' xs') (hne : e ≠ e') : v.ownBlock = none ∨ v.ownBlock ≠ v'.ownBlock := by
  rcases h.2 with ⟨rfl, _⟩ | ⟨g, cap, cur, rfl, _, hh, _⟩
  · exact .inl rfl
  · right
    rcases h'.2 with ⟨rfl, _⟩ | ⟨g', cap', cur', rfl, _, hh', _⟩
    · simp [Value.ownBlock]
    · intro he
      have he : g = g' := by simpa [Value.ownBlock] using he
      subst he
      rw [hh] at hh'
      injection hh' with hh'
      injection hh' with _ h2
      exact hne h2
theorem owns_but (h : w.ownsRow base e size v n xs) (hT : TabOk w b) (hB : But b w w') (hne : e ≠ 116) : w'.ownsRow base e size v n xs := by
  obtain ⟨d, ws, s, t, _, _, _, cs, hb, _⟩ := hT
  exact h.kept hB.grownBy (.inr fun he => owns_ne h hb hne he.symm)
theorem TabOk.grown (hT : TabOk w b) (h : w.ownsRow base e size v n xs) (hg : w.grownBy w' v.ownBlock) (hne : e ≠ 116) : TabOk w' b := by
  obtain ⟨d, ws, s, t, h1, h2, h3, cs, hb, h4⟩ := hT
  exact ⟨d, ws, s, t, h1, h2, h3, cs, hb.grown hg (owns_ne h hb hne), h4⟩
/-- Each is a row of bytes of the call's own. -/
def OwnAll (w : World) (base : Nat) (ps : List (Value × List UInt8)) : Prop := ∀ p ∈ ps, w.ownsRow base 5 1 p.1 p.2.length (u8L p.2)
variable {ps : List (Value × List UInt8)}
theorem OwnAll.nil : OwnAll w base [] := fun p hp => by cases hp
theorem OwnAll.snoc (h : OwnAll w base ps) {x : List UInt8} (hx : w.ownsRow base 5 1 v x.length (u8L x)) : OwnAll w base (ps ++ [(v, x)]) := by
  intro p hp
  rcases List.mem_append.1 hp with h1 | h1
  · exact h p h1
  · rw [List.mem_singleton] at h1; subst h1; exact hx
theorem OwnAll.but (h : OwnAll w base ps) (hT : TabOk w b) (hB : But b w w') : OwnAll w' base ps := fun p hp => owns_but (h p hp) hT hB (by decide)
theorem OwnAll.below (h : OwnAll w base ps) (hb : Below w.heap.size w w') : OwnAll w' base ps := fun p hp => owns_below (h p hp) hb
theorem OwnAll.grown (h : OwnAll w base ps) (hv : w.ownsRow base' e size v n xs) (hne : 5 ≠ e) (hg : w.grownBy w' v.ownBlock) : OwnAll w' base ps :=
  fun p hp => (h p hp).kept hg (owns_row_ne (h p hp) hv hne)
theorem Rd.cutAt {q o c k : Nat} (h : Rd w 1 (.slice (some ⟨q, o, none⟩) n c) n xs) (hk : k ≤ n) :
    Rd w 1 (.slice (if c = k then some ⟨q, o, none⟩ else some ⟨q, o + k, none⟩) (n - k) (c - k)) (n - k) (xs.drop k) := by
  obtain ⟨A, c', he, h1, h2, h3, h4⟩ := h
  cases he
  refine ⟨_, _, rfl, by simp; omega, by omega, by omega, fun hn => ?_⟩
  obtain ⟨q', o', he, hr⟩ := h4 (by omega)
  cases he
  rw [if_neg (by omega)]
  refine ⟨_, _, rfl, fun j u hj => ?_⟩
  rw [List.getElem?_drop] at hj
  rw [Nat.add_assoc]
  exact hr _ u hj
end
theorem u8L_drop (l : List UInt8) (k : Nat) : (u8L l).drop k = u8L (l.drop k) := by simp [u8L]

theorem u8L_len (l : List UInt8) : (u8L l).length = l.length := by simp [u8L]
theorem take8 (l : List UInt8) (h : 8 ≤ l.length) : ∃ x0 x1 x2 x3 x4 x5 x6 x7 r, l = x0 :: x1 :: x2 :: x3 :: x4 :: x5 :: x6 :: x7 :: r := by
  match l, h with
  | x0 :: x1 :: x2 :: x3 :: x4 :: x5 :: x6 :: x7 :: r, _ => exact ⟨x0, x1, x2, x3, x4, x5, x6, x7, r, rfl⟩
theorem takeL_short {l : List UInt8} (h : l.length < 8) : takeL l = none := by
  unfold takeL
  split
  · simp at h; omega
  · rfl
theorem Rd.byte {w : World} {q o n c : Nat} {l : List UInt8} (h : Rd w 1 (.slice (some ⟨q, o, none⟩) n c) n (u8L l)) (j : Nat) (x : UInt8) (hj : l[j]? = some x) : w.cell? ⟨q, o + j, none⟩ = some (.int .u8 x.toNat) := by
  obtain ⟨A, c', he, h1, h2, h3, h4⟩ := h
  cases he
  have hl : j < l.length := by
    rcases Nat.lt_or_ge j l.length with h | h
    · exact h
    · rw [List.getElem?_eq_none h] at hj; cases hj
  rw [u8L_len] at h1
  obtain ⟨q', o', he, hr⟩ := h4 (by omega)
  cases he
  exact hr j _ (by simp [u8L, hj])
/-! ### Take, by what it finds -/
theorem jTakeNone (b : Nat) (v : Value) (l : List UInt8) (w : World) (hT : TabOk w b) (hl : Rd w 1 v l.length (u8L l)) (hn : takeL l = none) :
    Calls Tryz.prog 92 #[.pointer (some ⟨b, 0, none⟩), v] w fun e w' => e = .returned (.tuple #[.slice none 0 0, .int .i64 0, .bool false]) ∧ TabOk w' b ∧ But b w w' := by
  match l, hl, hn with
  | x0 :: x1 :: x2 :: x3 :: x4 :: x5 :: x6 :: x7 :: r, hl, hn =>
    have hl2 := hl
    obtain ⟨A, c, rfl, h1, h2, h3, h4⟩ := hl2
    obtain ⟨q, o, rfl, _⟩ := h4 (by simp)
    simp only [takeL] at hn
    split at hn
    · rename_i hbad
      exact (jTakeLen b q o c _ x0 x1 x2 x3 x4 x5 x6 x7 r w hl rfl hbad).mono fun e w' h => ⟨h.1, hT.below h.2, But.of_below h.2⟩
    · split at hn
      · cases hn
      · rename_i hg hs
        have hg : unfour x0.toNat x1.toNat x2.toNat x3.toNat ≤ 524288 ∧ unfour x0.toNat x1.toNat x2.toNat x3.toNat ≤ r.length := by omega
        exact jTakeBad b q o c _ x0 x1 x2 x3 x4 x5 x6 x7 r w hT hl rfl hg.1 hg.2 hs
  | [], hl, _ => exact (jTakeShort b v _ w hl (by simp)).mono fun e w' h => ⟨h.1, by rw [h.2]; exact hT, by rw [h.2]; exact But.refl b w⟩
  | [_], hl, _ => exact (jTakeShort b v _ w hl (by simp)).mono fun e w' h => ⟨h.1, by rw [h.2]; exact hT, by rw [h.2]; exact But.refl b w⟩
  | [_, _], hl, _ => exact (jTakeShort b v _ w hl (by simp)).mono fun e w' h => ⟨h.1, by rw [h.2]; exact hT, by rw [h.2]; exact But.refl b w⟩
  | [_, _, _], hl, _ => exact (jTakeShort b v _ w hl (by simp)).mono fun e w' h => ⟨h.1, by rw [h.2]; exact hT, by rw [h.2]; exact But.refl b w⟩
  | [_, _, _, _], hl, _ => exact (jTakeShort b v _ w hl (by simp)).mono fun e w' h => ⟨h.1, by rw [h.2]; exact hT, by rw [h.2]; exact But.refl b w⟩
  | [_, _, _, _, _], hl, _ => exact (jTakeShort b v _ w hl (by simp)).mono fun e w' h => ⟨h.1, by rw [h.2]; exact hT, by rw [h.2]; exact But.refl b w⟩
  | [_, _, _, _, _, _], hl, _ => exact (jTakeShort b v _ w hl (by simp)).mono fun e w' h => ⟨h.1, by rw [h.2]; exact hT, by rw [h.2]; exact But.refl b w⟩
  | [_, _, _, _, _, _, _], hl, _ => exact (jTakeShort b v _ w hl (by simp)).mono fun e w' h => ⟨h.1, by rw [h.2]; exact hT, by rw [h.2]; exact But.refl b w⟩
theorem jTakeSome (b : Nat) (v : Value) (l x : List UInt8) (w : World) (hT : TabOk w b) (hl : Rd w 1 v l.length (u8L l)) (hx : takeL l = some x) :
    Calls Tryz.prog 92 #[.pointer (some ⟨b, 0, none⟩), v] w fun e w' => ∃ v', e = .returned (.tuple #[v', .int .i64 (x.length + 8 : Nat), .bool true]) ∧ w'.ownsRow w.heap.size 5 1 v' x.length (u8L x) ∧ TabOk w' b ∧ But b w w' := by
  match l, hl, hx with
  | x0 :: x1 :: x2 :: x3 :: x4 :: x5 :: x6 :: x7 :: r, hl, hx =>
    have hl2 := hl
    obtain ⟨A, c, rfl, h1, h2, h3, h4⟩ := hl2
    obtain ⟨q, o, rfl, _⟩ := h4 (by simp)
    simp only [takeL] at hx
    split at hx
    · cases hx
    · split at hx
      · rename_i hg hs
        have hg : unfour x0.toNat x1.toNat x2.toNat x3.toNat ≤ 524288 ∧ unfour x0.toNat x1.toNat x2.toNat x3.toNat ≤ r.length := by omega
        injection hx with hx
        have hk := jTakeOk b q o c _ x0 x1 x2 x3 x4 x5 x6 x7 r w hT hl rfl hg.1 hg.2 hs
        have hlx : unfour x0.toNat x1.toNat x2.toNat x3.toNat = x.length := by rw [← hx]; simp; omega
        rw [hx, hlx] at hk
        exact hk
      · cases hx
end Go.Proofs.YtdmdfccadjfpiaaGreat
