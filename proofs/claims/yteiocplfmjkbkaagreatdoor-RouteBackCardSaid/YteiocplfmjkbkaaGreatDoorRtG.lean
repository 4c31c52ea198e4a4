/-
  A tree's lines are that tree, where each node hangs from the one ahead of it or from the first: plain.
-/
import Derived.Test.YteiocplfmjkbkaaGreatDoorRtZ
import Derived.Test.YteiocplfmjkbkaaGreatDoorRtA
namespace Go.Proofs.YteiocplfmjkbkaaGreatDoor
open Go.RowKit
set_option maxRecDepth 100000

theorem lineNode_of (b p : RN) : lineNode b p.asks (setsOf p) = { p with above := b.above } := by
  obtain ⟨asks, tgt, bys, wait, betw, again, more, ab⟩ := p
  unfold lineNode setsOf
  cases more <;> rfl
def linesOf (ps : List RN) (d : Nat → Nat) : List LnV := (List.range ps.length).map fun i => lineOf (ps.getD i zeroRN) (d i - 1)
theorem linesOf_len (ps : List RN) (d : Nat → Nat) : (linesOf ps d).length = ps.length := by simp [linesOf]
theorem linesOf_at {ps : List RN} {d : Nat → Nat} {k : Nat} {p : RN} (h : ps[k]? = some p) : (linesOf ps d)[k]? = some (lineOf p (d k - 1)) := by
  have hk : k < ps.length := (List.getElem?_eq_some_iff.1 h).1
  unfold linesOf
  rw [List.getElem?_map, List.getElem?_range hk]
  show some (lineOf (ps.getD k zeroRN) (d k - 1)) = _
  rw [List.getD_eq_getElem?_getD, h]
  rfl
/-- each hangs from the one ahead of it or from the first -/
def Close (ps : List RN) : Prop := ∀ (i : Nat) n, 0 < i → ps[i]? = some n → n.above = 0 ∨ n.above = (i : Int) - 1
/-- the way to the last node laid -/
structure WayOk (wy : List Nat) (d : Nat → Nat) (k : Nat) : Prop where
  len : wy.length = d k
  last : wy[d k - 1]? = some k
  first : wy[0]? = some 0
theorem back_run {ps : List RN} {d : Nat → Nat} (h : RTree ps d) (hc : Close ps) : ∀ k, k < ps.length → (runL ((linesOf ps d).take (k + 1))).1 = ps.take (k + 1) ∧ WayOk (runL ((linesOf ps d).take (k + 1))).2 d k := by
  intro k
  induction k with
  | zero =>
    intro hk
    obtain ⟨p, hp⟩ : ∃ p, ps[0]? = some p := ⟨_, List.getElem?_eq_getElem hk⟩
    obtain ⟨r1, _, _⟩ := h.root p hp
    have hd : d 0 = 1 := by
      rcases h.deep 0 p hp with ⟨_, h5⟩ | ⟨a, _, h5, _⟩
      · exact h5
      · omega
    rw [runL_succ (linesOf_at hp), List.take_zero]
    have hb : baseOf [] [] (d 0 - 1) = zeroRN := by unfold baseOf; rw [if_pos (by omega)]
    have e : stepL (runL []) (lineOf p (d 0 - 1)) = ([p], [0]) := by
      show ([] ++ [lineNode (baseOf [] [] (d 0 - 1)) p.asks (setsOf p)], List.take (d 0 - 1) [] ++ [0]) = _
      rw [hb, lineNode_of]
      have : ({ p with above := zeroRN.above } : RN) = p := by
        show ({ p with above := -1 } : RN) = p
        rw [← r1]
      rw [this]
      simp
    rw [e]
    refine ⟨?_, ?_, ?_, ?_⟩
    · rw [List.take_add_one, hp]; rfl
    · rw [hd]; rfl
    · rw [hd]; rfl
    · rfl
  | succ k ih =>
    intro hk
    obtain ⟨i1, i2⟩ := ih (by omega)
    obtain ⟨p, hp⟩ : ∃ p, ps[k + 1]? = some p := ⟨_, List.getElem?_eq_getElem hk⟩
    have hs := runL_succ (linesOf_at (d := d) hp)
    obtain ⟨wy, hwy⟩ : ∃ wy, wy = (runL ((linesOf ps d).take (k + 1))).2 := ⟨_, rfl⟩
    have hst : runL ((linesOf ps d).take (k + 1)) = (ps.take (k + 1), wy) := by rw [hwy, ← i1]
    rw [← hwy] at i2
    rw [hst] at hs
    obtain ⟨a, ha1, ha2, ha3⟩ : ∃ a : Nat, p.above = (a : Int) ∧ a < k + 1 ∧ d (k + 1) = d a + 1 := by
      rcases h.deep (k + 1) p hp with ⟨h5, _⟩ | h5
      · have := (h.hang (k + 1) p (by omega) hp).1; omega
      · exact h5
    have hda : 1 ≤ d a := by
      obtain ⟨q, hq⟩ : ∃ q, ps[a]? = some q := ⟨_, List.getElem?_eq_getElem (by omega)⟩
      rcases h.deep a q hq with ⟨_, h5⟩ | ⟨b, _, _, h5⟩ <;> omega
    have hlen : (ps.take (k + 1)).length = k + 1 := by rw [List.length_take]; omega
    have key : wayTo wy (d a) = a ∧ WayOk (wy.take (d a) ++ [k + 1]) d (k + 1) := by
      rcases hc (k + 1) p (by omega) hp with h5 | h5
      · obtain rfl : a = 0 := by omega
        have hd0 : d 0 = 1 := by
          obtain ⟨q, hq⟩ : ∃ q, ps[0]? = some q := ⟨_, List.getElem?_eq_getElem (by omega)⟩
          rcases h.deep 0 q hq with ⟨_, h5⟩ | ⟨b, _, h5, _⟩
          · exact h5
          · omega
        have ht : wy.take 1 = [0] := by
          rw [show (1 : Nat) = 0 + 1 from rfl, List.take_add_one, i2.first]; rfl
        rw [hd0] at ha3 ⊢
        refine ⟨?_, ?_, ?_, ?_⟩
        · unfold wayTo; rw [List.getD_eq_getElem?_getD, i2.first]; rfl
        · rw [ht, ha3]; rfl
        · rw [ht, ha3]; rfl
        · rw [ht]; rfl
      · obtain rfl : a = k := by omega
        have ht : wy.take (d a) = wy := List.take_of_length_le (by rw [i2.len]; exact Nat.le_refl _)
        refine ⟨?_, ?_, ?_, ?_⟩
        · unfold wayTo; rw [List.getD_eq_getElem?_getD, i2.last]; rfl
        · rw [ht, List.length_append, i2.len, ha3]; rfl
        · rw [ht, ha3, Nat.add_sub_cancel, List.getElem?_append_right (by rw [i2.len]; exact Nat.le_refl _), i2.len, Nat.sub_self]; rfl
        · rw [ht, List.getElem?_append_left (by rw [i2.len]; omega)]; exact i2.first
    have hg : (ps.take (k + 1)).getD a zeroRN = ps.getD a zeroRN := by
      rw [List.getD_eq_getElem?_getD, List.getD_eq_getElem?_getD, List.getElem?_take, if_pos ha2]
    have e : stepL (ps.take (k + 1), wy) (lineOf p (d (k + 1) - 1)) = (ps.take (k + 1) ++ [p], wy.take (d a) ++ [k + 1]) := by
      show (_ ++ [lineNode (baseOf (ps.take (k + 1)) wy (d (k + 1) - 1)) p.asks (setsOf p)], wy.take (d (k + 1) - 1) ++ [(ps.take (k + 1)).length]) = _
      rw [show d (k + 1) - 1 = d a by omega, hlen, lineNode_of]
      have hb : (baseOf (ps.take (k + 1)) wy (d a)).above = p.above := by
        unfold baseOf
        rw [if_neg (by omega)]
        show ((wayTo wy (d a) : Nat) : Int) = _
        rw [key.1, ha1]
      rw [hb]
    rw [hs, e]
    refine ⟨?_, key.2⟩
    rw [List.take_add_one (i := k + 1), hp]
    rfl
theorem back_all {ps : List RN} {d : Nat → Nat} (h : RTree ps d) (hc : Close ps) : (runL (linesOf ps d)).1 = ps := by
  have hp := h.some
  have := (back_run h hc (ps.length - 1) (by omega)).1
  rw [show ps.length - 1 + 1 = ps.length by omega, List.take_length, List.take_of_length_le (by rw [linesOf_len]; exact Nat.le_refl _)] at this
  exact this
theorem back_fit {ps : List RN} {d : Nat → Nat} (h : RTree ps d) (hc : Close ps) : ∀ k l, (linesOf ps d)[k]? = some l → l.deep ≤ (runL ((linesOf ps d).take k)).2.length ∧ (l.deep = 0 ↔ k = 0) := by
  intro k l hl
  have hk : k < ps.length := by have := (List.getElem?_eq_some_iff.1 hl).1; rwa [linesOf_len] at this
  obtain ⟨p, hp⟩ : ∃ p, ps[k]? = some p := ⟨_, List.getElem?_eq_getElem hk⟩
  rw [linesOf_at hp] at hl
  obtain rfl : lineOf p (d k - 1) = l := Option.some.inj hl
  show d k - 1 ≤ _ ∧ (d k - 1 = 0 ↔ k = 0)
  cases k with
  | zero =>
    have hd : d 0 = 1 := by
      rcases h.deep 0 p hp with ⟨_, h5⟩ | ⟨a, _, h5, _⟩
      · exact h5
      · omega
    rw [hd]
    exact ⟨Nat.zero_le _, by simp⟩
  | succ k =>
    have hw := (back_run h hc k (by omega)).2
    rcases h.deep (k + 1) p hp with ⟨h5, _⟩ | ⟨a, h5, h6, h7⟩
    · have := (h.hang (k + 1) p (by omega) hp).1; omega
    · have hda : 1 ≤ d a := by
        obtain ⟨q, hq⟩ : ∃ q, ps[a]? = some q := ⟨_, List.getElem?_eq_getElem (by omega)⟩
        rcases h.deep a q hq with ⟨_, h5⟩ | ⟨b, _, _, h5⟩ <;> omega
      refine ⟨?_, by omega⟩
      rw [hw.len, h7, Nat.add_sub_cancel]
      rcases hc (k + 1) p (by omega) hp with h8 | h8
      · obtain rfl : a = 0 := by omega
        obtain ⟨q, hq⟩ : ∃ q, ps[0]? = some q := ⟨_, List.getElem?_eq_getElem (by omega)⟩
        have hd0 : d 0 = 1 := by
          rcases h.deep 0 q hq with ⟨_, h5⟩ | ⟨b, _, h5, _⟩
          · exact h5
          · omega
        rw [hd0, ← hw.len]
        have := (List.getElem?_eq_some_iff.1 hw.first).1
        omega
      · obtain rfl : a = k := by omega
        exact Nat.le_refl _
end Go.Proofs.YteiocplfmjkbkaaGreatDoor
