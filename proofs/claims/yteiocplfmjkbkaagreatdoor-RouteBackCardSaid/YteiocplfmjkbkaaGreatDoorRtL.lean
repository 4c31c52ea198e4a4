/-
  Small nodes that hang from the one ahead of them or from the first: plain; their lines are right lines.
-/
import Derived.Test.YteiocplfmjkbkaaGreatDoorRtG
import Derived.Test.YteiocplfmjkbkaaGreatDoorRtB
namespace Go.Proofs.YteiocplfmjkbkaaGreatDoor
open Go.RowKit
set_option maxRecDepth 100000

def turnS (i : Nat) (s : SmN) : SmN := if s.ab % 2 = 0 then { s with ab := 0 } else if 0 < i then { s with ab := (i - 1) % 256 } else s
/-- What the loop has turned behind q rounds. -/
def turnL (l : List SmN) (q : Nat) : List SmN := l.mapIdx fun i s => if i < q then turnS i s else s
theorem turnL_len (l : List SmN) (q : Nat) : (turnL l q).length = l.length := by simp [turnL]
theorem turnL_at (l : List SmN) (q i : Nat) : (turnL l q)[i]? = (l[i]?).map fun s => if i < q then turnS i s else s := by simp [turnL]
theorem turnL_zero (l : List SmN) : turnL l 0 = l := by
  refine List.ext_getElem? fun i => ?_
  rw [turnL_at]
  cases l[i]? <;> rfl
theorem turnL_succ {l : List SmN} {q : Nat} {s : SmN} (h : l[q]? = some s) : turnL l (q + 1) = (turnL l q).set q (turnS q s) := by
  have hq : q < l.length := (List.getElem?_eq_some_iff.1 h).1
  refine List.ext_getElem? fun i => ?_
  rw [turnL_at, List.getElem?_set, turnL_at]
  by_cases hi : q = i
  · subst hi
    rw [if_pos rfl, if_pos (by rw [turnL_len]; exact hq), h]
    simp
  · rw [if_neg hi]
    cases hs : l[i]? with
    | none => rfl
    | some x =>
      by_cases h1 : i < q
      · simp [h1, Nat.lt_succ_of_lt h1]
      · simp [h1, show ¬ i < q + 1 by omega]
theorem turnL_now {l : List SmN} {q : Nat} {s : SmN} (h : l[q]? = some s) : (turnL l q)[q]? = some s := by
  rw [turnL_at, h]
  simp
theorem smn8_set : ∀ (l : List SmN) (q : Nat) (s : SmN) (a : Nat), l[q]? = some s → (l.flatMap smn8).set (q * 8 + 7) (.int .u8 a) = (l.set q { s with ab := a }).flatMap smn8 := by
  intro l
  induction l with
  | nil => intro q s a h; cases h
  | cons x r ih =>
    intro q s a h
    cases q with
    | zero =>
      obtain rfl : x = s := by simpa using h
      rfl
    | succ q =>
      have h2 : r[q]? = some s := by simpa using h
      rw [List.flatMap_cons, List.set_cons_succ, List.flatMap_cons, ← ih q s a h2, List.set_append_right (h := by show 8 ≤ _; omega)]
      rw [show (q + 1) * 8 + 7 - (smn8 x).length = q * 8 + 7 by show (q + 1) * 8 + 7 - 8 = _; omega]
theorem turnS_ok {i : Nat} {s : SmN} (h : s.ok) : (turnS i s).ok ∧ (turnS i s).v = s.v ∧ (turnS i s).asks = s.asks := by
  obtain ⟨h1, h2, h3, h4, h5, h6⟩ := h
  unfold turnS
  split
  · exact ⟨⟨h1, h2, h3, h4, h5, by show 0 < 256; omega⟩, rfl, rfl⟩
  · split
    · exact ⟨⟨h1, h2, h3, h4, h5, Nat.mod_lt _ (by omega)⟩, rfl, rfl⟩
    · exact ⟨⟨h1, h2, h3, h4, h5, h6⟩, rfl, rfl⟩
theorem turnL_mem {l : List SmN} {q : Nat} {s : SmN} (h : s ∈ turnL l q) : ∃ x ∈ l, s = x ∨ ∃ i, s = turnS i x := by
  obtain ⟨i, hi⟩ := List.mem_iff_getElem?.1 h
  rw [turnL_at] at hi
  cases hx : l[i]? with
  | none => rw [hx] at hi; cases hi
  | some x =>
    rw [hx] at hi
    have e : (if i < q then turnS i x else x) = s := Option.some.inj hi
    refine ⟨x, List.mem_of_getElem? hx, ?_⟩
    split at e
    · exact .inr ⟨i, e.symm⟩
    · exact .inl e.symm
theorem turnL_ab {l : List SmN} {k : Nat} {s : SmN} (h0 : 0 < k) (hk : k ≤ 11) (h : (turnL l l.length)[k]? = some s) : s.ab = 0 ∨ s.ab = k - 1 := by
  rw [turnL_at] at h
  cases hx : l[k]? with
  | none => rw [hx] at h; cases h
  | some x =>
    rw [hx] at h
    have hl : k < l.length := (List.getElem?_eq_some_iff.1 hx).1
    have e : (if k < l.length then turnS k x else x) = s := Option.some.inj h
    rw [if_pos hl] at e
    subst e
    unfold turnS
    split
    · exact .inl rfl
    · exact .inr (Nat.mod_eq_of_lt (by omega))
theorem close_go (L : List SmN) (hL : ∀ k s, 0 < k → k ≤ 11 → L[k]? = some s → s.ab = 0 ∨ s.ab = k - 1) : ∀ k, k ≤ 12 → k ≤ L.length → ∀ (i : Nat) n, 0 < i → (treeL (L.take k)).1[i]? = some n → n.above = 0 ∨ n.above = (i : Int) - 1 := by
  intro k
  induction k with
  | zero => intro _ _ i n _ h; simp [treeL] at h
  | succ k ih =>
    intro h1 h2 i n hi hn
    obtain ⟨e1, _⟩ := treeL_len L k (by omega) (by omega)
    obtain ⟨s, hs⟩ : ∃ s, L[k]? = some s := ⟨_, List.getElem?_eq_getElem (by omega)⟩
    rw [treeL_succ hs (by omega)] at hn
    by_cases h0 : k = 0
    · subst h0
      rw [stepN_root _ _ e1] at hn
      have h5 := (List.getElem?_eq_some_iff.1 hn).1
      rw [List.length_append, e1, List.length_singleton] at h5
      omega
    · rw [stepN_else _ s k _ e1 (by omega) rfl] at hn
      by_cases hlt : i < k
      · rw [List.getElem?_append_left (by rw [e1]; exact hlt)] at hn
        exact ih (by omega) (by omega) i n hi hn
      · have h5 := (List.getElem?_eq_some_iff.1 hn).1
        rw [List.length_append, e1, List.length_singleton] at h5
        obtain rfl : i = k := by omega
        rw [List.getElem?_append_right (by rw [e1]; exact Nat.le_refl _), e1, Nat.sub_self] at hn
        have e := congrArg NodeP.above (Option.some.inj hn)
        rw [← e]
        show ((if _ = 8 then 0 else s.ab % i : Nat) : Int) = 0 ∨ ((if _ = 8 then 0 else s.ab % i : Nat) : Int) = (i : Int) - 1
        split
        · exact .inl rfl
        · rcases hL i s (by omega) (by omega) hs with h | h
          · left; rw [h]; simp
          · right; rw [h, Nat.mod_eq_of_lt (by omega)]; omega
theorem close_turn (l : List SmN) : Close (treeRN (turnL l l.length)) := by
  intro i n hi hn
  unfold treeRN at hn
  split at hn
  · cases i with
    | zero => omega
    | succ i => cases hn
  · rw [← treeL_12, List.take_eq_take_min, List.getElem?_map] at hn
    cases hm : (treeL ((turnL l l.length).take (min 12 (turnL l l.length).length))).1[i]? with
    | none => rw [hm] at hn; cases hn
    | some m =>
      rw [hm] at hn
      have e := congrArg RN.above (Option.some.inj hn)
      rw [← e]
      exact close_go (turnL l l.length) (fun k s h0 hk h => turnL_ab h0 hk h) _ (Nat.min_le_left _ _) (Nat.min_le_right _ _) i m hi hm
theorem aqL_ok {a : Aq} (h : chkA a = 0) : aqL a ≠ [] ∧ ∀ b ∈ aqL a, 33 ≤ b.toNat ∧ b.toNat < 128 ∧ b.toNat ≠ 35 := by
  obtain ⟨h1, _, _, h4, _⟩ := chkA_parts h
  have k1 := word_ok h1
  have k2 : a.2.1 < 4 → ∀ b ∈ a.2.2.data.toList, 33 ≤ b.toNat ∧ b.toNat < 128 ∧ b.toNat ≠ 35 := fun h6 => (word_ok (h4 h6)).2
  have ne : ∀ r : List UInt8, a.1.data.toList ++ r ≠ [] := fun r e => k1.1 (List.append_eq_nil_iff.1 e).1
  unfold aqL
  by_cases e1 : a.2.1 = 1
  · rw [if_pos e1]
    refine ⟨ne _, fun b hb => ?_⟩
    rcases List.mem_append.1 hb with hb | hb
    · exact k1.2 b hb
    · rcases List.mem_cons.1 hb with rfl | hb
      · decide
      · exact k2 (by omega) b hb
  rw [if_neg e1]
  by_cases e2 : a.2.1 = 2
  · rw [if_pos e2]
    refine ⟨ne _, fun b hb => ?_⟩
    rcases List.mem_append.1 hb with hb | hb
    · exact k1.2 b hb
    · rcases List.mem_cons.1 hb with rfl | hb
      · decide
      · rcases List.mem_cons.1 hb with rfl | hb
        · decide
        · exact k2 (by omega) b hb
  rw [if_neg e2]
  by_cases e3 : a.2.1 = 3
  · rw [if_pos e3]
    refine ⟨ne _, fun b hb => ?_⟩
    rcases List.mem_append.1 hb with hb | hb
    · exact k1.2 b hb
    · rcases List.mem_cons.1 hb with rfl | hb
      · decide
      · rcases List.mem_cons.1 hb with rfl | hb
        · decide
        · exact k2 (by omega) b hb
  rw [if_neg e3]
  split
  · exact k1
  · refine ⟨by simp, fun b hb => ?_⟩
    rcases List.mem_cons.1 hb with rfl | hb
    · decide
    · exact k1.2 b hb
theorem asksT_ok {l : List Aq} (h : ∀ a ∈ l, chkA a = 0) : wOk (asksT l) := by
  by_cases hne : l = []
  · subst hne
    exact ⟨by decide, by decide⟩
  unfold wOk
  rw [asksT_ne hne]
  cases l with
  | nil => exact absurd rfl hne
  | cons a r =>
    have ha := aqL_ok (h a (.head _))
    refine ⟨fun e => ha.1 (List.append_eq_nil_iff.1 e).1, fun b hb => ?_⟩
    rcases List.mem_append.1 hb with hb | hb
    · exact ha.2 b hb
    · obtain ⟨y, hy, hb⟩ := List.mem_flatMap.1 hb
      rcases List.mem_cons.1 hb with rfl | hb
      · decide
      · obtain ⟨z, hz, rfl⟩ := List.mem_map.1 hy
        exact (aqL_ok (h z (.tail _ hz))).2 b hb
theorem nm_wOk {s : ByteArray} (h : nameB s = true) : wOk s ∧ s.size ≤ 12 := by
  unfold nameB at h
  rw [Bool.and_eq_true] at h
  exact ⟨word_ok h.1, word_size h.1⟩
theorem words_ok {p : RN} (h : p.Fit) : ∀ y ∈ lineWords p.asks (setsOf p), wOk y := by
  intro y hy
  rcases List.mem_cons.1 hy with rfl | hy
  · exact ⟨by decide, by decide⟩
  rcases List.mem_cons.1 hy with rfl | hy
  · exact asksT_ok h.ask
  have hy' : y ∈ [⟨#[116, 111]⟩, p.tgt, ⟨#[98, 121]⟩, keysT p.bys, ⟨#[119, 97, 105, 116]⟩, decB p.wait, ⟨#[98, 101, 116, 119, 101, 101, 110]⟩, decB p.between, ⟨#[114, 101, 112, 101, 97, 116]⟩, decB p.again] ++ (if p.more = true then [(⟨#[109, 111, 114, 101]⟩ : ByteArray)] else []) := by
    unfold setsOf setWords at hy
    cases hm : p.more <;> rw [hm] at hy <;> exact hy
  rcases List.mem_append.1 hy' with hy | hy
  · simp only [List.mem_cons, List.not_mem_nil, or_false] at hy
    rcases hy with rfl | rfl | rfl | rfl | rfl | rfl | rfl | rfl | rfl | rfl
    · exact ⟨by decide, by decide⟩
    · exact (nm_wOk h.name).1
    · exact ⟨by decide, by decide⟩
    · exact keysT_ok h.key
    · exact ⟨by decide, by decide⟩
    · exact dec_ok _
    · exact ⟨by decide, by decide⟩
    · exact dec_ok _
    · exact ⟨by decide, by decide⟩
    · exact dec_ok _
  · split at hy
    · rw [List.mem_singleton.1 hy]; exact ⟨by decide, by decide⟩
    · cases hy
theorem line_size {p : RN} (h : p.Fit) (d : Nat) (hd : d ≤ 8) : (lineOf p d).text.size < 4294967281 := by
  have e := congrArg List.length (lineOf_text p d)
  have h1 := asksT_size h.asks h.ask
  have h2 := keysT_size h.bys h.key
  have h3 := (nm_wOk h.name).2
  have h4 := decB_size p.wait (by have := h.wait; omega)
  have h5 := decB_size p.between (by have := h.more; have := h.again; omega)
  have h6 := decB_size p.again (by have := h.again; omega)
  have h7 : (Lib.repeatL [45, 32] d).length = 2 * d := by
    have := repeat_size d
    rw [Lib.size_eq] at this
    exact this
  have h8 : (if p.more = true then [(32 : UInt8), 109, 111, 114, 101] else []).length ≤ 5 := by split <;> decide
  rw [Lib.size_eq] at h1 h2 h3 h4 h5 h6 ⊢
  rw [e]
  simp only [List.length_append, List.length_cons, List.length_nil, h7]
  omega
theorem lines_fit {ps : List RN} {d : Nat → Nat} (h : RTree ps d) (hc : Close ps) : LinesFit (linesOf ps d) := by
  have key : ∀ l ∈ linesOf ps d, ∃ p ∈ ps, ∃ k, k < ps.length ∧ l = lineOf p (d k - 1) := by
    intro l hl
    obtain ⟨k, hk⟩ := List.mem_iff_getElem?.1 hl
    have hkl : k < ps.length := by have := (List.getElem?_eq_some_iff.1 hk).1; rwa [linesOf_len] at this
    obtain ⟨p, hp⟩ : ∃ p, ps[k]? = some p := ⟨_, List.getElem?_eq_getElem hkl⟩
    rw [linesOf_at hp] at hk
    exact ⟨p, List.mem_of_getElem? hp, k, hkl, (Option.some.inj hk).symm⟩
  refine ⟨by rw [linesOf_len]; exact h.many, fun l hl => ?_, fun l hl s hs => ?_, fun l hl => ?_, back_fit h hc⟩
  · obtain ⟨p, hp, k, _, rfl⟩ := key l hl
    exact ⟨(h.fit p hp).asks, (h.fit p hp).ask⟩
  · obtain ⟨p, hp, k, _, rfl⟩ := key l hl
    have f := h.fit p hp
    have hs' : s ∈ [Set1.tgt p.tgt, .bys p.bys, .wait p.wait, .between p.between, .again p.again] ++ (if p.more = true then [.more] else []) := hs
    rcases List.mem_append.1 hs' with hs | hs
    · simp only [List.mem_cons, List.not_mem_nil, or_false] at hs
      rcases hs with rfl | rfl | rfl | rfl | rfl
      · exact trivial
      · exact ⟨f.bys, f.key, f.up⟩
      · exact f.wait
      · exact Nat.le_trans f.more f.again
      · exact f.again
    · split at hs
      · rw [List.mem_singleton.1 hs]; exact trivial
      · cases hs
  · obtain ⟨p, hp, k, hk, rfl⟩ := key l hl
    have f := h.fit p hp
    refine ⟨words_ok f, line_size f _ (by have := h.most k hk; omega), ?_⟩
    show (setsOf p).length ≤ 100
    unfold setsOf
    cases p.more <;> simp
end Go.Proofs.YteiocplfmjkbkaaGreatDoor
