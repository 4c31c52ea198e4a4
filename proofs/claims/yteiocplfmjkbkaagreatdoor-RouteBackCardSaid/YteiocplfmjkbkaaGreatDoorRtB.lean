/-
  Small nodes are a tree: plain.
-/
import Derived.Test.YteiocplfmjkbkaaGreatDoorRtA
import Derived.Test.YteiocplfmjkbkaaGreatDoorRNodes
namespace Go.Proofs.YteiocplfmjkbkaaGreatDoor
open Go.RowKit
set_option maxRecDepth 100000

def toAq (t : Nat × Nat × Nat) : Aq := (askKeyB t.1, 1 + t.2.1 % 5, if 3 ≤ t.2.1 % 5 then ⟨#[]⟩ else askValB t.2.2)
def toRN (p : NodeP) : RN := ⟨p.asks.map toAq, p.tgt, p.bys, p.wait, p.between, p.again, p.more, p.above⟩
def toV (n : NodeV) : RNV := ⟨toRN n.p, n.va, n.vb⟩
theorem toV_cells (ns : List NodeV) : (ns.map toV).flatMap rn8 = ns.flatMap node8 := by rw [List.flatMap_map]; rfl
theorem asks_cells (l : List (Nat × Nat × Nat)) : (l.map toAq).flatMap aqC = askCells l := by unfold askCells; rw [List.flatMap_map]; rfl
theorem key_wordB (k : Nat) : wordB (askKeyB k) 8 false = true := by
  unfold askKeyB
  have h : k % 5 = 0 ∨ k % 5 = 1 ∨ k % 5 = 2 ∨ k % 5 = 3 ∨ k % 5 = 4 := by omega
  rcases h with h | h | h | h | h <;> rw [h] <;> decide +kernel
theorem val_wordB (k : Nat) : wordB (askValB k) 16 true = true := by
  unfold askValB
  have h : k % 5 = 0 ∨ k % 5 = 1 ∨ k % 5 = 2 ∨ k % 5 = 3 ∨ k % 5 = 4 := by omega
  rcases h with h | h | h | h | h <;> rw [h] <;> decide +kernel
theorem toAq_chk (t : Nat × Nat × Nat) : chkA (toAq t) = 0 := by
  unfold chkA toAq
  dsimp only
  rw [key_wordB]
  unfold chkG
  rw [if_neg (by simp), if_neg (by omega), if_neg ?_]
  rintro (⟨h1, h2⟩ | ⟨h1, h2⟩)
  · rw [if_pos (by omega)] at h2
    exact h2 rfl
  · rw [if_neg (by omega), val_wordB] at h2
    cases h2
theorem toB_name (k : Nat) : nameB (toB k) = true := by
  unfold toB
  have h : k % 3 = 0 ∨ k % 3 = 1 ∨ k % 3 = 2 := by omega
  rcases h with h | h | h <;> rw [h] <;> decide +kernel
def byL (b0 b1 b2 b3 : Bool) : List ByteArray := (if b0 = true then [⟨#[97]⟩] else []) ++ (if b1 = true then [⟨#[98]⟩] else []) ++ (if b2 = true then [⟨#[110, 111, 100, 101]⟩] else []) ++ (if b3 = true then [⟨#[114, 117, 108, 101]⟩] else [])
theorem byTo_four (n : Nat) : byTo n 4 = byL (labBit n 0) (labBit n 1) (labBit n 2) (labBit n 3) := by
  rw [byTo_succ, byTo_succ, byTo_succ, byTo_succ]
  rfl
theorem byL_fit : ∀ b0 b1 b2 b3 : Bool, (byL b0 b1 b2 b3).length ≤ 8 ∧ (∀ k ∈ byL b0 b1 b2 b3, wordB k 8 false = true) ∧ (byL b0 b1 b2 b3).Pairwise fun x y => ltS x y = true := by
  decide +kernel
theorem toRN_fit (asks : List (Nat × Nat × Nat)) (t bi wa be re : Nat) (mo : Bool) (ab : Int) (h : asks.length ≤ 8) : (toRN ⟨asks, toB t, byTo bi 4, wa % 6, 1 + be % 6, 1 + be % 6 + re % 20, mo, ab⟩).Fit := by
  have hb := byL_fit (labBit bi 0) (labBit bi 1) (labBit bi 2) (labBit bi 3)
  rw [← byTo_four] at hb
  refine ⟨by simpa [toRN] using h, fun a ha => ?_, toB_name t, hb.1, hb.2.1, hb.2.2, by show wa % 6 ≤ 1048576; omega, by show 1 ≤ 1 + be % 6; omega, by show 1 + be % 6 ≤ 1 + be % 6 + re % 20; omega, by show 1 + be % 6 + re % 20 ≤ 1048576; omega⟩
  obtain ⟨t, _, rfl⟩ := List.mem_map.1 ha
  exact toAq_chk t
/-- What holds of a tree as it is laid. -/
structure Grown (st : List NodeP × List Nat) : Prop where
  len : st.2.length = st.1.length
  fit : ∀ n ∈ st.1, (toRN n).Fit
  node : ∀ (i : Nat) n, st.1[i]? = some n → (i = 0 ∧ n.above = -1 ∧ n.asks = [] ∧ n.more = false ∧ st.2.getD i 0 = 1) ∨ ∃ a : Nat, 0 < i ∧ n.above = (a : Int) ∧ a < i ∧ st.2.getD i 0 = st.2.getD a 0 + 1
  most : ∀ i : Nat, i < st.1.length → st.2.getD i 0 ≤ 8
theorem getD_app {l : List Nat} {x i : Nat} (h : i < l.length) : (l ++ [x]).getD i 0 = l.getD i 0 := by
  rw [List.getD_eq_getElem?_getD, List.getD_eq_getElem?_getD, List.getElem?_append_left h]
theorem getD_last {l : List Nat} {x : Nat} : (l ++ [x]).getD l.length 0 = x := by
  rw [List.getD_eq_getElem?_getD]; simp
theorem Grown.snoc {st : List NodeP × List Nat} (h : Grown st) (n : NodeP) (x : Nat) (hf : (toRN n).Fit) (hx : x ≤ 8)
    (hn : (st.1.length = 0 ∧ n.above = -1 ∧ n.asks = [] ∧ n.more = false ∧ x = 1) ∨ ∃ a : Nat, 0 < st.1.length ∧ n.above = (a : Int) ∧ a < st.1.length ∧ x = st.2.getD a 0 + 1) : Grown (st.1 ++ [n], st.2 ++ [x]) := by
  have hl := h.len
  refine ⟨by simp [hl], fun m hm => ?_, fun i m hi => ?_, fun i hi => ?_⟩
  · rcases List.mem_append.1 hm with hm | hm
    · exact h.fit m hm
    · rw [List.mem_singleton.1 hm]; exact hf
  · dsimp only at hi ⊢
    by_cases hlt : i < st.1.length
    · rw [List.getElem?_append_left hlt] at hi
      rw [getD_app (by omega)]
      rcases h.node i m hi with h1 | ⟨a, h1, h2, h3, h4⟩
      · exact .inl h1
      · exact .inr ⟨a, h1, h2, h3, by rw [getD_app (by omega)]; exact h4⟩
    · have hi2 : i < (st.1 ++ [n]).length := (List.getElem?_eq_some_iff.1 hi).1
      rw [List.length_append, List.length_singleton] at hi2
      obtain rfl : i = st.1.length := by omega
      have hm : n = m := by simpa using hi
      subst hm
      have e : (st.2 ++ [x]).getD st.1.length 0 = x := by rw [← hl]; exact getD_last
      rw [e]
      rcases hn with ⟨h1, h2, h3, h4, h5⟩ | ⟨a, h1, h2, h3, h4⟩
      · exact .inl ⟨h1, h2, h3, h4, h5⟩
      · exact .inr ⟨a, h1, h2, h3, by rw [getD_app (by omega)]; exact h4⟩
  · dsimp only at hi ⊢
    rw [List.length_append, List.length_singleton] at hi
    by_cases hlt : i < st.1.length
    · rw [getD_app (by omega)]; exact h.most i hlt
    · obtain rfl : i = st.1.length := by omega
      rw [show (st.2 ++ [x]).getD st.1.length 0 = x by rw [← hl]; exact getD_last]
      exact hx
theorem Grown.step {st : List NodeP × List Nat} (h : Grown st) (s : SmN) : Grown (stepN st s) := by
  by_cases h0 : st.1.length = 0
  · rw [stepN_root st s h0]
    exact h.snoc _ 1 (toRN_fit _ _ _ _ _ _ _ _ (by simp)) (by omega) (.inl ⟨h0, rfl, rfl, rfl, rfl⟩)
  · have hp : 0 < st.1.length := by omega
    rw [stepN_else st s st.1.length _ rfl hp rfl]
    have hm : s.ab % st.1.length < st.1.length := Nat.mod_lt _ hp
    have h1 : st.2.getD 0 0 = 1 := by
      rcases h.node 0 st.1[0] (List.getElem?_eq_getElem hp) with ⟨_, _, _, _, h5⟩ | ⟨a, h5, _⟩
      · exact h5
      · omega
    have hle : (if st.2.getD (s.ab % st.1.length) 0 = 8 then 0 else s.ab % st.1.length) < st.1.length ∧ st.2.getD (if st.2.getD (s.ab % st.1.length) 0 = 8 then 0 else s.ab % st.1.length) 0 ≤ 7 := by
      split
      · exact ⟨hp, by omega⟩
      · have := h.most _ hm
        exact ⟨hm, by omega⟩
    exact h.snoc _ _ (toRN_fit _ _ _ _ _ _ _ _ (by rw [List.length_take]; omega)) (by omega) (.inr ⟨_, hp, rfl, hle.1, rfl⟩)
theorem grown_tree (l : List SmN) : Grown (treeL l) := foldl_inv Grown stepN (fun _st s h => h.step s) _ _ ⟨rfl, (fun _n hn => nomatch hn), (fun _i _n hn => nomatch hn), (fun _i hi => nomatch hi)⟩
/-- The tree of small nodes. -/
def treeRN (l : List SmN) : List RN := if l = [] then [toRN defN] else (treeL l).1.map toRN
theorem Grown.tree {st : List NodeP × List Nat} (h : Grown st) (h0 : 0 < st.1.length) (h1 : st.1.length ≤ 32) : RTree (st.1.map toRN) (fun i => st.2.getD i 0) := by
  have hi : ∀ (i : Nat) n, (st.1.map toRN)[i]? = some n → ∃ m, st.1[i]? = some m ∧ toRN m = n := fun i n hn => by
    rw [List.getElem?_map] at hn
    cases hm : st.1[i]? with
    | none => rw [hm] at hn; cases hn
    | some m => rw [hm] at hn; exact ⟨m, rfl, Option.some.inj hn⟩
  refine ⟨by simpa using h0, by simpa using h1, fun n hn => ?_, fun i n hn => ?_, fun n hn => ?_, fun i n h5 hn => ?_, fun i h5 => h.most i (by simpa using h5)⟩
  · obtain ⟨m, hm, rfl⟩ := List.mem_map.1 hn
    exact h.fit m hm
  · obtain ⟨m, hm, rfl⟩ := hi i n hn
    rcases h.node i m hm with ⟨_, h2, _, _, h5⟩ | ⟨a, _, h2, h3, h4⟩
    · exact .inl ⟨h2, h5⟩
    · exact .inr ⟨a, h2, h3, h4⟩
  · obtain ⟨m, hm, rfl⟩ := hi 0 n hn
    rcases h.node 0 m hm with ⟨_, h2, h3, h4, _⟩ | ⟨a, h2, _⟩
    · exact ⟨h2, by show m.asks.map toAq = []; rw [h3]; rfl, h4⟩
    · omega
  · obtain ⟨m, hm, rfl⟩ := hi i n hn
    rcases h.node i m hm with ⟨h2, _⟩ | ⟨a, _, h2, h3, _⟩
    · omega
    · show 0 ≤ m.above ∧ m.above < (i : Int)
      omega
theorem def_grown : Grown ([defN], [1]) := by
  refine ⟨rfl, fun n hn => ?_, fun i n hn => ?_, fun i hi => ?_⟩
  · rw [List.mem_singleton.1 hn]
    exact ⟨by decide, (fun a ha => nomatch ha), by decide +kernel, by decide, (fun a ha => nomatch ha), by simp [toRN, defN], by decide, by decide, by decide, by decide⟩
  · match i, hn with
    | 0, hn => obtain rfl : defN = n := Option.some.inj hn; exact .inl ⟨rfl, rfl, rfl, rfl, rfl⟩
    | i + 1, hn => simp at hn
  · have : i < 1 := hi
    obtain rfl : i = 0 := by omega
    decide
theorem treeRN_tree (l : List SmN) : ∃ d, RTree (treeRN l) d := by
  unfold treeRN
  split
  · exact ⟨_, def_grown.tree (by decide) (by decide)⟩
  · rename_i hl
    have hlen : (treeL l).1.length = min 12 l.length := by
      have := (treeL_len l (min 12 l.length) (by omega) (by omega)).1
      by_cases h : 12 ≤ l.length
      · rw [Nat.min_eq_left h] at this ⊢
        rw [← treeL_12]; exact this
      · rw [Nat.min_eq_right (by omega), List.take_length] at this
        rw [Nat.min_eq_right (by omega)]; exact this
    have : 0 < l.length := List.length_pos_iff.2 hl
    exact ⟨_, (grown_tree l).tree (by rw [hlen]; omega) (by rw [hlen]; omega)⟩
end Go.Proofs.YteiocplfmjkbkaaGreatDoor
