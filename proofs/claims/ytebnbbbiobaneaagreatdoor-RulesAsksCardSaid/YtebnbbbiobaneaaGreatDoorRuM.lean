/-
  Whole structs in memory: a range read, a range written.
-/
import Derived.Test.YtebnbbbiobaneaaGreatDoorSt
import Derived.Deep.MidRow
namespace Go.Proofs.YtebnbbbiobaneaaGreatDoor
open Go.RowKit
set_option maxRecDepth 100000

theorem setCells_mod (g : Nat) : ∀ (vs : List Value) (o : Nat) (w : World), (w.setCells g o vs).os = w.os ∧ (w.setCells g o vs).tape = w.tape ∧ (w.setCells g o vs).output = w.output ∧ (w.setCells g o vs).heap.size = w.heap.size ∧ ∀ k, k ≠ g → (w.setCells g o vs).heap[k]? = w.heap[k]? := by
  intro vs
  induction vs with
  | nil => exact fun _ _ => ⟨rfl, rfl, rfl, rfl, fun _ _ => rfl⟩
  | cons v r ih =>
    intro o w
    obtain ⟨h1, h2, h3, h4, h5⟩ := ih (o + 1) (w.setCell ⟨g, o, none⟩ v)
    exact ⟨h1, h2, h3, h4.trans (by simp), fun k hk => (h5 k hk).trans (Below.heap_setCell w _ v k hk)⟩
theorem Blk.there {w : World} {g : Nat} {cs : Array Value} {t : TypeId} (h : Blk w g cs t) (o n : Nat) (hn : o + n ≤ cs.size) : w.there g o n := fun j hj => ⟨by rw [h.cell (Array.getElem?_eq_getElem (show o + j < cs.size by omega))]; rfl, h.frozen _⟩
theorem Upd.putAll {S : List Nat} {w0 w : World} {C : List Chunk} (h : Upd S w0 C w) (i : Nat) {g : Nat} {cs : Array Value} {t : TypeId} (hi : C[i]? = some (chBlk g cs t)) (vs : List Value) (hl : vs.length = cs.size) : Upd S w0 (chBlk g vs.toArray t :: C.eraseIdx i) (w.setCells g 0 vs) := by
  have key : ∀ (vs : List Value) (o : Nat) (cs : Array Value) (w : World), Blk w g cs t → o + vs.length ≤ cs.size → ∃ cs' : Array Value, Blk (w.setCells g o vs) g cs' t ∧ cs'.toList = cs.toList.take o ++ (vs ++ cs.toList.drop (o + vs.length)) := by
    intro vs
    induction vs with
    | nil => intro o cs w hB _; exact ⟨cs, hB, by simp⟩
    | cons v r ih =>
      intro o cs w hB ho
      simp only [List.length_cons] at ho
      obtain ⟨cs', h1, h2⟩ := ih (o + 1) (cs.setIfInBounds o v) (w.setCell ⟨g, o, none⟩ v) (hB.set_ o v) (by rw [Array.size_setIfInBounds]; omega)
      refine ⟨cs', h1, ?_⟩
      have hlo : o < cs.toList.length := by rw [Array.length_toList]; omega
      have e1 : (cs.toList.set o v).take (o + 1) = cs.toList.take o ++ [v] := by
        rw [List.take_add_one, List.getElem?_set_self hlo, List.take_set_of_le (Nat.le_refl o)]; rfl
      have e2 : (cs.toList.set o v).drop (o + 1 + r.length) = cs.toList.drop (o + (r.length + 1)) := by
        rw [List.drop_set_of_lt (by omega), show o + 1 + r.length = o + (r.length + 1) by omega]
      rw [h2, Array.toList_setIfInBounds, e1, e2, List.length_cons, List.append_assoc]
      rfl
  obtain ⟨cs', h1, h2⟩ := key vs 0 cs w (h.blk i hi) (by omega)
  have e : cs' = vs.toArray := by
    apply Array.ext'
    rw [h2, List.take_zero, List.nil_append, Nat.zero_add, hl, ← Array.length_toList, List.drop_length, List.append_nil]
  rw [e] at h1
  obtain ⟨m1, m2, m3, m4, m5⟩ := setCells_mod g vs 0 w
  have : Upd (chBlk g cs t).fp w [chBlk g vs.toArray t] (w.setCells g 0 vs) :=
    ⟨m1, m2, m3, by rw [m4]; exact Nat.le_refl _, fun k _ hne => m5 k (by simpa [chBlk] using hne), fun d hd => by rw [List.mem_singleton.1 hd]; exact h1, fun d hd b hb => by rw [List.mem_singleton.1 hd] at hb; exact .inl hb, by simp⟩
  exact h.turn i hi this
theorem rangeAt_nil (w : World) (b o : Nat) : w.rangeAt b o [] := fun j v h => by simp at h
theorem rangeAt_cons {w : World} {b o : Nat} {v : Value} {r : List Value} (h0 : w.cell? ⟨b, o, none⟩ = some v) (h : w.rangeAt b (o + 1) r) : w.rangeAt b o (v :: r) := fun j u hj => by
  cases j with
  | zero => cases hj; exact h0
  | succ j =>
    have := h j u (by simpa using hj)
    rw [show o + (j + 1) = o + 1 + j by omega]
    exact this
end Go.Proofs.YtebnbbbiobaneaaGreatDoor
