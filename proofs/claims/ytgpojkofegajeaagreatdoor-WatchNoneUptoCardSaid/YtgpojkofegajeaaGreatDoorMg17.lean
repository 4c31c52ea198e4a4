/-
  A map of strings to true: a set. What looking up and entering do. A world in which only one block was written, and memory made.
-/
import Derived.Test.YtgpojkofegajeaaGreatDoorMem
import Derived.MapKept
import Derived.WalkSpells
namespace Go.Proofs.YtgpojkofegajeaaGreatDoor
open Go.RowKit
set_option maxRecDepth 100000

section
variable {b : Nat} {w w' : World}
/-- Only block b was written; new memory may be there. -/
structure But (b : Nat) (w w' : World) : Prop where
  os : w'.os = w.os
  tape : w'.tape = w.tape
  output : w'.output = w.output
  size : w.heap.size ≤ w'.heap.size
  block : ∀ k, k < w.heap.size → k ≠ b → w'.heap[k]? = w.heap[k]?
theorem But.refl (b : Nat) (w : World) : But b w w := ⟨rfl, rfl, rfl, Nat.le_refl _, fun _ _ _ => rfl⟩
theorem But.trans {w'' : World} (h : But b w w') (k : But b w' w'') : But b w w'' :=
  ⟨k.os.trans h.os, k.tape.trans h.tape, k.output.trans h.output, Nat.le_trans h.size k.size, fun j hj hb => (k.block j (Nat.lt_of_lt_of_le hj h.size) hb).trans (h.block j hj hb)⟩
theorem But.of_below (h : Below w.heap.size w w') : But b w w' := ⟨h.os, h.tape, h.output, h.size, fun k hk _ => h.block k hk⟩
theorem But.set (b j : Nat) (v : Value) (w : World) : But b w (w.setCell ⟨b, j, none⟩ v) :=
  ⟨rfl, rfl, rfl, by simp, fun k _ hne => Below.heap_setCell w _ v k hne⟩
theorem But.put (h : But b w w') (j : Nat) (v : Value) : But b w (w'.setCell ⟨b, j, none⟩ v) := h.trans (But.set b j v w')
theorem But.drew (h : But b w w') : But b w w'.drew := ⟨h.os, h.tape, h.output, h.size, h.block⟩
theorem But.below {B : Nat} {w0 : World} (h : But b w w') (h0 : Below B w0 w) (hB : B ≤ w0.heap.size) (hb : B ≤ b) : Below B w0 w' :=
  ⟨h.os.trans h0.os, h.tape.trans h0.tape, h.output.trans h0.output, Nat.le_trans h0.size h.size, fun k hk => (h.block k (Nat.lt_of_lt_of_le (Nat.lt_of_lt_of_le hk hB) h0.size) (by omega)).trans (h0.block k hk)⟩
theorem But.grownBy (h : But b w w') : w.grownBy w' (some b) := ⟨h.os, h.tape, h.output, h.size, fun k hk hne => h.block k hk (fun e => hne (by rw [e]))⟩
end
theorem rd_one {w : World} {g n : Nat} {cs : Array Value} {t : TypeId} (h : Blk w g cs t) (hn : cs.size = n) : Rd w n (.slice (some ⟨g, 0, none⟩) 1 1) 1 cs.toList :=
  ⟨_, _, rfl, by simp [hn], Nat.le_refl _, by unfold maxLen; omega, fun _ => ⟨_, _, rfl, fun j u hj => by rw [Nat.zero_add]; exact h.cell (by simpa using hj)⟩⟩
end Go.Proofs.YtgpojkofegajeaaGreatDoor
namespace Go.Proofs.YtgpojkofegajeaaGreatDoor
open Go.RowKit
set_option maxRecDepth 100000

theorem baB_dec (a b : ByteArray) : (a == b) = decide (a = b) := by
  rw [beq_toListBytes, ByteArray.toList_eq, ByteArray.toList_eq]
  by_cases h : a = b
  · simp [h]
  · have : ¬ a.data = b.data := fun e => h (by cases a; cases b; simp_all)
    simp [h, this]
def kvS (s : ByteArray) : Value × Value := (.string s, .bool true)
theorem findNow_set (s : ByteArray) : ∀ (es : List MapEntry) (N : List ByteArray) (i : Nat), es.map (fun e => (e.key, e.val)) = N.map kvS →
    (s ∉ N ∧ Instr.findNow .string (.string s) es i = some none) ∨ (s ∈ N ∧ ∃ j, Instr.findNow .string (.string s) es i = some (some (i + j, .bool true))) := by
  intro es
  induction es with
  | nil =>
    intro N i h
    cases N with
    | nil => exact .inl ⟨by simp, rfl⟩
    | cons f r => cases h
  | cons e es ih =>
    intro N i h
    cases N with
    | nil => cases h
    | cons f r =>
      simp only [List.map_cons, List.cons.injEq] at h
      obtain ⟨h1, h2⟩ := h
      obtain ⟨hk, hv⟩ := Prod.mk.injEq .. ▸ h1
      simp only [Instr.findNow, hk, hv, Instr.sameNow]
      by_cases hs : s = f
      · right
        refine ⟨by rw [hs]; exact .head _, 0, ?_⟩
        have hb : (s == f) = true := by rw [baB_dec]; simp [hs]
        simp only [hb, Nat.add_zero]
      · have hb : (s == f) = false := by rw [baB_dec]; simp [hs]
        simp only [hb]
        rcases ih r (i + 1) h2 with ⟨a, b⟩ | ⟨a, j, c⟩
        · exact .inl ⟨by simp [hs, a], b⟩
        · exact .inr ⟨.tail _ a, j + 1, by rw [c]; congr 3; omega⟩
/-- The map at block m is the set N. -/
def SetAt (w : World) (m : Nat) (N : List ByteArray) : Prop := ∃ es clock, w.heap[m]? = some (.map es clock) ∧ es.toList.map (fun e => (e.key, e.val)) = N.map kvS
theorem SetAt.lt {w : World} {m : Nat} {N : List ByteArray} (h : SetAt w m N) : m < w.heap.size := by
  obtain ⟨es, c, h, _⟩ := h
  rcases Nat.lt_or_ge m w.heap.size with h' | h'
  · exact h'
  · rw [Array.getElem?_eq_none h'] at h; cases h
theorem SetAt.below {w w' : World} {m B : Nat} {N : List ByteArray} (h : SetAt w m N) (hb : Below B w w') (hm : m < B) : SetAt w' m N :=
  let ⟨es, c, h1, h2⟩ := h; ⟨es, c, (hb.block m hm).trans h1, h2⟩
theorem SetAt.grown {w w' : World} {m : Nat} {N : List ByteArray} {row : Option Nat} (h : SetAt w m N) (hg : w.grownBy w' row) (hm : some m ≠ row) : SetAt w' m N := by
  obtain ⟨es, c, h1, h2⟩ := h
  exact ⟨es, c, (hg.block m (SetAt.lt ⟨es, c, h1, h2⟩) hm).trans h1, h2⟩
theorem SetAt.made (w : World) : SetAt (w.alloc (.map #[] 0)) w.heap.size [] := ⟨#[], 0, heap_alloc_new w _, rfl⟩
theorem set_look {w : World} {m : Nat} {N : List ByteArray} (h : SetAt w m N) (s : ByteArray) (b : Bool) (hb : b = true ↔ s ∈ N) :
    (Instr.lookup 127 (.map (some m)) (.string s) false).run Tryz.prog w = .ok (.bool b) w := by
  obtain ⟨es, c, hm, he⟩ := h
  have hu := Tryz.underlying127
  have hs := Tryz.underlying9
  unfold Instr.lookup
  rcases findNow_set s es.toList N 0 he with ⟨a, q⟩ | ⟨a, j, q⟩
  · have hf := MapKept.run_findKey (w := w) hs q
    have e : b = false := by cases b with
      | false => rfl
      | true => exact absurd (hb.1 rfl) a
    simp [Sem.run_bind, run_underlying hu, MapKept.run_getObj_map hm, MapKept.run_checkKey hs (k := .string s) trivial, hf, Result.andThen, e]
  · have hf := MapKept.run_findKey (w := w) hs q
    have e : b = true := hb.2 a
    simp [Sem.run_bind, run_underlying hu, MapKept.run_getObj_map hm, MapKept.run_checkKey hs (k := .string s) trivial, hf, Result.andThen, e]
theorem set_put {w : World} {m : Nat} {N : List ByteArray} (h : SetAt w m N) (s : ByteArray) (hn : s ∉ N) :
    ∃ w', (Instr.mapUpdate 127 (.map (some m)) (.string s) (.bool true)).run Tryz.prog w = .ok () w' ∧ SetAt w' m (N ++ [s]) ∧ But m w w' := by
  obtain ⟨es, c, hm, he⟩ := h
  have hu := Tryz.underlying127
  have hs := Tryz.underlying9
  have hlt : m < w.heap.size := SetAt.lt ⟨es, c, hm, he⟩
  rcases findNow_set s es.toList N 0 he with ⟨a, b⟩ | ⟨a, j, b⟩
  · have hf := MapKept.run_findKey (w := w) hs b
    refine ⟨{ w with heap := w.heap.setIfInBounds m (.map (es.push { key := .string s, val := .bool true, born := c }) (c + 1)) }, ?_, ⟨es.push { key := .string s, val := .bool true, born := c }, c + 1, ?_, ?_⟩, rfl, rfl, rfl, by simp, fun k _ hne => ?_⟩
    · simp [Instr.mapUpdate, run_underlying hu, MapKept.run_getObj_map hm, MapKept.run_checkKey hs (k := .string s) trivial, hf, MapKept.run_setObj_map _ hm, Result.andThen]
    · simp [hlt]
    · simp [he, kvS]
    · simp only
      rw [Array.getElem?_setIfInBounds_ne (Ne.symm hne)]
  · exact absurd a hn
end Go.Proofs.YtgpojkofegajeaaGreatDoor
