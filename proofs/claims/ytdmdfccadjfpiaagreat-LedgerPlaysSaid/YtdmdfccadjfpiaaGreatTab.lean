/-
  A crc.Table's block: its cells, and what lasts while only this block is written.
-/
import Derived.Test.YtdmdfccadjfpiaaGreatMem
namespace Go.Proofs.YtdmdfccadjfpiaaGreat
open Go.RowKit
set_option maxRecDepth 100000

/-- The cells of a table: done, the lock's state, its sema, the words, the two counts. -/
def tc (d : Nat) (st : Int) (ws : Nat → Nat) (s t : Nat) (j : Nat) : Value :=
  if j = 0 then .int .u32 d else if j = 1 then .int .i32 st else if j = 2 then .int .u32 0 else if j < 259 then .int .u32 (ws (j - 3)) else if j = 259 then .int .u64 s else .int .u64 t
def Tab (w : World) (b : Nat) (d : Nat) (st : Int) (ws : Nat → Nat) (s t : Nat) : Prop :=
  ∃ cs, Blk w b cs 116 ∧ cs.size = 261 ∧ ∀ j, j < 261 → cs[j]? = some (tc d st ws s t j)
section
variable {w w' : World} {b : Nat} {d : Nat} {st : Int} {ws : Nat → Nat} {s t : Nat}
theorem Tab.lt (h : Tab w b d st ws s t) : b < w.heap.size := let ⟨_, h1, _⟩ := h; h1.lt
theorem Tab.cell (h : Tab w b d st ws s t) {j : Nat} (hj : j < 261) : w.cell? ⟨b, j, none⟩ = some (tc d st ws s t j) := let ⟨_, h1, _, h3⟩ := h; h1.cell (h3 j hj)
theorem Tab.frozen (h : Tab w b d st ws s t) (j : Nat) : w.frozen? ⟨b, j, none⟩ = false := let ⟨_, h1, _⟩ := h; h1.frozen j
theorem Tab.done (h : Tab w b d st ws s t) : w.cell? ⟨b, 0, none⟩ = some (.int .u32 d) := h.cell (j := 0) (by decide)
theorem Tab.state (h : Tab w b d st ws s t) : w.cell? ⟨b, 1, none⟩ = some (.int .i32 st) := h.cell (j := 1) (by decide)
theorem Tab.word (h : Tab w b d st ws s t) {i : Nat} (hi : i < 256) : w.cell? ⟨b, 3 + i, none⟩ = some (.int .u32 (ws i)) := by
  rw [h.cell (j := 3 + i) (by omega)]
  simp only [tc]
  rw [if_neg (by omega), if_neg (by omega), if_neg (by omega), if_pos (by omega), show 3 + i - 3 = i by omega]
theorem Tab.sums (h : Tab w b d st ws s t) : w.cell? ⟨b, 259, none⟩ = some (.int .u64 s) := h.cell (j := 259) (by decide)
theorem Tab.bytes (h : Tab w b d st ws s t) : w.cell? ⟨b, 260, none⟩ = some (.int .u64 t) := h.cell (j := 260) (by decide)
theorem Tab.put (h : Tab w b d st ws s t) {d' : Nat} {st' : Int} {ws' : Nat → Nat} {s' t' : Nat} {j : Nat} {v : Value} (hj : j < 261) (hv : tc d' st' ws' s' t' j = v) (hk : ∀ k, k < 261 → k ≠ j → tc d' st' ws' s' t' k = tc d st ws s t k) :
    Tab (w.setCell ⟨b, j, none⟩ v) b d' st' ws' s' t' := by
  obtain ⟨cs, h1, h2, h3⟩ := h
  refine ⟨_, h1.set_ j v, by simpa using h2, fun k hk2 => ?_⟩
  rw [Array.getElem?_setIfInBounds]
  split
  · rename_i e
    subst e
    rw [if_pos (by omega), hv]
  · rename_i e
    rw [hk k hk2 (fun e2 => e e2.symm)]
    exact h3 k hk2
theorem Tab.putDone (h : Tab w b d st ws s t) (d' : Nat) : Tab (w.setCell ⟨b, 0, none⟩ (.int .u32 d')) b d' st ws s t :=
  h.put (by decide) rfl fun k _ hk => by simp [tc, hk]
theorem Tab.putState (h : Tab w b d st ws s t) (st' : Int) : Tab (w.setCell ⟨b, 1, none⟩ (.int .i32 st')) b d st' ws s t :=
  h.put (by decide) rfl fun k _ hk => by simp [tc, hk]
theorem Tab.putWord (h : Tab w b d st ws s t) {i : Nat} (hi : i < 256) (n : Nat) : Tab (w.setCell ⟨b, 3 + i, none⟩ (.int .u32 n)) b d st (fun k => if k = i then n else ws k) s t := by
  refine h.put (by omega) ?_ fun k hk hne => ?_
  · simp only [tc]
    rw [if_neg (by omega), if_neg (by omega), if_neg (by omega), if_pos (by omega), if_pos (by omega)]
  · simp only [tc]
    by_cases h3 : k < 3
    · have c : k = 0 ∨ k = 1 ∨ k = 2 := by omega
      rcases c with rfl | rfl | rfl <;> rfl
    · rw [if_neg (show ¬ k - 3 = i by omega)]
theorem Tab.putSums (h : Tab w b d st ws s t) (s' : Nat) : Tab (w.setCell ⟨b, 259, none⟩ (.int .u64 s')) b d st ws s' t :=
  h.put (by decide) rfl fun k _ hk => by
    simp only [tc]
    by_cases h3 : k < 259
    · simp [h3]
    · rw [if_neg (by omega), if_neg (by omega), if_neg (by omega), if_neg (by omega), if_neg (by omega), if_neg (by omega), if_neg (by omega), if_neg (by omega), if_neg (by omega), if_neg (by omega)]
theorem Tab.putBytes (h : Tab w b d st ws s t) (t' : Nat) : Tab (w.setCell ⟨b, 260, none⟩ (.int .u64 t')) b d st ws s t' :=
  h.put (by decide) rfl fun k _ hk => by
    simp only [tc]
    by_cases h3 : k < 260
    · by_cases h4 : k < 259
      · simp [h4]
      · have : k = 259 := by omega
        subst this
        rfl
    · omega

theorem Tab.congr (h : Tab w b d st ws s t) {ws' : Nat → Nat} (he : ∀ i, i < 256 → ws i = ws' i) : Tab w b d st ws' s t := by
  obtain ⟨cs, h1, h2, h3⟩ := h
  refine ⟨cs, h1, h2, fun j hj => ?_⟩
  rw [h3 j hj]
  simp only [tc]
  by_cases h4 : 3 ≤ j ∧ j < 259
  · rw [he (j - 3) (by omega)]
  · by_cases h5 : j < 3
    · have c : j = 0 ∨ j = 1 ∨ j = 2 := by omega
      rcases c with rfl | rfl | rfl <;> rfl
    · rw [if_neg (show ¬ j < 259 by omega), if_neg (show ¬ j < 259 by omega)]
/-- Only the block b is written, and new memory made. -/
structure But (b : Nat) (w w' : World) : Prop where
  os : w'.os = w.os
  tape : w'.tape = w.tape
  output : w'.output = w.output
  size : w.heap.size ≤ w'.heap.size
  block : ∀ k, k < w.heap.size → k ≠ b → w'.heap[k]? = w.heap[k]?
theorem But.refl (b : Nat) (w : World) : But b w w := ⟨rfl, rfl, rfl, Nat.le_refl _, fun _ _ _ => rfl⟩
theorem But.trans {w'' : World} (h : But b w w') (k : But b w' w'') : But b w w'' :=
  ⟨k.os.trans h.os, k.tape.trans h.tape, k.output.trans h.output, Nat.le_trans h.size k.size, fun i hi hne => (k.block i (Nat.lt_of_lt_of_le hi h.size) hne).trans (h.block i hi hne)⟩
theorem But.of_below (h : Below w.heap.size w w') : But b w w' := ⟨h.os, h.tape, h.output, h.size, fun k hk _ => h.block k hk⟩
theorem But.below {B : Nat} {w0 : World} (h : But b w w') (h0 : Below B w0 w) (hB : B ≤ w0.heap.size) (hb : B ≤ b) : Below B w0 w' :=
  ⟨h.os.trans h0.os, h.tape.trans h0.tape, h.output.trans h0.output, Nat.le_trans h0.size h.size, fun k hk => (h.block k (Nat.lt_of_lt_of_le hk (Nat.le_trans hB h0.size)) (by omega)).trans (h0.block k hk)⟩
theorem But.set (b j : Nat) (v : Value) (w : World) : But b w (w.setCell ⟨b, j, none⟩ v) :=
  ⟨rfl, rfl, rfl, by simp, fun k _ hne => Below.heap_setCell w _ v k hne⟩
theorem But.drew (h : But b w w') : But b w w'.drew := ⟨h.os, h.tape, h.output, h.size, h.block⟩
theorem Tab.below (h : Tab w b d st ws s t) (hb : Below w.heap.size w w') : Tab w' b d st ws s t := let ⟨cs, h1, h2⟩ := h; ⟨cs, h1.below hb h1.lt, h2⟩
theorem Tab.drew (h : Tab w b d st ws s t) : Tab w.drew b d st ws s t := h
theorem Blk.but {g : Nat} {cs : Array Value} {T : TypeId} (h : Blk w g cs T) (hb : But b w w') (hne : g ≠ b) : Blk w' g cs T := (hb.block g h.lt hne).trans h
theorem Tab.ne (h : Tab w b d st ws s t) {g : Nat} {cs : Array Value} {T : TypeId} (hg : Blk w g cs T) (hT : T ≠ 116) : g ≠ b := let ⟨_, h1, _⟩ := h; hg.ne_ h1 hT
/-- No byte, slice, string or pointer lies in a table. -/
theorem Tab.far (h : Tab w b d st ws s t) {g o : Nat} {v : Value} (hc : w.cell? ⟨g, o, none⟩ = some v) (hv : ∀ n, v ≠ .int .u32 n ∧ v ≠ .int .i32 n ∧ v ≠ .int .u64 n) : g ≠ b := by
  rintro rfl
  obtain ⟨cs, h1, h2, h3⟩ := h
  rw [Lib.cell_of_heap h1] at hc
  have ho : o < 261 := by
    rcases Nat.lt_or_ge o 261 with h4 | h4
    · exact h4
    · rw [Array.getElem?_eq_none (by omega)] at hc; cases hc
  rw [h3 o ho] at hc
  injection hc with hc
  subst hc
  unfold tc at hv
  have hv := fun n => hv n
  split at hv
  · exact (hv d).1 rfl
  · split at hv
    · exact (hv st).2.1 rfl
    · split at hv
      · exact (hv 0).1 rfl
      · split at hv
        · exact (hv (ws (o - 3))).1 rfl
        · split at hv
          · exact (hv s).2.2 rfl
          · exact (hv t).2.2 rfl
end
end Go.Proofs.YtdmdfccadjfpiaaGreat
