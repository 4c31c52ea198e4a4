/-
  More on parts of memory: many parts as one; a part laid beside.
-/
import Derived.Test.YtgpojkofegajeaaGreatDoorSt
namespace Go.Proofs.YtgpojkofegajeaaGreatDoor
open Go.RowKit
set_option maxRecDepth 100000

/-- Many parts as one. -/
def chAll (l : List Chunk) : Chunk :=
  ⟨l.flatMap Chunk.fp, fun w => ∀ c ∈ l, c.P w, fun w w' h hP c hc => c.loc w w' (fun b hb => h b (List.mem_flatMap.2 ⟨c, hc, hb⟩)) (hP c hc), fun w hP b hb => by
    obtain ⟨c, hc, hb⟩ := List.mem_flatMap.1 hb
    exact c.inn w (hP c hc) b hb⟩
theorem Upd.all {S : List Nat} {w0 w : World} {C : List Chunk} (h : Upd S w0 C w) (i : Nat) {l : List Chunk} (hi : C[i]? = some (chAll l)) : ∀ c ∈ l, c.P w := h.get i hi
/-- No two parts meet. -/
theorem Upd.apartAt {S : List Nat} {w0 w : World} {C : List Chunk} (h : Upd S w0 C w) (i j : Nat) (hij : i ≠ j) {c d : Chunk} (hc : C[i]? = some c) (hd : C[j]? = some d) : ∀ b ∈ c.fp, b ∉ d.fp := by
  have key : ∀ i j : Nat, i < j → ∀ c d : Chunk, C[i]? = some c → C[j]? = some d → ∀ b ∈ c.fp, b ∉ d.fp := by
    intro i j hij c d hc hd
    have hi : i < C.length := by
      rcases Nat.lt_or_ge i C.length with h | h
      · exact h
      · rw [List.getElem?_eq_none h] at hc; cases hc
    have hj : j < C.length := by
      rcases Nat.lt_or_ge j C.length with h | h
      · exact h
      · rw [List.getElem?_eq_none h] at hd; cases hd
    have := List.pairwise_iff_getElem.1 h.apart i j hi hj hij
    rw [List.getElem?_eq_getElem hi] at hc
    rw [List.getElem?_eq_getElem hj] at hd
    cases hc; cases hd
    exact this
  rcases Nat.lt_or_gt_of_ne hij with h1 | h1
  · exact key i j h1 c d hc hd
  · exact fun b hb hb' => key j i h1 d c hd hc b hb' hb
/-- Some of the parts, in another order. -/
theorem Upd.pick {S : List Nat} {w0 w : World} {C : List Chunk} (h : Upd S w0 C w) (is : List Nat) (hn : is.Nodup) : Upd S w0 (is.filterMap fun i => C[i]?) w := by
  have hm : ∀ c ∈ is.filterMap (fun i => C[i]?), c ∈ C := fun c hc => by
    obtain ⟨i, _, hi⟩ := List.mem_filterMap.1 hc
    exact List.mem_of_getElem? hi
  refine ⟨h.os, h.tape, h.output, h.size, h.block, fun c hc => h.holds c (hm c hc), fun c hc => h.own c (hm c hc), ?_⟩
  rw [List.pairwise_filterMap]
  exact hn.imp fun hij c hc d hd => h.apartAt _ _ hij hc hd
theorem chBlk_fp {g : Nat} {cs : Array Value} {t : TypeId} {b : Nat} : b ∈ (chBlk g cs t).fp ↔ b = g := List.mem_singleton
theorem chRow_fp {e : TypeId} {size : Nat} {v : Value} {n : Nat} {xs : List Value} {b : Nat} : b ∈ (chRow e size v n xs).fp ↔ v.ownBlock = some b := by simp [chRow]
end Go.Proofs.YtgpojkofegajeaaGreatDoor
