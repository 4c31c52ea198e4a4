/-
  More on parts of memory: many parts as one; a part laid beside.
-/
import Derived.Test.YteiocplfmjkbkaaGreatDoorSt
namespace Go.Proofs.YteiocplfmjkbkaaGreatDoor
open Go.RowKit
set_option maxRecDepth 100000

/-- Many parts as one. -/
def chAll (l : List Chunk) : Chunk :=
  ⟨l.flatMap Chunk.fp, fun w => ∀ c ∈ l, c.P w, fun w w' h hP c hc => c.loc w w' (fun b hb => h b (List.mem_flatMap.2 ⟨c, hc, hb⟩)) (hP c hc), fun w hP b hb => by
    obtain ⟨c, hc, hb⟩ := List.mem_flatMap.1 hb
    exact c.inn w (hP c hc) b hb⟩
theorem Upd.allNil {S : List Nat} {w0 w : World} {C : List Chunk} (h : Upd S w0 C w) : Upd S w0 (chAll [] :: C) w :=
  h.add (Below.refl _ _) (chAll []) (fun _ hc => nomatch hc) (fun _ hb => nomatch hb)
/-- The first part goes into the second, which is many. -/
theorem Upd.intoAll {S : List Nat} {w0 w : World} {c : Chunk} {l : List Chunk} {C : List Chunk} (h : Upd S w0 (c :: chAll l :: C) w) : Upd S w0 (chAll (l ++ [c]) :: C) w := by
  refine h.join (chAll (l ++ [c])) ?_ ?_
  · intro d hd
    rcases List.mem_append.1 hd with hd | hd
    · exact h.holds (chAll l) (.tail _ (.head _)) d hd
    · rw [List.mem_singleton.1 hd]; exact h.holds c (.head _)
  · intro b hb
    obtain ⟨d, hd, hb⟩ := List.mem_flatMap.1 hb
    rcases List.mem_append.1 hd with hd | hd
    · exact .inr (List.mem_flatMap.2 ⟨d, hd, hb⟩)
    · rw [List.mem_singleton.1 hd] at hb; exact .inl hb
theorem Upd.all {S : List Nat} {w0 w : World} {C : List Chunk} (h : Upd S w0 C w) (i : Nat) {l : List Chunk} (hi : C[i]? = some (chAll l)) : ∀ c ∈ l, c.P w := h.get i hi
/-- A part that meets none of the others. -/
theorem Upd.more {S : List Nat} {w0 w : World} {C : List Chunk} (h : Upd S w0 C w) (c : Chunk) (hc : c.P w) (hn : ∀ b ∈ c.fp, b ∈ S ∨ w0.heap.size ≤ b) (hd : ∀ d ∈ C, ∀ b ∈ c.fp, b ∉ d.fp) : Upd S w0 (c :: C) w :=
  ⟨h.os, h.tape, h.output, h.size, h.block, fun d hd => by
    rcases List.mem_cons.1 hd with rfl | hd
    · exact hc
    · exact h.holds d hd, fun d hd b hb => by
    rcases List.mem_cons.1 hd with rfl | hd
    · exact hn b hb
    · exact h.own d hd b hb, List.pairwise_cons.2 ⟨hd, h.apart⟩⟩
/-- A block beside others. -/
theorem Upd.moreBlk {S : List Nat} {w0 w : World} {C : List Chunk} (h : Upd S w0 C w) {g : Nat} {cs : Array Value} {t : TypeId} (hc : Blk w g cs t) (hn : w0.heap.size ≤ g) (hd : ∀ d ∈ C, g ∉ d.fp) : Upd S w0 (chBlk g cs t :: C) w :=
  h.more (chBlk g cs t) hc (fun b hb => by rw [List.mem_singleton.1 hb]; exact .inr hn) (fun d hd' b hb => by rw [List.mem_singleton.1 hb]; exact hd d hd')
theorem Upd.moreRow {S : List Nat} {w0 w : World} {C : List Chunk} (h : Upd S w0 C w) {base : Nat} {e : TypeId} {size : Nat} {v : Value} {n : Nat} {xs : List Value} (hc : w.ownsRow base e size v n xs) (hn : w0.heap.size ≤ base) (hd : ∀ d ∈ C, ∀ b ∈ d.fp, some b ≠ v.ownBlock) : Upd S w0 (chRow e size v n xs :: C) w :=
  h.more (chRow e size v n xs) (owns_base hc fun _ _ => Nat.zero_le _) (fun b hb => .inr (Nat.le_trans hn (owns_ge hc b (by simpa [chRow] using hb)))) (fun d hd' b hb hb' => hd d hd' b hb' (by
    have : v.ownBlock = some b := by simpa [chRow] using hb
    exact this.symm))
/-- No two parts meet. -/
theorem Upd.apartAt {S : List Nat} {w0 w : World} {C : List Chunk} (h : Upd S w0 C w) (i j : Nat) (hij : i ≠ j) {c d : Chunk} (hc : C[i]? = some c) (hd : C[j]? = some d) : ∀ b ∈ c.fp, b ∉ d.fp := by
  have key : ∀ i j : Nat, i < j → ∀ c d : Chunk, C[i]? = some c → C[j]? = some d → ∀ b ∈ c.fp, b ∉ d.fp := by
    intro i j hij c d hc hd
    have hi : i < C.length := by
      rcases Nat.lt_or_ge i C.length with h | h
      · exact h
      · rw [List.getElem?_eq_none h] at hc; cases hc
    have hj : j < C.length := by
      rcases Nat.lt_or_ge j C.length with h | h
      · exact h
      · rw [List.getElem?_eq_none h] at hd; cases hd
    have := List.pairwise_iff_getElem.1 h.apart i j hi hj hij
    rw [List.getElem?_eq_getElem hi] at hc
    rw [List.getElem?_eq_getElem hj] at hd
    cases hc; cases hd
    exact this
  rcases Nat.lt_or_gt_of_ne hij with h1 | h1
  · exact key i j h1 c d hc hd
  · exact fun b hb hb' => key j i h1 d c hd hc b hb' hb
/-- Some of the parts, in another order. -/
theorem Upd.pick {S : List Nat} {w0 w : World} {C : List Chunk} (h : Upd S w0 C w) (is : List Nat) (hn : is.Nodup) : Upd S w0 (is.filterMap fun i => C[i]?) w := by
  have hm : ∀ c ∈ is.filterMap (fun i => C[i]?), c ∈ C := fun c hc => by
    obtain ⟨i, _, hi⟩ := List.mem_filterMap.1 hc
    exact List.mem_of_getElem? hi
  refine ⟨h.os, h.tape, h.output, h.size, h.block, fun c hc => h.holds c (hm c hc), fun c hc => h.own c (hm c hc), ?_⟩
  rw [List.pairwise_filterMap]
  exact hn.imp fun hij c hc d hd => h.apartAt _ _ hij hc hd
theorem chBlk_fp {g : Nat} {cs : Array Value} {t : TypeId} {b : Nat} : b ∈ (chBlk g cs t).fp ↔ b = g := List.mem_singleton
theorem chRow_fp {e : TypeId} {size : Nat} {v : Value} {n : Nat} {xs : List Value} {b : Nat} : b ∈ (chRow e size v n xs).fp ↔ v.ownBlock = some b := by simp [chRow]
end Go.Proofs.YteiocplfmjkbkaaGreatDoor
