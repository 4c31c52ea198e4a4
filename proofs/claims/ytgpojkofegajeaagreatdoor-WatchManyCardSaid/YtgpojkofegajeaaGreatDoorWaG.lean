/-
  A group of parts as one.
-/
import Derived.Test.YtgpojkofegajeaaGreatDoorSt2
namespace Go.Proofs.YtgpojkofegajeaaGreatDoor
open Go.RowKit
set_option maxRecDepth 100000

/-- Parts that do not meet, as one. -/
def chGrp (l : List Chunk) : Chunk :=
  ⟨l.flatMap Chunk.fp, fun w => (∀ c ∈ l, c.P w) ∧ l.Pairwise (fun c d : Chunk => ∀ b ∈ c.fp, b ∉ d.fp), fun w w' h hP => ⟨fun c hc => c.loc w w' (fun b hb => h b (List.mem_flatMap.2 ⟨c, hc, hb⟩)) (hP.1 c hc), hP.2⟩, fun w hP b hb => by
    obtain ⟨c, hc, hb⟩ := List.mem_flatMap.1 hb
    exact c.inn w (hP.1 c hc) b hb⟩
theorem grp_open {w : World} {l : List Chunk} (hP : (chGrp l).P w) : Upd (chGrp l).fp w l w :=
  ⟨rfl, rfl, rfl, Nat.le_refl _, fun _ _ _ => rfl, hP.1, fun c hc _b hb => .inl (List.mem_flatMap.2 ⟨c, hc, hb⟩), hP.2⟩
theorem Upd.ungrp {S : List Nat} {w0 w : World} {l C : List Chunk} (h : Upd S w0 (chGrp l :: C) w) : Upd S w0 (l ++ C) w :=
  h.turn 0 rfl (grp_open (h.get 0 rfl))
theorem Upd.grp {S : List Nat} {w0 w : World} {l C : List Chunk} (h : Upd S w0 (l ++ C) w) : Upd S w0 (chGrp l :: C) w := by
  obtain ⟨h1, h2, h3⟩ := List.pairwise_append.1 h.apart
  refine ⟨h.os, h.tape, h.output, h.size, h.block, fun c hc => ?_, fun c hc b hb => ?_, List.pairwise_cons.2 ⟨fun d hd b hb => ?_, h2⟩⟩
  · rcases List.mem_cons.1 hc with rfl | hc
    · exact ⟨fun d hd => h.holds d (List.mem_append_left _ hd), h1⟩
    · exact h.holds c (List.mem_append_right _ hc)
  · rcases List.mem_cons.1 hc with rfl | hc
    · obtain ⟨d, hd, hb⟩ := List.mem_flatMap.1 hb
      exact h.own d (List.mem_append_left _ hd) b hb
    · exact h.own c (List.mem_append_right _ hc) b hb
  · obtain ⟨c, hc, hb⟩ := List.mem_flatMap.1 hb
    exact h3 c hc d hd b hb
end Go.Proofs.YtgpojkofegajeaaGreatDoor
