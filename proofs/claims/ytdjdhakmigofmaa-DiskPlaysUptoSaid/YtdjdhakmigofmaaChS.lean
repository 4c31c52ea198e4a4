/-
  Parts of memory that do not meet, as one part; stores into rows.
-/
import Derived.Test.YtdjdhakmigofmaaSt2
namespace Go.Proofs.Ytdjdhakmigofmaa
open Go.RowKit
set_option maxRecDepth 100000

def Apart (l : List Chunk) : Prop := l.Pairwise fun c d => ∀ b ∈ c.fp, b ∉ d.fp
/-- Many parts as one; they do not meet. -/
def chSet (l : List Chunk) : Chunk :=
  ⟨l.flatMap Chunk.fp, fun w => (∀ c ∈ l, c.P w) ∧ Apart l, fun w w' h hP => ⟨fun c hc => c.loc w w' (fun b hb => h b (List.mem_flatMap.2 ⟨c, hc, hb⟩)) (hP.1 c hc), hP.2⟩, fun w hP b hb => by
    obtain ⟨c, hc, hb⟩ := List.mem_flatMap.1 hb
    exact c.inn w (hP.1 c hc) b hb⟩
/-- A callee that is handed such a part. -/
theorem Upd.open_ {l : List Chunk} {w : World} (h : (chSet l).P w) : Upd (chSet l).fp w l w :=
  ⟨rfl, rfl, rfl, Nat.le_refl _, fun _ _ _ => rfl, h.1, fun c hc _ hb => .inl (List.mem_flatMap.2 ⟨c, hc, hb⟩), h.2⟩
/-- All parts as one. -/
theorem Upd.close {S : List Nat} {w0 w : World} {l : List Chunk} (h : Upd S w0 l w) : Upd S w0 [chSet l] w :=
  ⟨h.os, h.tape, h.output, h.size, h.block, fun c hc => by rw [List.mem_singleton.1 hc]; exact ⟨h.holds, h.apart⟩, fun c hc b hb => by
    rw [List.mem_singleton.1 hc] at hb
    obtain ⟨d, hd, hb⟩ := List.mem_flatMap.1 hb
    exact h.own d hd b hb, by simp⟩
/-- The first k parts as one. -/
theorem Upd.closeN {S : List Nat} {w0 w : World} {l r : List Chunk} (h : Upd S w0 (l ++ r) w) : Upd S w0 (chSet l :: r) w := by
  have hp := List.pairwise_append.1 h.apart
  refine ⟨h.os, h.tape, h.output, h.size, h.block, fun c hc => ?_, fun c hc b hb => ?_, List.pairwise_cons.2 ⟨fun d hd b hb => ?_, hp.2.1⟩⟩
  · rcases List.mem_cons.1 hc with rfl | hc
    · exact ⟨fun d hd => h.holds d (List.mem_append.2 (.inl hd)), hp.1⟩
    · exact h.holds c (List.mem_append.2 (.inr hc))
  · rcases List.mem_cons.1 hc with rfl | hc
    · obtain ⟨d, hd, hb⟩ := List.mem_flatMap.1 hb
      exact h.own d (List.mem_append.2 (.inl hd)) b hb
    · exact h.own c (List.mem_append.2 (.inr hc)) b hb
  · obtain ⟨c, hc, hb⟩ := List.mem_flatMap.1 hb
    exact hp.2.2 c hc d hd b hb
/-- The first part, which is many, as many. -/
theorem Upd.openN {S : List Nat} {w0 w : World} {l r : List Chunk} (h : Upd S w0 (chSet l :: r) w) : Upd S w0 (l ++ r) w := by
  have hp := List.pairwise_cons.1 h.apart
  have h0 := h.holds (chSet l) (.head _)
  refine ⟨h.os, h.tape, h.output, h.size, h.block, fun c hc => ?_, fun c hc b hb => ?_, List.pairwise_append.2 ⟨h0.2, hp.2, fun c hc d hd b hb => ?_⟩⟩
  · rcases List.mem_append.1 hc with hc | hc
    · exact h0.1 c hc
    · exact h.holds c (.tail _ hc)
  · rcases List.mem_append.1 hc with hc | hc
    · exact h.own (chSet l) (.head _) b (List.mem_flatMap.2 ⟨c, hc, hb⟩)
    · exact h.own c (.tail _ hc) b hb
  · exact hp.1 d hd b (List.mem_flatMap.2 ⟨c, hc, hb⟩)
theorem Upd.set {S : List Nat} {w0 w : World} {C : List Chunk} (h : Upd S w0 C w) (i : Nat) {l : List Chunk} (hi : C[i]? = some (chSet l)) : (chSet l).P w := h.get i hi
/-- A store into a row. -/
theorem Upd.putRow {S : List Nat} {w0 w : World} {C : List Chunk} (h : Upd S w0 C w) (i : Nat) {e : TypeId} {size g n c : Nat} {xs : List Value} (hi : C[i]? = some (chRow e size (.slice (some ⟨g, 0, none⟩) n c) n xs)) (j : Nat) (u : Value) :
    Upd S w0 (chRow e size (.slice (some ⟨g, 0, none⟩) n c) n (xs.set j u) :: C.eraseIdx i) (w.setCell ⟨g, j, none⟩ u) := by
  have hr := h.row i hi
  have hr' : (w.setCell ⟨g, j, none⟩ u).ownsRow 0 e size (.slice (some ⟨g, 0, none⟩) n c) n (xs.set j u) := by
    obtain ⟨hl, hr⟩ := hr
    refine ⟨by rw [List.length_set]; exact hl, ?_⟩
    rcases hr with ⟨hv, hn⟩ | ⟨g', cap, cur, hv, hb, hh, h1, h2, h3, h4⟩
    · cases hv
    · right
      injection hv with hv1 hv2 hv3
      injection hv1 with hv1
      injection hv1 with hv1
      subst hv1 hv3
      have hB : Blk w g cur e := hh
      exact ⟨g, c, cur.setIfInBounds j u, rfl, hb, hB.set_ j u, h1, h2, by simpa using h3, by rw [← h4]; simp [List.take_set]⟩
  have : Upd (chRow e size (.slice (some ⟨g, 0, none⟩) n c) n xs).fp w [chRow e size (.slice (some ⟨g, 0, none⟩) n c) n (xs.set j u)] (w.setCell ⟨g, j, none⟩ u) :=
    ⟨rfl, rfl, rfl, by simp, fun k _ hne => Below.heap_setCell w _ u k (fun e => hne (by simp [chRow, Value.ownBlock, e])), fun d hd => by rw [List.mem_singleton.1 hd]; exact hr', fun d hd b hb => by rw [List.mem_singleton.1 hd] at hb; exact .inl hb, by simp⟩
  exact h.turn i hi this
end Go.Proofs.Ytdjdhakmigofmaa
