/-
  The walk of RouteNone. The walk of RouteFinds.
-/
import Derived.Test.YteiocplfmjkbkaaGreatDoorRtB
import Derived.Test.YteiocplfmjkbkaaGreatDoorRLabs
import Derived.Test.YteiocplfmjkbkaaGreatDoorFree
import Derived.Maps.AppendAt
import Derived.Test.YteiocplfmjkbkaaGreatDoorLRef
import Derived.Test.YteiocplfmjkbkaaGreatDoorMg3
import Derived.Deep.Draws
import Derived.Test.YteiocplfmjkbkaaGreatDoorMg6
import Derived.Test.YteiocplfmjkbkaaGreatDoorFreeS
import Derived.Test.YteiocplfmjkbkaaGreatDoorMg36
namespace Go.Proofs.YteiocplfmjkbkaaGreatDoor
open Go.RowKit
set_option maxRecDepth 100000
attribute [local go_sem] FreeOrd.out FreeSl.out

/-- An alert in small numbers. -/
structure Al6 where
  o : Nat
  r : Nat
  a : Nat
  b : Nat
  n : Nat
  s : Nat
def Al6.ok (x : Al6) : Prop := x.o < 256 ∧ x.r < 256 ∧ x.a < 256 ∧ x.b < 256 ∧ x.n < 256 ∧ x.s < 256
end Go.Proofs.YteiocplfmjkbkaaGreatDoor
namespace Go.Proofs.YteiocplfmjkbkaaGreatDoor
open Go.RowKit
set_option maxRecDepth 100000

/-- A store into a row. -/
theorem Upd.putRow {S : List Nat} {w0 w : World} {C : List Chunk} (h : Upd S w0 C w) (i : Nat) {e : TypeId} {size g n c : Nat} {xs : List Value} (hi : C[i]? = some (chRow e size (.slice (some ⟨g, 0, none⟩) n c) n xs)) (j : Nat) (u : Value) :
    Upd S w0 (chRow e size (.slice (some ⟨g, 0, none⟩) n c) n (xs.set j u) :: C.eraseIdx i) (w.setCell ⟨g, j, none⟩ u) := by
  have hr := h.row i hi
  have hr' : (w.setCell ⟨g, j, none⟩ u).ownsRow 0 e size (.slice (some ⟨g, 0, none⟩) n c) n (xs.set j u) := by
    obtain ⟨hl, hr⟩ := hr
    refine ⟨by rw [List.length_set]; exact hl, ?_⟩
    rcases hr with ⟨hv, hn⟩ | ⟨g', cap, cur, hv, hb, hh, h1, h2, h3, h4⟩
    · cases hv
    · right
      injection hv with hv1 hv2 hv3
      injection hv1 with hv1
      injection hv1 with hv1
      subst hv1 hv3
      have hB : Blk w g cur e := hh
      exact ⟨g, c, cur.setIfInBounds j u, rfl, hb, hB.set_ j u, h1, h2, by simpa using h3, by rw [← h4]; simp [List.take_set]⟩
  have : Upd (chRow e size (.slice (some ⟨g, 0, none⟩) n c) n xs).fp w [chRow e size (.slice (some ⟨g, 0, none⟩) n c) n (xs.set j u)] (w.setCell ⟨g, j, none⟩ u) :=
    ⟨rfl, rfl, rfl, by simp, fun k _ hne => Below.heap_setCell w _ u k (fun e => hne (by simp [chRow, Value.ownBlock, e])), fun d hd => by rw [List.mem_singleton.1 hd]; exact hr', fun d hd b hb => by rw [List.mem_singleton.1 hd] at hb; exact .inl hb, by simp⟩
  exact h.turn i hi this
end Go.Proofs.YteiocplfmjkbkaaGreatDoor
