/-
  The walk of LabOwn. watchfireref01.Itoa.
-/
import Derived.Test.YtgpojkofegajeaaGreatDoorMem
import Derived.WalkKit
import Derived.Lib.ItoaNum
import Derived.Lib.Hide
import Derived.Laws.BytesString
import Derived.Test.YtgpojkofegajeaaGreatDoorLMrg
import Derived.Test.YtgpojkofegajeaaGreatDoorLParse
import Derived.Test.YtgpojkofegajeaaGreatDoorLText
namespace Go.Proofs.YtgpojkofegajeaaGreatDoor
open Go.RowKit
set_option maxRecDepth 100000

theorem infoByte : (Tryz.prog.info? 5).map (fun i => (i.zero, i.size, i.bytes)) = some (some (.int .u8 0), 1, 1) := by kernel_rfl

end Go.Proofs.YtgpojkofegajeaaGreatDoor
namespace Go.Proofs.YtgpojkofegajeaaGreatDoor
open Go.RowKit FreeSl
set_option maxRecDepth 100000
attribute [local go_sem] out

/-- A row of the call's own, whatever it holds. -/
def RowAny (base : Nat) (v : Value) (n : Nat) (w : World) : Prop := ∃ xs, w.ownsRow base 92 2 v n xs
theorem RowAny.below {base n : Nat} {v : Value} {w w' : World} (h : RowAny base v n w) (hb : Below w.heap.size w w') : RowAny base v n w' := let ⟨xs, h⟩ := h; ⟨xs, owns_below h hb⟩
theorem RowAny.set {base n : Nat} {v : Value} {w : World} (h : RowAny base v n w) (g i : Nat) (u : Value) : RowAny base v n (w.setCell ⟨g, i, none⟩ u) := by
  obtain ⟨xs, hl, h⟩ := h
  rcases h with ⟨rfl, h0⟩ | ⟨g', cap, cur, rfl, hb, hg, hn, hc, hs, ht⟩
  · exact ⟨xs, hl, .inl ⟨rfl, h0⟩⟩
  · by_cases e : g' = g
    · subst e
      refine ⟨(cur.setIfInBounds i u).toList.take (n * 2), ?_, .inr ⟨g', cap, cur.setIfInBounds i u, rfl, hb, ?_, hn, hc, by simpa using hs, rfl⟩⟩
      · rw [List.length_take, Array.length_toList, Array.size_setIfInBounds, hs]; omega
      · simp [World.setCell, Array.getElem?_modify, hg]
    · exact ⟨xs, hl, .inr ⟨g', cap, cur, rfl, hb, (Below.heap_setCell w _ u g' e).trans hg, hn, hc, hs, ht⟩⟩
/-- Its cells can be written. -/
theorem RowAny.at_ {base n : Nat} {A : Option Addr} {c : Nat} {w : World} (h : RowAny base (.slice A n c) n w) {j : Nat} (hj : j < n) : ∃ g u0 u1, A = some ⟨g, 0, none⟩ ∧ base ≤ g ∧ w.cell? ⟨g, j * 2, none⟩ = some u0 ∧ w.cell? ⟨g, j * 2 + 1, none⟩ = some u1 ∧ w.frozen? ⟨g, j * 2, none⟩ = false ∧ w.frozen? ⟨g, j * 2 + 1, none⟩ = false ∧ ∀ g' cs t, Blk w g' cs t → 92 ≠ t → g' ≠ g := by
  obtain ⟨xs, hl, h⟩ := h
  rcases h with ⟨h, h0⟩ | ⟨g', cap, cur, h, hb, hg, hn, hc, hs, ht⟩
  · omega
  · cases h
    have h1 : j * 2 < cur.size := by rw [hs]; omega
    have h2 : j * 2 + 1 < cur.size := by rw [hs]; omega
    refine ⟨g', cur[j * 2], cur[j * 2 + 1], rfl, hb, ?_, ?_, Lib.frozen_of_heap hg _, Lib.frozen_of_heap hg _, fun g2 cs t h2 hne e => ?_⟩
    · rw [Lib.cell_of_heap hg]; exact Array.getElem?_eq_getElem h1
    · rw [Lib.cell_of_heap hg]; exact Array.getElem?_eq_getElem h2
    · subst e
      unfold Blk at h2
      rw [hg] at h2
      injection h2 with h2
      injection h2 with _ h3
      exact hne h3

end Go.Proofs.YtgpojkofegajeaaGreatDoor
