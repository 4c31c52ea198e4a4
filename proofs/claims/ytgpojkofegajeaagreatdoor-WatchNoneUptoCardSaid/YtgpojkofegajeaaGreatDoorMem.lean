/-
  Words for memory: cells that can be read, slices that read as lists, blocks that are known whole, and how they last while only new memory is made.
-/
import Derived.Test.YtgpojkofegajeaaGreatDoorRows
import Derived.WalkKit
import Derived.Lib.Builder
import Derived.Maps.AppendAt
import Derived.OwnWalk
namespace Go.Proofs.YtgpojkofegajeaaGreatDoor
open Go.RowKit
set_option maxRecDepth 100000
/-- The cells at a place. -/
def RdAt (w : World) (b o : Nat) (cs : List Value) : Prop := ∀ j u, cs[j]? = some u → w.cell? ⟨b, o + j, none⟩ = some u
/-- A slice value of n elements that reads as the cells xs. -/
def Rd (w : World) (size : Nat) (v : Value) (n : Nat) (xs : List Value) : Prop :=
  ∃ A c, v = .slice A n c ∧ xs.length = n * size ∧ n ≤ c ∧ c ≤ maxLen ∧ (0 < n → ∃ b o, A = some ⟨b, o, none⟩ ∧ RdAt w b o xs)
theorem RdAt.below {w w' : World} {b o : Nat} {cs : List Value} (h : RdAt w b o cs) (hb : Below w.heap.size w w') : RdAt w' b o cs := fun j u hu => by
  have h1 := h j u hu
  rw [hb.cell (World.block_lt_of_cell? w _ h1)]; exact h1
theorem Rd.below {w w' : World} {size : Nat} {v : Value} {n : Nat} {xs : List Value} (h : Rd w size v n xs) (hb : Below w.heap.size w w') : Rd w' size v n xs := by
  obtain ⟨A, c, rfl, h1, h2, h3, h4⟩ := h
  exact ⟨A, c, rfl, h1, h2, h3, fun hn => let ⟨b, o, ha, hr⟩ := h4 hn; ⟨b, o, ha, hr.below hb⟩⟩
/-- The j-th cell of the k-th element. -/
theorem RdAt.nth {w w' : World} {b o : Nat} {cs : List Value} (h : RdAt w b o cs) (hb : Below w.heap.size w w') (m j : Nat) (u : Value) (hu : cs[m + j]? = some u) : w'.cell? ⟨b, o + m + j, none⟩ = some u := by
  have := (h.below hb) _ u hu
  rwa [← Nat.add_assoc] at this

theorem RdAt.nth0 {w w' : World} {b o : Nat} {cs : List Value} (h : RdAt w b o cs) (hb : Below w.heap.size w w') (m : Nat) (u : Value) (hu : cs[m]? = some u) : w'.cell? ⟨b, o + m, none⟩ = some u := (h.below hb) _ u hu


/-- A block that is known whole. -/
def Blk (w : World) (g : Nat) (cs : Array Value) (t : TypeId) : Prop := w.heap[g]? = some (.cells cs t (0, 0))
theorem Blk.lt {w : World} {g : Nat} {cs : Array Value} {t : TypeId} (h : Blk w g cs t) : g < w.heap.size := by
  rcases Nat.lt_or_ge g w.heap.size with h1 | h1
  · exact h1
  · unfold Blk at h; rw [Array.getElem?_eq_none h1] at h; cases h
theorem Blk.cell {w : World} {g : Nat} {cs : Array Value} {t : TypeId} (h : Blk w g cs t) {j : Nat} {v : Value} (hj : cs[j]? = some v) : w.cell? ⟨g, j, none⟩ = some v := by
  rw [Lib.cell_of_heap h]; exact hj
theorem Blk.frozen {w : World} {g : Nat} {cs : Array Value} {t : TypeId} (h : Blk w g cs t) (j : Nat) : w.frozen? ⟨g, j, none⟩ = false := Lib.frozen_of_heap h j
theorem Blk.below {w w' : World} {B g : Nat} {cs : Array Value} {t : TypeId} (h : Blk w g cs t) (hb : Below B w w') (hg : g < B) : Blk w' g cs t := (hb.block g hg).trans h
theorem Blk.new (w : World) (cs : Array Value) (t : TypeId) : Blk (w.alloc (.cells cs t)) w.heap.size cs t := heap_alloc_new w _
theorem Blk.alloc {w : World} {g : Nat} {cs : Array Value} {t : TypeId} (h : Blk w g cs t) (o : Obj) : Blk (w.alloc o) g cs t := (Below.heap_alloc w o g h.lt).trans h
theorem Blk.drew {w : World} {g : Nat} {cs : Array Value} {t : TypeId} (h : Blk w g cs t) : Blk w.drew g cs t := h
theorem Blk.set_ {w : World} {g : Nat} {cs : Array Value} {t : TypeId} (h : Blk w g cs t) (i : Nat) (u : Value) : Blk (w.setCell ⟨g, i, none⟩ u) g (cs.setIfInBounds i u) t := by
  unfold Blk at h ⊢
  simp [World.setCell, Array.getElem?_modify, h]
/-- What was there when the call began stands as it was, and these blocks of the call's own are known whole. -/
def Holds (base : World) (bs : List (Nat × Array Value × TypeId)) (w : World) : Prop :=
  Below base.heap.size base w ∧ ∀ x ∈ bs, Blk w x.1 x.2.1 x.2.2
theorem Holds.nil (w : World) : Holds w [] w := ⟨Below.refl _ _, fun _ h => by cases h⟩
theorem Holds.drew {base w : World} {bs : List (Nat × Array Value × TypeId)} (h : Holds base bs w) : Holds base bs w.drew := ⟨h.1.drew, h.2⟩
theorem Holds.new {base w : World} {bs : List (Nat × Array Value × TypeId)} (h : Holds base bs w) (n : Nat) (cs : Array Value) (t : TypeId) (e : w.heap.size = n) : Holds base ((n, cs, t) :: bs) (w.alloc (.cells cs t)) := by
  subst e
  refine ⟨h.1.alloc h.1.size _, fun x hx => ?_⟩
  rcases List.mem_cons.1 hx with rfl | hx
  · exact Blk.new _ _ _
  · exact (h.2 x hx).alloc _
theorem Holds.grow {base w w' : World} {bs : List (Nat × Array Value × TypeId)} (h : Holds base bs w) (hb : Below w.heap.size w w') : Holds base bs w' :=
  ⟨h.1.trans (hb.mono h.1.size), fun x hx => (h.2 x hx).below hb (h.2 x hx).lt⟩
theorem Holds.cell {base w : World} {bs : List (Nat × Array Value × TypeId)} (h : Holds base bs w) {g : Nat} {cs : Array Value} {t : TypeId} (hx : (g, cs, t) ∈ bs) {j : Nat} {v : Value} (hj : cs[j]? = some v) : w.cell? ⟨g, j, none⟩ = some v := (h.2 _ hx).cell hj
/-- A slice of the call's own over a block that is known whole. -/
def NewSl (base n : Nat) (cs : Array Value) (t : TypeId) (v : Value) (w : World) : Prop := ∃ b, v = .slice (some ⟨b, 0, none⟩) n n ∧ base ≤ b ∧ Blk w b cs t
/-- A pointer into such a block. -/
def NewPt (base off : Nat) (cs : Array Value) (t : TypeId) (v : Value) (w : World) : Prop := ∃ b, v = .pointer (some ⟨b, off, none⟩) ∧ base ≤ b ∧ Blk w b cs t
theorem NewSl.stable {base n : Nat} {cs : Array Value} {t : TypeId} (v : Value) (w w' : World) (h : NewSl base n cs t v w) (hb : Below w.heap.size w w') : NewSl base n cs t v w' :=
  let ⟨b, h1, h2, h3⟩ := h; ⟨b, h1, h2, h3.below hb h3.lt⟩
theorem NewPt.stable {base off : Nat} {cs : Array Value} {t : TypeId} (v : Value) (w w' : World) (h : NewPt base off cs t v w) (hb : Below w.heap.size w w') : NewPt base off cs t v w' :=
  let ⟨b, h1, h2, h3⟩ := h; ⟨b, h1, h2, h3.below hb h3.lt⟩

/-- What the call owns stays owned while only new memory is made. -/
theorem owns_below {w w' : World} {base : Nat} {e : TypeId} {size : Nat} {v : Value} {n : Nat} {xs : List Value} (h : w.ownsRow base e size v n xs) (hb : Below w.heap.size w w') : w'.ownsRow base e size v n xs :=
  h.kept (row := none) ⟨hb.os, hb.tape, hb.output, hb.size, fun i hi _ => hb.block i hi⟩ (by cases v.ownBlock <;> simp)
/-- What the call owns can be read. -/
theorem rd_of_owns {w : World} {base : Nat} {e : TypeId} {size : Nat} {v : Value} {n : Nat} {xs : List Value} (h : w.ownsRow base e size v n xs) : Rd w size v n xs := by
  obtain ⟨hl, h⟩ := h
  rcases h with ⟨rfl, rfl⟩ | ⟨g, cap, cur, rfl, hb, hg, hn, hc, hs, ht⟩
  · exact ⟨none, 0, rfl, hl, Nat.le_refl _, by simp [maxLen], fun h => by omega⟩
  · refine ⟨some ⟨g, 0, none⟩, cap, rfl, hl, hn, hc, fun _ => ⟨g, 0, rfl, fun j u hu => ?_⟩⟩
    rw [← ht, List.getElem?_take] at hu
    split at hu
    · rw [cell_of_row w g (0 + j) cur e (0, 0) hg, Nat.zero_add]; simpa using hu
    · cases hu
theorem owns_slice {w : World} {base : Nat} {e : TypeId} {size : Nat} {v : Value} {n : Nat} {xs : List Value} (h : w.ownsRow base e size v n xs) : ∃ A c, v = .slice A n c := by
  rcases h.2 with ⟨rfl, rfl⟩ | ⟨g, cap, cur, rfl, _⟩ <;> exact ⟨_, _, rfl⟩
/-- A block of another element type is none of an owned row's. -/
theorem owns_ne {w : World} {base : Nat} {e t : TypeId} {size : Nat} {v : Value} {n : Nat} {xs : List Value} {g : Nat} {cs : Array Value} (h : w.ownsRow base e size v n xs) (hg : Blk w g cs t) (hne : e ≠ t) : some g ≠ v.ownBlock := by
  rcases h.2 with ⟨rfl, _⟩ | ⟨g', cap, cur, rfl, _, hh, _⟩
  · simp [Value.ownBlock]
  · intro he
    have he : g = g' := by simpa [Value.ownBlock] using he
    subst he
    unfold Blk at hg
    rw [hh] at hg
    injection hg with hg
    injection hg with _ h2
    exact hne h2
theorem Blk.grown {w w' : World} {g : Nat} {cs : Array Value} {t : TypeId} {row : Option Nat} (h : Blk w g cs t) (hb : w.grownBy w' row) (hg : some g ≠ row) : Blk w' g cs t := (hb.block g h.lt hg).trans h

theorem bodyPost_gen {P : Program} {fn : Func} {R : Ending → World → Prop} {e : Exit} {a : Act} {w : World} (h : ∀ w', w' = w → bodyPost P fn R e a w') : bodyPost P fn R e a w := h w rfl
theorem wpl_gen {P : Program} {ops : Array Oper} {l : List Oper} {Q : Exit → Act → World → Prop} {a : Act} {w : World} (h : ∀ w', w' = w → wpList P ops Q l a w') : wpList P ops Q l a w := h w rfl
/-- A goal at which the walk stands still. -/
def Stopped (p : Prop) : Prop := p
theorem Stopped.mk {p : Prop} (h : p) : Stopped p := h
theorem wpl_stop {P : Program} {ops : Array Oper} {l : List Oper} {Q : Exit → Act → World → Prop} {a : Act} {w : World} (h : ∀ w', w' = w → Stopped (wpList P ops Q l a w')) : wpList P ops Q l a w := h w rfl
theorem wp_gen {P : Program} {c : Code} {Q : Exit → Act → World → Prop} {a : Act} {w : World} (h : ∀ w', w' = w → c.wp P Q a w') : c.wp P Q a w := h w rfl
end Go.Proofs.YtgpojkofegajeaaGreatDoor
