/-
  lab.Parse. lab.Check.
-/
import Derived.Test.YteiocplfmjkbkaaGreatDoorMg3
import Derived.Test.YteiocplfmjkbkaaGreatDoorMg4
import Derived.Test.YteiocplfmjkbkaaGreatDoorFreeN
import Derived.Lib.SplitLaws
namespace Go.Proofs.YteiocplfmjkbkaaGreatDoor
open Go.RowKit FreeNew
set_option maxRecDepth 100000
attribute [local go_sem] out

theorem beqS (a b : ByteArray) : (a == b) = decide (a = b) := by
  rw [beq_toListBytes]
  exact eqS_eq a b
end Go.Proofs.YteiocplfmjkbkaaGreatDoor
namespace Go.Proofs.YteiocplfmjkbkaaGreatDoor
open Go.RowKit
set_option maxRecDepth 100000

/-- The parts of a text between commas. -/
def partsL (s : ByteArray) : List ByteArray := Lib.splitB ⟨#[44]⟩ 0 (Lib.countB s ⟨#[44]⟩) s
theorem partsL_length (s : ByteArray) : (partsL s).length = Lib.countB s ⟨#[44]⟩ + 1 := Lib.splitB_all _ (by decide) 0 _ s rfl
theorem strings_SplitC (s : ByteArray) (mx : Int) (w : World) (hs : s.size < 4294967281) (hm : w.cell? ⟨2, 0, none⟩ = some (.int .i64 mx)) :
    Calls Tryz.prog 74 #[.string s, .string ⟨#[44]⟩] w fun e w' => e = .returned (.slice (some ⟨w.heap.size, 0, none⟩) (Lib.countB s ⟨#[44]⟩ + 1) (Lib.countB s ⟨#[44]⟩ + 1)) ∧ w' = w.alloc (.cells ((partsL s).map Value.string).toArray 9) :=
  Tryz.strings_Split s ⟨#[44]⟩ mx w hs hm (by decide)
theorem owns_mono {w : World} {base base' : Nat} {e : TypeId} {size : Nat} {v : Value} {n : Nat} {xs : List Value} (h : w.ownsRow base e size v n xs) (hb : base' ≤ base) : w.ownsRow base' e size v n xs := by
  refine ⟨h.1, h.2.imp id ?_⟩
  rintro ⟨g, cap, cur, hv, hg, r⟩
  exact ⟨g, cap, cur, hv, Nat.le_trans hb hg, r⟩
end Go.Proofs.YteiocplfmjkbkaaGreatDoor
