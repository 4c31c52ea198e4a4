/-
  A fixed fact: Awake of the journal's statements.
-/
import Derived.Test.YtdjdhakmigofmaaNew
namespace Go.Proofs.Ytdjdhakmigofmaa
open Go.RowKit
set_option maxRecDepth 100000

theorem calls_gen {P : Program} {n : Nat} {args : Array Value} {w : World} {Q : Ending → World → Prop} (h : ∀ w', w' = w → Calls P n args w' Q) : Calls P n args w Q := h w rfl
theorem jAwake (w : World) : Calls Try.prog 30 #[] w fun e w' => e = .returned (.bool true) ∧ Below w.heap.size w w' := by
  go_enter Try.func30, Try.ntmps30
  go_wp2_with fail
  (with_reducible refine (crcNew w).mono ?_)
  rintro e w1 ⟨rfl, hT1, hb1⟩
  have hlt := hT1.lt
  go_wp2_with fail
  refine calls_gen fun w2 hw2 => ?_
  have hb2 : Below w1.heap.size w1 w2 := by rw [hw2]; exact (Below.refl _ _).alloc (Nat.le_refl _) _
  have hB2 : Blk w2 w1.heap.size #[.int .u8 5] 5 := by rw [hw2]; exact Blk.new _ _ _
  clear hw2
  have hT2 := hT1.below hb2
  have hrd : Rd w2 1 (.slice (some ⟨w1.heap.size, 0, none⟩) 1 1) ([5] : List UInt8).length (u8L [5]) := ⟨_, _, rfl, rfl, Nat.le_refl _, by unfold maxLen; show 1 ≤ _; omega, fun _ => ⟨_, _, rfl, fun j u hj => by
    match j, hj with
    | 0, hj => simp [u8L] at hj; subst hj; exact hB2.cell rfl
    | j + 1, hj => simp [u8L] at hj⟩⟩
  have hbt : Below w.heap.size w w2 := hb1.trans (hb2.mono hb1.size)
  (with_reducible refine (jLay w.heap.size _ [5] w2 hT2 hrd (by decide)).mono ?_)
  rintro e w3 ⟨v, rfl, hv, hT3, hB3⟩
  have hl : (layL [5]).length = 9 := rfl
  rw [hl] at hv
  have hrv := rd_of_owns hv
  obtain ⟨A, c, rfl, _, h2, _, h4⟩ := hrv
  obtain ⟨q, o, rfl, hr⟩ := h4 (by decide)
  have c0 : w3.cell? ⟨q, o, none⟩ = some (.int .u8 1) := hr 0 _ rfl
  have c8 : w3.cell? ⟨q, o + 8, none⟩ = some (.int .u8 5) := hr 8 _ rfl
  have hbe := hB3.below hbt (Nat.le_refl _) (Nat.le_refl _)
  clear hr h4 hv hT2 hrd hB2 hb2 hB3 hbt
  go_wp2_with fail
  go_ret
  exact ⟨rfl, hbe⟩
end Go.Proofs.Ytdjdhakmigofmaa
