/-
  Awake: the fixed fact ahead of chapter 31's statements.
-/
import Derived.Test.YtdghpjkjhlankaaTopoB
namespace Go.Proofs.Ytdghpjkjhlankaa
open Go.RowKit FreeOrd
set_option maxRecDepth 100000
attribute [local go_sem] out

def awakeB : ByteArray := ⟨#[101, 100, 103, 101, 48, 32, 104, 111, 116, 123, 114, 111, 111, 109, 61, 120, 125, 32, 102, 105, 114, 105, 110, 103, 32, 115, 105, 110, 99, 101, 32, 51, 32, 118, 97, 108, 117, 101, 32, 51, 49]⟩
theorem awake_eq : alertB (mainB :: ((List.range (min (1 + [].length (α := Nat)) 3)).map hubB ++ [edgeB 0])) 2 ⟨#[104, 111, 116]⟩ [(⟨#[114, 111, 111, 109]⟩, ⟨#[120]⟩)] 2 3 31 = awakeB := by
  have h3 : decB 3 = ⟨#[51]⟩ := decB_small 3 (by decide)
  have h0 : decB 0 = ⟨#[48]⟩ := decB_small 0 (by decide)
  have h1 : decB 1 = ⟨#[49]⟩ := decB_small 1 (by decide)
  have h31 : decB 31 = ⟨#[51, 49]⟩ := by rw [decB_big 31 (by decide), show 31 / 10 = 3 from rfl, show 31 % 10 = 1 from rfl, h3, h1]; rfl
  have hs : sdecB 31 = ⟨#[51, 49]⟩ := by unfold sdecB; simpa using h31
  unfold alertB originB hubB edgeB
  rw [h3, hs, h0]
  rfl

theorem names_size : ∀ s ∈ (mainB :: ((List.range (min (1 + [].length (α := Nat)) 3)).map hubB ++ [edgeB 0]) : List ByteArray), s.size ≤ 1000000000 := by
  have h0 : decB 0 = ⟨#[48]⟩ := decB_small 0 (by decide)
  intro s hs
  have : s = mainB ∨ s = hubB 0 ∨ s = edgeB 0 := by simpa [List.range, List.range.loop] using hs
  rcases this with rfl | rfl | rfl
  · decide
  · unfold hubB; rw [h0]; decide
  · unfold edgeB; rw [h0]; decide

theorem awake (w : World) : Calls Try.prog 6 #[] w fun e w' => e = .returned (.bool true) ∧ Below w.heap.size w w' := by
  have hT : ∀ W : World, _ := fun W => topoNil (.slice none 0 0) [] W ⟨none, 0, rfl, rfl, Nat.le_refl _, by unfold maxLen; omega, fun h => by simp at h⟩ (by simp)
  go_enter Try.func6, Try.ntmps6
  go_wp2_with fail
  (with_reducible refine (hT _).mono ?_)
  rintro e w1 ⟨A0, n0, c0, RA, rn, rc, rfl, hN, hb1⟩
  clear hT
  go_wp2_with fail
  generalize hW : (w1.alloc (.cells #[.slice A0 n0 c0, .int .i64 1, .int .u64 1, .int .u64 1, .int .u64 1, .int .u64 2, .slice RA rn rc, .slice none 0 0] 33)).alloc (.cells #[.string ⟨#[114, 111, 111, 109]⟩, .string ⟨#[120]⟩] 81) = W2
  have hH : Holds w1 [(w1.heap.size + 1, #[.string ⟨#[114, 111, 111, 109]⟩, .string ⟨#[120]⟩], 81), (w1.heap.size, #[.slice A0 n0 c0, .int .i64 1, .int .u64 1, .int .u64 1, .int .u64 1, .int .u64 2, .slice RA rn rc, .slice none 0 0], 33)] W2 := by
    rw [← hW]
    exact ((Holds.nil w1).new w1.heap.size _ _ rfl).new (w1.heap.size + 1) _ _ (by simp)
  have hB : Blk W2 (w1.heap.size + 1) #[.string ⟨#[114, 111, 111, 109]⟩, .string ⟨#[120]⟩] 81 := hH.2 _ (.head _)
  have hb2 := hH.1
  have hL : Rd W2 2 (.slice (some ⟨w1.heap.size + 1, 0, none⟩) 1 1) 1 (pairCells [(⟨#[114, 111, 111, 109]⟩, ⟨#[120]⟩)]) := by
    refine ⟨_, _, rfl, rfl, Nat.le_refl _, by unfold maxLen; omega, fun _ => ⟨_, _, rfl, fun j u hj => ?_⟩⟩
    match j, hj with
    | 0, hj => simp [pairCells] at hj; subst hj; exact hB.cell rfl
    | 1, hj => simp [pairCells] at hj; subst hj; exact hB.cell rfl
    | j + 2, hj => simp [pairCells] at hj
  have hC : Calls Try.prog 10 #[.agg #[.slice A0 n0 c0, .int .i64 1, .int .u64 1, .int .u64 1, .int .u64 1, .int .u64 2, .slice RA rn rc, .slice none 0 0], .agg #[.int .u8 2, .string ⟨#[104, 111, 116]⟩, .slice (some ⟨w1.heap.size + 1, 0, none⟩) 1 1, .int .u8 2, .int .u64 3, .int .u8 0, .int .i64 31]] W2 fun e w' =>
      e = .returned (.string awakeB) ∧ Below W2.heap.size W2 w' := by
    have h := viewAlert (.slice A0 n0 c0) (.int .i64 1) (.int .u64 1) (.int .u64 1) (.int .u64 1) (.int .u64 2) (.slice RA rn rc) (.slice none 0 0) _ 2 ⟨#[104, 111, 116]⟩ (.slice (some ⟨w1.heap.size + 1, 0, none⟩) 1 1) [(⟨#[114, 111, 111, 109]⟩, ⟨#[120]⟩)] 2 3 (.int .u8 0) 31 W2 (hN.below hb2) (by decide) hL (by decide) (by decide) (by decide) names_size (by decide) (by decide)
    rw [awake_eq] at h
    exact h
  have hbe : Below w.heap.size w W2 := hb1.trans (hb2.mono hb1.size)
  clear hW hH hB hL hN hb1 hb2
  (with_reducible refine hC.mono ?_)
  rintro e w3 ⟨rfl, hb3⟩
  have hbe3 := hbe.trans (hb3.mono hbe.size)
  clear hbe hb3 hC
  unfold awakeB
  go_wp2_with fail
  go_ret
  exact ⟨rfl, hbe3⟩
end Go.Proofs.Ytdghpjkjhlankaa
