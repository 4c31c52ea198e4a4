/-
  A journal over a disk: Open where there is no such file, Append of too much, Size, and the nil ones.
-/
import Derived.Test.YtdmdfccadjfpiaaGreatDisk
import Derived.Test.YtdmdfccadjfpiaaGreatAwk
namespace Go.Proofs.YtdmdfccadjfpiaaGreat
open Go.RowKit
set_option maxRecDepth 100000

theorem DiskAt.but {w w' : World} {d m b : Nat} {fs : List FileV} (h : DiskAt w d m fs) (hT : TabOk w b) (hB : But b w w') : DiskAt w' d m fs := by
  obtain ⟨es2, c2, h5, h6⟩ := h.stamp
  obtain ⟨⟨p, q, h1⟩, ⟨es, c, h2, h3⟩, h4⟩ := h
  have hm : m < w.heap.size := (Array.getElem?_eq_some_iff.1 h2).1
  have hdb : d ≠ b := by
    obtain ⟨_, _, _, _, _, _, _, hT⟩ := hT
    exact hT.ne h1 (by decide)
  have hmb : m ≠ b := by
    obtain ⟨_, _, _, _, _, _, _, cs, hb, _⟩ := hT
    rintro rfl
    unfold Blk at hb
    rw [h2] at hb
    cases hb
  exact ⟨⟨p, q, h1.but hB hdb⟩, ⟨es, c, (hB.block m hm hmb).trans h2, h3⟩, fun f hf => ⟨(h4 f hf).1.but8 hT hB, (h4 f hf).2⟩, ⟨es2, c2, (hB.block m hm hmb).trans h5, h6⟩⟩
theorem Blk.but_ {w w' : World} {g b : Nat} {cs : Array Value} {t : TypeId} (h : Blk w g cs t) (hT : TabOk w b) (hB : But b w w') (ht : t ≠ 116) : Blk w' g cs t := by
  obtain ⟨_, _, _, _, _, _, _, hT⟩ := hT
  exact h.but hB (hT.ne h ht)
theorem scanL_nil : scanL [] = [] := scanL_none (takeL_short (by decide))

/-- Open, where there is no such file. -/
theorem jOpenNew (d m b : Nat) (fs : List FileV) (s : ByteArray) (w : World) (hD : DiskAt w d m fs) (hf : findF fs s = none) (hT : TabOk w b) :
    Calls Tryz.prog 44 #[.pointer (some ⟨d, 0, none⟩), .pointer (some ⟨b, 0, none⟩), .string s] w fun e w' => ∃ j A c, e = .returned (.tuple #[.pointer (some ⟨j, 0, none⟩), .slice A 0 c, .int .i64 0]) ∧
      w.heap.size ≤ j ∧ Blk w' j #[.pointer (some ⟨d, 0, none⟩), .pointer (some ⟨b, 0, none⟩), .string s, .int .i64 0] 147 ∧ DiskAt w' d m fs ∧ TabOk w' b ∧ But b w w' := by
  have hR := diskReadNone d m fs s w hD hf
  go_enter Tryz.func44, Tryz.ntmps44
  go_wp2_with fail
  (with_reducible refine hR.mono ?_)
  rintro e w1 ⟨rfl, hb1⟩
  have hD1 := hD.below hb1
  have hT1 := hT.below hb1
  have hnil : Rd w1 1 (.slice none 0 0) ([] : List UInt8).length (u8L []) := ⟨_, _, rfl, rfl, Nat.le_refl _, by unfold maxLen; show 0 ≤ _; omega, fun h => absurd h (by decide)⟩
  have hS := jScan b _ [] w1 hT1 hnil (by decide)
  rw [scanL_nil] at hS
  have hB1 := But.of_below (b := b) hb1
  clear hR hnil
  go_wp2_with fail
  (with_reducible refine hS.mono ?_)
  rintro e w2 ⟨v', ps, rfl, hps, hv, _, hT2, hB2⟩
  obtain rfl : ps = [] := by simpa using hps
  obtain ⟨A, c, rfl⟩ := owns_slice hv
  have hD2 := hD1.but hT1 hB2
  have hB := hB1.trans hB2
  have e0 : lenR [] = 0 := rfl
  clear hS hv hps hb1 hD1 hT1 hB1 hB2
  go_wp2_with fail
  refine bodyPost_gen fun w3 hw3 => ?_
  have hBj : Blk w3 w2.heap.size #[.pointer (some ⟨d, 0, none⟩), .pointer (some ⟨b, 0, none⟩), .string s, .int .i64 0] 147 := by rw [hw3]; exact Blk.new _ _ _
  have hb3 : Below w2.heap.size w2 w3 := by rw [hw3]; exact (Below.refl _ _).alloc (Nat.le_refl _) _
  have hD3 := hD2.below hb3
  have hT3 := hT2.below hb3
  have hB3 := hB.trans (But.of_below hb3)
  have hsz := hB.size
  clear hw3
  go_ret3
  exact ⟨_, _, _, rfl, hsz, hBj, hD3, hT3, hB3⟩
/-- Append of too much. -/
theorem jAppendLong (j b n : Nat) (c0 c2 : Value) (k : Int) (A : Option Addr) (c : Nat) (l : List UInt8) (w : World) (hj : Blk w j #[c0, .pointer (some ⟨b, 0, none⟩), c2, .int .i64 k] 147) (hl : Rd w 1 (.slice A n c) l.length (u8L l)) (hlen : 524288 < l.length) :
    Calls Tryz.prog 41 #[.pointer (some ⟨j, 0, none⟩), .slice A n c] w fun e w' => e = .returned (.int .i64 4) ∧ w' = w := by
  have c1 : w.cell? ⟨j, 1, none⟩ = some (.pointer (some ⟨b, 0, none⟩)) := hj.cell rfl
  have hL := jLayLong b _ l w hl hlen
  clear hj
  go_enter Tryz.func41, Tryz.ntmps41
  go_wp2_with fail
  (with_reducible refine hL.mono ?_)
  rintro e w1 ⟨rfl, rfl⟩
  go_wp2_with fail
  go_ret
  exact ⟨rfl, rfl⟩
theorem u8L_rep (n : Nat) : u8L (List.replicate n 0) = (madeCells #[.int .u8 0] n).toList := by
  rw [toList_madeCells_one]
  simp [u8L]
end Go.Proofs.YtdmdfccadjfpiaaGreat
