/-
  Open of the one file, or of none.
-/
import Derived.Test.YtdjdhakmigofmaaOpenJ
namespace Go.Proofs.Ytdjdhakmigofmaa
open Go.RowKit FreeNew
set_option maxRecDepth 100000

/-- Open, where there is no such file. -/
theorem jOpenNewO (d m b : Nat) (fs : List FileV) (s : ByteArray) (w : World) (hD : DiskAt w d m fs) (hf : findF fs s = none) (hT : TabOk w b) :
    Calls Try.prog 32 #[.pointer (some ⟨d, 0, none⟩), .pointer (some ⟨b, 0, none⟩), .string s] w fun e w' => ∃ j A c, e = .returned (.tuple #[.pointer (some ⟨j, 0, none⟩), .slice A 0 c, .int .i64 0]) ∧ w'.ownsRow w.heap.size 27 1 (.slice A 0 c) 0 [] ∧
      w.heap.size ≤ j ∧ Blk w' j #[.pointer (some ⟨d, 0, none⟩), .pointer (some ⟨b, 0, none⟩), .string s, .int .i64 0] 114 ∧ DiskAt w' d m fs ∧ TabOk w' b ∧ But b w w' := by
  have hR := diskReadNone d m fs s w hD hf
  go_enter Try.func32, Try.ntmps32
  go_wp2_with fail
  (with_reducible refine hR.mono ?_)
  rintro e w1 ⟨rfl, hb1⟩
  have hD1 := hD.below hb1
  have hT1 := hT.below hb1
  have hnil : Rd w1 1 (.slice none 0 0) ([] : List UInt8).length (u8L []) := ⟨_, _, rfl, rfl, Nat.le_refl _, by unfold maxLen; show 0 ≤ _; omega, fun h => absurd h (by decide)⟩
  have hS := jScan b _ [] w1 hT1 hnil (by decide)
  rw [scanL_nil] at hS
  have hB1 := But.of_below (b := b) hb1
  clear hR hnil
  go_wp2_with fail
  (with_reducible refine hS.mono ?_)
  rintro e w2 ⟨v', ps, rfl, hps, hv, _, hT2, hB2⟩
  obtain rfl : ps = [] := by simpa using hps
  obtain ⟨A, c, rfl⟩ := owns_slice hv
  have hD2 := hD1.but hT1 hB2
  have hB := hB1.trans hB2
  have e0 : lenR [] = 0 := rfl
  have HV := Lib.hid (owns_mono hv hb1.size)
  clear hS hv hps hb1 hD1 hT1 hB1 hB2
  go_wp2_with fail
  refine bodyPost_gen fun w3 hw3 => ?_
  have hBj : Blk w3 w2.heap.size #[.pointer (some ⟨d, 0, none⟩), .pointer (some ⟨b, 0, none⟩), .string s, .int .i64 0] 114 := by rw [hw3]; exact Blk.new _ _ _
  have hb3 : Below w2.heap.size w2 w3 := by rw [hw3]; exact (Below.refl _ _).alloc (Nat.le_refl _) _
  have hD3 := hD2.below hb3
  have hT3 := hT2.below hb3
  have hB3 := hB.trans (But.of_below hb3)
  have hsz := hB.size
  clear hw3
  go_ret3
  exact ⟨_, _, _, rfl, owns_below HV.out hb3, hsz, hBj, hD3, hT3, hB3⟩
/-- The one file, all of it synced; or none. -/
def oneJ (fs : List FileV) (s : ByteArray) (acc : List UInt8) : Prop := (fs = [] ∧ acc = []) ∨ ∃ v, fs = [⟨s, v, acc, acc.length⟩]
theorem jOpenAny (d m b : Nat) (s : ByteArray) (fs : List FileV) (R : List UInt8) (w : World) (hD : DiskAt w d m fs) (ho : oneJ fs s R) (hT : TabOk w b) :
    Calls Try.prog 32 #[.pointer (some ⟨d, 0, none⟩), .pointer (some ⟨b, 0, none⟩), .string s] w fun e w' => ∃ j vg ps fs', e = .returned (.tuple #[.pointer (some ⟨j, 0, none⟩), vg, .int .i64 0]) ∧ ps.map (·.2) = scanL R ∧
      w'.ownsRow w.heap.size 27 1 vg ps.length (ps.map (·.1)) ∧ OwnAll w' w.heap.size ps ∧ w.heap.size ≤ j ∧ Blk w' j #[.pointer (some ⟨d, 0, none⟩), .pointer (some ⟨b, 0, none⟩), .string s, .int .i64 (lenR (scanL R) : Nat)] 114 ∧
      DiskAt w' d m fs' ∧ oneJ fs' s (layAll (scanL R)) ∧ TabOk w' b ∧ Mod [d, m, b] w w' := by
  rcases ho with ⟨rfl, rfl⟩ | ⟨v, rfl⟩
  · refine (jOpenNewO d m b [] s w hD rfl hT).mono ?_
    rintro e w' ⟨j, A, c, rfl, hv, hjw, hj, hD', hT', hB⟩
    rw [scanL_nil]
    exact ⟨j, _, [], [], rfl, rfl, hv, OwnAll.nil, hjw, hj, hD', .inl ⟨rfl, rfl⟩, hT', Mod.of_but hB (by simp)⟩
  · refine (jOpenOneJ d m b s v R w hD hT).mono ?_
    rintro e w' ⟨j, vg, ps, v', rfl, hps, hvg, hog, hjw, hj, hD', hT', hM⟩
    exact ⟨j, vg, ps, _, rfl, hps, hvg, hog, hjw, hj, hD', .inr ⟨v', by rw [layAll_len]⟩, hT', hM⟩
end Go.Proofs.Ytdjdhakmigofmaa
