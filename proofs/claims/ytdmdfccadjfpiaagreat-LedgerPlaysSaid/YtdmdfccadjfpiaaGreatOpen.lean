/-
  journal.Open of a file that is there.
-/
import Derived.Test.YtdmdfccadjfpiaaGreatDisk3
import Derived.Test.YtdmdfccadjfpiaaGreatSpoiltL
namespace Go.Proofs.YtdmdfccadjfpiaaGreat
open Go.RowKit
set_option maxRecDepth 100000

theorem DiskAt.tab_ne {w : World} {d m b : Nat} {fs : List FileV} (h : DiskAt w d m fs) (hT : TabOk w b) : b ∉ [d, m] := by
  obtain ⟨⟨p, q, h1⟩, ⟨es, c, h2, h3⟩, h4⟩ := h
  obtain ⟨_, _, _, _, _, _, _, hT⟩ := hT
  have h1' := hT.ne h1 (by decide)
  obtain ⟨cs, hb, _⟩ := hT
  intro hm
  simp only [List.mem_cons, List.mem_nil_iff, or_false] at hm
  rcases hm with rfl | rfl
  · exact h1' rfl
  · unfold Blk at hb
    rw [h2] at hb
    cases hb
theorem DiskAt.lt {w : World} {d m : Nat} {fs : List FileV} (h : DiskAt w d m fs) : ∀ x ∈ [d, m], x < w.heap.size := by
  obtain ⟨⟨p, q, h1⟩, ⟨es, c, h2, h3⟩, h4⟩ := h
  intro x hx
  simp only [List.mem_cons, List.mem_nil_iff, or_false] at hx
  rcases hx with rfl | rfl
  · exact h1.lt
  · exact (Array.getElem?_eq_some_iff.1 h2).1
/-- What Open finds, and leaves. -/
def OpenPost (d m b : Nat) (fs : List FileV) (s : ByteArray) (f : FileV) (w : World) (e : Ending) (w' : World) : Prop :=
  ∃ j v ps fs' f', e = .returned (.tuple #[.pointer (some ⟨j, 0, none⟩), v, .int .i64 0]) ∧ ps.map (·.2) = scanL f.bytes ∧ w'.ownsRow w.heap.size 58 1 v ps.length (ps.map (·.1)) ∧ OwnAll w' w.heap.size ps ∧
    w.heap.size ≤ j ∧ Blk w' j #[.pointer (some ⟨d, 0, none⟩), .pointer (some ⟨b, 0, none⟩), .string s, .int .i64 (lenR (scanL f.bytes) : Nat)] 147 ∧ DiskAt w' d m fs' ∧ findF fs' s = some f' ∧
    f'.bytes = f.bytes.take (lenR (scanL f.bytes)) ∧ f'.synced = (if lenR (scanL f.bytes) < f.bytes.length then lenR (scanL f.bytes) else f.synced) ∧ (∀ s', s' ≠ s → findF fs' s' = findF fs s') ∧ TabOk w' b ∧ Mod [d, m, b] w w'
set_option maxHeartbeats 1000000 in
theorem jOpenSome (d m b : Nat) (fs : List FileV) (s : ByteArray) (f : FileV) (w : World) (hD : DiskAt w d m fs) (hf : findF fs s = some f) (hT : TabOk w b) :
    Calls Tryz.prog 44 #[.pointer (some ⟨d, 0, none⟩), .pointer (some ⟨b, 0, none⟩), .string s] w (OpenPost d m b fs s f w) := by
  have hR := diskReadSome d m fs s f w hD hf
  have hfl := (hD.good f (findF_mem hf).1).2.2
  have hlt := hD.lt
  obtain ⟨N, hN⟩ : ∃ N, N = lenR (scanL f.bytes) := ⟨_, rfl⟩
  have hNl : N ≤ f.bytes.length := by rw [hN]; exact lenR_scan _ _ (Nat.le_refl _)
  have HN := Lib.hid hN
  have HF := Lib.hid hf
  have HLT := Lib.hid hlt
  clear hlt hf
  go_enter Tryz.func44, Tryz.ntmps44
  go_wp2_with fail
  (with_reducible refine hR.mono ?_)
  rintro e w1 ⟨v1, rfl, hv1, hb1⟩
  have hD1 := hD.below hb1
  have hT1 := hT.below hb1
  have hS := jScan b _ _ w1 hT1 (rd_of_owns hv1) (by omega)
  rw [← hN] at hS
  obtain ⟨A1, c1, rfl⟩ := owns_slice hv1
  have hB1 := Mod.of_below (S := [d, m, b]) hb1
  have hsz1 := hb1.size
  clear hR hv1 hb1 hN
  go_wp2_with fail
  (with_reducible refine hS.mono ?_)
  rintro e w2 ⟨v2, ps, rfl, hps, hv2, hall2, hT2, hB2⟩
  have hD2 := hD1.but hT1 hB2
  have hM2 := hB1.trans (Mod.of_but (S := [d, m, b]) hB2 (by simp))
  have hv2 := owns_mono hv2 hsz1
  have hall2 : OwnAll w2 w.heap.size ps := fun p hp => owns_mono (hall2 p hp) hsz1
  have HPS := Lib.hid hps
  obtain ⟨A2, c2, rfl⟩ := owns_slice hv2
  clear hS hps hD1 hT1 hB1 hB2 hD hT
  by_cases hcut : N < f.bytes.length
  · have hC := diskCut d m N fs s f w2 hD2 HF.out hNl
    go_wp2_with fail
    (with_reducible refine hC.mono ?_)
    rintro e w3 ⟨rfl, ⟨v3, hD3⟩, hM3⟩
    have hT3 := hM3.tab hT2 (hD2.tab_ne hT2)
    have hv3 := hM3.owns hv2 (fun g hg hm => by have := (hv2.lt g hg).1; have := HLT.out g hm; omega)
    have hall3 : OwnAll w3 w.heap.size ps := fun p hp => hM3.owns (hall2 p hp) (fun g hg hm => by have := ((hall2 p hp).lt g hg).1; have := HLT.out g hm; omega)
    have hY := diskSync d m _ s ⟨s, v3, f.bytes.take N, min f.synced N⟩ w3 hD3 (by rw [find_putF]; simp)
    have hM3' := hM2.trans (hM3.mono (S' := [d, m, b]) (by simp))
    clear hC hT2 hv2 hall2 hD2 hM2 hM3
    go_wp2_with fail
    (with_reducible refine hY.mono ?_)
    rintro e w4 ⟨rfl, hD4, hM4⟩
    have hT4 := hM4.tab hT3 (hD3.tab_ne hT3)
    have hv4 := hM4.owns hv3 (fun g hg hm => by have := (hv3.lt g hg).1; have := HLT.out g hm; omega)
    have hall4 : OwnAll w4 w.heap.size ps := fun p hp => hM4.owns (hall3 p hp) (fun g hg hm => by have := ((hall3 p hp).lt g hg).1; have := HLT.out g hm; omega)
    have hM4' := hM3'.trans (hM4.mono (S' := [d, m, b]) (by simp))
    clear hY hT3 hv3 hall3 hD3 hM3' hM4
    go_wp2_with fail
    refine bodyPost_gen fun w5 hw5 => ?_
    have hBj : Blk w5 w4.heap.size #[.pointer (some ⟨d, 0, none⟩), .pointer (some ⟨b, 0, none⟩), .string s, .int .i64 N] 147 := by rw [hw5]; exact Blk.new _ _ _
    have hb5 : Below w4.heap.size w4 w5 := by rw [hw5]; exact (Below.refl _ _).alloc (Nat.le_refl _) _
    have hsz := hM4'.size
    have hP : OpenPost d m b fs s f w (.returned (.tuple #[.pointer (some ⟨w4.heap.size, 0, none⟩), .slice A2 ps.length c2, .int .i64 0])) w5 := by
      refine ⟨_, _, ps, _, _, rfl, HPS.out, owns_below hv4 hb5, hall4.below hb5, hsz, by rw [← HN.out]; exact hBj, hD4.below hb5, by rw [find_putF, if_pos rfl], by rw [← HN.out], ?_, fun s' hs' => ?_, hT4.below hb5, hM4'.trans (Mod.of_below hb5)⟩
      · rw [← HN.out, if_pos hcut]
        show (f.bytes.take N).length = N
        simp; omega
      · rw [find_putF, if_neg hs', find_putF, if_neg hs']
    clear hw5
    go_ret3
    exact hP
  · go_wp2_with fail
    refine bodyPost_gen fun w5 hw5 => ?_
    have hBj : Blk w5 w2.heap.size #[.pointer (some ⟨d, 0, none⟩), .pointer (some ⟨b, 0, none⟩), .string s, .int .i64 N] 147 := by rw [hw5]; exact Blk.new _ _ _
    have hb5 : Below w2.heap.size w2 w5 := by rw [hw5]; exact (Below.refl _ _).alloc (Nat.le_refl _) _
    have hsz := hM2.size
    have hP : OpenPost d m b fs s f w (.returned (.tuple #[.pointer (some ⟨w2.heap.size, 0, none⟩), .slice A2 ps.length c2, .int .i64 0])) w5 := by
      refine ⟨_, _, ps, _, _, rfl, HPS.out, owns_below hv2 hb5, hall2.below hb5, hsz, by rw [← HN.out]; exact hBj, hD2.below hb5, HF.out, ?_, ?_, fun s' _ => rfl, hT2.below hb5, hM2.trans (Mod.of_below hb5)⟩
      · rw [← HN.out, List.take_of_length_le (by omega)]
      · rw [← HN.out, if_neg hcut]
    clear hw5
    go_ret3
    exact hP
end Go.Proofs.YtdmdfccadjfpiaaGreat
