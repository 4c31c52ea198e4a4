/-
  A journal's Append and Sync that succeed.
-/
import Derived.Test.YtdmdfccadjfpiaaGreatOpen
namespace Go.Proofs.YtdmdfccadjfpiaaGreat
open Go.RowKit FreeNew
set_option maxRecDepth 100000
attribute [local go_sem] out

theorem DiskAt.notJ {w : World} {d m j : Nat} {fs : List FileV} {c0 c1 c2 c3 : Value} (h : DiskAt w d m fs) (hj : Blk w j #[c0, c1, c2, c3] 147) : j ∉ [d, m] := by
  obtain ⟨⟨p, r, h1⟩, ⟨es, c, h2, _⟩, _⟩ := h
  intro hm
  unfold Blk at h1 hj
  simp only [List.mem_cons, List.mem_nil_iff, or_false] at hm
  rcases hm with rfl | rfl
  · rw [h1] at hj; simp at hj
  · rw [h2] at hj; simp at hj

theorem DiskAt.farJ {w w' : World} {d m j : Nat} {fs : List FileV} {p0 p1 : Option Addr} {s : ByteArray} {k : Int} (h : DiskAt w d m fs) (hj : Blk w j #[.pointer p0, .pointer p1, .string s, .int .i64 k] 147) (hM : Mod [j] w w') : DiskAt w' d m fs := by
  have hn := h.notJ hj
  have hjd : d ∉ [j] := by simp only [List.mem_cons, List.mem_nil_iff, or_false] at hn ⊢; omega
  have hjm : m ∉ [j] := by simp only [List.mem_cons, List.mem_nil_iff, or_false] at hn ⊢; omega
  have hst := h.stamp
  have hgood := h.good
  obtain ⟨⟨p, r, h1⟩, ⟨es, c, h2, h3⟩, _⟩ := h
  have hmlt : m < w.heap.size := (Array.getElem?_eq_some_iff.1 h2).1
  have h2' := (hM.block m hmlt hjm).trans h2
  refine ⟨⟨p, r, hM.blk h1 hjd⟩, ⟨es, c, h2', h3⟩, fun f hf => ⟨hM.rd (hgood f hf).1 (fun q o u hc hu => ?_), (hgood f hf).2⟩, ?_⟩
  · obtain ⟨x, _, rfl⟩ := List.mem_map.1 hu
    intro hq
    obtain rfl : q = j := by simpa using hq
    unfold Blk at hj
    rw [Lib.cell_of_heap hj] at hc
    match o, hc with
    | 0, hc => simp at hc
    | 1, hc => simp at hc
    | 2, hc => simp at hc
    | 3, hc => simp at hc
    | o + 4, hc => simp at hc
  · obtain ⟨es2, c2, hs1, hs2⟩ := hst
    exact ⟨es2, c2, (hM.block m hmlt hjm).trans hs1, hs2⟩
theorem TabOk.notJ {w : World} {b j : Nat} {cs : Array Value} (h : TabOk w b) (hj : Blk w j cs 147) : b ≠ j := by
  obtain ⟨d, ws, s, t, h1, h2, h3, cs', hb, h4⟩ := h
  rintro rfl
  unfold Blk at hb hj
  rw [hb] at hj
  simp at hj

set_option maxHeartbeats 2000000 in
theorem jAppendOkN (j d m b k : Nat) (fs : List FileV) (s : ByteArray) (v : Value) (l : List UInt8) (w : World) (hj : Blk w j #[.pointer (some ⟨d, 0, none⟩), .pointer (some ⟨b, 0, none⟩), .string s, .int .i64 k] 147) (hT : TabOk w b) (hD : DiskAt w d m fs) (hl : Rd w 1 v l.length (u8L l)) (hlen : l.length ≤ 524288)
    (hs : s.size ≤ maxLen) (hf : wordB s 16 true = true) (hroom : (findF fs s).isSome = true ∨ fs.length ≠ 64) (hsum : (hadF fs s).1.length + (l.length + 8) ≤ 1048576) (hk : k ≤ 1099511627776) (hb : b ∉ [d, m]) :
    Calls Tryz.prog 41 #[.pointer (some ⟨j, 0, none⟩), v] w fun e w' => e = .returned (.int .i64 0) ∧ Blk w' j #[.pointer (some ⟨d, 0, none⟩), .pointer (some ⟨b, 0, none⟩), .string s, .int .i64 ((k + (l.length + 8) : Nat) : Int)] 147 ∧ TabOk w' b ∧
      (∃ v', DiskAt w' d m (putF fs ⟨s, v', (hadF fs s).1 ++ layL l, (hadF fs s).2⟩) ∧ ∀ g, v'.ownBlock = some g → w.heap.size ≤ g) ∧ Mod [d, m, b, j] w w' := by
  have c1 : w.cell? ⟨j, 1, none⟩ = some (.pointer (some ⟨b, 0, none⟩)) := hj.cell rfl
  have hL := jLay b v l w hT hl hlen
  obtain ⟨A, c, rfl, _⟩ := hl
  go_enter Tryz.func41, Tryz.ntmps41
  go_wp2_with fail
  (with_reducible refine hL.mono ?_)
  rintro e w1 ⟨v1, rfl, hv1, hT1, hB1⟩
  have hj1 := hj.but_ hT hB1 (by decide)
  have hD1 := hD.but hT hB1
  have hll := layL_len l
  rw [hll] at hv1
  have hr1 := rd_of_owns hv1
  obtain ⟨A1, c9, rfl⟩ := owns_slice hv1
  have F : ∀ w', Below w1.heap.size w1 w' → w'.cell? ⟨j, 0, none⟩ = some (.pointer (some ⟨d, 0, none⟩)) ∧ w'.cell? ⟨j, 2, none⟩ = some (.string s) := fun w' h => ⟨(hj1.below h hj1.lt).cell rfl, (hj1.below h hj1.lt).cell rfl⟩
  have hM1 : Mod [d, m, b, j] w w1 := Mod.of_but hB1 (by simp)
  have HLL := Lib.hid hll
  clear hll
  clear hL c1 hj hT hv1 hD hB1
  go_wp2_with fail
  refine region_free (fun w' => Below w1.heap.size w1 w') [] [9, 10] [0, 1, 2, 3, 4, 5, 6, 7, 8] (by kernel_rfl) (by kernel_rfl) (by kernel_rfl) (Below.refl _ _).drew ?_
  repeat (first
    | (refine RelSeq.pure_ (c := ?_) rfl rfl ?_ ?_; rotate_left; (focus (intro x w'; dsimp only; go_simp; (repeat' apply And.intro) <;> first | with_reducible rfl | assumption)); simp only [Act.put, List.setIfInBounds_toArray, List.set_cons_zero, List.set_cons_succ])
    | (refine RelSeq.skip_ rfl (fun _ => rfl) ?_; simp only [Act.put, List.setIfInBounds_toArray, List.set_cons_zero, List.set_cons_succ])
    | (refine RelSeq.pureG_ (c := ?_) rfl (fun _ => rfl) rfl ?_ ?_; rotate_left; (focus (intro x w'; dsimp only; go_simp; (repeat' apply And.intro) <;> first | with_reducible rfl | assumption)); simp only [Act.put, List.setIfInBounds_toArray, List.set_cons_zero, List.set_cons_succ])
    | (refine RelSeq.grow_ (c := ?_) rfl rfl ?_ ?_; rotate_left; (focus (intro x w' hw _; dsimp only; obtain ⟨d0, d1⟩ := F w' hw; have hbr := Below.refl w'.heap.size w'; go_simp; (repeat' apply And.intro) <;> first | with_reducible rfl | assumption)); simp only [Act.put, List.setIfInBounds_toArray, List.set_cons_zero, List.set_cons_succ])
    | (refine RelSeq.growG_ (c := ?_) rfl (fun _ => rfl) rfl ?_ ?_; rotate_left; (focus (intro x w' hw _; dsimp only; obtain ⟨d0, d1⟩ := F w' hw; have hbr := Below.refl w'.heap.size w'; go_simp; (repeat' apply And.intro) <;> first | with_reducible rfl | assumption)); simp only [Act.put, List.setIfInBounds_toArray, List.set_cons_zero, List.set_cons_succ]))
  refine RelSeq.nil_ fun x w3 hw3 _ _ => ?_
  have hj3 := hj1.below hw3 hj1.lt
  have hD3 := hD1.below hw3
  have hT3 := hT1.below hw3
  have hr3 := hr1.below hw3
  have hM3 := hM1.trans (Mod.of_below hw3)
  have hsz13 : w.heap.size ≤ w3.heap.size := hM3.size
  have hA := diskAppendN d m fs s _ (layL l) w3 hD3 hs hf hroom (by rw [HLL.out]; exact hr3) (by rw [HLL.out]; exact hsum)
  clear F hj1 hD1 hT1 hr1 hw3 hM1
  refine TailSeq.cons_ rfl ?_
  go_simp
  (with_reducible refine hA.mono ?_)
  rintro e w4 ⟨rfl, ⟨v4, hD4, hfr⟩, hM4⟩
  have hfr' : ∀ g, v4.ownBlock = some g → w.heap.size ≤ g := fun g hg => Nat.le_trans hsz13 (hfr g hg)
  have HFR := Lib.hid hfr'
  clear hfr hfr' hsz13
  have hjn := hD3.notJ hj3
  have hj4 := hM4.blk hj3 hjn
  have hT4 := hM4.tab hT3 hb
  have hM4' : Mod [d, m, b, j] w w4 := hM3.trans (hM4.mono (fun x hx => by simp only [List.mem_cons, List.mem_nil_iff, or_false] at hx ⊢; rcases hx with h | h <;> simp [h]))
  clear hA hj3 hD3 hT3 hr3 hM3 hM4
  refine TailSeq.cons_ rfl ?_
  go_simp
  refine TailSeq.nil_ ?_
  have c3 : w4.cell? ⟨j, 3, none⟩ = some (.int .i64 k) := hj4.cell rfl
  have f3 : w4.frozen? ⟨j, 3, none⟩ = false := Lib.frozen_of_heap hj4 3
  obtain ⟨k2, hk2⟩ : ∃ k2, k2 = k + (l.length + 8) := ⟨_, rfl⟩
  have ek : (k : Int) + ((l.length : Int) + 8) = (k2 : Int) := by omega
  have HK2 := Lib.hid hk2
  clear hk2
  have hj5 : Blk (w4.setCell ⟨j, 3, none⟩ (.int .i64 k2)) j #[.pointer (some ⟨d, 0, none⟩), .pointer (some ⟨b, 0, none⟩), .string s, .int .i64 k2] 147 := hj4.set_ 3 (.int .i64 k2)
  have hM5 : Mod [j] w4 (w4.setCell ⟨j, 3, none⟩ (.int .i64 k2)) := Mod.of_but (But.set j 3 _ w4) (by simp)
  have hD5 := hD4.farJ hj4 hM5
  have hT5 := hM5.tab hT4 (by simpa using hT4.notJ hj4)
  have hM6 : Mod [d, m, b, j] w (w4.setCell ⟨j, 3, none⟩ (.int .i64 k2)) := hM4'.trans (hM5.mono (by simp))
  clear hj4 hT4 hM4' hD4 hM5
  go_wp2_with fail
  go_ret
  exact ⟨rfl, by rw [← HK2.out]; exact hj5, hT5, ⟨_, hD5, HFR.out⟩, hM6⟩
theorem jAppendOk (j d m b k : Nat) (fs : List FileV) (s : ByteArray) (v : Value) (l : List UInt8) (w : World) (hj : Blk w j #[.pointer (some ⟨d, 0, none⟩), .pointer (some ⟨b, 0, none⟩), .string s, .int .i64 k] 147) (hT : TabOk w b) (hD : DiskAt w d m fs) (hl : Rd w 1 v l.length (u8L l)) (hlen : l.length ≤ 524288)
    (hs : s.size ≤ maxLen) (hf : wordB s 16 true = true) (hroom : (findF fs s).isSome = true ∨ fs.length ≠ 64) (hsum : (hadF fs s).1.length + (l.length + 8) ≤ 1048576) (hk : k ≤ 1099511627776) (hb : b ∉ [d, m]) :
    Calls Tryz.prog 41 #[.pointer (some ⟨j, 0, none⟩), v] w fun e w' => e = .returned (.int .i64 0) ∧ Blk w' j #[.pointer (some ⟨d, 0, none⟩), .pointer (some ⟨b, 0, none⟩), .string s, .int .i64 ((k + (l.length + 8) : Nat) : Int)] 147 ∧ TabOk w' b ∧
      (∃ v', DiskAt w' d m (putF fs ⟨s, v', (hadF fs s).1 ++ layL l, (hadF fs s).2⟩)) ∧ Mod [d, m, b, j] w w' :=
  (jAppendOkN j d m b k fs s v l w hj hT hD hl hlen hs hf hroom hsum hk hb).mono fun _ _ ⟨h1, h2, h3, ⟨v', h4, _⟩, h5⟩ => ⟨h1, h2, h3, ⟨v', h4⟩, h5⟩
end Go.Proofs.YtdmdfccadjfpiaaGreat
