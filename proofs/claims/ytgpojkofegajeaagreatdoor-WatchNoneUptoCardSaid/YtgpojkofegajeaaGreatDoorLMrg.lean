/-
  lab.Merge, lab.Has; the reference's Among, Only, Merge, Has.
-/
import Derived.Test.YtgpojkofegajeaaGreatDoorMg28
import Derived.Test.YtgpojkofegajeaaGreatDoorLRefC
import Derived.Test.YtgpojkofegajeaaGreatDoorLParse
import Derived.Deep.AppendSrc
import Derived.Test.YtgpojkofegajeaaGreatDoorFreeS
namespace Go.Proofs.YtgpojkofegajeaaGreatDoor
open Go.RowKit
set_option maxRecDepth 100000

/-- Both's pairs: the second's, and those of the first whose keys it hasn't. -/
def mergeIn (a b : List Pr) : List Pr := b ++ a.filter fun p => (getL b p.1).2 == false
theorem filter_take_len (a : List Pr) (f : Pr → Bool) (k : Nat) : ((a.take k).filter f).length ≤ a.length := filter_len a f k

set_option maxHeartbeats 2000000 in
theorem lMerge (va vb : Value) (a b : List Pr) (w : World) (ha : Rd w 2 va a.length (pairCells a)) (hb : Rd w 2 vb b.length (pairCells b)) (hsa : ∀ p ∈ a, p.1.size ≤ maxLen ∧ p.2.size ≤ maxLen) (hsb : ∀ p ∈ b, p.1.size ≤ maxLen ∧ p.2.size ≤ maxLen) (hlen : b.length + a.length ≤ 1048576) :
    Calls Tryz.prog 53 #[va, vb] w fun e w' => ∃ v', e = .returned (.tuple #[v', .int .i64 (chkL (sortL (mergeIn a b)) : Nat)]) ∧ w'.ownsRow w.heap.size 92 2 v' (makeL (mergeIn a b)).length (pairCells (makeL (mergeIn a b))) ∧ Below w.heap.size w w' := by
  have hb0 := hb
  have hC := clonePairs vb b w hb (by omega)
  obtain ⟨A, c, rfl, h1, h2, h3, h4⟩ := ha
  obtain ⟨Ab, cb, rfl, _, _, hbm, _⟩ := hb
  unfold maxLen at h3 hbm
  obtain ⟨i0, hi, hz0, hz1, hz2⟩ := info_parts infoPair
  go_enter Tryz.func53, Tryz.ntmps53
  go_wp2_with fail
  (with_reducible refine hC.mono ?_)
  rintro e w1 ⟨v1, rfl, hv1, hB1⟩
  clear hC
  obtain ⟨A1, c1, rfl⟩ := owns_slice hv1
  have hv10 : w1.ownsRow w.heap.size 92 2 (.slice A1 b.length c1) (b.length + ((a.take 0).filter fun p => (getL b p.1).2 == false).length) (pairCells (b ++ (a.take 0).filter fun p => (getL b p.1).2 == false)) := by simpa using hv1
  clear hv1
  go_wp2_with fail
  go_loopw [6, 15] (fun v i wr => ∃ k : Nat, k ≤ a.length ∧ i = .int .i64 k ∧ wr.ownsRow w.heap.size 92 2 v (b.length + ((a.take k).filter fun p => (getL b p.1).2 == false).length) (pairCells (b ++ (a.take k).filter fun p => (getL b p.1).2 == false)) ∧ Below w.heap.size w wr) (fun _ i _ => a.length - (intOf i).toNat)
  case atStart => exact ⟨0, Nat.zero_le _, rfl, hv10, hB1⟩
  case round =>
    obtain ⟨k, hkk, rfl, hv, hB⟩ := hrel
    clear hv10 hB1
    obtain ⟨n, hn⟩ : ∃ n, n = b.length + ((a.take k).filter fun p => (getL b p.1).2 == false).length := ⟨_, rfl⟩
    have hn2 : n ≤ 1048576 := by
      have := filter_take_len a (fun p => (getL b p.1).2 == false) k
      omega
    rw [← hn] at hv
    have HN := Lib.hid hn
    clear hn
    obtain ⟨Av, cv, rfl⟩ := owns_slice hv
    by_cases hlt : k < a.length
    · obtain ⟨q, o, rfl, hat⟩ := h4 (by omega)
      obtain ⟨p, hp⟩ : ∃ p, a[k]? = some p := ⟨_, List.getElem?_eq_getElem hlt⟩
      obtain ⟨hp1, hp2⟩ := (pairCells_at a k p hp)
      have c0 := hat.nth0 hB (k*2) _ hp1
      have c1 := hat.nth hB (k*2) 1 _ hp2
      have hstep := filter_snoc (fun p => (getL b p.1).2 == false) hp
      obtain ⟨p1, p2⟩ := p
      simp only at c0 c1 hstep
      have hK := fun w' h => lGet (.slice Ab b.length cb) b p1 w' (hb0.below (hB.trans h))
      generalize hg1 : (getL b p1).1 = g1 at hK
      clear hp hp1 hp2 hat h4 hg1
      cases hm : (getL b p1).2 with
      | false =>
        rw [hm] at hK hstep
        have hstep2 : (a.take (k + 1)).filter (fun p => (getL b p.1).2 == false) = (a.take k).filter (fun p => (getL b p.1).2 == false) ++ [(p1, p2)] := hstep
        have HS := Lib.hid hstep2
        clear hm hstep hstep2
        go_wp2_with fail
        refine calls_genP fun w2 hw2 => ?_
        have hb2 : Below wr.heap.size wr w2 := by rw [hw2]; exact (Below.refl _ _).alloc (Nat.le_refl _) _
        have hB2 : Blk w2 wr.heap.size #[.string p1, .string p2] 92 := by rw [hw2]; exact Blk.new _ _ _
        clear hw2
        (with_reducible refine (hK w2 (hb2.mono hB.size)).mono ?_)
        rintro e w3 ⟨rfl, hb3⟩
        have hv2 := owns_below (owns_below hv hb2) hb3
        have hB3 := (hB.trans (hb2.mono hB.size)).trans (hb3.mono (hB.trans (hb2.mono hB.size)).size)
        have hBx := hB2.below hb3 hB2.lt
        have e0 : w3.cell? ⟨wr.heap.size, 0, none⟩ = some (.string p1) := hBx.cell rfl
        have e1 : w3.cell? ⟨wr.heap.size, 1, none⟩ = some (.string p2) := hBx.cell rfl
        clear hK hv hB c0 c1 hBx hB2 hb2 hb3
        go_wp2_with (at_builtin; refine wpl_stop fun W hW => ?_)
        refine Stopped.mk ?_
        have hBW : Blk W w3.heap.size #[.string p1, .string p2] 92 := by rw [hW]; exact Blk.new _ _ _
        have hbW : Below w3.heap.size w3 W := by rw [hW]; exact (Below.refl _ _).alloc (Nat.le_refl _) _
        clear hW
        have hvW := owns_below hv2 hbW
        have hsz2 := hB3.size
        have hnx : Rd W 2 (.slice (some ⟨w3.heap.size, 0, none⟩) 1 1) 1 (pairCells [(p1, p2)]) := ⟨_, _, rfl, rfl, Nat.le_refl _, by unfold maxLen; omega, fun _ => ⟨_, _, rfl, fun j u hj => by
          match j, hj with
          | 0, hj => simp [pairCells] at hj; subst hj; exact hBW.cell rfl
          | 1, hj => simp [pairCells] at hj; subst hj; exact hBW.cell rfl
          | j + 2, hj => simp [pairCells] at hj⟩⟩
        refine wpl_append_rd rfl (.tmp 28) (.tmp 30) 24 rfl w.heap.size 92 i0 _ 2 32 Tryz.underlying24 hi hz0 hz1 hz2 rfl (by decide) _ n _ rfl hvW _ 1 _ rfl hnx (pairCells_one _) (by unfold maxLen; omega) (by omega) (Nat.le_trans hsz2 hbW.size) fun v4 w4 hown4 hgr4 _ => ?_
        have hB4 := (hB3.trans (hbW.mono hB3.size)).grown hgr4 (Nat.le_trans hB3.size hbW.size) (fun gg hg => (hvW.lt gg hg).1)
        obtain ⟨A4, c4, rfl⟩ := owns_slice hown4
        clear hvW hnx hBW hbW hgr4
        go_wp2_with fail
        go_roundw
        case rel => exact ⟨k + 1, by omega, by go_num, by rw [HS.out, List.length_append, ← Nat.add_assoc, ← HN.out, ← List.append_assoc, pairCells_append]; exact hown4, hB4⟩
        case measure => simp [intOf]; omega
      | true =>
        rw [hm] at hK hstep
        have hstep2 : (a.take (k + 1)).filter (fun p => (getL b p.1).2 == false) = (a.take k).filter (fun p => (getL b p.1).2 == false) := Eq.trans hstep (List.append_nil _)
        have HS := Lib.hid hstep2
        clear hm hstep hstep2
        go_wp2_with fail
        refine calls_genP fun w2 hw2 => ?_
        have hb2 : Below wr.heap.size wr w2 := by rw [hw2]; exact (Below.refl _ _).alloc (Nat.le_refl _) _
        clear hw2
        (with_reducible refine (hK w2 (hb2.mono hB.size)).mono ?_)
        rintro e w3 ⟨rfl, hb3⟩
        have hv2 := owns_below (owns_below hv hb2) hb3
        have hB3 := (hB.trans (hb2.mono hB.size)).trans (hb3.mono (hB.trans (hb2.mono hB.size)).size)
        clear hK hv hB c0 c1 hb2 hb3
        go_wp2_with fail
        go_roundw
        case rel => exact ⟨k + 1, by omega, by go_num, by rw [HS.out, ← HN.out]; exact hv2, hB3⟩
        case measure => simp [intOf]; omega
    · obtain rfl : k = a.length := by omega
      have e9 : n = (mergeIn a b).length := by have := HN.out; rw [List.take_length] at this; rw [mergeIn, List.length_append]; exact this
      rw [List.take_length] at hv
      have hv' : wr.ownsRow w.heap.size 92 2 (.slice Av n cv) n (pairCells (mergeIn a b)) := hv
      have hr9 : Rd wr 2 (.slice Av n cv) (mergeIn a b).length (pairCells (mergeIn a b)) := by rw [← e9]; exact rd_of_owns hv'
      have hM := lMake (.slice Av n cv) (mergeIn a b) wr hr9 (fun p hp => (List.mem_append.1 hp).elim (fun h => hsb p h) (fun h => hsa p (List.mem_filter.1 h).1)) (by rw [← e9]; exact hn2)
      have E9 := Lib.hid e9
      clear e9 h4 hv hv' hr9
      go_wp2_with fail
      (with_reducible refine hM.mono ?_)
      rintro e w5 ⟨v5, rfl, hv5, hb5⟩
      have hB5 := hB.trans (hb5.mono hB.size)
      have hv6 := owns_mono hv5 hB.size
      obtain ⟨A5, c5, rfl⟩ := owns_slice hv5
      clear hM hv5 hB hb5
      go_wp2_with fail
      go_ret2
      exact ⟨_, rfl, hv6, hB5⟩

end Go.Proofs.YtgpojkofegajeaaGreatDoor
