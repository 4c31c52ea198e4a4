/-
  lab.Has; the reference's Has, Among, Only, Compare.
-/
import Derived.Test.YtgpojkofegajeaaGreatDoorMg28
import Derived.Test.YtgpojkofegajeaaGreatDoorLClo
import Derived.Test.YtgpojkofegajeaaGreatDoorFreeS
namespace Go.Proofs.YtgpojkofegajeaaGreatDoor
open Go.RowKit FreeSl
set_option maxRecDepth 100000
attribute [local go_sem] out

/-- Has one all of another one? -/
def hasL (l : List Pr) : List Pr → Bool
  | [] => true
  | p :: r => if (getL l p.1).2 = true then (if (getL l p.1).1 = p.2 then hasL l r else false) else false

set_option maxHeartbeats 1000000 in
theorem lHas (v2 v1 : Value) (l ps : List Pr) (w : World) (h2 : Rd w 2 v2 l.length (pairCells l)) (h1 : Rd w 2 v1 ps.length (pairCells ps)) :
    Calls Tryz.prog 52 #[v2, v1] w fun e w' => e = .returned (.bool (hasL l ps)) ∧ Below w.heap.size w w' := by
  have h20 := h2
  obtain ⟨A1, c1, rfl, l1, n1, m1, r1⟩ := h1
  obtain ⟨A2, c2, rfl, l2, n2, m2, r2⟩ := h2
  unfold maxLen at m1 m2
  go_enter Tryz.func52, Tryz.ntmps52
  go_wp2_with fail
  go_loopw [11] (fun i wr => ∃ k : Nat, k ≤ ps.length ∧ i = .int .i64 k ∧ hasL l ps = hasL l (ps.drop k) ∧ Below w.heap.size w wr) (fun i _ => ps.length - (intOf i).toNat)
  case atStart => exact ⟨0, Nat.zero_le _, rfl, rfl, Below.refl _ _⟩
  case round =>
    obtain ⟨k, hk, rfl, hc, hb⟩ := hrel
    by_cases hlt : k < ps.length
    · obtain ⟨b, o, rfl, hat⟩ := r1 (by omega)
      obtain ⟨p, hp⟩ : ∃ p, ps[k]? = some p := ⟨_, List.getElem?_eq_getElem hlt⟩
      obtain ⟨hp1, hp2⟩ := pairCells_at ps k p hp
      have c0 := hat.nth0 hb (k*2) _ hp1
      have d0 := hat.nth hb (k*2) 1 _ hp2
      rw [drop_cons hp] at hc
      obtain ⟨p1, p2⟩ := p
      simp only at c0 d0
      have hK := fun w' (h : Below wr.heap.size wr w') => lGet (.slice A2 l.length c2) l p1 w' (h20.below (hb.trans (h.mono hb.size)))
      clear r1 hp hp1 hp2 hat
      generalize hgg : getL l p1 = gg at hK
      obtain ⟨g1, g2⟩ := gg
      simp only at hK
      cases g2 with
      | false =>
          have E := Lib.hid (hc.trans (by simp [hasL, hgg] : hasL l ((p1, p2) :: _) = false))
          clear hc hgg
          go_wp2_with fail
          refine calls_genP fun w2 hw2 => ?_
          have hb2 : Below wr.heap.size wr w2 := by rw [hw2]; exact (Below.refl _ _).alloc (Nat.le_refl _) _
          have hB2 : Blk w2 wr.heap.size #[.string p1, .string p2] 92 := by rw [hw2]; exact Blk.new _ _ _
          clear hw2
          (with_reducible refine (hK w2 hb2).mono ?_)
          rintro e w3 ⟨rfl, hb3⟩
          have e1 : w3.cell? ⟨wr.heap.size, 1, none⟩ = some (.string p2) := (hB2.below hb3 hB2.lt).cell rfl
          have hB3 := hb.trans ((hb2.trans (hb3.mono hb2.size)).mono hb.size)
          clear hb2 hb3 hB2
          clear hK
          go_wp2_with fail
          go_ret
          exact ⟨by rw [E.out]; rfl, hB3⟩
      | true =>
        by_cases he : g1 = p2
        · have E := Lib.hid (hc.trans (by simp [hasL, hgg, he] : hasL l ((p1, p2) :: ps.drop (k + 1)) = hasL l (ps.drop (k + 1))))
          have hE : (g1 == p2) = true := by rw [beqS]; simpa using he
          have hE2 : (g1.toList == p2.toList) = true := by rw [eqS_eq]; simpa using he
          have hN : (g1 != p2) = false := by rw [bne, hE]; rfl
          clear hc hgg he
          go_wp2_with fail
          refine calls_genP fun w2 hw2 => ?_
          have hb2 : Below wr.heap.size wr w2 := by rw [hw2]; exact (Below.refl _ _).alloc (Nat.le_refl _) _
          have hB2 : Blk w2 wr.heap.size #[.string p1, .string p2] 92 := by rw [hw2]; exact Blk.new _ _ _
          clear hw2
          (with_reducible refine (hK w2 hb2).mono ?_)
          rintro e w3 ⟨rfl, hb3⟩
          have e1 : w3.cell? ⟨wr.heap.size, 1, none⟩ = some (.string p2) := (hB2.below hb3 hB2.lt).cell rfl
          have hB3 := hb.trans ((hb2.trans (hb3.mono hb2.size)).mono hb.size)
          clear hb2 hb3 hB2
          clear hK
          go_wp2_with fail
          go_roundw
          case rel => exact ⟨k + 1, by omega, by go_num, E.out, hB3⟩
          case measure => simp [intOf]; omega
        · have E := Lib.hid (hc.trans (by simp [hasL, hgg, he] : hasL l ((p1, p2) :: ps.drop (k + 1)) = false))
          have hE : (g1 == p2) = false := by rw [beqS]; simpa using he
          have hE2 : (g1.toList == p2.toList) = false := by rw [eqS_eq]; simpa using he
          have hN : (g1 != p2) = true := by rw [bne, hE]; rfl
          clear hc hgg he
          go_wp2_with fail
          refine calls_genP fun w2 hw2 => ?_
          have hb2 : Below wr.heap.size wr w2 := by rw [hw2]; exact (Below.refl _ _).alloc (Nat.le_refl _) _
          have hB2 : Blk w2 wr.heap.size #[.string p1, .string p2] 92 := by rw [hw2]; exact Blk.new _ _ _
          clear hw2
          (with_reducible refine (hK w2 hb2).mono ?_)
          rintro e w3 ⟨rfl, hb3⟩
          have e1 : w3.cell? ⟨wr.heap.size, 1, none⟩ = some (.string p2) := (hB2.below hb3 hB2.lt).cell rfl
          have hB3 := hb.trans ((hb2.trans (hb3.mono hb2.size)).mono hb.size)
          clear hb2 hb3 hB2
          clear hK
          go_wp2_with fail
          go_ret
          exact ⟨by rw [E.out]; rfl, hB3⟩
    · obtain rfl : k = ps.length := by omega
      rw [List.drop_length] at hc
      have E := Lib.hid (hc.trans (rfl : hasL l [] = true))
      clear hc r1
      go_wp2_with fail
      go_ret
      exact ⟨by rw [E.out]; rfl, hb⟩

end Go.Proofs.YtgpojkofegajeaaGreatDoor
