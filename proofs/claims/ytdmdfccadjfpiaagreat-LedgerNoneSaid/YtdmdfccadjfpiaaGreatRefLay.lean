/-
  The document's answer for a record: Lay.
-/
import Derived.Test.YtdmdfccadjfpiaaGreatRef
namespace Go.Proofs.YtdmdfccadjfpiaaGreat
open Go.RowKit
set_option maxRecDepth 100000

theorem refLay (v : Value) (l : List UInt8) (w : World) (hl : Rd w 1 v l.length (u8L l)) (hlen : l.length < 4294967296) : Calls Tryz.prog 19 #[v] w fun e w' =>
    ∃ v', e = .returned v' ∧ w'.ownsRow w.heap.size 5 1 v' (layL l).length (u8L (layL l)) ∧ Below w.heap.size w w' := by
  have hl0 := hl
  obtain ⟨A, c, rfl, h1, h2, h3, h4⟩ := hl
  unfold maxLen at h3
  obtain ⟨i0, hi, hz0, hz1, hz2⟩ := info_parts infoByte
  go_enter Tryz.func19, Tryz.ntmps19
  go_wp2_with fail
  (with_reducible refine (refFour l.length hlen _).mono ?_)
  rintro e w1 ⟨vs, rfl, hs1, hb1⟩
  have hl1 := hl0.below hb1
  obtain ⟨As, cs, rfl⟩ := owns_slice hs1
  go_wp2_with (at_builtin; refine wpl_stop fun W hW => ?_)
  refine Stopped.mk ?_
  have hBe : Blk W w1.heap.size #[] 5 := by rw [hW]; exact Blk.new _ _ _
  have hb2 : Below w1.heap.size w1 W := by rw [hW]; exact (Below.refl _ _).alloc (Nat.le_refl _) _
  clear hW
  have hs2 := owns_below hs1 hb2
  have hl2 := hl1.below hb2
  have hbe2 : Below w.heap.size w W := hb1.trans (hb2.mono hb1.size)
  have hoe := owns_of_blk hBe (base := w1.heap.size) (Nat.le_refl _) (by unfold maxLen; simp)
  refine wpl_append_rd rfl (.tmp 9) (.tmp 10) 58 rfl w1.heap.size 5 i0 _ 1 1 Tryz.underlying58 hi hz0 hz1 hz2 rfl (by decide) _ 0 [] rfl hoe (.slice As 4 cs) 4 (u8L (four l.length)) rfl (rd_of_owns hs2) (u8L_one _) (by decide) (by decide) hb2.size fun v3 w3 hown3 hgr3 _ => ?_
  have hb3 : Below w1.heap.size w1 w3 := hb2.grown hgr3 hb2.size (fun q hq => (hoe.lt q hq).1)
  have hs3 := owns_below hs1 hb3
  have hl3 := hl1.below hb3
  clear hs2 hl2 hgr3 hoe hBe hb2 hbe2
  obtain ⟨A3, c3, rfl⟩ := owns_slice hown3
  go_wp2_with (at_builtin; refine wpl_stop fun W hW => ?_)
  refine Stopped.mk ?_
  subst hW
  refine wpl_append_rd rfl (.tmp 11) (.tmp 12) 58 rfl w1.heap.size 5 i0 _ 1 1 Tryz.underlying58 hi hz0 hz1 hz2 rfl (by decide) _ (0 + 4) _ rfl hown3 (.slice A l.length c) l.length (u8L l) rfl hl3 (u8L_one _) (by unfold maxLen; omega) (by omega) hb3.size fun v4 w4 hown4 hgr4 _ => ?_
  have hb4 : Below w1.heap.size w1 w4 := hb3.grown hgr4 hb3.size (fun q hq => (hown3.lt q hq).1)
  have hs4 := owns_below hs1 hb4
  have hl4 := hl1.below hb4
  clear hs3 hl3 hgr4 hown3 hb3
  obtain ⟨A4, c4, rfl⟩ := owns_slice hown4
  have hr4 : Rd w4 1 (.slice A4 (4 + l.length) c4) (four l.length ++ l).length (u8L (four l.length ++ l)) := by
    have := rd_of_owns hown4
    have e : (four l.length ++ l).length = 4 + l.length := by simp [four]; omega
    rw [e]
    simpa [u8L] using this
  have hbe4 : Below w.heap.size w w4 := hb1.trans (hb4.mono hb1.size)
  obtain ⟨sm, hsm⟩ : ∃ sm, sm = crcSum (four l.length ++ l) := ⟨_, rfl⟩
  have hlt := crcSum_lt (four l.length ++ l)
  have hS := refSum (.slice A4 (4 + l.length) c4) _ w4 hr4
  rw [← hsm] at hS hlt
  have HS := Lib.hid hsm
  clear hsm hr4 hown4 hb4 hl1 hs1 hb1
  go_wp2_with fail
  (with_reducible refine hS.mono ?_)
  rintro e w5 ⟨rfl, rfl⟩
  go_wp2_with fail
  (with_reducible refine (refFour sm hlt _).mono ?_)
  rintro e w6 ⟨vm, rfl, hm6, hb6⟩
  have hs6 := owns_below hs4 hb6
  have hl6 := hl4.below hb6
  have hbe6 : Below w.heap.size w w6 := hbe4.trans (hb6.mono hbe4.size)
  clear hs4 hl4 hbe4 hb6 hS
  obtain ⟨Am, cm, rfl⟩ := owns_slice hm6
  go_wp2_with (at_builtin; refine wpl_stop fun W hW => ?_)
  refine Stopped.mk ?_
  subst hW
  refine wpl_append_rd rfl (.tmp 16) (.tmp 17) 58 rfl w.heap.size 5 i0 _ 1 1 Tryz.underlying58 hi hz0 hz1 hz2 rfl (by decide) _ 4 _ rfl hs6 (.slice Am 4 cm) 4 (u8L (four sm)) rfl (rd_of_owns hm6) (u8L_one _) (by decide) (by decide) hbe6.size fun v7 w7 hown7 hgr7 _ => ?_
  have hbe7 : Below w.heap.size w w7 := hbe6.grown hgr7 hbe6.size (fun q hq => (hs6.lt q hq).1)
  have hl7 := hl0.below hbe7
  clear hgr7 hs6 hm6 hbe6 hl6
  obtain ⟨A7, c7, rfl⟩ := owns_slice hown7
  go_wp2_with (at_builtin; refine wpl_stop fun W hW => ?_)
  refine Stopped.mk ?_
  subst hW
  refine wpl_append_rd rfl (.tmp 18) (.tmp 19) 58 rfl w.heap.size 5 i0 _ 1 1 Tryz.underlying58 hi hz0 hz1 hz2 rfl (by decide) _ (4 + 4) _ rfl hown7 (.slice A l.length c) l.length (u8L l) rfl hl7 (u8L_one _) (by unfold maxLen; omega) (by omega) hbe7.size fun v8 w8 hown8 hgr8 _ => ?_
  have hbe8 : Below w.heap.size w w8 := hbe7.grown hgr8 hbe7.size (fun q hq => (hown7.lt q hq).1)
  have hlay : u8L (four l.length) ++ u8L (four sm) ++ u8L l = u8L (layL l) := by
    unfold layL
    rw [← HS.out]
    simp [u8L]
  have hlen8 : 4 + 4 + l.length = (layL l).length := by simp [layL, four]; omega
  rw [hlay, hlen8] at hown8
  clear hgr8 hown7 hl7
  go_wp2_with fail
  go_ret
  exact ⟨v8, rfl, hown8, hbe8⟩
end Go.Proofs.YtdmdfccadjfpiaaGreat
