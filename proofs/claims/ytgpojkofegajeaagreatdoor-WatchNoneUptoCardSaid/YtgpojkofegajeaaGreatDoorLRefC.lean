/-
  The reference's Check.
-/
import Derived.Test.YtgpojkofegajeaaGreatDoorMg28
namespace Go.Proofs.YtgpojkofegajeaaGreatDoor
open Go.RowKit FreeNew
set_option maxRecDepth 100000
attribute [local go_sem] out

set_option maxHeartbeats 2000000 in
theorem refCheck (v : Value) (ps : List Pr) (w : World) (hr : Rd w 2 v ps.length (pairCells ps)) (hs : ∀ p ∈ ps, p.1.size ≤ maxLen ∧ p.2.size ≤ maxLen) :
    Calls Tryz.prog 39 #[v] w fun e w' => e = .returned (.int .i64 (chkL ps : Nat)) ∧ Below w.heap.size w w' := by
  obtain ⟨A, c, rfl, h1, h2, h3, h4⟩ := hr
  unfold maxLen at h3
  by_cases h8 : 8 < ps.length
  · have E := Lib.hid (show chkL ps = 5 by simp [chkL, h8])
    go_enter Tryz.func39, Tryz.ntmps39
    go_wp2_with fail
    go_ret
    exact ⟨by rw [E.out]; rfl, Below.refl _ _⟩
  have E := Lib.hid (show chkL ps = chkF none ps by simp [chkL, h8])
  go_enter Tryz.func39, Tryz.ntmps39
  go_wp2_with fail
  go_loopw [3] (fun i wr => ∃ k : Nat, k ≤ ps.length ∧ i = .int .i64 k ∧ chkF none ps = chkF (prevK ps k) (ps.drop k) ∧ Below w.heap.size w wr) (fun i _ => ps.length - (intOf i).toNat)
  case atStart => exact ⟨0, Nat.zero_le _, rfl, rfl, Below.refl _ _⟩
  case round =>
    obtain ⟨k, hk, rfl, hck, hb⟩ := hrel
    by_cases hlt : k < ps.length
    · obtain ⟨b, o, rfl, hat⟩ := h4 (by omega)
      obtain ⟨p, hp⟩ : ∃ p, ps[k]? = some p := ⟨_, List.getElem?_eq_getElem hlt⟩
      obtain ⟨hp1, hp2⟩ := (pairCells_at ps k p hp)
      have c0 := hat.nth0 hb (k*2) _ hp1
      have c1 := hat.nth hb (k*2) 1 _ hp2
      have hpk : prevK ps (k + 1) = some p.1 := by simp [prevK, hp]
      have hsz := hs p (List.mem_of_getElem? hp)
      rw [drop_cons hp] at hck
      obtain ⟨p1, p2⟩ := p
      simp only at hsz c0 c1 hck hpk hp1
      have hK := refKey p1 wr hsz.1
      have hV := refValue p2 wr hsz.2
      cases hw1 : wordB p1 8 false with
      | false =>
        rw [hw1] at hK
        have E2 := Lib.hid (hck.trans (by simp [chkF, hw1] : chkF (prevK ps k) ((p1, p2) :: ps.drop (k + 1)) = 8))
        clear hck hw1 hpk hp hp1 hp2 hat h4 hs hV
        go_wp2_with fail
        (with_reducible refine hK.mono ?_)
        rintro e w3 ⟨rfl, rfl⟩
        go_wp2_with fail
        go_ret
        exact ⟨by rw [E.out, E2.out]; rfl, hb⟩
      | true =>
       rw [hw1] at hK
       cases hw2 : wordB p2 16 true with
       | false =>
        rw [hw2] at hV
        have E2 := Lib.hid (hck.trans (by simp [chkF, hw1, hw2] : chkF (prevK ps k) ((p1, p2) :: ps.drop (k + 1)) = 8))
        clear hck hw1 hw2 hpk hp hp1 hp2 hat h4 hs
        go_wp2_with fail
        (with_reducible refine hK.mono ?_)
        rintro e w3 ⟨rfl, rfl⟩
        go_wp2_with fail
        (with_reducible refine hV.mono ?_)
        rintro e w4 ⟨rfl, rfl⟩
        go_wp2_with fail
        go_ret
        exact ⟨by rw [E.out, E2.out]; rfl, hb⟩
       | true =>
        rw [hw2] at hV
        have hcs : chkF (prevK ps k) ((p1, p2) :: ps.drop (k + 1)) = (match prevK ps k with | some q => if q = p1 then 7 else if ltS p1 q = true then 9 else chkF (some p1) (ps.drop (k + 1)) | none => chkF (some p1) (ps.drop (k + 1))) := by
          simp [chkF, hw1, hw2]
          cases prevK ps k <;> rfl
        rw [hcs] at hck
        clear hcs hw1 hw2
        go_wp2_with fail
        (with_reducible refine hK.mono ?_)
        rintro e w3 ⟨rfl, rfl⟩
        go_wp2_with fail
        (with_reducible refine hV.mono ?_)
        rintro e w4 ⟨rfl, rfl⟩
        clear hK hV
        cases k with
        | zero =>
          have E2 := Lib.hid (show chkF none ps = chkF (prevK ps 1) (ps.drop 1) by rw [hpk]; exact hck)
          clear hck hpk hp hp1 hp2 hat h4 hs c0 c1
          go_wp2_with fail
          refine region_free (fun w' => Below w4.heap.size w4 w') [] [] (List.range 16) (by kernel_rfl) (by kernel_rfl) (by kernel_rfl) (Below.refl _ _).drew ?_
          simp only [List.range, List.range.loop]
          repeat (first
            | (refine RelSeq.pure_ (c := ?_) rfl rfl ?_ ?_; rotate_left; (focus (intro x w'; dsimp only; go_simp; (repeat' apply And.intro) <;> first | with_reducible rfl | assumption)); simp only [Act.put, List.setIfInBounds_toArray, List.set_cons_zero, List.set_cons_succ])
            | (refine RelSeq.skip_ rfl (fun _ => rfl) ?_; simp only [Act.put, List.setIfInBounds_toArray, List.set_cons_zero, List.set_cons_succ])
            | (refine RelSeq.pureG_ (c := ?_) rfl (fun _ => rfl) rfl ?_ ?_; rotate_left; (focus (intro x w'; dsimp only; go_simp; (repeat' apply And.intro) <;> first | with_reducible rfl | assumption)); simp only [Act.put, List.setIfInBounds_toArray, List.set_cons_zero, List.set_cons_succ])
            | (refine RelSeq.grow_ (c := ?_) rfl rfl ?_ ?_; rotate_left; (focus (intro x w' hw _; dsimp only; have hbr := Below.refl w'.heap.size w'; go_simp; (repeat' apply And.intro) <;> first | with_reducible rfl | assumption)); simp only [Act.put, List.setIfInBounds_toArray, List.set_cons_zero, List.set_cons_succ])
            | (refine RelSeq.growG_ (c := ?_) rfl (fun _ => rfl) rfl ?_ ?_; rotate_left; (focus (intro x w' hw _; dsimp only; have hbr := Below.refl w'.heap.size w'; go_simp; (repeat' apply And.intro) <;> first | with_reducible rfl | assumption)); simp only [Act.put, List.setIfInBounds_toArray, List.set_cons_zero, List.set_cons_succ]))
          refine RelSeq.nil_ fun x w5 hw5 _ _ => ?_
          refine TailSeq.nil_ ?_
          go_wp2_with fail
          refine region_free (fun w' => Below w5.heap.size w5 w') [] [] (List.range 16) (by kernel_rfl) (by kernel_rfl) (by kernel_rfl) (Below.refl _ _).drew ?_
          simp only [List.range, List.range.loop]
          repeat (first
            | (refine RelSeq.pure_ (c := ?_) rfl rfl ?_ ?_; rotate_left; (focus (intro x w'; dsimp only; go_simp; (repeat' apply And.intro) <;> first | with_reducible rfl | assumption)); simp only [Act.put, List.setIfInBounds_toArray, List.set_cons_zero, List.set_cons_succ])
            | (refine RelSeq.skip_ rfl (fun _ => rfl) ?_; simp only [Act.put, List.setIfInBounds_toArray, List.set_cons_zero, List.set_cons_succ])
            | (refine RelSeq.pureG_ (c := ?_) rfl (fun _ => rfl) rfl ?_ ?_; rotate_left; (focus (intro x w'; dsimp only; go_simp; (repeat' apply And.intro) <;> first | with_reducible rfl | assumption)); simp only [Act.put, List.setIfInBounds_toArray, List.set_cons_zero, List.set_cons_succ])
            | (refine RelSeq.grow_ (c := ?_) rfl rfl ?_ ?_; rotate_left; (focus (intro x w' hw _; dsimp only; have hbr := Below.refl w'.heap.size w'; go_simp; (repeat' apply And.intro) <;> first | with_reducible rfl | assumption)); simp only [Act.put, List.setIfInBounds_toArray, List.set_cons_zero, List.set_cons_succ])
            | (refine RelSeq.growG_ (c := ?_) rfl (fun _ => rfl) rfl ?_ ?_; rotate_left; (focus (intro x w' hw _; dsimp only; have hbr := Below.refl w'.heap.size w'; go_simp; (repeat' apply And.intro) <;> first | with_reducible rfl | assumption)); simp only [Act.put, List.setIfInBounds_toArray, List.set_cons_zero, List.set_cons_succ]))
          refine RelSeq.nil_ fun x w6 hw6 _ _ => ?_
          refine TailSeq.nil_ ?_
          go_wp2_with fail
          go_roundw
          case rel => exact ⟨1, by omega, by go_num, E2.out, (hb.trans (hw5.mono hb.size)).trans (hw6.mono (hb.trans (hw5.mono hb.size)).size)⟩
          case measure => simp [intOf]; omega
        | succ j =>
          obtain ⟨q, hq⟩ : ∃ p, ps[j]? = some p := ⟨_, List.getElem?_eq_getElem (by omega)⟩
          have hpq : prevK ps (j + 1) = some q.1 := by simp [prevK, hq]
          rw [hpq] at hck
          obtain ⟨hq1, _⟩ := (pairCells_at ps j q hq)
          obtain ⟨q1, q2⟩ := q
          simp only at hq1 hck
          have F : ∀ w', Below w4.heap.size w4 w' → w'.cell? ⟨b, o + j * 2, none⟩ = some (.string q1) ∧ w'.cell? ⟨b, o + (j + 1) * 2, none⟩ = some (.string p1) := fun w' h => ⟨hat.nth0 (hb.trans (h.mono hb.size)) (j*2) _ hq1, hat.nth0 (hb.trans (h.mono hb.size)) ((j+1)*2) _ hp1⟩
          have hjl : j < ps.length := by omega
          have hi1 : 0 ≤ (j : Int) + 1 := by omega
          have hi2 : (j : Int) + 1 < (ps.length : Int) := by omega
          have hi3 : ((j : Int) + 1).toNat = j + 1 := by omega
          have hwj : IntKind.i64.wrap (j : Int) = (j : Int) := by simp only [IntKind.wrap, IntKind.bits, IntKind.signed]; simp; omega
          have H4 := hb.size
          clear hpq hq hp hp1 hp2 hat h4 hs c0 c1 hq1
          by_cases heq : q1 = p1
          · subst heq
            have E2 := Lib.hid (hck.trans (by simp : (if q1 = q1 then 7 else _) = 7))
            have hE : (q1 == q1) = true := by rw [beqS]; simp
            clear hck hpk
            go_wp2_with fail
            refine region_free (fun w' => Below w4.heap.size w4 w') [] [] (List.range 16) (by kernel_rfl) (by kernel_rfl) (by kernel_rfl) (Below.refl _ _).drew ?_
            simp only [List.range, List.range.loop]
            repeat (first
              | (refine RelSeq.pure_ (c := ?_) rfl rfl ?_ ?_; rotate_left; (focus (intro x w'; dsimp only; go_simp; (repeat' apply And.intro) <;> first | with_reducible rfl | assumption)); simp only [Act.put, List.setIfInBounds_toArray, List.set_cons_zero, List.set_cons_succ])
              | (refine RelSeq.skip_ rfl (fun _ => rfl) ?_; simp only [Act.put, List.setIfInBounds_toArray, List.set_cons_zero, List.set_cons_succ])
              | (refine RelSeq.pureG_ (c := ?_) rfl (fun _ => rfl) rfl ?_ ?_; rotate_left; (focus (intro x w'; dsimp only; go_simp; (repeat' apply And.intro) <;> first | with_reducible rfl | assumption)); simp only [Act.put, List.setIfInBounds_toArray, List.set_cons_zero, List.set_cons_succ])
              | (refine RelSeq.grow_ (c := ?_) rfl rfl ?_ ?_; rotate_left; (focus (intro x w' hw _; dsimp only; obtain ⟨d0, d1⟩ := F w' hw; have hbr := Below.refl w'.heap.size w'; go_simp; (repeat' apply And.intro) <;> first | with_reducible rfl | assumption)); simp only [Act.put, List.setIfInBounds_toArray, List.set_cons_zero, List.set_cons_succ])
              | (refine RelSeq.growG_ (c := ?_) rfl (fun _ => rfl) rfl ?_ ?_; rotate_left; (focus (intro x w' hw _; dsimp only; obtain ⟨d0, d1⟩ := F w' hw; have hbr := Below.refl w'.heap.size w'; go_simp; (repeat' apply And.intro) <;> first | with_reducible rfl | assumption)); simp only [Act.put, List.setIfInBounds_toArray, List.set_cons_zero, List.set_cons_succ]))
            refine RelSeq.nil_ fun x w5 hw5 _ _ => ?_
            refine TailSeq.nil_ ?_
            go_wp2_with fail
            go_ret
            exact ⟨by rw [E.out, E2.out]; rfl, hb.trans (hw5.mono H4)⟩
          · have hE : (q1 == p1) = false := by rw [beqS]; simpa using heq
            have hT : (q1.toList == p1.toList) = false := by rw [eqS_eq]; simpa using heq
            rw [if_neg heq] at hck
            cases hlt2 : ltS p1 q1 with
            | true =>
              have hL : Op.bytesLess q1.toList p1.toList = false := ltS_asymm hlt2
              have E2 := Lib.hid (hck.trans (by rw [if_pos hlt2] : (if ltS p1 q1 = true then 9 else _) = 9))
              clear hck hpk heq hlt2
              go_wp2_with fail
              refine region_free (fun w' => Below w4.heap.size w4 w') [] [] (List.range 16) (by kernel_rfl) (by kernel_rfl) (by kernel_rfl) (Below.refl _ _).drew ?_
              simp only [List.range, List.range.loop]
              repeat (first
                | (refine RelSeq.pure_ (c := ?_) rfl rfl ?_ ?_; rotate_left; (focus (intro x w'; dsimp only; go_simp; (repeat' apply And.intro) <;> first | with_reducible rfl | assumption)); simp only [Act.put, List.setIfInBounds_toArray, List.set_cons_zero, List.set_cons_succ])
                | (refine RelSeq.skip_ rfl (fun _ => rfl) ?_; simp only [Act.put, List.setIfInBounds_toArray, List.set_cons_zero, List.set_cons_succ])
                | (refine RelSeq.pureG_ (c := ?_) rfl (fun _ => rfl) rfl ?_ ?_; rotate_left; (focus (intro x w'; dsimp only; go_simp; (repeat' apply And.intro) <;> first | with_reducible rfl | assumption)); simp only [Act.put, List.setIfInBounds_toArray, List.set_cons_zero, List.set_cons_succ])
                | (refine RelSeq.grow_ (c := ?_) rfl rfl ?_ ?_; rotate_left; (focus (intro x w' hw _; dsimp only; obtain ⟨d0, d1⟩ := F w' hw; have hbr := Below.refl w'.heap.size w'; go_simp; (repeat' apply And.intro) <;> first | with_reducible rfl | assumption)); simp only [Act.put, List.setIfInBounds_toArray, List.set_cons_zero, List.set_cons_succ])
                | (refine RelSeq.growG_ (c := ?_) rfl (fun _ => rfl) rfl ?_ ?_; rotate_left; (focus (intro x w' hw _; dsimp only; obtain ⟨d0, d1⟩ := F w' hw; have hbr := Below.refl w'.heap.size w'; go_simp; (repeat' apply And.intro) <;> first | with_reducible rfl | assumption)); simp only [Act.put, List.setIfInBounds_toArray, List.set_cons_zero, List.set_cons_succ]))
              refine RelSeq.nil_ fun x w5 hw5 _ _ => ?_
              refine TailSeq.nil_ ?_
              have F : ∀ w', Below w5.heap.size w5 w' → w'.cell? ⟨b, o + j * 2, none⟩ = some (.string q1) ∧ w'.cell? ⟨b, o + (j + 1) * 2, none⟩ = some (.string p1) := fun w' h => F w' (hw5.trans (h.mono hw5.size))
              go_wp2_with fail
              refine region_free (fun w' => Below w5.heap.size w5 w') [] [] (List.range 16) (by kernel_rfl) (by kernel_rfl) (by kernel_rfl) (Below.refl _ _).drew ?_
              simp only [List.range, List.range.loop]
              repeat (first
                | (refine RelSeq.pure_ (c := ?_) rfl rfl ?_ ?_; rotate_left; (focus (intro x w'; dsimp only; go_simp; (repeat' apply And.intro) <;> first | with_reducible rfl | assumption)); simp only [Act.put, List.setIfInBounds_toArray, List.set_cons_zero, List.set_cons_succ])
                | (refine RelSeq.skip_ rfl (fun _ => rfl) ?_; simp only [Act.put, List.setIfInBounds_toArray, List.set_cons_zero, List.set_cons_succ])
                | (refine RelSeq.pureG_ (c := ?_) rfl (fun _ => rfl) rfl ?_ ?_; rotate_left; (focus (intro x w'; dsimp only; go_simp; (repeat' apply And.intro) <;> first | with_reducible rfl | assumption)); simp only [Act.put, List.setIfInBounds_toArray, List.set_cons_zero, List.set_cons_succ])
                | (refine RelSeq.grow_ (c := ?_) rfl rfl ?_ ?_; rotate_left; (focus (intro x w' hw _; dsimp only; obtain ⟨d0, d1⟩ := F w' hw; have hbr := Below.refl w'.heap.size w'; go_simp; (repeat' apply And.intro) <;> first | with_reducible rfl | assumption)); simp only [Act.put, List.setIfInBounds_toArray, List.set_cons_zero, List.set_cons_succ])
                | (refine RelSeq.growG_ (c := ?_) rfl (fun _ => rfl) rfl ?_ ?_; rotate_left; (focus (intro x w' hw _; dsimp only; obtain ⟨d0, d1⟩ := F w' hw; have hbr := Below.refl w'.heap.size w'; go_simp; (repeat' apply And.intro) <;> first | with_reducible rfl | assumption)); simp only [Act.put, List.setIfInBounds_toArray, List.set_cons_zero, List.set_cons_succ]))
              refine RelSeq.nil_ fun x w6 hw6 _ _ => ?_
              refine TailSeq.nil_ ?_
              go_wp2_with fail
              go_ret
              exact ⟨by rw [E.out, E2.out]; rfl, (hb.trans (hw5.mono H4)).trans (hw6.mono (hb.trans (hw5.mono H4)).size)⟩
            | false =>
              have hL : Op.bytesLess q1.toList p1.toList = true := by
                cases h : ltS q1 p1 with
                | true => exact h
                | false => exact absurd (ltS_total h hlt2) heq
              have E2 := Lib.hid (show chkF none ps = chkF (prevK ps (j + 2)) (ps.drop (j + 2)) by rw [hpk]; rw [hlt2] at hck; exact hck.trans (if_neg (by decide)))
              clear hck hpk heq hlt2
              go_wp2_with fail
              refine region_free (fun w' => Below w4.heap.size w4 w') [] [] (List.range 16) (by kernel_rfl) (by kernel_rfl) (by kernel_rfl) (Below.refl _ _).drew ?_
              simp only [List.range, List.range.loop]
              repeat (first
                | (refine RelSeq.pure_ (c := ?_) rfl rfl ?_ ?_; rotate_left; (focus (intro x w'; dsimp only; go_simp; (repeat' apply And.intro) <;> first | with_reducible rfl | assumption)); simp only [Act.put, List.setIfInBounds_toArray, List.set_cons_zero, List.set_cons_succ])
                | (refine RelSeq.skip_ rfl (fun _ => rfl) ?_; simp only [Act.put, List.setIfInBounds_toArray, List.set_cons_zero, List.set_cons_succ])
                | (refine RelSeq.pureG_ (c := ?_) rfl (fun _ => rfl) rfl ?_ ?_; rotate_left; (focus (intro x w'; dsimp only; go_simp; (repeat' apply And.intro) <;> first | with_reducible rfl | assumption)); simp only [Act.put, List.setIfInBounds_toArray, List.set_cons_zero, List.set_cons_succ])
                | (refine RelSeq.grow_ (c := ?_) rfl rfl ?_ ?_; rotate_left; (focus (intro x w' hw _; dsimp only; obtain ⟨d0, d1⟩ := F w' hw; have hbr := Below.refl w'.heap.size w'; go_simp; (repeat' apply And.intro) <;> first | with_reducible rfl | assumption)); simp only [Act.put, List.setIfInBounds_toArray, List.set_cons_zero, List.set_cons_succ])
                | (refine RelSeq.growG_ (c := ?_) rfl (fun _ => rfl) rfl ?_ ?_; rotate_left; (focus (intro x w' hw _; dsimp only; obtain ⟨d0, d1⟩ := F w' hw; have hbr := Below.refl w'.heap.size w'; go_simp; (repeat' apply And.intro) <;> first | with_reducible rfl | assumption)); simp only [Act.put, List.setIfInBounds_toArray, List.set_cons_zero, List.set_cons_succ]))
              refine RelSeq.nil_ fun x w5 hw5 _ _ => ?_
              refine TailSeq.nil_ ?_
              have F : ∀ w', Below w5.heap.size w5 w' → w'.cell? ⟨b, o + j * 2, none⟩ = some (.string q1) ∧ w'.cell? ⟨b, o + (j + 1) * 2, none⟩ = some (.string p1) := fun w' h => F w' (hw5.trans (h.mono hw5.size))
              go_wp2_with fail
              refine region_free (fun w' => Below w5.heap.size w5 w') [] [] (List.range 16) (by kernel_rfl) (by kernel_rfl) (by kernel_rfl) (Below.refl _ _).drew ?_
              simp only [List.range, List.range.loop]
              repeat (first
                | (refine RelSeq.pure_ (c := ?_) rfl rfl ?_ ?_; rotate_left; (focus (intro x w'; dsimp only; go_simp; (repeat' apply And.intro) <;> first | with_reducible rfl | assumption)); simp only [Act.put, List.setIfInBounds_toArray, List.set_cons_zero, List.set_cons_succ])
                | (refine RelSeq.skip_ rfl (fun _ => rfl) ?_; simp only [Act.put, List.setIfInBounds_toArray, List.set_cons_zero, List.set_cons_succ])
                | (refine RelSeq.pureG_ (c := ?_) rfl (fun _ => rfl) rfl ?_ ?_; rotate_left; (focus (intro x w'; dsimp only; go_simp; (repeat' apply And.intro) <;> first | with_reducible rfl | assumption)); simp only [Act.put, List.setIfInBounds_toArray, List.set_cons_zero, List.set_cons_succ])
                | (refine RelSeq.grow_ (c := ?_) rfl rfl ?_ ?_; rotate_left; (focus (intro x w' hw _; dsimp only; obtain ⟨d0, d1⟩ := F w' hw; have hbr := Below.refl w'.heap.size w'; go_simp; (repeat' apply And.intro) <;> first | with_reducible rfl | assumption)); simp only [Act.put, List.setIfInBounds_toArray, List.set_cons_zero, List.set_cons_succ])
                | (refine RelSeq.growG_ (c := ?_) rfl (fun _ => rfl) rfl ?_ ?_; rotate_left; (focus (intro x w' hw _; dsimp only; obtain ⟨d0, d1⟩ := F w' hw; have hbr := Below.refl w'.heap.size w'; go_simp; (repeat' apply And.intro) <;> first | with_reducible rfl | assumption)); simp only [Act.put, List.setIfInBounds_toArray, List.set_cons_zero, List.set_cons_succ]))
              refine RelSeq.nil_ fun x w6 hw6 _ _ => ?_
              refine TailSeq.nil_ ?_
              go_wp2_with fail
              go_roundw
              case rel => exact ⟨j + 2, by omega, by go_num, E2.out, (hb.trans (hw5.mono H4)).trans (hw6.mono (hb.trans (hw5.mono H4)).size)⟩
              case measure => simp [intOf]; omega
    · obtain rfl : k = ps.length := by omega
      rw [List.drop_length] at hck
      have E2 := Lib.hid (hck.trans (by simp [chkF] : chkF (prevK ps ps.length) [] = 0))
      clear hck
      go_wp2_with fail
      go_ret
      exact ⟨by rw [E.out, E2.out]; rfl, hb⟩
end Go.Proofs.YtgpojkofegajeaaGreatDoor
