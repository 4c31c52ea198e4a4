/-
  A list of entries that is appended to, cut to its length, and appended to anew. The reference's Above, at an item that isn't old. The reference's Check, number, Own, Item, Above.
-/
import Derived.Test.YtdmdfccadjfpiaaGreatItT
import Derived.Test.YtdmdfccadjfpiaaGreatWhole
import Derived.BigQuiet
import Derived.Test.YtdmdfccadjfpiaaGreatAdmT
import Derived.Test.YtdmdfccadjfpiaaGreatPlT
import Derived.Deep.MidRow
namespace Go.Proofs.YtdmdfccadjfpiaaGreat
open Go.RowKit FreeNew
set_option maxRecDepth 100000
attribute [local go_sem] out

theorem drop_consR {α : Type} {l : List α} {k : Nat} {a : α} (h : l[k]? = some a) : l.drop k = a :: l.drop (k + 1) := by
  obtain ⟨hk, rfl⟩ := List.getElem?_eq_some_iff.1 h
  rw [List.drop_eq_getElem_cons hk]
set_option maxHeartbeats 2000000 in
theorem refCheck (v : Value) (ps : List Pr) (w : World) (hr : Rd w 2 v ps.length (pairCells ps)) (hs : ∀ p ∈ ps, p.1.size ≤ maxLen ∧ p.2.size ≤ maxLen) :
    Calls Tryz.prog 60 #[v] w fun e w' => e = .returned (.int .i64 (chkL ps : Nat)) ∧ Below w.heap.size w w' := by
  obtain ⟨A, c, rfl, h1, h2, h3, h4⟩ := hr
  unfold maxLen at h3
  by_cases h8 : 8 < ps.length
  · have E := Lib.hid (show chkL ps = 5 by simp [chkL, h8])
    go_enter Tryz.func60, Tryz.ntmps60
    go_wp2_with fail
    go_ret
    exact ⟨by rw [E.out]; rfl, Below.refl _ _⟩
  have E := Lib.hid (show chkL ps = chkF none ps by simp [chkL, h8])
  go_enter Tryz.func60, Tryz.ntmps60
  go_wp2_with fail
  go_loopw [3] (fun i wr => ∃ k : Nat, k ≤ ps.length ∧ i = .int .i64 k ∧ chkF none ps = chkF (prevK ps k) (ps.drop k) ∧ Below w.heap.size w wr) (fun i _ => ps.length - (intOf i).toNat)
  case atStart => exact ⟨0, Nat.zero_le _, rfl, rfl, Below.refl _ _⟩
  case round =>
    obtain ⟨k, hk, rfl, hck, hb⟩ := hrel
    by_cases hlt : k < ps.length
    · obtain ⟨b, o, rfl, hat⟩ := h4 (by omega)
      obtain ⟨p, hp⟩ : ∃ p, ps[k]? = some p := ⟨_, List.getElem?_eq_getElem hlt⟩
      obtain ⟨hp1, hp2⟩ := (pairCells_at ps k p hp)
      have c0 := hat.nth0 hb (k*2) _ hp1
      have c1 := hat.nth hb (k*2) 1 _ hp2
      have hpk : prevK ps (k + 1) = some p.1 := by simp [prevK, hp]
      have hsz := hs p (List.mem_of_getElem? hp)
      rw [drop_consR hp] at hck
      obtain ⟨p1, p2⟩ := p
      simp only at hsz c0 c1 hck hpk hp1
      have hK := refKey p1 wr hsz.1
      have hV := refValue p2 wr hsz.2
      cases hw1 : wordB p1 8 false with
      | false =>
        rw [hw1] at hK
        have E2 := Lib.hid (hck.trans (by simp [chkF, hw1] : chkF (prevK ps k) ((p1, p2) :: ps.drop (k + 1)) = 8))
        clear hck hw1 hpk hp hp1 hp2 hat h4 hs hV
        go_wp2_with fail
        (with_reducible refine hK.mono ?_)
        rintro e w3 ⟨rfl, rfl⟩
        go_wp2_with fail
        go_ret
        exact ⟨by rw [E.out, E2.out]; rfl, hb⟩
      | true =>
       rw [hw1] at hK
       cases hw2 : wordB p2 16 true with
       | false =>
        rw [hw2] at hV
        have E2 := Lib.hid (hck.trans (by simp [chkF, hw1, hw2] : chkF (prevK ps k) ((p1, p2) :: ps.drop (k + 1)) = 8))
        clear hck hw1 hw2 hpk hp hp1 hp2 hat h4 hs
        go_wp2_with fail
        (with_reducible refine hK.mono ?_)
        rintro e w3 ⟨rfl, rfl⟩
        go_wp2_with fail
        (with_reducible refine hV.mono ?_)
        rintro e w4 ⟨rfl, rfl⟩
        go_wp2_with fail
        go_ret
        exact ⟨by rw [E.out, E2.out]; rfl, hb⟩
       | true =>
        rw [hw2] at hV
        have hcs : chkF (prevK ps k) ((p1, p2) :: ps.drop (k + 1)) = (match prevK ps k with | some q => if q = p1 then 7 else if ltS p1 q = true then 9 else chkF (some p1) (ps.drop (k + 1)) | none => chkF (some p1) (ps.drop (k + 1))) := by
          simp [chkF, hw1, hw2]
          cases prevK ps k <;> rfl
        rw [hcs] at hck
        clear hcs hw1 hw2
        go_wp2_with fail
        (with_reducible refine hK.mono ?_)
        rintro e w3 ⟨rfl, rfl⟩
        go_wp2_with fail
        (with_reducible refine hV.mono ?_)
        rintro e w4 ⟨rfl, rfl⟩
        clear hK hV
        cases k with
        | zero =>
          have E2 := Lib.hid (show chkF none ps = chkF (prevK ps 1) (ps.drop 1) by rw [hpk]; exact hck)
          clear hck hpk hp hp1 hp2 hat h4 hs c0 c1
          go_wp2_with fail
          refine region_free (fun w' => Below w4.heap.size w4 w') [] [] (List.range 16) (by kernel_rfl) (by kernel_rfl) (by kernel_rfl) (Below.refl _ _).drew ?_
          simp only [List.range, List.range.loop]
          repeat (first
            | (refine RelSeq.pure_ (c := ?_) rfl rfl ?_ ?_; rotate_left; (focus (intro x w'; dsimp only; go_simp; (repeat' apply And.intro) <;> first | with_reducible rfl | assumption)); simp only [Act.put, List.setIfInBounds_toArray, List.set_cons_zero, List.set_cons_succ])
            | (refine RelSeq.skip_ rfl (fun _ => rfl) ?_; simp only [Act.put, List.setIfInBounds_toArray, List.set_cons_zero, List.set_cons_succ])
            | (refine RelSeq.pureG_ (c := ?_) rfl (fun _ => rfl) rfl ?_ ?_; rotate_left; (focus (intro x w'; dsimp only; go_simp; (repeat' apply And.intro) <;> first | with_reducible rfl | assumption)); simp only [Act.put, List.setIfInBounds_toArray, List.set_cons_zero, List.set_cons_succ])
            | (refine RelSeq.grow_ (c := ?_) rfl rfl ?_ ?_; rotate_left; (focus (intro x w' hw _; dsimp only; have hbr := Below.refl w'.heap.size w'; go_simp; (repeat' apply And.intro) <;> first | with_reducible rfl | assumption)); simp only [Act.put, List.setIfInBounds_toArray, List.set_cons_zero, List.set_cons_succ])
            | (refine RelSeq.growG_ (c := ?_) rfl (fun _ => rfl) rfl ?_ ?_; rotate_left; (focus (intro x w' hw _; dsimp only; have hbr := Below.refl w'.heap.size w'; go_simp; (repeat' apply And.intro) <;> first | with_reducible rfl | assumption)); simp only [Act.put, List.setIfInBounds_toArray, List.set_cons_zero, List.set_cons_succ]))
          refine RelSeq.nil_ fun x w5 hw5 _ _ => ?_
          refine TailSeq.nil_ ?_
          go_wp2_with fail
          refine region_free (fun w' => Below w5.heap.size w5 w') [] [] (List.range 16) (by kernel_rfl) (by kernel_rfl) (by kernel_rfl) (Below.refl _ _).drew ?_
          simp only [List.range, List.range.loop]
          repeat (first
            | (refine RelSeq.pure_ (c := ?_) rfl rfl ?_ ?_; rotate_left; (focus (intro x w'; dsimp only; go_simp; (repeat' apply And.intro) <;> first | with_reducible rfl | assumption)); simp only [Act.put, List.setIfInBounds_toArray, List.set_cons_zero, List.set_cons_succ])
            | (refine RelSeq.skip_ rfl (fun _ => rfl) ?_; simp only [Act.put, List.setIfInBounds_toArray, List.set_cons_zero, List.set_cons_succ])
            | (refine RelSeq.pureG_ (c := ?_) rfl (fun _ => rfl) rfl ?_ ?_; rotate_left; (focus (intro x w'; dsimp only; go_simp; (repeat' apply And.intro) <;> first | with_reducible rfl | assumption)); simp only [Act.put, List.setIfInBounds_toArray, List.set_cons_zero, List.set_cons_succ])
            | (refine RelSeq.grow_ (c := ?_) rfl rfl ?_ ?_; rotate_left; (focus (intro x w' hw _; dsimp only; have hbr := Below.refl w'.heap.size w'; go_simp; (repeat' apply And.intro) <;> first | with_reducible rfl | assumption)); simp only [Act.put, List.setIfInBounds_toArray, List.set_cons_zero, List.set_cons_succ])
            | (refine RelSeq.growG_ (c := ?_) rfl (fun _ => rfl) rfl ?_ ?_; rotate_left; (focus (intro x w' hw _; dsimp only; have hbr := Below.refl w'.heap.size w'; go_simp; (repeat' apply And.intro) <;> first | with_reducible rfl | assumption)); simp only [Act.put, List.setIfInBounds_toArray, List.set_cons_zero, List.set_cons_succ]))
          refine RelSeq.nil_ fun x w6 hw6 _ _ => ?_
          refine TailSeq.nil_ ?_
          go_wp2_with fail
          go_roundw
          case rel => exact ⟨1, by omega, by go_num, E2.out, (hb.trans (hw5.mono hb.size)).trans (hw6.mono (hb.trans (hw5.mono hb.size)).size)⟩
          case measure => simp [intOf]; omega
        | succ j =>
          obtain ⟨q, hq⟩ : ∃ p, ps[j]? = some p := ⟨_, List.getElem?_eq_getElem (by omega)⟩
          have hpq : prevK ps (j + 1) = some q.1 := by simp [prevK, hq]
          rw [hpq] at hck
          obtain ⟨hq1, _⟩ := (pairCells_at ps j q hq)
          obtain ⟨q1, q2⟩ := q
          simp only at hq1 hck
          have F : ∀ w', Below w4.heap.size w4 w' → w'.cell? ⟨b, o + j * 2, none⟩ = some (.string q1) ∧ w'.cell? ⟨b, o + (j + 1) * 2, none⟩ = some (.string p1) := fun w' h => ⟨hat.nth0 (hb.trans (h.mono hb.size)) (j*2) _ hq1, hat.nth0 (hb.trans (h.mono hb.size)) ((j+1)*2) _ hp1⟩
          have hjl : j < ps.length := by omega
          have hi1 : 0 ≤ (j : Int) + 1 := by omega
          have hi2 : (j : Int) + 1 < (ps.length : Int) := by omega
          have hi3 : ((j : Int) + 1).toNat = j + 1 := by omega
          have hwj : IntKind.i64.wrap (j : Int) = (j : Int) := by simp only [IntKind.wrap, IntKind.bits, IntKind.signed]; simp; omega
          have H4 := hb.size
          clear hpq hq hp hp1 hp2 hat h4 hs c0 c1 hq1
          by_cases heq : q1 = p1
          · subst heq
            have E2 := Lib.hid (hck.trans (by simp : (if q1 = q1 then 7 else _) = 7))
            have hE : (q1 == q1) = true := by rw [beqS]; simp
            clear hck hpk
            go_wp2_with fail
            refine region_free (fun w' => Below w4.heap.size w4 w') [] [] (List.range 16) (by kernel_rfl) (by kernel_rfl) (by kernel_rfl) (Below.refl _ _).drew ?_
            simp only [List.range, List.range.loop]
            repeat (first
              | (refine RelSeq.pure_ (c := ?_) rfl rfl ?_ ?_; rotate_left; (focus (intro x w'; dsimp only; go_simp; (repeat' apply And.intro) <;> first | with_reducible rfl | assumption)); simp only [Act.put, List.setIfInBounds_toArray, List.set_cons_zero, List.set_cons_succ])
              | (refine RelSeq.skip_ rfl (fun _ => rfl) ?_; simp only [Act.put, List.setIfInBounds_toArray, List.set_cons_zero, List.set_cons_succ])
              | (refine RelSeq.pureG_ (c := ?_) rfl (fun _ => rfl) rfl ?_ ?_; rotate_left; (focus (intro x w'; dsimp only; go_simp; (repeat' apply And.intro) <;> first | with_reducible rfl | assumption)); simp only [Act.put, List.setIfInBounds_toArray, List.set_cons_zero, List.set_cons_succ])
              | (refine RelSeq.grow_ (c := ?_) rfl rfl ?_ ?_; rotate_left; (focus (intro x w' hw _; dsimp only; obtain ⟨d0, d1⟩ := F w' hw; have hbr := Below.refl w'.heap.size w'; go_simp; (repeat' apply And.intro) <;> first | with_reducible rfl | assumption)); simp only [Act.put, List.setIfInBounds_toArray, List.set_cons_zero, List.set_cons_succ])
              | (refine RelSeq.growG_ (c := ?_) rfl (fun _ => rfl) rfl ?_ ?_; rotate_left; (focus (intro x w' hw _; dsimp only; obtain ⟨d0, d1⟩ := F w' hw; have hbr := Below.refl w'.heap.size w'; go_simp; (repeat' apply And.intro) <;> first | with_reducible rfl | assumption)); simp only [Act.put, List.setIfInBounds_toArray, List.set_cons_zero, List.set_cons_succ]))
            refine RelSeq.nil_ fun x w5 hw5 _ _ => ?_
            refine TailSeq.nil_ ?_
            go_wp2_with fail
            go_ret
            exact ⟨by rw [E.out, E2.out]; rfl, hb.trans (hw5.mono H4)⟩
          · have hE : (q1 == p1) = false := by rw [beqS]; simpa using heq
            have hT : (q1.toList == p1.toList) = false := by rw [eqS_eq]; simpa using heq
            rw [if_neg heq] at hck
            cases hlt2 : ltS p1 q1 with
            | true =>
              have hL : Op.bytesLess q1.toList p1.toList = false := ltS_asymm hlt2
              have E2 := Lib.hid (hck.trans (by rw [if_pos hlt2] : (if ltS p1 q1 = true then 9 else _) = 9))
              clear hck hpk heq hlt2
              go_wp2_with fail
              refine region_free (fun w' => Below w4.heap.size w4 w') [] [] (List.range 16) (by kernel_rfl) (by kernel_rfl) (by kernel_rfl) (Below.refl _ _).drew ?_
              simp only [List.range, List.range.loop]
              repeat (first
                | (refine RelSeq.pure_ (c := ?_) rfl rfl ?_ ?_; rotate_left; (focus (intro x w'; dsimp only; go_simp; (repeat' apply And.intro) <;> first | with_reducible rfl | assumption)); simp only [Act.put, List.setIfInBounds_toArray, List.set_cons_zero, List.set_cons_succ])
                | (refine RelSeq.skip_ rfl (fun _ => rfl) ?_; simp only [Act.put, List.setIfInBounds_toArray, List.set_cons_zero, List.set_cons_succ])
                | (refine RelSeq.pureG_ (c := ?_) rfl (fun _ => rfl) rfl ?_ ?_; rotate_left; (focus (intro x w'; dsimp only; go_simp; (repeat' apply And.intro) <;> first | with_reducible rfl | assumption)); simp only [Act.put, List.setIfInBounds_toArray, List.set_cons_zero, List.set_cons_succ])
                | (refine RelSeq.grow_ (c := ?_) rfl rfl ?_ ?_; rotate_left; (focus (intro x w' hw _; dsimp only; obtain ⟨d0, d1⟩ := F w' hw; have hbr := Below.refl w'.heap.size w'; go_simp; (repeat' apply And.intro) <;> first | with_reducible rfl | assumption)); simp only [Act.put, List.setIfInBounds_toArray, List.set_cons_zero, List.set_cons_succ])
                | (refine RelSeq.growG_ (c := ?_) rfl (fun _ => rfl) rfl ?_ ?_; rotate_left; (focus (intro x w' hw _; dsimp only; obtain ⟨d0, d1⟩ := F w' hw; have hbr := Below.refl w'.heap.size w'; go_simp; (repeat' apply And.intro) <;> first | with_reducible rfl | assumption)); simp only [Act.put, List.setIfInBounds_toArray, List.set_cons_zero, List.set_cons_succ]))
              refine RelSeq.nil_ fun x w5 hw5 _ _ => ?_
              refine TailSeq.nil_ ?_
              have F : ∀ w', Below w5.heap.size w5 w' → w'.cell? ⟨b, o + j * 2, none⟩ = some (.string q1) ∧ w'.cell? ⟨b, o + (j + 1) * 2, none⟩ = some (.string p1) := fun w' h => F w' (hw5.trans (h.mono hw5.size))
              go_wp2_with fail
              refine region_free (fun w' => Below w5.heap.size w5 w') [] [] (List.range 16) (by kernel_rfl) (by kernel_rfl) (by kernel_rfl) (Below.refl _ _).drew ?_
              simp only [List.range, List.range.loop]
              repeat (first
                | (refine RelSeq.pure_ (c := ?_) rfl rfl ?_ ?_; rotate_left; (focus (intro x w'; dsimp only; go_simp; (repeat' apply And.intro) <;> first | with_reducible rfl | assumption)); simp only [Act.put, List.setIfInBounds_toArray, List.set_cons_zero, List.set_cons_succ])
                | (refine RelSeq.skip_ rfl (fun _ => rfl) ?_; simp only [Act.put, List.setIfInBounds_toArray, List.set_cons_zero, List.set_cons_succ])
                | (refine RelSeq.pureG_ (c := ?_) rfl (fun _ => rfl) rfl ?_ ?_; rotate_left; (focus (intro x w'; dsimp only; go_simp; (repeat' apply And.intro) <;> first | with_reducible rfl | assumption)); simp only [Act.put, List.setIfInBounds_toArray, List.set_cons_zero, List.set_cons_succ])
                | (refine RelSeq.grow_ (c := ?_) rfl rfl ?_ ?_; rotate_left; (focus (intro x w' hw _; dsimp only; obtain ⟨d0, d1⟩ := F w' hw; have hbr := Below.refl w'.heap.size w'; go_simp; (repeat' apply And.intro) <;> first | with_reducible rfl | assumption)); simp only [Act.put, List.setIfInBounds_toArray, List.set_cons_zero, List.set_cons_succ])
                | (refine RelSeq.growG_ (c := ?_) rfl (fun _ => rfl) rfl ?_ ?_; rotate_left; (focus (intro x w' hw _; dsimp only; obtain ⟨d0, d1⟩ := F w' hw; have hbr := Below.refl w'.heap.size w'; go_simp; (repeat' apply And.intro) <;> first | with_reducible rfl | assumption)); simp only [Act.put, List.setIfInBounds_toArray, List.set_cons_zero, List.set_cons_succ]))
              refine RelSeq.nil_ fun x w6 hw6 _ _ => ?_
              refine TailSeq.nil_ ?_
              go_wp2_with fail
              go_ret
              exact ⟨by rw [E.out, E2.out]; rfl, (hb.trans (hw5.mono H4)).trans (hw6.mono (hb.trans (hw5.mono H4)).size)⟩
            | false =>
              have hL : Op.bytesLess q1.toList p1.toList = true := by
                cases h : ltS q1 p1 with
                | true => exact h
                | false => exact absurd (ltS_total h hlt2) heq
              have E2 := Lib.hid (show chkF none ps = chkF (prevK ps (j + 2)) (ps.drop (j + 2)) by rw [hpk]; rw [hlt2] at hck; exact hck.trans (if_neg (by decide)))
              clear hck hpk heq hlt2
              go_wp2_with fail
              refine region_free (fun w' => Below w4.heap.size w4 w') [] [] (List.range 16) (by kernel_rfl) (by kernel_rfl) (by kernel_rfl) (Below.refl _ _).drew ?_
              simp only [List.range, List.range.loop]
              repeat (first
                | (refine RelSeq.pure_ (c := ?_) rfl rfl ?_ ?_; rotate_left; (focus (intro x w'; dsimp only; go_simp; (repeat' apply And.intro) <;> first | with_reducible rfl | assumption)); simp only [Act.put, List.setIfInBounds_toArray, List.set_cons_zero, List.set_cons_succ])
                | (refine RelSeq.skip_ rfl (fun _ => rfl) ?_; simp only [Act.put, List.setIfInBounds_toArray, List.set_cons_zero, List.set_cons_succ])
                | (refine RelSeq.pureG_ (c := ?_) rfl (fun _ => rfl) rfl ?_ ?_; rotate_left; (focus (intro x w'; dsimp only; go_simp; (repeat' apply And.intro) <;> first | with_reducible rfl | assumption)); simp only [Act.put, List.setIfInBounds_toArray, List.set_cons_zero, List.set_cons_succ])
                | (refine RelSeq.grow_ (c := ?_) rfl rfl ?_ ?_; rotate_left; (focus (intro x w' hw _; dsimp only; obtain ⟨d0, d1⟩ := F w' hw; have hbr := Below.refl w'.heap.size w'; go_simp; (repeat' apply And.intro) <;> first | with_reducible rfl | assumption)); simp only [Act.put, List.setIfInBounds_toArray, List.set_cons_zero, List.set_cons_succ])
                | (refine RelSeq.growG_ (c := ?_) rfl (fun _ => rfl) rfl ?_ ?_; rotate_left; (focus (intro x w' hw _; dsimp only; obtain ⟨d0, d1⟩ := F w' hw; have hbr := Below.refl w'.heap.size w'; go_simp; (repeat' apply And.intro) <;> first | with_reducible rfl | assumption)); simp only [Act.put, List.setIfInBounds_toArray, List.set_cons_zero, List.set_cons_succ]))
              refine RelSeq.nil_ fun x w5 hw5 _ _ => ?_
              refine TailSeq.nil_ ?_
              have F : ∀ w', Below w5.heap.size w5 w' → w'.cell? ⟨b, o + j * 2, none⟩ = some (.string q1) ∧ w'.cell? ⟨b, o + (j + 1) * 2, none⟩ = some (.string p1) := fun w' h => F w' (hw5.trans (h.mono hw5.size))
              go_wp2_with fail
              refine region_free (fun w' => Below w5.heap.size w5 w') [] [] (List.range 16) (by kernel_rfl) (by kernel_rfl) (by kernel_rfl) (Below.refl _ _).drew ?_
              simp only [List.range, List.range.loop]
              repeat (first
                | (refine RelSeq.pure_ (c := ?_) rfl rfl ?_ ?_; rotate_left; (focus (intro x w'; dsimp only; go_simp; (repeat' apply And.intro) <;> first | with_reducible rfl | assumption)); simp only [Act.put, List.setIfInBounds_toArray, List.set_cons_zero, List.set_cons_succ])
                | (refine RelSeq.skip_ rfl (fun _ => rfl) ?_; simp only [Act.put, List.setIfInBounds_toArray, List.set_cons_zero, List.set_cons_succ])
                | (refine RelSeq.pureG_ (c := ?_) rfl (fun _ => rfl) rfl ?_ ?_; rotate_left; (focus (intro x w'; dsimp only; go_simp; (repeat' apply And.intro) <;> first | with_reducible rfl | assumption)); simp only [Act.put, List.setIfInBounds_toArray, List.set_cons_zero, List.set_cons_succ])
                | (refine RelSeq.grow_ (c := ?_) rfl rfl ?_ ?_; rotate_left; (focus (intro x w' hw _; dsimp only; obtain ⟨d0, d1⟩ := F w' hw; have hbr := Below.refl w'.heap.size w'; go_simp; (repeat' apply And.intro) <;> first | with_reducible rfl | assumption)); simp only [Act.put, List.setIfInBounds_toArray, List.set_cons_zero, List.set_cons_succ])
                | (refine RelSeq.growG_ (c := ?_) rfl (fun _ => rfl) rfl ?_ ?_; rotate_left; (focus (intro x w' hw _; dsimp only; obtain ⟨d0, d1⟩ := F w' hw; have hbr := Below.refl w'.heap.size w'; go_simp; (repeat' apply And.intro) <;> first | with_reducible rfl | assumption)); simp only [Act.put, List.setIfInBounds_toArray, List.set_cons_zero, List.set_cons_succ]))
              refine RelSeq.nil_ fun x w6 hw6 _ _ => ?_
              refine TailSeq.nil_ ?_
              go_wp2_with fail
              go_roundw
              case rel => exact ⟨j + 2, by omega, by go_num, E2.out, (hb.trans (hw5.mono H4)).trans (hw6.mono (hb.trans (hw5.mono H4)).size)⟩
              case measure => simp [intOf]; omega
    · obtain rfl : k = ps.length := by omega
      rw [List.drop_length] at hck
      have E2 := Lib.hid (hck.trans (by simp [chkF] : chkF (prevK ps ps.length) [] = 0))
      clear hck
      go_wp2_with fail
      go_ret
      exact ⟨by rw [E.out, E2.out]; rfl, hb⟩
end Go.Proofs.YtdmdfccadjfpiaaGreat
namespace Go.Proofs.YtdmdfccadjfpiaaGreat
open Go.RowKit
set_option maxRecDepth 100000

theorem refNumber (n : Nat) (w : World) : Calls Tryz.prog 57 #[.int .u64 n] w fun e w' => e = .returned (.bool (decide (n ≤ 1099511627776))) ∧ w' = w := by
  by_cases h : n ≤ 1099511627776
  · have d : decide ((n : Int) ≤ 1099511627776) = true := by simp; omega
    rw [decide_eq_true h]
    clear h
    go_enter Tryz.func57, Tryz.ntmps57
    go_wp2_with fail
    go_ret
    exact ⟨rfl, rfl⟩
  · have d : decide ((n : Int) ≤ 1099511627776) = false := by simp; omega
    rw [decide_eq_false h]
    clear h
    go_enter Tryz.func57, Tryz.ntmps57
    go_wp2_with fail
    go_ret
    exact ⟨rfl, rfl⟩
theorem refOwn (s : ByteArray) (w : World) (hs : s.size ≤ maxLen) : Calls Tryz.prog 59 #[.string s] w fun e w' => e = .returned (.bool (ownName s)) ∧ w' = w := by
  unfold maxLen at hs
  by_cases h : 4 ≤ s.size
  · have d0 : decide ((4 : Int) ≤ (s.size : Int)) = true := by simp; omega
    have E := Lib.hid (show ownName s = ((s.extract 0 4).toList == [111, 119, 110, 46]) by unfold ownName; rw [decide_eq_true h]; rfl)
    have hi : (4 : Int) ≤ (s.size : Int) := by omega
    go_enter Tryz.func59, Tryz.ntmps59
    go_wp2_with fail
    go_ret
    exact ⟨by rw [E.out]; rfl, rfl⟩
  · have d0 : decide ((4 : Int) ≤ (s.size : Int)) = false := by simp; omega
    rw [show ownName s = false by unfold ownName; rw [decide_eq_false h]; rfl]
    clear h
    go_enter Tryz.func59, Tryz.ntmps59
    go_wp2_with fail
    go_ret
    exact ⟨rfl, rfl⟩
set_option maxHeartbeats 4000000 in
theorem refItGap (o sq tm : Nat) (ru : ByteArray) (A : Option Addr) (n c : Nat) (st pr : Nat) (va : Int) (ow go gf gt : Nat) (w : World) : Calls Tryz.prog 29 #[.agg #[.bool true, .int .u8 o, .int .u64 sq, .int .u64 tm, .string ru, .slice A n c, .int .u8 st, .int .u8 pr, .int .i64 va, .int .u8 ow, .int .u8 go, .int .u64 gf, .int .u64 gt]] w fun e w' => e = .returned (.int .i64 (chkGap go gf gt : Nat)) ∧ Below w.heap.size w w' := by
  have Nt := fun w' => refNumber gt w'
  by_cases c0 : 32 ≤ go
  · have d0 : decide ((31 : Int) < (go : Int)) = true := by simp; omega
    rw [show chkGap go gf gt = 6 by unfold chkGap; rw [if_pos (by omega)]]
    clear c0 Nt
    go_enter Tryz.func29, Tryz.ntmps29
    go_wp2_with fail
    go_ret
    exact ⟨rfl, ((Below.refl _ _).alloc (Nat.le_refl _) _).alloc (by simp) _⟩
  have d0 : decide ((31 : Int) < (go : Int)) = false := by simp; omega
  by_cases c1 : gf < 1
  · have d1 : ((gf : Int) == 0) = true := by simp; omega
    rw [show chkGap go gf gt = 6 by unfold chkGap; rw [if_pos (by omega)]]
    clear c0 c1 Nt
    go_enter Tryz.func29, Tryz.ntmps29
    go_wp2_with fail
    go_ret
    exact ⟨rfl, ((Below.refl _ _).alloc (Nat.le_refl _) _).alloc (by simp) _⟩
  have d1 : ((gf : Int) == 0) = false := by simp; omega
  by_cases c2 : gt < gf
  · have d2 : decide (gt < gf) = true := by simp; omega
    rw [show chkGap go gf gt = 6 by unfold chkGap; rw [if_pos (by omega)]]
    clear c0 c1 c2 Nt
    go_enter Tryz.func29, Tryz.ntmps29
    go_wp2_with fail
    go_ret
    exact ⟨rfl, ((Below.refl _ _).alloc (Nat.le_refl _) _).alloc (by simp) _⟩
  have d2 : decide (gt < gf) = false := by simp; omega
  by_cases c3 : 1099511627776 < gt
  · rw [decide_eq_false (by omega : ¬ gt ≤ 1099511627776)] at Nt
    rw [show chkGap go gf gt = 6 by unfold chkGap; rw [if_pos (by omega)]]
    clear c0 c1 c2 c3
    go_enter Tryz.func29, Tryz.ntmps29
    go_wp2_with fail
    (with_reducible refine (Nt _).mono ?_)
    rintro e w1 ⟨rfl, rfl⟩
    go_wp2_with fail
    go_ret
    exact ⟨rfl, ((Below.refl _ _).alloc (Nat.le_refl _) _).alloc (by simp) _⟩
  rw [decide_eq_true (by omega : gt ≤ 1099511627776)] at Nt
  rw [show chkGap go gf gt = 0 by unfold chkGap; rw [if_neg (by omega)]]
  clear c0 c1 c2 c3
  go_enter Tryz.func29, Tryz.ntmps29
  go_wp2_with fail
  (with_reducible refine (Nt _).mono ?_)
  rintro e w1 ⟨rfl, rfl⟩
  go_wp2_with fail
  go_ret
  exact ⟨rfl, ((Below.refl _ _).alloc (Nat.le_refl _) _).alloc (by simp) _⟩
set_option maxHeartbeats 8000000 in
theorem refItEv (o sq tm : Nat) (ru : ByteArray) (A : Option Addr) (n c : Nat) (st pr : Nat) (va : Int) (ow go gf gt : Nat) (ps : List Pr) (w : World) (hru : ru.size ≤ maxLen) (hrd : Rd w 2 (.slice A n c) ps.length (pairCells ps)) (hpz : ∀ p ∈ ps, p.1.size ≤ maxLen ∧ p.2.size ≤ maxLen) :
    Calls Tryz.prog 29 #[.agg #[.bool false, .int .u8 o, .int .u64 sq, .int .u64 tm, .string ru, .slice A n c, .int .u8 st, .int .u8 pr, .int .i64 va, .int .u8 ow, .int .u8 go, .int .u64 gf, .int .u64 gt]] w fun e w' => e = .returned (.int .i64 (chkE o sq tm ru ps st pr ow : Nat)) ∧ Below w.heap.size w w' := by
  have Nq := fun w' => refNumber sq w'
  have Nt := fun w' => refNumber tm w'
  by_cases c0 : 32 ≤ o
  · have d0 : decide ((31 : Int) < (o : Int)) = true := by simp; omega
    rw [show chkE o sq tm ru ps st pr ow = 6 by unfold chkE; rw [if_pos (by omega)]]
    clear c0 Nq Nt hrd hpz hru
    go_enter Tryz.func29, Tryz.ntmps29
    go_wp2_with fail
    go_ret
    exact ⟨rfl, ((Below.refl _ _).alloc (Nat.le_refl _) _).alloc (by simp) _⟩
  have d0 : decide ((31 : Int) < (o : Int)) = false := by simp; omega
  by_cases c1 : sq < 1
  · have d1 : ((sq : Int) == 0) = true := by simp; omega
    rw [show chkE o sq tm ru ps st pr ow = 6 by unfold chkE; rw [if_pos (by omega)]]
    clear c0 c1 Nq Nt hrd hpz hru
    go_enter Tryz.func29, Tryz.ntmps29
    go_wp2_with fail
    go_ret
    exact ⟨rfl, ((Below.refl _ _).alloc (Nat.le_refl _) _).alloc (by simp) _⟩
  have d1 : ((sq : Int) == 0) = false := by simp; omega
  by_cases c2 : 1099511627776 < sq
  · rw [decide_eq_false (by omega : ¬ sq ≤ 1099511627776)] at Nq
    rw [show chkE o sq tm ru ps st pr ow = 6 by unfold chkE; rw [if_pos (by omega)]]
    clear c0 c1 c2 Nt hrd hpz hru
    go_enter Tryz.func29, Tryz.ntmps29
    go_wp2_with fail
    (with_reducible refine (Nq _).mono ?_)
    rintro e w1 ⟨rfl, rfl⟩
    go_wp2_with fail
    go_ret
    exact ⟨rfl, ((Below.refl _ _).alloc (Nat.le_refl _) _).alloc (by simp) _⟩
  rw [decide_eq_true (by omega : sq ≤ 1099511627776)] at Nq
  by_cases c3 : 1099511627776 < tm
  · rw [decide_eq_false (by omega : ¬ tm ≤ 1099511627776)] at Nt
    rw [show chkE o sq tm ru ps st pr ow = 6 by unfold chkE; rw [if_pos (by omega)]]
    clear c0 c1 c2 c3 hrd hpz hru
    go_enter Tryz.func29, Tryz.ntmps29
    go_wp2_with fail
    (with_reducible refine (Nq _).mono ?_)
    rintro e w1 ⟨rfl, rfl⟩
    go_wp2_with fail
    (with_reducible refine (Nt _).mono ?_)
    rintro e w1 ⟨rfl, rfl⟩
    go_wp2_with fail
    go_ret
    exact ⟨rfl, ((Below.refl _ _).alloc (Nat.le_refl _) _).alloc (by simp) _⟩
  rw [decide_eq_true (by omega : tm ≤ 1099511627776)] at Nt
  by_cases c4 : 7 < pr
  · have d4 : decide ((7 : Int) < (pr : Int)) = true := by simp; omega
    rw [show chkE o sq tm ru ps st pr ow = 6 by unfold chkE; rw [if_pos (by omega)]]
    clear c0 c1 c2 c3 c4 hrd hpz hru
    go_enter Tryz.func29, Tryz.ntmps29
    go_wp2_with fail
    (with_reducible refine (Nq _).mono ?_)
    rintro e w1 ⟨rfl, rfl⟩
    go_wp2_with fail
    (with_reducible refine (Nt _).mono ?_)
    rintro e w1 ⟨rfl, rfl⟩
    go_wp2_with fail
    go_ret
    exact ⟨rfl, ((Below.refl _ _).alloc (Nat.le_refl _) _).alloc (by simp) _⟩
  have d4 : decide ((7 : Int) < (pr : Int)) = false := by simp; omega
  have hE : chkE o sq tm ru ps st pr ow = if nameB ru = false then 8 else if (st ≠ 0 ∧ st ≠ 2) ∨ 2 < ow then 12 else if (decide (ow ≠ 0) != ownName ru) = true then 27 else chkL ps := by unfold chkE; rw [if_neg (by omega)]
  rw [hE]
  clear hE c0 c1 c2 c3 c4
  have hN := fun w' => refName ru w' hru
  have hO := fun w' => refOwn ru w' hru
  obtain ⟨nb, hnb⟩ : ∃ nb, nb = nameB ru := ⟨_, rfl⟩
  obtain ⟨ob, hob⟩ : ∃ ob, ob = ownName ru := ⟨_, rfl⟩
  rw [← hnb] at hN ⊢
  rw [← hob] at hO ⊢
  clear hnb hob
  have hK : ∀ w', Below w.heap.size w w' → Calls Tryz.prog 60 #[.slice A n c] w' fun e w'' => e = .returned (.int .i64 (chkL ps : Nat)) ∧ Below w'.heap.size w' w'' := fun w' hb => refCheck _ ps w' (hrd.below hb) hpz
  clear hru hrd hpz
  obtain ⟨ck, hck⟩ : ∃ ck, ck = chkL ps := ⟨_, rfl⟩
  rw [← hck] at hK ⊢
  clear hck
  cases nb with
  | false =>
    rw [if_pos rfl]
    clear hO hK
    go_enter Tryz.func29, Tryz.ntmps29
    go_wp2_with fail
    (with_reducible refine (Nq _).mono ?_)
    rintro e w1 ⟨rfl, rfl⟩
    go_wp2_with fail
    (with_reducible refine (Nt _).mono ?_)
    rintro e w1 ⟨rfl, rfl⟩
    go_wp2_with fail
    refine calls_genP fun w2 hw2 => ?_
    have U2 := (((Upd.nil [] w).alloc #[.bool false, .int .u8 o, .int .u64 sq, .int .u64 tm, .string ru, .slice A n c, .int .u8 st, .int .u8 pr, .int .i64 va, .int .u8 ow, .int .u8 go, .int .u64 gf, .int .u64 gt] 36).alloc #[.int .u8 o, .int .u64 sq, .int .u64 tm, .string ru, .slice A n c, .int .u8 st, .int .u8 pr, .int .i64 va, .int .u8 ow] 32).same hw2
    simp only [World.size_alloc] at U2
    clear hw2
    (with_reducible refine (hN w2).mono ?_)
    rintro e w3 ⟨rfl, rfl⟩
    clear hN
    have hb23 := U2.below
    go_wp2_with fail
    go_ret
    exact ⟨rfl, hb23⟩
  | true =>
    rw [if_neg (by simp)]
    by_cases s0 : st = 0
    · subst s0
      by_cases c2 : 2 < ow
      · rw [if_pos (.inr c2)]
        have d2 : decide ((2 : Int) < (ow : Int)) = true := by simp; omega
        clear c2 hO hK
        go_enter Tryz.func29, Tryz.ntmps29
        go_wp2_with fail
        (with_reducible refine (Nq _).mono ?_)
        rintro e w1 ⟨rfl, rfl⟩
        go_wp2_with fail
        (with_reducible refine (Nt _).mono ?_)
        rintro e w1 ⟨rfl, rfl⟩
        go_wp2_with fail
        refine calls_genP fun w2 hw2 => ?_
        have U2 := (((Upd.nil [] w).alloc #[.bool false, .int .u8 o, .int .u64 sq, .int .u64 tm, .string ru, .slice A n c, .int .u8 0, .int .u8 pr, .int .i64 va, .int .u8 ow, .int .u8 go, .int .u64 gf, .int .u64 gt] 36).alloc #[.int .u8 o, .int .u64 sq, .int .u64 tm, .string ru, .slice A n c, .int .u8 0, .int .u8 pr, .int .i64 va, .int .u8 ow] 32).same hw2
        simp only [World.size_alloc] at U2
        clear hw2
        (with_reducible refine (hN w2).mono ?_)
        rintro e w3 ⟨rfl, rfl⟩
        clear hN
        have hb23 := U2.below
        have x3 : w3.cell? ⟨w.heap.size + 1, 3, none⟩ = some (.string ru) := (U2.blk 0 rfl).cell rfl
        have x4 : w3.cell? ⟨w.heap.size + 1, 4, none⟩ = some (.slice A n c) := (U2.blk 0 rfl).cell rfl
        have x5 : w3.cell? ⟨w.heap.size + 1, 5, none⟩ = some (.int .u8 0) := (U2.blk 0 rfl).cell rfl
        have x8 : w3.cell? ⟨w.heap.size + 1, 8, none⟩ = some (.int .u8 ow) := (U2.blk 0 rfl).cell rfl
        go_wp2_with fail
        go_ret
        exact ⟨rfl, hb23⟩
      rw [if_neg (by omega)]
      have d2 : decide ((2 : Int) < (ow : Int)) = false := by simp; omega
      clear c2
      obtain ⟨xo, hxo⟩ : ∃ xo, xo = decide (0 < ow) := ⟨_, rfl⟩
      have hxo2 : decide (ow ≠ 0) = xo := by rw [hxo]; by_cases h : ow = 0 <;> simp [h]; omega
      rw [hxo2]
      have d3 := hxo.symm
      have d3i : decide ((0 : Int) < (ow : Int)) = xo := by rw [hxo]; by_cases h : ow = 0 <;> simp [h]
      clear hxo hxo2
      have Ffalsefalse : xo = false → ob = false → Calls Tryz.prog 29 #[.agg #[.bool false, .int .u8 o, .int .u64 sq, .int .u64 tm, .string ru, .slice A n c, .int .u8 0, .int .u8 pr, .int .i64 va, .int .u8 ow, .int .u8 go, .int .u64 gf, .int .u64 gt]] w fun e w' => e = .returned (.int .i64 ((if (xo != ob) = true then 27 else ck : Nat) : Nat)) ∧ Below w.heap.size w w' := by
        intro hx ho
        subst hx ho
        rw [if_neg (by decide)]
        go_enter Tryz.func29, Tryz.ntmps29
        go_wp2_with fail
        (with_reducible refine (Nq _).mono ?_)
        rintro e w1 ⟨rfl, rfl⟩
        go_wp2_with fail
        (with_reducible refine (Nt _).mono ?_)
        rintro e w1 ⟨rfl, rfl⟩
        go_wp2_with fail
        refine calls_genP fun w2 hw2 => ?_
        have U2 := (((Upd.nil [] w).alloc #[.bool false, .int .u8 o, .int .u64 sq, .int .u64 tm, .string ru, .slice A n c, .int .u8 0, .int .u8 pr, .int .i64 va, .int .u8 ow, .int .u8 go, .int .u64 gf, .int .u64 gt] 36).alloc #[.int .u8 o, .int .u64 sq, .int .u64 tm, .string ru, .slice A n c, .int .u8 0, .int .u8 pr, .int .i64 va, .int .u8 ow] 32).same hw2
        simp only [World.size_alloc] at U2
        clear hw2
        (with_reducible refine (hN w2).mono ?_)
        rintro e w3 ⟨rfl, rfl⟩
        clear hN
        have hb23 := U2.below
        have x3 : w3.cell? ⟨w.heap.size + 1, 3, none⟩ = some (.string ru) := (U2.blk 0 rfl).cell rfl
        have x4 : w3.cell? ⟨w.heap.size + 1, 4, none⟩ = some (.slice A n c) := (U2.blk 0 rfl).cell rfl
        have x5 : w3.cell? ⟨w.heap.size + 1, 5, none⟩ = some (.int .u8 0) := (U2.blk 0 rfl).cell rfl
        have x8 : w3.cell? ⟨w.heap.size + 1, 8, none⟩ = some (.int .u8 ow) := (U2.blk 0 rfl).cell rfl
        go_wp2_with fail
        go_quiet (with_reducible exact Calls.quiet_of_same (hO _))
        have hb4 := hb23.trans (below_drewN w3 nq)
        clear hb23
        go_wp2_with fail
        (with_reducible refine (hK _ hb4).mono ?_)
        rintro e w5 ⟨rfl, hb5⟩
        have hb6 := hb4.trans (hb5.mono hb4.size)
        clear hb4 hb5 U2
        go_wp2_with fail
        go_ret
        exact ⟨rfl, hb6⟩
      have Ffalsetrue : xo = false → ob = true → Calls Tryz.prog 29 #[.agg #[.bool false, .int .u8 o, .int .u64 sq, .int .u64 tm, .string ru, .slice A n c, .int .u8 0, .int .u8 pr, .int .i64 va, .int .u8 ow, .int .u8 go, .int .u64 gf, .int .u64 gt]] w fun e w' => e = .returned (.int .i64 ((if (xo != ob) = true then 27 else ck : Nat) : Nat)) ∧ Below w.heap.size w w' := by
        intro hx ho
        subst hx ho
        rw [if_pos (by decide)]
        clear hK
        go_enter Tryz.func29, Tryz.ntmps29
        go_wp2_with fail
        (with_reducible refine (Nq _).mono ?_)
        rintro e w1 ⟨rfl, rfl⟩
        go_wp2_with fail
        (with_reducible refine (Nt _).mono ?_)
        rintro e w1 ⟨rfl, rfl⟩
        go_wp2_with fail
        refine calls_genP fun w2 hw2 => ?_
        have U2 := (((Upd.nil [] w).alloc #[.bool false, .int .u8 o, .int .u64 sq, .int .u64 tm, .string ru, .slice A n c, .int .u8 0, .int .u8 pr, .int .i64 va, .int .u8 ow, .int .u8 go, .int .u64 gf, .int .u64 gt] 36).alloc #[.int .u8 o, .int .u64 sq, .int .u64 tm, .string ru, .slice A n c, .int .u8 0, .int .u8 pr, .int .i64 va, .int .u8 ow] 32).same hw2
        simp only [World.size_alloc] at U2
        clear hw2
        (with_reducible refine (hN w2).mono ?_)
        rintro e w3 ⟨rfl, rfl⟩
        clear hN
        have hb23 := U2.below
        have x3 : w3.cell? ⟨w.heap.size + 1, 3, none⟩ = some (.string ru) := (U2.blk 0 rfl).cell rfl
        have x4 : w3.cell? ⟨w.heap.size + 1, 4, none⟩ = some (.slice A n c) := (U2.blk 0 rfl).cell rfl
        have x5 : w3.cell? ⟨w.heap.size + 1, 5, none⟩ = some (.int .u8 0) := (U2.blk 0 rfl).cell rfl
        have x8 : w3.cell? ⟨w.heap.size + 1, 8, none⟩ = some (.int .u8 ow) := (U2.blk 0 rfl).cell rfl
        go_wp2_with fail
        go_quiet (with_reducible exact Calls.quiet_of_same (hO _))
        have hb4 := hb23.trans (below_drewN w3 nq)
        clear hb23
        go_wp2_with fail
        go_ret
        exact ⟨rfl, hb4⟩
      have Ftruefalse : xo = true → ob = false → Calls Tryz.prog 29 #[.agg #[.bool false, .int .u8 o, .int .u64 sq, .int .u64 tm, .string ru, .slice A n c, .int .u8 0, .int .u8 pr, .int .i64 va, .int .u8 ow, .int .u8 go, .int .u64 gf, .int .u64 gt]] w fun e w' => e = .returned (.int .i64 ((if (xo != ob) = true then 27 else ck : Nat) : Nat)) ∧ Below w.heap.size w w' := by
        intro hx ho
        subst hx ho
        rw [if_pos (by decide)]
        clear hK
        go_enter Tryz.func29, Tryz.ntmps29
        go_wp2_with fail
        (with_reducible refine (Nq _).mono ?_)
        rintro e w1 ⟨rfl, rfl⟩
        go_wp2_with fail
        (with_reducible refine (Nt _).mono ?_)
        rintro e w1 ⟨rfl, rfl⟩
        go_wp2_with fail
        refine calls_genP fun w2 hw2 => ?_
        have U2 := (((Upd.nil [] w).alloc #[.bool false, .int .u8 o, .int .u64 sq, .int .u64 tm, .string ru, .slice A n c, .int .u8 0, .int .u8 pr, .int .i64 va, .int .u8 ow, .int .u8 go, .int .u64 gf, .int .u64 gt] 36).alloc #[.int .u8 o, .int .u64 sq, .int .u64 tm, .string ru, .slice A n c, .int .u8 0, .int .u8 pr, .int .i64 va, .int .u8 ow] 32).same hw2
        simp only [World.size_alloc] at U2
        clear hw2
        (with_reducible refine (hN w2).mono ?_)
        rintro e w3 ⟨rfl, rfl⟩
        clear hN
        have hb23 := U2.below
        have x3 : w3.cell? ⟨w.heap.size + 1, 3, none⟩ = some (.string ru) := (U2.blk 0 rfl).cell rfl
        have x4 : w3.cell? ⟨w.heap.size + 1, 4, none⟩ = some (.slice A n c) := (U2.blk 0 rfl).cell rfl
        have x5 : w3.cell? ⟨w.heap.size + 1, 5, none⟩ = some (.int .u8 0) := (U2.blk 0 rfl).cell rfl
        have x8 : w3.cell? ⟨w.heap.size + 1, 8, none⟩ = some (.int .u8 ow) := (U2.blk 0 rfl).cell rfl
        go_wp2_with fail
        go_quiet (with_reducible exact Calls.quiet_of_same (hO _))
        have hb4 := hb23.trans (below_drewN w3 nq)
        clear hb23
        go_wp2_with fail
        go_ret
        exact ⟨rfl, hb4⟩
      have Ftruetrue : xo = true → ob = true → Calls Tryz.prog 29 #[.agg #[.bool false, .int .u8 o, .int .u64 sq, .int .u64 tm, .string ru, .slice A n c, .int .u8 0, .int .u8 pr, .int .i64 va, .int .u8 ow, .int .u8 go, .int .u64 gf, .int .u64 gt]] w fun e w' => e = .returned (.int .i64 ((if (xo != ob) = true then 27 else ck : Nat) : Nat)) ∧ Below w.heap.size w w' := by
        intro hx ho
        subst hx ho
        rw [if_neg (by decide)]
        go_enter Tryz.func29, Tryz.ntmps29
        go_wp2_with fail
        (with_reducible refine (Nq _).mono ?_)
        rintro e w1 ⟨rfl, rfl⟩
        go_wp2_with fail
        (with_reducible refine (Nt _).mono ?_)
        rintro e w1 ⟨rfl, rfl⟩
        go_wp2_with fail
        refine calls_genP fun w2 hw2 => ?_
        have U2 := (((Upd.nil [] w).alloc #[.bool false, .int .u8 o, .int .u64 sq, .int .u64 tm, .string ru, .slice A n c, .int .u8 0, .int .u8 pr, .int .i64 va, .int .u8 ow, .int .u8 go, .int .u64 gf, .int .u64 gt] 36).alloc #[.int .u8 o, .int .u64 sq, .int .u64 tm, .string ru, .slice A n c, .int .u8 0, .int .u8 pr, .int .i64 va, .int .u8 ow] 32).same hw2
        simp only [World.size_alloc] at U2
        clear hw2
        (with_reducible refine (hN w2).mono ?_)
        rintro e w3 ⟨rfl, rfl⟩
        clear hN
        have hb23 := U2.below
        have x3 : w3.cell? ⟨w.heap.size + 1, 3, none⟩ = some (.string ru) := (U2.blk 0 rfl).cell rfl
        have x4 : w3.cell? ⟨w.heap.size + 1, 4, none⟩ = some (.slice A n c) := (U2.blk 0 rfl).cell rfl
        have x5 : w3.cell? ⟨w.heap.size + 1, 5, none⟩ = some (.int .u8 0) := (U2.blk 0 rfl).cell rfl
        have x8 : w3.cell? ⟨w.heap.size + 1, 8, none⟩ = some (.int .u8 ow) := (U2.blk 0 rfl).cell rfl
        go_wp2_with fail
        go_quiet (with_reducible exact Calls.quiet_of_same (hO _))
        have hb4 := hb23.trans (below_drewN w3 nq)
        clear hb23
        go_wp2_with fail
        (with_reducible refine (hK _ hb4).mono ?_)
        rintro e w5 ⟨rfl, hb5⟩
        have hb6 := hb4.trans (hb5.mono hb4.size)
        clear hb4 hb5 U2
        go_wp2_with fail
        go_ret
        exact ⟨rfl, hb6⟩
      cases hx : xo <;> cases ho : ob
      · have := Ffalsefalse hx ho; rw [hx, ho] at this; exact this
      · have := Ffalsetrue hx ho; rw [hx, ho] at this; exact this
      · have := Ftruefalse hx ho; rw [hx, ho] at this; exact this
      · have := Ftruetrue hx ho; rw [hx, ho] at this; exact this
    · by_cases s2 : st = 2
      · subst s2
        by_cases c2 : 2 < ow
        · rw [if_pos (.inr c2)]
          have d2 : decide ((2 : Int) < (ow : Int)) = true := by simp; omega
          clear c2 hO hK
          go_enter Tryz.func29, Tryz.ntmps29
          go_wp2_with fail
          (with_reducible refine (Nq _).mono ?_)
          rintro e w1 ⟨rfl, rfl⟩
          go_wp2_with fail
          (with_reducible refine (Nt _).mono ?_)
          rintro e w1 ⟨rfl, rfl⟩
          go_wp2_with fail
          refine calls_genP fun w2 hw2 => ?_
          have U2 := (((Upd.nil [] w).alloc #[.bool false, .int .u8 o, .int .u64 sq, .int .u64 tm, .string ru, .slice A n c, .int .u8 2, .int .u8 pr, .int .i64 va, .int .u8 ow, .int .u8 go, .int .u64 gf, .int .u64 gt] 36).alloc #[.int .u8 o, .int .u64 sq, .int .u64 tm, .string ru, .slice A n c, .int .u8 2, .int .u8 pr, .int .i64 va, .int .u8 ow] 32).same hw2
          simp only [World.size_alloc] at U2
          clear hw2
          (with_reducible refine (hN w2).mono ?_)
          rintro e w3 ⟨rfl, rfl⟩
          clear hN
          have hb23 := U2.below
          have x3 : w3.cell? ⟨w.heap.size + 1, 3, none⟩ = some (.string ru) := (U2.blk 0 rfl).cell rfl
          have x4 : w3.cell? ⟨w.heap.size + 1, 4, none⟩ = some (.slice A n c) := (U2.blk 0 rfl).cell rfl
          have x5 : w3.cell? ⟨w.heap.size + 1, 5, none⟩ = some (.int .u8 2) := (U2.blk 0 rfl).cell rfl
          have x8 : w3.cell? ⟨w.heap.size + 1, 8, none⟩ = some (.int .u8 ow) := (U2.blk 0 rfl).cell rfl
          go_wp2_with fail
          go_ret
          exact ⟨rfl, hb23⟩
        rw [if_neg (by omega)]
        have d2 : decide ((2 : Int) < (ow : Int)) = false := by simp; omega
        clear c2
        obtain ⟨xo, hxo⟩ : ∃ xo, xo = decide (0 < ow) := ⟨_, rfl⟩
        have hxo2 : decide (ow ≠ 0) = xo := by rw [hxo]; by_cases h : ow = 0 <;> simp [h]; omega
        rw [hxo2]
        have d3 := hxo.symm
        have d3i : decide ((0 : Int) < (ow : Int)) = xo := by rw [hxo]; by_cases h : ow = 0 <;> simp [h]
        clear hxo hxo2
        have Ffalsefalse : xo = false → ob = false → Calls Tryz.prog 29 #[.agg #[.bool false, .int .u8 o, .int .u64 sq, .int .u64 tm, .string ru, .slice A n c, .int .u8 2, .int .u8 pr, .int .i64 va, .int .u8 ow, .int .u8 go, .int .u64 gf, .int .u64 gt]] w fun e w' => e = .returned (.int .i64 ((if (xo != ob) = true then 27 else ck : Nat) : Nat)) ∧ Below w.heap.size w w' := by
          intro hx ho
          subst hx ho
          rw [if_neg (by decide)]
          go_enter Tryz.func29, Tryz.ntmps29
          go_wp2_with fail
          (with_reducible refine (Nq _).mono ?_)
          rintro e w1 ⟨rfl, rfl⟩
          go_wp2_with fail
          (with_reducible refine (Nt _).mono ?_)
          rintro e w1 ⟨rfl, rfl⟩
          go_wp2_with fail
          refine calls_genP fun w2 hw2 => ?_
          have U2 := (((Upd.nil [] w).alloc #[.bool false, .int .u8 o, .int .u64 sq, .int .u64 tm, .string ru, .slice A n c, .int .u8 2, .int .u8 pr, .int .i64 va, .int .u8 ow, .int .u8 go, .int .u64 gf, .int .u64 gt] 36).alloc #[.int .u8 o, .int .u64 sq, .int .u64 tm, .string ru, .slice A n c, .int .u8 2, .int .u8 pr, .int .i64 va, .int .u8 ow] 32).same hw2
          simp only [World.size_alloc] at U2
          clear hw2
          (with_reducible refine (hN w2).mono ?_)
          rintro e w3 ⟨rfl, rfl⟩
          clear hN
          have hb23 := U2.below
          have x3 : w3.cell? ⟨w.heap.size + 1, 3, none⟩ = some (.string ru) := (U2.blk 0 rfl).cell rfl
          have x4 : w3.cell? ⟨w.heap.size + 1, 4, none⟩ = some (.slice A n c) := (U2.blk 0 rfl).cell rfl
          have x5 : w3.cell? ⟨w.heap.size + 1, 5, none⟩ = some (.int .u8 2) := (U2.blk 0 rfl).cell rfl
          have x8 : w3.cell? ⟨w.heap.size + 1, 8, none⟩ = some (.int .u8 ow) := (U2.blk 0 rfl).cell rfl
          go_wp2_with fail
          go_quiet (with_reducible exact Calls.quiet_of_same (hO _))
          have hb4 := hb23.trans (below_drewN w3 nq)
          clear hb23
          go_wp2_with fail
          (with_reducible refine (hK _ hb4).mono ?_)
          rintro e w5 ⟨rfl, hb5⟩
          have hb6 := hb4.trans (hb5.mono hb4.size)
          clear hb4 hb5 U2
          go_wp2_with fail
          go_ret
          exact ⟨rfl, hb6⟩
        have Ffalsetrue : xo = false → ob = true → Calls Tryz.prog 29 #[.agg #[.bool false, .int .u8 o, .int .u64 sq, .int .u64 tm, .string ru, .slice A n c, .int .u8 2, .int .u8 pr, .int .i64 va, .int .u8 ow, .int .u8 go, .int .u64 gf, .int .u64 gt]] w fun e w' => e = .returned (.int .i64 ((if (xo != ob) = true then 27 else ck : Nat) : Nat)) ∧ Below w.heap.size w w' := by
          intro hx ho
          subst hx ho
          rw [if_pos (by decide)]
          clear hK
          go_enter Tryz.func29, Tryz.ntmps29
          go_wp2_with fail
          (with_reducible refine (Nq _).mono ?_)
          rintro e w1 ⟨rfl, rfl⟩
          go_wp2_with fail
          (with_reducible refine (Nt _).mono ?_)
          rintro e w1 ⟨rfl, rfl⟩
          go_wp2_with fail
          refine calls_genP fun w2 hw2 => ?_
          have U2 := (((Upd.nil [] w).alloc #[.bool false, .int .u8 o, .int .u64 sq, .int .u64 tm, .string ru, .slice A n c, .int .u8 2, .int .u8 pr, .int .i64 va, .int .u8 ow, .int .u8 go, .int .u64 gf, .int .u64 gt] 36).alloc #[.int .u8 o, .int .u64 sq, .int .u64 tm, .string ru, .slice A n c, .int .u8 2, .int .u8 pr, .int .i64 va, .int .u8 ow] 32).same hw2
          simp only [World.size_alloc] at U2
          clear hw2
          (with_reducible refine (hN w2).mono ?_)
          rintro e w3 ⟨rfl, rfl⟩
          clear hN
          have hb23 := U2.below
          have x3 : w3.cell? ⟨w.heap.size + 1, 3, none⟩ = some (.string ru) := (U2.blk 0 rfl).cell rfl
          have x4 : w3.cell? ⟨w.heap.size + 1, 4, none⟩ = some (.slice A n c) := (U2.blk 0 rfl).cell rfl
          have x5 : w3.cell? ⟨w.heap.size + 1, 5, none⟩ = some (.int .u8 2) := (U2.blk 0 rfl).cell rfl
          have x8 : w3.cell? ⟨w.heap.size + 1, 8, none⟩ = some (.int .u8 ow) := (U2.blk 0 rfl).cell rfl
          go_wp2_with fail
          go_quiet (with_reducible exact Calls.quiet_of_same (hO _))
          have hb4 := hb23.trans (below_drewN w3 nq)
          clear hb23
          go_wp2_with fail
          go_ret
          exact ⟨rfl, hb4⟩
        have Ftruefalse : xo = true → ob = false → Calls Tryz.prog 29 #[.agg #[.bool false, .int .u8 o, .int .u64 sq, .int .u64 tm, .string ru, .slice A n c, .int .u8 2, .int .u8 pr, .int .i64 va, .int .u8 ow, .int .u8 go, .int .u64 gf, .int .u64 gt]] w fun e w' => e = .returned (.int .i64 ((if (xo != ob) = true then 27 else ck : Nat) : Nat)) ∧ Below w.heap.size w w' := by
          intro hx ho
          subst hx ho
          rw [if_pos (by decide)]
          clear hK
          go_enter Tryz.func29, Tryz.ntmps29
          go_wp2_with fail
          (with_reducible refine (Nq _).mono ?_)
          rintro e w1 ⟨rfl, rfl⟩
          go_wp2_with fail
          (with_reducible refine (Nt _).mono ?_)
          rintro e w1 ⟨rfl, rfl⟩
          go_wp2_with fail
          refine calls_genP fun w2 hw2 => ?_
          have U2 := (((Upd.nil [] w).alloc #[.bool false, .int .u8 o, .int .u64 sq, .int .u64 tm, .string ru, .slice A n c, .int .u8 2, .int .u8 pr, .int .i64 va, .int .u8 ow, .int .u8 go, .int .u64 gf, .int .u64 gt] 36).alloc #[.int .u8 o, .int .u64 sq, .int .u64 tm, .string ru, .slice A n c, .int .u8 2, .int .u8 pr, .int .i64 va, .int .u8 ow] 32).same hw2
          simp only [World.size_alloc] at U2
          clear hw2
          (with_reducible refine (hN w2).mono ?_)
          rintro e w3 ⟨rfl, rfl⟩
          clear hN
          have hb23 := U2.below
          have x3 : w3.cell? ⟨w.heap.size + 1, 3, none⟩ = some (.string ru) := (U2.blk 0 rfl).cell rfl
          have x4 : w3.cell? ⟨w.heap.size + 1, 4, none⟩ = some (.slice A n c) := (U2.blk 0 rfl).cell rfl
          have x5 : w3.cell? ⟨w.heap.size + 1, 5, none⟩ = some (.int .u8 2) := (U2.blk 0 rfl).cell rfl
          have x8 : w3.cell? ⟨w.heap.size + 1, 8, none⟩ = some (.int .u8 ow) := (U2.blk 0 rfl).cell rfl
          go_wp2_with fail
          go_quiet (with_reducible exact Calls.quiet_of_same (hO _))
          have hb4 := hb23.trans (below_drewN w3 nq)
          clear hb23
          go_wp2_with fail
          go_ret
          exact ⟨rfl, hb4⟩
        have Ftruetrue : xo = true → ob = true → Calls Tryz.prog 29 #[.agg #[.bool false, .int .u8 o, .int .u64 sq, .int .u64 tm, .string ru, .slice A n c, .int .u8 2, .int .u8 pr, .int .i64 va, .int .u8 ow, .int .u8 go, .int .u64 gf, .int .u64 gt]] w fun e w' => e = .returned (.int .i64 ((if (xo != ob) = true then 27 else ck : Nat) : Nat)) ∧ Below w.heap.size w w' := by
          intro hx ho
          subst hx ho
          rw [if_neg (by decide)]
          go_enter Tryz.func29, Tryz.ntmps29
          go_wp2_with fail
          (with_reducible refine (Nq _).mono ?_)
          rintro e w1 ⟨rfl, rfl⟩
          go_wp2_with fail
          (with_reducible refine (Nt _).mono ?_)
          rintro e w1 ⟨rfl, rfl⟩
          go_wp2_with fail
          refine calls_genP fun w2 hw2 => ?_
          have U2 := (((Upd.nil [] w).alloc #[.bool false, .int .u8 o, .int .u64 sq, .int .u64 tm, .string ru, .slice A n c, .int .u8 2, .int .u8 pr, .int .i64 va, .int .u8 ow, .int .u8 go, .int .u64 gf, .int .u64 gt] 36).alloc #[.int .u8 o, .int .u64 sq, .int .u64 tm, .string ru, .slice A n c, .int .u8 2, .int .u8 pr, .int .i64 va, .int .u8 ow] 32).same hw2
          simp only [World.size_alloc] at U2
          clear hw2
          (with_reducible refine (hN w2).mono ?_)
          rintro e w3 ⟨rfl, rfl⟩
          clear hN
          have hb23 := U2.below
          have x3 : w3.cell? ⟨w.heap.size + 1, 3, none⟩ = some (.string ru) := (U2.blk 0 rfl).cell rfl
          have x4 : w3.cell? ⟨w.heap.size + 1, 4, none⟩ = some (.slice A n c) := (U2.blk 0 rfl).cell rfl
          have x5 : w3.cell? ⟨w.heap.size + 1, 5, none⟩ = some (.int .u8 2) := (U2.blk 0 rfl).cell rfl
          have x8 : w3.cell? ⟨w.heap.size + 1, 8, none⟩ = some (.int .u8 ow) := (U2.blk 0 rfl).cell rfl
          go_wp2_with fail
          go_quiet (with_reducible exact Calls.quiet_of_same (hO _))
          have hb4 := hb23.trans (below_drewN w3 nq)
          clear hb23
          go_wp2_with fail
          (with_reducible refine (hK _ hb4).mono ?_)
          rintro e w5 ⟨rfl, hb5⟩
          have hb6 := hb4.trans (hb5.mono hb4.size)
          clear hb4 hb5 U2
          go_wp2_with fail
          go_ret
          exact ⟨rfl, hb6⟩
        cases hx : xo <;> cases ho : ob
        · have := Ffalsefalse hx ho; rw [hx, ho] at this; exact this
        · have := Ffalsetrue hx ho; rw [hx, ho] at this; exact this
        · have := Ftruefalse hx ho; rw [hx, ho] at this; exact this
        · have := Ftruetrue hx ho; rw [hx, ho] at this; exact this
      · rw [if_pos (.inl ⟨s0, s2⟩)]
        have e0 : ((st : Int) != 0) = true := by simp; omega
        have e2 : ((st : Int) != 2) = true := by simp; omega
        clear s0 s2 hO hK
        go_enter Tryz.func29, Tryz.ntmps29
        go_wp2_with fail
        (with_reducible refine (Nq _).mono ?_)
        rintro e w1 ⟨rfl, rfl⟩
        go_wp2_with fail
        (with_reducible refine (Nt _).mono ?_)
        rintro e w1 ⟨rfl, rfl⟩
        go_wp2_with fail
        refine calls_genP fun w2 hw2 => ?_
        have U2 := (((Upd.nil [] w).alloc #[.bool false, .int .u8 o, .int .u64 sq, .int .u64 tm, .string ru, .slice A n c, .int .u8 st, .int .u8 pr, .int .i64 va, .int .u8 ow, .int .u8 go, .int .u64 gf, .int .u64 gt] 36).alloc #[.int .u8 o, .int .u64 sq, .int .u64 tm, .string ru, .slice A n c, .int .u8 st, .int .u8 pr, .int .i64 va, .int .u8 ow] 32).same hw2
        simp only [World.size_alloc] at U2
        clear hw2
        (with_reducible refine (hN w2).mono ?_)
        rintro e w3 ⟨rfl, rfl⟩
        clear hN
        have hb23 := U2.below
        have x3 : w3.cell? ⟨w.heap.size + 1, 3, none⟩ = some (.string ru) := (U2.blk 0 rfl).cell rfl
        have x4 : w3.cell? ⟨w.heap.size + 1, 4, none⟩ = some (.slice A n c) := (U2.blk 0 rfl).cell rfl
        have x5 : w3.cell? ⟨w.heap.size + 1, 5, none⟩ = some (.int .u8 st) := (U2.blk 0 rfl).cell rfl
        have x8 : w3.cell? ⟨w.heap.size + 1, 8, none⟩ = some (.int .u8 ow) := (U2.blk 0 rfl).cell rfl
        go_wp2_with fail
        go_ret
        exact ⟨rfl, hb23⟩
theorem refItem (a : ItV) (w : World) (ha : a.ok w) : Calls Tryz.prog 29 #[itV a] w fun e w' => e = .returned (.int .i64 (chkIt a : Nat)) ∧ Below w.heap.size w w' := by
  have h1 := ha.rd
  obtain ⟨A1, c1, hl1, _⟩ := ha.rd
  obtain ⟨gap, o, sq, tm, ru, lv, ps, st, pr, va, ow, go, gf, gt⟩ := a
  simp only at hl1 h1
  subst hl1
  cases gap
  · exact refItEv o sq tm ru A1 ps.length c1 st pr va ow go gf gt ps w ha.ru h1 ha.pz
  · exact refItGap o sq tm ru A1 ps.length c1 st pr va ow go gf gt w
end Go.Proofs.YtdmdfccadjfpiaaGreat
namespace Go.Proofs.YtdmdfccadjfpiaaGreat
open Go.RowKit
set_option maxRecDepth 100000

set_option maxHeartbeats 1000000 in
theorem refAbvAll (gap : Bool) (o sq tm : Nat) (ru : ByteArray) (Al : Option Addr) (nl cl st pr : Nat) (va : Int) (ow go gf gt : Nat) (above so sf sto : Nat) (w : World) (h1 : above < sto) (_h3 : sto < 18446744073709551616) (h2 : above < sf) (K : ∀ w', Below w.heap.size w w' → Calls Tryz.prog 12 #[.agg #[.bool gap, .int .u8 o, .int .u64 sq, .int .u64 tm, .string ru, .slice Al nl cl, .int .u8 st, .int .u8 pr, .int .i64 va, .int .u8 ow, .int .u8 go, .int .u64 gf, .int .u64 gt]] w' fun e w'' => e = .returned (.tuple #[.int .u8 so, .int .u64 sf, .int .u64 sto]) ∧ Below w'.heap.size w' w'') :
    Calls Tryz.prog 30 #[.agg #[.bool gap, .int .u8 o, .int .u64 sq, .int .u64 tm, .string ru, .slice Al nl cl, .int .u8 st, .int .u8 pr, .int .i64 va, .int .u8 ow, .int .u8 go, .int .u64 gf, .int .u64 gt], .int .u64 above] w fun e w' => e = .returned (.tuple #[.agg #[.bool gap, .int .u8 o, .int .u64 sq, .int .u64 tm, .string ru, .slice Al nl cl, .int .u8 st, .int .u8 pr, .int .i64 va, .int .u8 ow, .int .u8 go, .int .u64 gf, .int .u64 gt], .bool true]) ∧ Below w.heap.size w w' := by
  have d1 : decide (sto ≤ above) = false := by simp; omega
  have d2 : decide (sf ≤ above) = false := by simp; omega
  clear h1 h2
  go_enter Tryz.func30, Tryz.ntmps30
  go_wp2_with fail
  refine calls_genP fun w2 hw2 => ?_
  have U2 := (((Upd.nil [] w).alloc #[.bool gap, .int .u8 o, .int .u64 sq, .int .u64 tm, .string ru, .slice Al nl cl, .int .u8 st, .int .u8 pr, .int .i64 va, .int .u8 ow, .int .u8 go, .int .u64 gf, .int .u64 gt] 36).alloc #[.bool false, .int .u8 0, .int .u64 0, .int .u64 0, .string ⟨#[]⟩, .slice none 0 0, .int .u8 0, .int .u8 0, .int .i64 0, .int .u8 0, .int .u8 0, .int .u64 0, .int .u64 0] 36).same hw2
  simp only [World.size_alloc] at U2
  clear hw2
  (with_reducible refine (K w2 U2.below).mono ?_)
  rintro e w3 ⟨rfl, hb3⟩
  have U3 := U2.grow hb3
  clear U2 hb3 K
  have e0 := (U3.blk 1 rfl).cell (j := 0) (v := .bool gap) rfl
  have e1 := (U3.blk 1 rfl).cell (j := 1) (v := .int .u8 o) rfl
  have e2 := (U3.blk 1 rfl).cell (j := 2) (v := .int .u64 sq) rfl
  have e3 := (U3.blk 1 rfl).cell (j := 3) (v := .int .u64 tm) rfl
  have e4 := (U3.blk 1 rfl).cell (j := 4) (v := .string ru) rfl
  have e5 := (U3.blk 1 rfl).cell (j := 5) (v := .slice Al nl cl) rfl
  have e6 := (U3.blk 1 rfl).cell (j := 6) (v := .int .u8 st) rfl
  have e7 := (U3.blk 1 rfl).cell (j := 7) (v := .int .u8 pr) rfl
  have e8 := (U3.blk 1 rfl).cell (j := 8) (v := .int .i64 va) rfl
  have e9 := (U3.blk 1 rfl).cell (j := 9) (v := .int .u8 ow) rfl
  have e10 := (U3.blk 1 rfl).cell (j := 10) (v := .int .u8 go) rfl
  have e11 := (U3.blk 1 rfl).cell (j := 11) (v := .int .u64 gf) rfl
  have e12 := (U3.blk 1 rfl).cell (j := 12) (v := .int .u64 gt) rfl
  have z0 := (U3.blk 0 rfl).cell (j := 0) (v := .bool false) rfl
  have z1 := (U3.blk 0 rfl).cell (j := 1) (v := .int .u8 0) rfl
  have z2 := (U3.blk 0 rfl).cell (j := 2) (v := .int .u64 0) rfl
  have z3 := (U3.blk 0 rfl).cell (j := 3) (v := .int .u64 0) rfl
  have z4 := (U3.blk 0 rfl).cell (j := 4) (v := .string ⟨#[]⟩) rfl
  have z5 := (U3.blk 0 rfl).cell (j := 5) (v := .slice none 0 0) rfl
  have z6 := (U3.blk 0 rfl).cell (j := 6) (v := .int .u8 0) rfl
  have z7 := (U3.blk 0 rfl).cell (j := 7) (v := .int .u8 0) rfl
  have z8 := (U3.blk 0 rfl).cell (j := 8) (v := .int .i64 0) rfl
  have z9 := (U3.blk 0 rfl).cell (j := 9) (v := .int .u8 0) rfl
  have z10 := (U3.blk 0 rfl).cell (j := 10) (v := .int .u8 0) rfl
  have z11 := (U3.blk 0 rfl).cell (j := 11) (v := .int .u64 0) rfl
  have z12 := (U3.blk 0 rfl).cell (j := 12) (v := .int .u64 0) rfl
  have zf := (U3.blk 0 rfl).frozen
  go_wp2_with fail
  refine bodyPost_gen fun w6 hw6 => ?_
  have U4 := ((((((((((((((U3.put 0 rfl 0 (.bool gap)).put 0 rfl 1 (.int .u8 o)).put 0 rfl 2 (.int .u64 sq)).put 0 rfl 3 (.int .u64 tm)).put 0 rfl 4 (.string ru)).put 0 rfl 5 (.slice Al nl cl)).put 0 rfl 6 (.int .u8 st)).put 0 rfl 7 (.int .u8 pr)).put 0 rfl 8 (.int .i64 va)).put 0 rfl 9 (.int .u8 ow)).put 0 rfl 10 (.int .u8 go)).put 0 rfl 11 (.int .u64 gf)).put 0 rfl 12 (.int .u64 gt))).same hw6
  simp only [List.setIfInBounds_toArray, List.set_cons_succ, List.set_cons_zero, List.eraseIdx_cons_zero] at U4
  clear hw6 U3
  have a0 := (U4.blk 0 rfl).cell (j := 0) (v := .bool gap) rfl
  have a1 := (U4.blk 0 rfl).cell (j := 1) (v := .int .u8 o) rfl
  have a2 := (U4.blk 0 rfl).cell (j := 2) (v := .int .u64 sq) rfl
  have a3 := (U4.blk 0 rfl).cell (j := 3) (v := .int .u64 tm) rfl
  have a4 := (U4.blk 0 rfl).cell (j := 4) (v := .string ru) rfl
  have a5 := (U4.blk 0 rfl).cell (j := 5) (v := .slice Al nl cl) rfl
  have a6 := (U4.blk 0 rfl).cell (j := 6) (v := .int .u8 st) rfl
  have a7 := (U4.blk 0 rfl).cell (j := 7) (v := .int .u8 pr) rfl
  have a8 := (U4.blk 0 rfl).cell (j := 8) (v := .int .i64 va) rfl
  have a9 := (U4.blk 0 rfl).cell (j := 9) (v := .int .u8 ow) rfl
  have a10 := (U4.blk 0 rfl).cell (j := 10) (v := .int .u8 go) rfl
  have a11 := (U4.blk 0 rfl).cell (j := 11) (v := .int .u64 gf) rfl
  have a12 := (U4.blk 0 rfl).cell (j := 12) (v := .int .u64 gt) rfl
  refine bodyPost_ret (v := .tuple #[.agg #[.bool gap, .int .u8 o, .int .u64 sq, .int .u64 tm, .string ru, .slice Al nl cl, .int .u8 st, .int .u8 pr, .int .i64 va, .int .u8 ow, .int .u8 go, .int .u64 gf, .int .u64 gt], .bool true]) ?_ rfl ⟨rfl, U4.below⟩
  simp [results, Tryz.results30, go_sem, a0, a1, a2, a3, a4, a5, a6, a7, a8, a9, a10, a11, a12]
set_option maxHeartbeats 1000000 in
theorem refAbvCut (gap : Bool) (o sq tm : Nat) (ru : ByteArray) (Al : Option Addr) (nl cl st pr : Nat) (va : Int) (ow go gf gt : Nat) (above so sf sto : Nat) (w : World) (h1 : above < sto) (h3 : sto < 18446744073709551616) (h2 : sf ≤ above) (K : ∀ w', Below w.heap.size w w' → Calls Tryz.prog 12 #[.agg #[.bool gap, .int .u8 o, .int .u64 sq, .int .u64 tm, .string ru, .slice Al nl cl, .int .u8 st, .int .u8 pr, .int .i64 va, .int .u8 ow, .int .u8 go, .int .u64 gf, .int .u64 gt]] w' fun e w'' => e = .returned (.tuple #[.int .u8 so, .int .u64 sf, .int .u64 sto]) ∧ Below w'.heap.size w' w'') :
    Calls Tryz.prog 30 #[.agg #[.bool gap, .int .u8 o, .int .u64 sq, .int .u64 tm, .string ru, .slice Al nl cl, .int .u8 st, .int .u8 pr, .int .i64 va, .int .u8 ow, .int .u8 go, .int .u64 gf, .int .u64 gt], .int .u64 above] w fun e w' => e = .returned (.tuple #[.agg #[.bool gap, .int .u8 o, .int .u64 sq, .int .u64 tm, .string ru, .slice Al nl cl, .int .u8 st, .int .u8 pr, .int .i64 va, .int .u8 ow, .int .u8 go, .int .u64 (above + 1 : Nat), .int .u64 gt], .bool true]) ∧ Below w.heap.size w w' := by
  have d1 : decide (sto ≤ above) = false := by simp; omega
  have d2 : decide (sf ≤ above) = true := by simp; omega
  have d3 : IntKind.u64.wrap ((above : Int) + 1) = ((above + 1 : Nat) : Int) := by rw [IntKind.wrap_u64]; omega
  clear h1 h2 h3
  go_enter Tryz.func30, Tryz.ntmps30
  go_wp2_with fail
  refine calls_genP fun w2 hw2 => ?_
  have U2 := (((Upd.nil [] w).alloc #[.bool gap, .int .u8 o, .int .u64 sq, .int .u64 tm, .string ru, .slice Al nl cl, .int .u8 st, .int .u8 pr, .int .i64 va, .int .u8 ow, .int .u8 go, .int .u64 gf, .int .u64 gt] 36).alloc #[.bool false, .int .u8 0, .int .u64 0, .int .u64 0, .string ⟨#[]⟩, .slice none 0 0, .int .u8 0, .int .u8 0, .int .i64 0, .int .u8 0, .int .u8 0, .int .u64 0, .int .u64 0] 36).same hw2
  simp only [World.size_alloc] at U2
  clear hw2
  (with_reducible refine (K w2 U2.below).mono ?_)
  rintro e w3 ⟨rfl, hb3⟩
  have U3 := U2.grow hb3
  clear U2 hb3 K
  have e0 := (U3.blk 1 rfl).cell (j := 0) (v := .bool gap) rfl
  have e1 := (U3.blk 1 rfl).cell (j := 1) (v := .int .u8 o) rfl
  have e2 := (U3.blk 1 rfl).cell (j := 2) (v := .int .u64 sq) rfl
  have e3 := (U3.blk 1 rfl).cell (j := 3) (v := .int .u64 tm) rfl
  have e4 := (U3.blk 1 rfl).cell (j := 4) (v := .string ru) rfl
  have e5 := (U3.blk 1 rfl).cell (j := 5) (v := .slice Al nl cl) rfl
  have e6 := (U3.blk 1 rfl).cell (j := 6) (v := .int .u8 st) rfl
  have e7 := (U3.blk 1 rfl).cell (j := 7) (v := .int .u8 pr) rfl
  have e8 := (U3.blk 1 rfl).cell (j := 8) (v := .int .i64 va) rfl
  have e9 := (U3.blk 1 rfl).cell (j := 9) (v := .int .u8 ow) rfl
  have e10 := (U3.blk 1 rfl).cell (j := 10) (v := .int .u8 go) rfl
  have e11 := (U3.blk 1 rfl).cell (j := 11) (v := .int .u64 gf) rfl
  have e12 := (U3.blk 1 rfl).cell (j := 12) (v := .int .u64 gt) rfl
  have ef := (U3.blk 1 rfl).frozen
  have z0 := (U3.blk 0 rfl).cell (j := 0) (v := .bool false) rfl
  have z1 := (U3.blk 0 rfl).cell (j := 1) (v := .int .u8 0) rfl
  have z2 := (U3.blk 0 rfl).cell (j := 2) (v := .int .u64 0) rfl
  have z3 := (U3.blk 0 rfl).cell (j := 3) (v := .int .u64 0) rfl
  have z4 := (U3.blk 0 rfl).cell (j := 4) (v := .string ⟨#[]⟩) rfl
  have z5 := (U3.blk 0 rfl).cell (j := 5) (v := .slice none 0 0) rfl
  have z6 := (U3.blk 0 rfl).cell (j := 6) (v := .int .u8 0) rfl
  have z7 := (U3.blk 0 rfl).cell (j := 7) (v := .int .u8 0) rfl
  have z8 := (U3.blk 0 rfl).cell (j := 8) (v := .int .i64 0) rfl
  have z9 := (U3.blk 0 rfl).cell (j := 9) (v := .int .u8 0) rfl
  have z10 := (U3.blk 0 rfl).cell (j := 10) (v := .int .u8 0) rfl
  have z11 := (U3.blk 0 rfl).cell (j := 11) (v := .int .u64 0) rfl
  have z12 := (U3.blk 0 rfl).cell (j := 12) (v := .int .u64 0) rfl
  have zf := (U3.blk 0 rfl).frozen
  go_wp2_with fail
  refine bodyPost_gen fun w6 hw6 => ?_
  have U4 := (((((((((((((((U3.put 1 rfl 11 (.int .u64 (above + 1 : Nat))).put 1 rfl 0 (.bool gap)).put 0 rfl 1 (.int .u8 o)).put 0 rfl 2 (.int .u64 sq)).put 0 rfl 3 (.int .u64 tm)).put 0 rfl 4 (.string ru)).put 0 rfl 5 (.slice Al nl cl)).put 0 rfl 6 (.int .u8 st)).put 0 rfl 7 (.int .u8 pr)).put 0 rfl 8 (.int .i64 va)).put 0 rfl 9 (.int .u8 ow)).put 0 rfl 10 (.int .u8 go)).put 0 rfl 11 (.int .u64 (above + 1 : Nat))).put 0 rfl 12 (.int .u64 gt))).same hw6
  simp only [List.setIfInBounds_toArray, List.set_cons_succ, List.set_cons_zero, List.eraseIdx_cons_succ, List.eraseIdx_cons_zero] at U4
  clear hw6 U3
  have a0 := (U4.blk 0 rfl).cell (j := 0) (v := .bool gap) rfl
  have a1 := (U4.blk 0 rfl).cell (j := 1) (v := .int .u8 o) rfl
  have a2 := (U4.blk 0 rfl).cell (j := 2) (v := .int .u64 sq) rfl
  have a3 := (U4.blk 0 rfl).cell (j := 3) (v := .int .u64 tm) rfl
  have a4 := (U4.blk 0 rfl).cell (j := 4) (v := .string ru) rfl
  have a5 := (U4.blk 0 rfl).cell (j := 5) (v := .slice Al nl cl) rfl
  have a6 := (U4.blk 0 rfl).cell (j := 6) (v := .int .u8 st) rfl
  have a7 := (U4.blk 0 rfl).cell (j := 7) (v := .int .u8 pr) rfl
  have a8 := (U4.blk 0 rfl).cell (j := 8) (v := .int .i64 va) rfl
  have a9 := (U4.blk 0 rfl).cell (j := 9) (v := .int .u8 ow) rfl
  have a10 := (U4.blk 0 rfl).cell (j := 10) (v := .int .u8 go) rfl
  have a11 := (U4.blk 0 rfl).cell (j := 11) (v := .int .u64 (above + 1 : Nat)) rfl
  have a12 := (U4.blk 0 rfl).cell (j := 12) (v := .int .u64 gt) rfl
  refine bodyPost_ret (v := .tuple #[.agg #[.bool gap, .int .u8 o, .int .u64 sq, .int .u64 tm, .string ru, .slice Al nl cl, .int .u8 st, .int .u8 pr, .int .i64 va, .int .u8 ow, .int .u8 go, .int .u64 (above + 1 : Nat), .int .u64 gt], .bool true]) ?_ rfl ⟨rfl, U4.below⟩
  simp [results, Tryz.results30, go_sem, a0, a1, a2, a3, a4, a5, a6, a7, a8, a9, a10, a11, a12]
theorem refAbove (a : ItV) (n : Nat) (w : World) (h : a.ok w) (h1 : n < spanT a) : Calls Tryz.prog 30 #[itV a, .int .u64 n] w fun e w' => e = .returned (.tuple #[itV (trimA a n), .bool true]) ∧ Below w.heap.size w w' := by
  have hT : spanT a < 18446744073709551616 := by
    unfold spanT
    split
    · exact h.gt
    · exact h.sq
  have KS := fun w' hb => refSpan a w' (h.below hb)
  obtain ⟨A, c, he, _⟩ := h.rd
  obtain ⟨gap, o, sq, tm, ru, lv, ps, st, pr, va, ow, go, gf, gt⟩ := a
  simp only at he
  subst he
  by_cases hc : n < spanF (⟨gap, o, sq, tm, ru, .slice A ps.length c, ps, st, pr, va, ow, go, gf, gt⟩ : ItV)
  · have e : trimA (⟨gap, o, sq, tm, ru, .slice A ps.length c, ps, st, pr, va, ow, go, gf, gt⟩ : ItV) n = ⟨gap, o, sq, tm, ru, .slice A ps.length c, ps, st, pr, va, ow, go, gf, gt⟩ := by
      unfold trimA; rw [if_pos hc]
    rw [e]
    exact refAbvAll gap o sq tm ru A ps.length c st pr va ow go gf gt n _ _ _ w h1 hT hc KS
  · have e : trimA (⟨gap, o, sq, tm, ru, .slice A ps.length c, ps, st, pr, va, ow, go, gf, gt⟩ : ItV) n = ⟨gap, o, sq, tm, ru, .slice A ps.length c, ps, st, pr, va, ow, go, n + 1, gt⟩ := by
      unfold trimA; rw [if_neg hc]
    rw [e]
    exact refAbvCut gap o sq tm ru A ps.length c st pr va ow go gf gt n _ _ _ w h1 hT (by omega) KS
end Go.Proofs.YtdmdfccadjfpiaaGreat
namespace Go.Proofs.YtdmdfccadjfpiaaGreat
open Go.RowKit
set_option maxRecDepth 100000

/-- A row of the call's own, or a full slice of one. -/
def mAt (e : TypeId) (size : Nat) (v : Value) (n : Nat) (xs : List Value) (w : World) : Prop :=
  w.ownsRow 0 e size v n xs ∨ ∃ g, v = .slice (some ⟨g, 0, none⟩) n n ∧ g < w.heap.size ∧ xs.length = n * size ∧ n ≤ maxLen ∧ RdAt w g 0 xs
theorem RdAt.locA {w w' : World} {b o : Nat} {xs : List Value} (h : w'.heap[b]? = w.heap[b]?) (hr : RdAt w b o xs) : RdAt w' b o xs := fun j u hu => by
  rw [World.cell?_of_block h]; exact hr j u hu
def chM (e : TypeId) (size : Nat) (v : Value) (n : Nat) (xs : List Value) : Chunk :=
  ⟨v.ownBlock.toList, mAt e size v n xs, (fun w w' h hP => by
    rcases hP with hP | ⟨g, rfl, hg, h1, h2, h3⟩
    · exact .inl ((chRow e size v n xs).loc w w' h hP)
    · have hb := h g (.head _)
      refine .inr ⟨g, rfl, ?_, h1, h2, h3.locA hb⟩
      rw [Array.getElem?_eq_getElem hg] at hb
      rcases Nat.lt_or_ge g w'.heap.size with h | h
      · exact h
      · rw [Array.getElem?_eq_none h] at hb; cases hb), fun w hP b hb => by
    rcases hP with hP | ⟨g, rfl, hg, _⟩
    · exact (chRow e size v n xs).inn w hP b hb
    · rw [List.mem_singleton.1 hb]; exact hg⟩
theorem mAt.rd {e : TypeId} {size : Nat} {v : Value} {n : Nat} {xs : List Value} {w : World} (h : mAt e size v n xs w) : Rd w size v n xs := by
  rcases h with h | ⟨g, rfl, _, h1, h2, h3⟩
  · exact rd_of_owns h
  · exact ⟨_, n, rfl, h1, Nat.le_refl _, h2, fun _ => ⟨g, 0, rfl, h3⟩⟩
theorem mAt.slice {e : TypeId} {size : Nat} {v : Value} {n : Nat} {xs : List Value} {w : World} (h : mAt e size v n xs w) : ∃ A c, v = .slice A n c := by
  obtain ⟨A, c, e, _⟩ := h.rd; exact ⟨A, c, e⟩
theorem Upd.ofRow {S : List Nat} {w0 w : World} {C : List Chunk} {e : TypeId} {size : Nat} {v : Value} {n : Nat} {xs : List Value} (h : Upd S w0 (chRow e size v n xs :: C) w) : Upd S w0 (chM e size v n xs :: C) w :=
  h.say (chM e size v n xs) (.inl (h.row 0 rfl)) (fun _ hb => hb)
/-- m[:k:k]. -/
theorem Upd.cutM {S : List Nat} {w0 w : World} {C : List Chunk} {e : TypeId} {size : Nat} {A : Option Addr} {n c : Nat} {xs : List Value} (h : Upd S w0 (chM e size (.slice A n c) n xs :: C) w) (k : Nat) (hk : k ≤ n) : Upd S w0 (chM e size (.slice A k k) k (xs.take (k * size)) :: C) w := by
  refine h.say (chM e size (.slice A k k) k (xs.take (k * size))) ?_ (fun b hb => by
    cases A with
    | none => exact hb
    | some a => exact hb)
  have hP : mAt e size (.slice A n c) n xs w := h.get 0 rfl
  have hrd := hP.rd
  have hin := (chM e size (.slice A n c) n xs).inn w hP
  obtain ⟨A', c', he, hl, h2, h3, h4⟩ := hrd
  cases he
  have hlt : (xs.take (k * size)).length = k * size := by
    rw [List.length_take, hl, Nat.min_eq_left (Nat.mul_le_mul_right size hk)]
  cases A with
  | none =>
    have hn : n = 0 := by
      rcases Nat.eq_zero_or_pos n with h | h
      · exact h
      · obtain ⟨b, o, hb, _⟩ := h4 h; cases hb
    subst hn
    obtain rfl : k = 0 := by omega
    rw [Nat.zero_mul, List.take_zero]
    exact .inl (World.ownsRow_nil w 0 e size)
  | some a =>
    have hat : ∃ g, a = ⟨g, 0, none⟩ ∧ RdAt w g 0 xs := by
      rcases hP with hP | ⟨g, he, _, _, _, h5⟩
      · have hr := rd_of_owns hP
        rcases hP.2 with ⟨he, _⟩ | ⟨g, cap, cur, he, _, hh, h5, h6, h7, h8⟩
        · cases he
        · cases he
          refine ⟨g, rfl, fun j u hu => ?_⟩
          have hx : cur[j]? = some u := by
            rw [← h8, List.getElem?_take] at hu
            split at hu
            · rw [← hu, Array.getElem?_toList]
            · cases hu
          rw [Nat.zero_add]
          exact Blk.cell (show Blk w g cur e from hh) hx
      · cases he
        exact ⟨g, rfl, h5⟩
    obtain ⟨g, rfl, hr⟩ := hat
    refine .inr ⟨g, rfl, hin g (.head _), hlt, by omega, fun j u hu => ?_⟩
    refine hr j u ?_
    rw [List.getElem?_take] at hu
    split at hu
    · exact hu
    · cases hu
/-- append of what can be read onto such a list. -/
theorem wpl_append_m {P : Program} {ops : Array Oper} {rest : List Oper} {o : Oper} {a : Act} {w : World} {Q : Exit → Act → World → Prop} (hgd : o.guard = none) (s x : Operand) (t : TypeId)
    (ho : o.op = .call { callee := .builtin .append, args := #[s, x], argTypes := #[t, t] })
    (e : TypeId) (i : TypeInfo) (z : Value) (size bytes : Nat) (ht : P.underlying t = some (.slice e)) (hi : P.info? e = some i) (hz : i.zero = some z)
    (hsize : i.size = size) (hby : i.bytes = bytes) (hzs : z.cells.size = size) (hsz : 0 < size)
    (v : Value) (n : Nat) (xs : List Value) (hs : a.eval s = v) (hP : mAt e size v n xs w)
    (g2 m c : Nat) (news : List Value) (hm : 0 < m) (hx : a.eval x = .slice (some ⟨g2, 0, none⟩) m c) (hmc : m ≤ c) (hcm : c ≤ maxLen) (hl : news.length = m * size) (hr : RdAt w g2 0 news) (h1 : ∀ u ∈ news, u.oneCell' = true)
    (h63 : n + m ≤ maxLen) (hbytes : (n + m) * bytes ≤ 140737488355328)
    (h : ∀ A' c' w', Upd (chM e size v n xs).fp w [chM e size (.slice A' (n + m) c') (n + m) (xs ++ news)] w' → wpList P ops Q rest (a.put o.dst (.slice A' (n + m) c')) w') : wpList P ops Q (o :: rest) a w := by
  have ad : ∀ b o j : Nat, (⟨b, o, none⟩ : Addr).add j = ⟨b, o + j, none⟩ := fun b o j => by unfold Addr.add; split <;> simp_all
  rcases hP with hP | ⟨g, rfl, hg, hlo, hn, hat⟩
  · refine wpl_append_rd hgd s x t ho 0 e i z size bytes ht hi hz hsize hby hzs hsz v n xs hs hP (.slice (some ⟨g2, 0, none⟩) m c) m news hx ⟨_, c, rfl, hl, hmc, hcm, fun _ => ⟨g2, 0, rfl, hr⟩⟩ h1 h63 hbytes (Nat.zero_le _) fun v' w' hown hgr hv => ?_
    obtain ⟨A', c', rfl⟩ := owns_slice hown
    refine h A' c' w' ?_
    have U := (Upd.one (chRow e size v n xs) w hP).app 0 rfl hown hgr hv
    exact U.ofRow
  · refine wpList_plain hgd fun _ hK => ?_
    refine wp_append_full s x t ho e i z size bytes ht hi hz hsize hby hzs hsz g n n xs hs hlo (fun j u hu => by have := hat j u hu; rwa [Nat.zero_add] at this) g2 m c news hx hl (fun j u hu => by have := hr j u hu; rwa [Nat.zero_add] at this) (by omega) h63 hbytes fun v' w' hown hgr => ?_
    obtain ⟨A', c', rfl⟩ := owns_slice hown
    refine hK _ _ (h A' c' w' ?_)
    have U := ((Upd.nil [] w).addRow ⟨hgr.os, hgr.tape, hgr.output, hgr.size, fun k hk => hgr.block k hk (by simp)⟩ hown (Nat.le_refl _)).ofRow
    exact U.mono (fun _ h => nomatch h)
/-- An element of a row of structs. -/
theorem RdAt.el {w : World} {b o : Nat} {α : Type} {f : α → List Value} {n : Nat} {l : List α} (hn : ∀ x, (f x).length = n) (h : RdAt w b o (l.flatMap f)) (k : Nat) (x : α) (hk : l[k]? = some x) : RdAt w b (o + k * n) (f x) := by
  intro j u hu
  have hj : j < n := by
    rcases Nat.lt_or_ge j n with h | h
    · exact h
    · rw [List.getElem?_eq_none (by rw [hn]; exact h)] at hu; cases hu
  have := flat_at f n hn l k x hk j hj
  rw [hu] at this
  have h2 := h _ u this
  rw [← Nat.add_assoc] at h2
  exact h2
theorem Blk.range {w : World} {g : Nat} {cs : Array Value} {t : TypeId} (h : Blk w g cs t) (o : Nat) (vs : List Value) (hv : ∀ j u, vs[j]? = some u → cs[o + j]? = some u) : RdAt w g o vs := fun j u hu => h.cell (hv j u hu)
theorem Blk.there {w : World} {g : Nat} {cs : Array Value} {t : TypeId} (h : Blk w g cs t) (o n : Nat) (hn : o + n ≤ cs.size) : w.there g o n := fun j hj => ⟨by rw [h.cell (Array.getElem?_eq_getElem (show o + j < cs.size by omega))]; rfl, h.frozen _⟩
theorem Upd.putAll {S : List Nat} {w0 w : World} {C : List Chunk} (h : Upd S w0 C w) (i : Nat) {g : Nat} {cs : Array Value} {t : TypeId} (hi : C[i]? = some (chBlk g cs t)) (vs : List Value) (hl : vs.length = cs.size) : Upd S w0 (chBlk g vs.toArray t :: C.eraseIdx i) (w.setCells g 0 vs) := by
  have key : ∀ (vs : List Value) (o : Nat) (cs : Array Value) (w : World), Blk w g cs t → o + vs.length ≤ cs.size → ∃ cs' : Array Value, Blk (w.setCells g o vs) g cs' t ∧ cs'.toList = cs.toList.take o ++ (vs ++ cs.toList.drop (o + vs.length)) := by
    intro vs
    induction vs with
    | nil => intro o cs w hB _; exact ⟨cs, hB, by simp⟩
    | cons v r ih =>
      intro o cs w hB ho
      simp only [List.length_cons] at ho
      obtain ⟨cs', h1, h2⟩ := ih (o + 1) (cs.setIfInBounds o v) (w.setCell ⟨g, o, none⟩ v) (hB.set_ o v) (by rw [Array.size_setIfInBounds]; omega)
      refine ⟨cs', h1, ?_⟩
      have hlo : o < cs.toList.length := by rw [Array.length_toList]; omega
      have e1 : (cs.toList.set o v).take (o + 1) = cs.toList.take o ++ [v] := by
        rw [List.take_add_one, List.getElem?_set_self hlo, List.take_set_of_le (Nat.le_refl o)]; rfl
      have e2 : (cs.toList.set o v).drop (o + 1 + r.length) = cs.toList.drop (o + (r.length + 1)) := by
        rw [List.drop_set_of_lt (by omega), show o + 1 + r.length = o + (r.length + 1) by omega]
      rw [h2, Array.toList_setIfInBounds, e1, e2, List.length_cons, List.append_assoc]
      rfl
  obtain ⟨cs', h1, h2⟩ := key vs 0 cs w (h.blk i hi) (by omega)
  have e : cs' = vs.toArray := by
    apply Array.ext'
    rw [h2, List.take_zero, List.nil_append, Nat.zero_add, hl, ← Array.length_toList, List.drop_length, List.append_nil]
  rw [e] at h1
  obtain ⟨m1, m2, m3, m4, m5⟩ := setCells_mod g vs 0 w
  have : Upd (chBlk g cs t).fp w [chBlk g vs.toArray t] (w.setCells g 0 vs) :=
    ⟨m1, m2, m3, by rw [m4]; exact Nat.le_refl _, fun k _ hne => m5 k (by simpa [chBlk] using hne), fun d hd => by rw [List.mem_singleton.1 hd]; exact h1, fun d hd b hb => by rw [List.mem_singleton.1 hd] at hb; exact .inl hb, by simp⟩
  exact h.turn i hi this
end Go.Proofs.YtdmdfccadjfpiaaGreat
