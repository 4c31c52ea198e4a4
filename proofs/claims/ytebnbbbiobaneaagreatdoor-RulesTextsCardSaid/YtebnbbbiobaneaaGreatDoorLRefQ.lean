/-
  The reference's Parse.
-/
import Derived.Test.YtebnbbbiobaneaaGreatDoorMg26
namespace Go.Proofs.YtebnbbbiobaneaaGreatDoor
open Go.RowKit FreeSl
set_option maxRecDepth 100000
attribute [local go_sem] out

theorem owns_grown {w w' : World} {base base' : Nat} {e e' : TypeId} {size size' : Nat} {v v' : Value} {n n' : Nat} {xs xs' : List Value} (h : w.ownsRow base e size v n xs) (hv : w.ownsRow base' e' size' v' n' xs') (hne : e ≠ e') (hg : w.grownBy w' v'.ownBlock) : w'.ownsRow base e size v n xs := by
  refine h.kept hg ?_
  rcases h.2 with ⟨rfl, _⟩ | ⟨g, cap, cur, rfl, _, hh, _⟩
  · exact .inl rfl
  · exact .inr (fun he => owns_ne hv (g := g) hh (Ne.symm hne) he)
theorem cutOk_index (x : ByteArray) : cutOk x = decide (0 ≤ Lib.index x.data.toList [61]) := by
  unfold cutOk Lib.cut
  by_cases h : 0 ≤ Lib.index x.data.toList [61]
  · rw [if_pos h]; simp [h]
  · rw [if_neg h]; simp [h]
theorem cutP_at {x : ByteArray} {i : Nat} (h : Lib.index x.data.toList [61] = i) : cutP x = (x.extract 0 i, x.extract (i + 1) x.size) := by
  have hl : x.data.toList.length = x.size := rfl
  unfold cutP Lib.cut
  rw [h, if_pos (by omega)]
  have e : ((i : Int)).toNat = i := by omega
  rw [e]
  refine Prod.ext (ba_inj ?_) (ba_inj ?_)
  · rw [extract_mid _ _ _ (Nat.zero_le _)]
    simp
  · rw [Lib.extract_data]
    simp only [List.length_singleton]
    exact (List.take_of_length_le (Nat.le_of_eq List.length_drop)).symm
theorem index_lt {x : List UInt8} {i : Nat} (h : Lib.index x [61] = i) : i < x.length := by
  induction x generalizing i with
  | nil => simp [Lib.index] at h
  | cons b l ih =>
    rw [index_one_cons] at h
    split at h
    · simp only [List.length_cons]; omega
    split at h
    · omega
    · have hge := Lib.index_ge l [61]
      have := ih (i := (Lib.index l [61]).toNat) (by omega)
      simp only [List.length_cons]
      omega
/-- The first sign at or behind a place; -1: none. -/
def firstAt (x : List UInt8) (k : Nat) : Int := if Lib.index (x.drop k) [61] = -1 then -1 else k + Lib.index (x.drop k) [61]
theorem firstAt_end (x : List UInt8) (k : Nat) (h : x.length ≤ k) : firstAt x k = -1 := by
  unfold firstAt
  rw [List.drop_eq_nil_of_le h]
  simp [Lib.index]
theorem firstAt_zero (x : List UInt8) : firstAt x 0 = Lib.index x [61] := by
  unfold firstAt
  rw [List.drop_zero]
  split
  · rename_i h; exact h.symm
  · simp
theorem firstAt_hit {x : List UInt8} {m : Nat} (h : x[m]? = some 61) : firstAt x m = m := by
  unfold firstAt
  rw [drop_cons h, index_one_cons, if_pos rfl, if_neg (by decide)]
  simp
theorem firstAt_miss {x : List UInt8} {m : Nat} {b : UInt8} (h : x[m]? = some b) (hb : b ≠ 61) : firstAt x m = firstAt x (m + 1) := by
  unfold firstAt
  have hge := Lib.index_ge (x.drop (m + 1)) [61]
  rw [drop_cons h, index_one_cons, if_neg hb]
  by_cases e : Lib.index (x.drop (m + 1)) [61] = -1
  · simp [e]
  · rw [if_neg e, if_neg e, if_neg (by omega)]
    omega

set_option maxHeartbeats 4000000 in
theorem refParse (s : ByteArray) (w : World) (hs : s.size ≤ maxLen) :
    Calls Tryz.prog 138 #[.string s] w fun e w' => ∃ v', e = .returned (.tuple #[v', .int .i64 ((parseC s).1 : Nat)]) ∧ w'.ownsRow w.heap.size 138 2 v' (parseC s).2.length (pairCells (parseC s).2) ∧ Below w.heap.size w w' := by
  unfold maxLen at hs
  by_cases h1 : 65536 < s.size
  · have E := Lib.hid (show parseC s = (4, []) by simp [parseC, h1])
    go_enter Tryz.func138, Tryz.ntmps138
    go_wp2_with fail
    go_ret2
    rw [E.out]
    refine ⟨.slice none 0 0, ?_, World.ownsRow_nil _ _ _ _, Below.refl _ _⟩
    rfl
  by_cases h2 : s.size = 0
  · have hse : s = ByteArray.empty := by
      cases s with
      | mk d => have : d = #[] := Array.eq_empty_of_size_eq_zero h2; subst this; rfl
    have E := Lib.hid (show parseC s = (0, []) by simp [parseC, h2])
    clear h2
    subst hse
    go_enter Tryz.func138, Tryz.ntmps138
    go_wp2_with fail
    go_ret2
    rw [E.out]
    refine ⟨.slice none 0 0, ?_, World.ownsRow_nil _ _ _ _, Below.refl _ _⟩
    rfl
  have hE1 : s.toList ≠ [] := by
    rw [Lib.toList_data]
    intro e
    exact h2 (by have := congrArg List.length e; simpa using this)
  have hE : s.toList.isEmpty = false := by simpa using hE1
  have hsp : Calls Tryz.prog 80 #[.string s, .int .u8 44] w _ := refSplit s 44 w (by omega)
  obtain ⟨i0, hi, hz0, hz1, hz2⟩ := info_parts infoPair
  have E0 : parseC s = if (parseF (partsL s) []).1 = 0 then (chkL (sortL (parseF (partsL s) []).2), makeL (parseF (partsL s) []).2) else ((parseF (partsL s) []).1, []) := by
    unfold parseC
    rw [if_neg h1, if_neg h2]
  have hsm : ∀ x ∈ partsL s, x.size ≤ 65536 := fun x hx => by have := partsL_small hx; omega
  have hpl : (partsL s).length ≤ 65537 := by have := partsL_length s; have := countB_le' s; omega
  rw [partsL_BA] at E0 hsm hpl
  obtain ⟨PS, hPS⟩ : ∃ PS, PS = splitBA 44 s := ⟨_, rfl⟩
  rw [← hPS] at hsp E0 hsm hpl
  have E := Lib.hid E0
  clear E0 hPS h2
  go_enter Tryz.func138, Tryz.ntmps138
  go_wp2_with fail
  (with_reducible refine hsp.mono ?_)
  rintro e w1 ⟨vp, rfl, hvp, hb1⟩
  obtain ⟨Ap, cp, rfl⟩ := owns_slice hvp
  clear hsp
  go_wp2_with fail
  go_loopw [5, 6] (fun v i wr => ∃ (k : Nat) (acc : List Pr), k ≤ PS.length ∧ i = .int .i64 k ∧ parseF PS [] = parseF (PS.drop k) acc ∧ acc.length ≤ 8 ∧ (∀ p ∈ acc, p.1.size ≤ 65536 ∧ p.2.size ≤ 65536) ∧ wr.ownsRow w.heap.size 138 2 v acc.length (pairCells acc) ∧
    wr.ownsRow w.heap.size 9 1 (.slice Ap PS.length cp) PS.length (PS.map Value.string) ∧ Below w.heap.size w wr) (fun _ i _ => PS.length - (intOf i).toNat)
  case atStart => exact ⟨0, [], Nat.zero_le _, rfl, rfl, by simp, by simp, World.ownsRow_nil _ _ _ _, hvp, hb1⟩
  case round =>
    obtain ⟨k, acc, hk, rfl, hpf, ha8, hasz, hv, hP, hB⟩ := hrel
    clear hvp hb1
    obtain ⟨Av, cv, rfl⟩ := owns_slice hv
    by_cases hlt : k < PS.length
    · obtain ⟨x, hx⟩ : ∃ x, PS[k]? = some x := ⟨_, List.getElem?_eq_getElem hlt⟩
      have hxs := hsm x (List.mem_of_getElem? hx)
      obtain ⟨_, _, he, _, _, _, hP4⟩ := rd_of_owns hP
      cases he
      obtain ⟨bp, op, rfl, hPat⟩ := hP4 (by omega)
      have hF0 : ∀ w', Below wr.heap.size wr w' → w'.cell? ⟨bp, op + k, none⟩ = some (.string x) := fun w' h => hPat.nth0 h k _ (by rw [List.getElem?_map, hx]; rfl)
      have c0 := hF0 wr (Below.refl _ _)
      rw [drop_cons hx] at hpf
      have hcs := cutP_small x
      clear hP4 hPat hx
      go_wp2_with fail
      go_loop [7, 8] (fun a z => ∃ (m : Nat) (za : Int), m ≤ x.size ∧ za = (m : Int) - 1 ∧ z = .int .i64 za ∧ a = .int .i64 (firstAt x.data.toList m)) (fun _ z => (intOf z + 1).toNat)
      case atStart => exact ⟨x.size, _, Nat.le_refl _, rfl, rfl, congrArg (Value.int .i64) (firstAt_end x.data.toList x.size (Nat.le_refl x.data.toList.length)).symm⟩
      case round =>
        obtain ⟨m, za, hm, hza, rfl, rfl⟩ := hrel
        cases m with
        | succ m =>
          obtain rfl : za = (m : Int) := by omega
          clear hza
          have hmx : m < x.size := by omega
          have hg : x.data.toList[m]? = some (x[m]'hmx) := by rw [List.getElem?_eq_getElem (show m < x.data.toList.length from hmx)]; rfl
          by_cases hb : (x[m]'hmx) = 61
          · have e1 := firstAt_hit (hb ▸ hg)
            have hE9 : (((x[m]'hmx).toNat : Int) == 61) = true := by rw [hb]; rfl
            have e2 := Lib.hid e1
            clear hg hb e1
            generalize firstAt x.data.toList (m + 1) = q
            go_wp2_with fail
            go_round
            case rel => exact ⟨m, _, by omega, rfl, rfl, by rw [e2.out]⟩
            case measure => simp [intOf]
          · have e1 := firstAt_miss hg hb
            have hE9 : (((x[m]'hmx).toNat : Int) == 61) = false := by
              rw [beq_eq_false_iff_ne]
              intro h
              exact hb (UInt8.toNat_inj.1 (by have : (61 : UInt8).toNat = 61 := rfl; omega))
            have e2 := Lib.hid e1
            clear hg hb e1
            generalize firstAt x.data.toList (m + 1) = q at e2 ⊢
            go_wp2_with fail
            go_round
            case rel => exact ⟨m, _, by omega, rfl, rfl, by rw [e2.out]⟩
            case measure => simp [intOf]
        | zero =>
          obtain rfl : za = -1 := by omega
          rw [firstAt_zero]
          clear hza hm
          have hge := Lib.index_ge x.data.toList [61]
          by_cases hi0 : 0 ≤ Lib.index x.data.toList [61]
          · obtain ⟨j, hj⟩ : ∃ j : Nat, Lib.index x.data.toList [61] = j := ⟨_, (Int.toNat_of_nonneg hi0).symm⟩
            have hok : cutOk x = true := by rw [cutOk_index]; simpa using hi0
            have hcp := cutP_at hj
            have hjx : j < x.size := index_lt hj
            rw [hj]
            rw [hcp] at hcs
            have hpf2 : parseF PS [] = if 8 < acc.length + 1 then (5, []) else parseF (PS.drop (k + 1)) (acc ++ [(x.extract 0 j, x.extract (j + 1) x.size)]) := by rw [hpf]; simp only [parseF, hok, if_true, hcp]
            have HPF := Lib.hid hpf2
            clear hi0 hj hge hpf hok hcp hpf2
            by_cases hl8 : acc.length = 8
            · have E2 := Lib.hid (show parseC s = (5, []) by rw [E.out, HPF.out.trans (if_pos (show 8 < acc.length + 1 by omega))]; rfl)
              have hl8' : ((acc.length : Int) == 8) = true := by simpa using by omega
              clear hv hP
              go_wp2_with fail
              go_ret2
              refine ⟨.slice none 0 0, ?_, ?_, hB⟩
              · rw [E2.out]; rfl
              · rw [E2.out]; exact World.ownsRow_nil _ _ _ _
            · have HPF2 := Lib.hid (HPF.out.trans (if_neg (by omega)))
              have hl8' : ((acc.length : Int) == 8) = false := by rw [beq_eq_false_iff_ne]; omega
              have j1 : (0 : Int) ≤ (j : Int) := by omega
              have j2 : (j : Int) ≤ (x.size : Int) := by omega
              have j3 : ((j : Int)).toNat = j := by omega
              have j4 : (0 : Int) ≤ (j : Int) + 1 := by omega
              have j5 : (j : Int) + 1 ≤ (x.size : Int) := by omega
              have j6 : ((j : Int) + 1).toNat = j + 1 := by omega
              have jw : IntKind.i64.wrap ((j : Int) + 1) = (j : Int) + 1 := IntWalk.i64_in _ (by omega)
              go_wp2_with fail
              refine region_free (fun w' => Below wr.heap.size wr w') [] [15, 16, 17] (List.range 15) (by kernel_rfl) (by kernel_rfl) (by kernel_rfl) (Below.refl _ _).drew ?_
              simp only [List.range, List.range.loop]
              repeat (first
                | (refine RelSeq.pure_ (c := ?_) rfl rfl ?_ ?_; rotate_left; (focus (intro x w'; dsimp only; go_simp; (repeat' apply And.intro) <;> first | with_reducible rfl | assumption)); simp only [Act.put, List.setIfInBounds_toArray, List.set_cons_zero, List.set_cons_succ])
                | (refine RelSeq.grow_ (c := ?_) rfl rfl ?_ ?_; rotate_left; (focus (intro x w' hw _; dsimp only; have d0 := hF0 w' hw; have hbr := Below.refl w'.heap.size w'; go_simp; (repeat' apply And.intro) <;> first | with_reducible rfl | assumption)); simp only [Act.put, List.setIfInBounds_toArray, List.set_cons_zero, List.set_cons_succ]))
              refine RelSeq.nil_ fun x2 w6 hw6 _ _ => ?_
              have hba : Below w6.heap.size w6 (w6.alloc (.cells #[.string (x.extract 0 j), .string (x.extract (j + 1) x.size)] 138)) := (Below.refl _ _).alloc (Nat.le_refl _) _
              have hBn : Blk (w6.alloc (.cells #[.string (x.extract 0 j), .string (x.extract (j + 1) x.size)] 138)) w6.heap.size #[.string (x.extract 0 j), .string (x.extract (j + 1) x.size)] 138 := Blk.new _ _ _
              have hnx : Rd (w6.alloc (.cells #[.string (x.extract 0 j), .string (x.extract (j + 1) x.size)] 138)) 2 (.slice (some ⟨w6.heap.size, 0, none⟩) 1 1) 1 (pairCells [(x.extract 0 j, x.extract (j + 1) x.size)]) := ⟨_, _, rfl, rfl, Nat.le_refl _, by unfold maxLen; omega, fun _ => ⟨_, _, rfl, fun j u hj => by
                match j, hj with
                | 0, hj => simp [pairCells] at hj; subst hj; exact hBn.cell rfl
                | 1, hj => simp [pairCells] at hj; subst hj; exact hBn.cell rfl
                | j + 2, hj => simp [pairCells] at hj⟩⟩
              have hbW := hw6.trans (hba.mono hw6.size)
              have hvW := owns_below hv hbW
              have hPW := owns_below hP hbW
              refine TailSeq.cons_ rfl ?_
              go_simp
              generalize w6.alloc (.cells #[.string (x.extract 0 j), .string (x.extract (j + 1) x.size)] 138) = W at hba hBn hnx hbW hvW hPW ⊢
              refine TailSeq.cons_ rfl ?_
              refine wp_append_rd (.tmp 45) (.tmp 60) 33 rfl w.heap.size 138 i0 _ 2 32 Tryz.underlying33 hi hz0 hz1 hz2 rfl (by decide) _ acc.length _ rfl hvW _ 1 _ rfl hnx (pairCells_one _) (by unfold maxLen; omega) (by omega) (Nat.le_trans hB.size hbW.size) fun v7 w7 hown7 hgr7 _ => ?_
              have hP7 := owns_grown hPW hvW (by decide) hgr7
              have hB7 := (hB.trans (hbW.mono hB.size)).grown hgr7 (Nat.le_trans hB.size hbW.size) (fun gg hg => (hvW.lt gg hg).1)
              obtain ⟨A7, c7, rfl⟩ := owns_slice hown7
              clear hvW hPW hnx hbW hgr7 hBn hba
              refine ⟨rfl, ?_⟩
              refine TailSeq.cons_ rfl ?_
              go_simp
              refine TailSeq.nil_ ?_
              go_wp2_with fail
              go_roundw
              case rel =>
                refine ⟨k + 1, acc ++ [(x.extract 0 j, x.extract (j + 1) x.size)], by omega, by go_num, HPF2.out, by simp; omega, fun p hp => ?_, ?_, hP7, hB7⟩
                · rcases List.mem_append.1 hp with h | h
                  · exact hasz p h
                  · obtain rfl := List.mem_singleton.1 h
                    exact ⟨Nat.le_trans hcs.1 hxs, Nat.le_trans hcs.2 hxs⟩
                · rw [List.length_append, pairCells_append]; exact hown7
              case measure => simp [intOf]; omega
          · have hi1 : Lib.index x.data.toList [61] = -1 := by omega
            have hok : cutOk x = false := by rw [cutOk_index]; simpa using by omega
            rw [hi1]
            have E2 := Lib.hid (show parseC s = (2, []) by rw [E.out, hpf]; simp [parseF, hok])
            clear hi0 hi1 hge hpf hok hv hP
            go_wp2_with fail
            go_ret2
            refine ⟨.slice none 0 0, ?_, ?_, hB⟩
            · rw [E2.out]; rfl
            · rw [E2.out]; exact World.ownsRow_nil _ _ _ _
    · obtain rfl : k = PS.length := by omega
      rw [List.drop_length] at hpf
      have hpf2 : parseF PS [] = (0, acc) := hpf
      have E2 := Lib.hid (show parseC s = (chkL (sortL acc), makeL acc) by rw [E.out, hpf2]; rfl)
      have hM := refMake (.slice Av acc.length cv) acc wr (rd_of_owns hv) (fun p hp => by have := hasz p hp; unfold maxLen; omega) (by omega)
      clear hpf hpf2 hP
      go_wp2_with fail
      (with_reducible refine hM.mono ?_)
      rintro e w2 ⟨v2, rfl, hv2, hb2⟩
      have hB2 := hB.trans (hb2.mono hB.size)
      have hv3 := owns_mono hv2 hB.size
      obtain ⟨A2, c2, rfl⟩ := owns_slice hv2
      clear hM hv2 hv hB hb2
      go_wp2_with fail
      go_ret2
      exact ⟨_, by rw [E2.out]; rfl, by rw [E2.out]; exact hv3, hB2⟩
end Go.Proofs.YtebnbbbiobaneaaGreatDoor
