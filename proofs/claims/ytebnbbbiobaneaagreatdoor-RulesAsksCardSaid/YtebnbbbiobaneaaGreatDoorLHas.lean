/-
  lab.Has; the reference's Has, Among, Only, Compare.
-/
import Derived.Test.YtebnbbbiobaneaaGreatDoorLCm
import Derived.Test.YtebnbbbiobaneaaGreatDoorLSet
import Derived.Test.YtebnbbbiobaneaaGreatDoorFreeS
namespace Go.Proofs.YtebnbbbiobaneaaGreatDoor
open Go.RowKit FreeSl
set_option maxRecDepth 100000
attribute [local go_sem] out

/-- Has one all of another one? -/
def hasL (l : List Pr) : List Pr → Bool
  | [] => true
  | p :: r => if (getL l p.1).2 = true then (if (getL l p.1).1 = p.2 then hasL l r else false) else false

set_option maxHeartbeats 1000000 in
theorem lHas (v2 v1 : Value) (l ps : List Pr) (w : World) (h2 : Rd w 2 v2 l.length (pairCells l)) (h1 : Rd w 2 v1 ps.length (pairCells ps)) :
    Calls Tryz.prog 70 #[v2, v1] w fun e w' => e = .returned (.bool (hasL l ps)) ∧ Below w.heap.size w w' := by
  have h20 := h2
  obtain ⟨A1, c1, rfl, l1, n1, m1, r1⟩ := h1
  obtain ⟨A2, c2, rfl, l2, n2, m2, r2⟩ := h2
  unfold maxLen at m1 m2
  go_enter Tryz.func70, Tryz.ntmps70
  go_wp2_with fail
  go_loopw [11] (fun i wr => ∃ k : Nat, k ≤ ps.length ∧ i = .int .i64 k ∧ hasL l ps = hasL l (ps.drop k) ∧ Below w.heap.size w wr) (fun i _ => ps.length - (intOf i).toNat)
  case atStart => exact ⟨0, Nat.zero_le _, rfl, rfl, Below.refl _ _⟩
  case round =>
    obtain ⟨k, hk, rfl, hc, hb⟩ := hrel
    by_cases hlt : k < ps.length
    · obtain ⟨b, o, rfl, hat⟩ := r1 (by omega)
      obtain ⟨p, hp⟩ : ∃ p, ps[k]? = some p := ⟨_, List.getElem?_eq_getElem hlt⟩
      obtain ⟨hp1, hp2⟩ := pairCells_at ps k p hp
      have c0 := hat.nth0 hb (k*2) _ hp1
      have d0 := hat.nth hb (k*2) 1 _ hp2
      rw [drop_cons hp] at hc
      obtain ⟨p1, p2⟩ := p
      simp only at c0 d0
      have hK := fun w' (h : Below wr.heap.size wr w') => lGet (.slice A2 l.length c2) l p1 w' (h20.below (hb.trans (h.mono hb.size)))
      clear r1 hp hp1 hp2 hat
      generalize hgg : getL l p1 = gg at hK
      obtain ⟨g1, g2⟩ := gg
      simp only at hK
      cases g2 with
      | false =>
          have E := Lib.hid (hc.trans (by simp [hasL, hgg] : hasL l ((p1, p2) :: _) = false))
          clear hc hgg
          go_wp2_with fail
          refine calls_genP fun w2 hw2 => ?_
          have hb2 : Below wr.heap.size wr w2 := by rw [hw2]; exact (Below.refl _ _).alloc (Nat.le_refl _) _
          have hB2 : Blk w2 wr.heap.size #[.string p1, .string p2] 138 := by rw [hw2]; exact Blk.new _ _ _
          clear hw2
          (with_reducible refine (hK w2 hb2).mono ?_)
          rintro e w3 ⟨rfl, hb3⟩
          have e1 : w3.cell? ⟨wr.heap.size, 1, none⟩ = some (.string p2) := (hB2.below hb3 hB2.lt).cell rfl
          have hB3 := hb.trans ((hb2.trans (hb3.mono hb2.size)).mono hb.size)
          clear hb2 hb3 hB2
          clear hK
          go_wp2_with fail
          go_ret
          exact ⟨by rw [E.out]; rfl, hB3⟩
      | true =>
        by_cases he : g1 = p2
        · have E := Lib.hid (hc.trans (by simp [hasL, hgg, he] : hasL l ((p1, p2) :: ps.drop (k + 1)) = hasL l (ps.drop (k + 1))))
          have hE : (g1 == p2) = true := by rw [beqS]; simpa using he
          have hE2 : (g1.toList == p2.toList) = true := by rw [eqS_eq]; simpa using he
          have hN : (g1 != p2) = false := by rw [bne, hE]; rfl
          clear hc hgg he
          go_wp2_with fail
          refine calls_genP fun w2 hw2 => ?_
          have hb2 : Below wr.heap.size wr w2 := by rw [hw2]; exact (Below.refl _ _).alloc (Nat.le_refl _) _
          have hB2 : Blk w2 wr.heap.size #[.string p1, .string p2] 138 := by rw [hw2]; exact Blk.new _ _ _
          clear hw2
          (with_reducible refine (hK w2 hb2).mono ?_)
          rintro e w3 ⟨rfl, hb3⟩
          have e1 : w3.cell? ⟨wr.heap.size, 1, none⟩ = some (.string p2) := (hB2.below hb3 hB2.lt).cell rfl
          have hB3 := hb.trans ((hb2.trans (hb3.mono hb2.size)).mono hb.size)
          clear hb2 hb3 hB2
          clear hK
          go_wp2_with fail
          go_roundw
          case rel => exact ⟨k + 1, by omega, by go_num, E.out, hB3⟩
          case measure => simp [intOf]; omega
        · have E := Lib.hid (hc.trans (by simp [hasL, hgg, he] : hasL l ((p1, p2) :: ps.drop (k + 1)) = false))
          have hE : (g1 == p2) = false := by rw [beqS]; simpa using he
          have hE2 : (g1.toList == p2.toList) = false := by rw [eqS_eq]; simpa using he
          have hN : (g1 != p2) = true := by rw [bne, hE]; rfl
          clear hc hgg he
          go_wp2_with fail
          refine calls_genP fun w2 hw2 => ?_
          have hb2 : Below wr.heap.size wr w2 := by rw [hw2]; exact (Below.refl _ _).alloc (Nat.le_refl _) _
          have hB2 : Blk w2 wr.heap.size #[.string p1, .string p2] 138 := by rw [hw2]; exact Blk.new _ _ _
          clear hw2
          (with_reducible refine (hK w2 hb2).mono ?_)
          rintro e w3 ⟨rfl, hb3⟩
          have e1 : w3.cell? ⟨wr.heap.size, 1, none⟩ = some (.string p2) := (hB2.below hb3 hB2.lt).cell rfl
          have hB3 := hb.trans ((hb2.trans (hb3.mono hb2.size)).mono hb.size)
          clear hb2 hb3 hB2
          clear hK
          go_wp2_with fail
          go_ret
          exact ⟨by rw [E.out]; rfl, hB3⟩
    · obtain rfl : k = ps.length := by omega
      rw [List.drop_length] at hc
      have E := Lib.hid (hc.trans (rfl : hasL l [] = true))
      clear hc r1
      go_wp2_with fail
      go_ret
      exact ⟨by rw [E.out]; rfl, hb⟩

set_option maxHeartbeats 1000000 in
theorem refHas (v2 v1 : Value) (l ps : List Pr) (w : World) (h2 : Rd w 2 v2 l.length (pairCells l)) (h1 : Rd w 2 v1 ps.length (pairCells ps)) :
    Calls Tryz.prog 30 #[v2, v1] w fun e w' => e = .returned (.bool (hasL l ps)) ∧ Below w.heap.size w w' := by
  have h20 := h2
  obtain ⟨A1, c1, rfl, l1, n1, m1, r1⟩ := h1
  obtain ⟨A2, c2, rfl, l2, n2, m2, r2⟩ := h2
  unfold maxLen at m1 m2
  go_enter Tryz.func30, Tryz.ntmps30
  go_wp2_with fail
  go_loopw [5] (fun i wr => ∃ k : Nat, k ≤ ps.length ∧ i = .int .i64 k ∧ hasL l ps = hasL l (ps.drop k) ∧ Below w.heap.size w wr) (fun i _ => ps.length - (intOf i).toNat)
  case atStart => exact ⟨0, Nat.zero_le _, rfl, rfl, Below.refl _ _⟩
  case round =>
    obtain ⟨k, hk, rfl, hc, hb⟩ := hrel
    by_cases hlt : k < ps.length
    · obtain ⟨b, o, rfl, hat⟩ := r1 (by omega)
      obtain ⟨p, hp⟩ : ∃ p, ps[k]? = some p := ⟨_, List.getElem?_eq_getElem hlt⟩
      obtain ⟨hp1, hp2⟩ := pairCells_at ps k p hp
      have c0 := hat.nth0 hb (k*2) _ hp1
      have d0 := hat.nth hb (k*2) 1 _ hp2
      rw [drop_cons hp] at hc
      obtain ⟨p1, p2⟩ := p
      simp only at c0 d0
      have hK := fun w' (h : Below wr.heap.size wr w') => refGet (.slice A2 l.length c2) l p1 w' (h20.below (hb.trans (h.mono hb.size)))
      clear r1 hp hp1 hp2 hat
      generalize hgg : getL l p1 = gg at hK
      obtain ⟨g1, g2⟩ := gg
      simp only at hK
      cases g2 with
      | false =>
          have E := Lib.hid (hc.trans (by simp [hasL, hgg] : hasL l ((p1, p2) :: _) = false))
          clear hc hgg
          go_wp2_with fail
          (with_reducible refine (hK wr (Below.refl _ _)).mono ?_)
          rintro e w3 ⟨rfl, rfl⟩
          have hB3 := hb
          clear hK
          go_wp2_with fail
          go_ret
          exact ⟨by rw [E.out]; rfl, hB3⟩
      | true =>
        by_cases he : g1 = p2
        · have E := Lib.hid (hc.trans (by simp [hasL, hgg, he] : hasL l ((p1, p2) :: ps.drop (k + 1)) = hasL l (ps.drop (k + 1))))
          have hE : (g1 == p2) = true := by rw [beqS]; simpa using he
          have hE2 : (g1.toList == p2.toList) = true := by rw [eqS_eq]; simpa using he
          have hN : (g1 != p2) = false := by rw [bne, hE]; rfl
          clear hc hgg he
          go_wp2_with fail
          (with_reducible refine (hK wr (Below.refl _ _)).mono ?_)
          rintro e w3 ⟨rfl, rfl⟩
          have hB3 := hb
          clear hK
          go_wp2_with fail
          go_roundw
          case rel => exact ⟨k + 1, by omega, by go_num, E.out, hB3⟩
          case measure => simp [intOf]; omega
        · have E := Lib.hid (hc.trans (by simp [hasL, hgg, he] : hasL l ((p1, p2) :: ps.drop (k + 1)) = false))
          have hE : (g1 == p2) = false := by rw [beqS]; simpa using he
          have hE2 : (g1.toList == p2.toList) = false := by rw [eqS_eq]; simpa using he
          have hN : (g1 != p2) = true := by rw [bne, hE]; rfl
          clear hc hgg he
          go_wp2_with fail
          (with_reducible refine (hK wr (Below.refl _ _)).mono ?_)
          rintro e w3 ⟨rfl, rfl⟩
          have hB3 := hb
          clear hK
          go_wp2_with fail
          go_ret
          exact ⟨by rw [E.out]; rfl, hB3⟩
    · obtain rfl : k = ps.length := by omega
      rw [List.drop_length] at hc
      have E := Lib.hid (hc.trans (rfl : hasL l [] = true))
      clear hc r1
      go_wp2_with fail
      go_ret
      exact ⟨by rw [E.out]; rfl, hb⟩

theorem amB_cons (z : ByteArray) (r : List ByteArray) (x : ByteArray) : amB (z :: r) x = if z = x then true else amB r x := by
  unfold amB
  rw [Bool.eq_iff_iff, Lib.containsS_iff]
  by_cases h : z = x
  · simp [h]
  · have h' : ¬ x = z := fun e => h e.symm
    simp [h, h', Lib.containsS_iff]
theorem amB_nil (x : ByteArray) : amB [] x = false := by
  unfold amB
  rw [Bool.eq_false_iff]
  intro h
  rw [Lib.containsS_iff] at h
  cases h
theorem refAmong (x : ByteArray) (v : Value) (keys : List ByteArray) (w : World) (hr : Rd w 1 v keys.length (keys.map Value.string)) :
    Calls Tryz.prog 64 #[.string x, v] w fun e w' => e = .returned (.bool (amB keys x)) ∧ w' = w := by
  obtain ⟨A, c, rfl, h1, h2, h3, h4⟩ := hr
  unfold maxLen at h3
  go_enter Tryz.func64, Tryz.ntmps64
  go_wp2_with fail
  go_loop [5] (fun i => ∃ k : Nat, k ≤ keys.length ∧ i = .int .i64 k ∧ amB keys x = amB (keys.drop k) x) (fun i => keys.length - (intOf i).toNat)
  case atStart => exact ⟨0, Nat.zero_le _, rfl, rfl⟩
  case round =>
    obtain ⟨k, hk, rfl, hc⟩ := hrel
    by_cases hlt : k < keys.length
    · obtain ⟨b, o, rfl, hat⟩ := h4 (by omega)
      obtain ⟨y, hy⟩ : ∃ y, keys[k]? = some y := ⟨_, List.getElem?_eq_getElem hlt⟩
      have c0 : w.cell? ⟨b, o + k, none⟩ = some (.string y) := hat k _ (by rw [List.getElem?_map, hy]; rfl)
      rw [drop_cons hy, amB_cons] at hc
      clear h4 hat hy
      by_cases he : y = x
      · have E := Lib.hid (hc.trans (if_pos he))
        have hE : (y == x) = true := by rw [beqS]; simpa using he
        have hE2 : (y.toList == x.toList) = true := by rw [eqS_eq]; simpa using he
        clear hc he
        go_wp2_with fail
        go_ret
        exact ⟨by rw [E.out]; rfl, rfl⟩
      · have E := Lib.hid (hc.trans (if_neg he))
        have hE : (y == x) = false := by rw [beqS]; simpa using he
        have hE2 : (y.toList == x.toList) = false := by rw [eqS_eq]; simpa using he
        clear hc he
        go_wp2_with fail
        go_round
        case rel => exact ⟨k + 1, by omega, by go_num, E.out⟩
        case measure => simp [intOf]; omega
    · obtain rfl : k = keys.length := by omega
      rw [List.drop_length, amB_nil] at hc
      have E := Lib.hid hc
      clear hc h4
      go_wp2_with fail
      go_ret
      exact ⟨by rw [E.out]; rfl, rfl⟩
set_option maxHeartbeats 1000000 in
theorem refOnly (v vk : Value) (are : Bool) (ps : List Pr) (keys : List ByteArray) (w : World) (hr : Rd w 2 v ps.length (pairCells ps)) (hk : Rd w 1 vk keys.length (keys.map Value.string)) (hlen : ps.length ≤ 1048576) :
    Calls Tryz.prog 22 #[v, vk, .bool are] w fun e w' => ∃ v', e = .returned v' ∧ w'.ownsRow w.heap.size 138 2 v' (onlyL ps keys are).length (pairCells (onlyL ps keys are)) ∧ Below w.heap.size w w' := by
  obtain ⟨A, c, rfl, h1, h2, h3, h4⟩ := hr
  obtain ⟨Ak, ck, rfl, _⟩ := id hk
  unfold maxLen at h3
  obtain ⟨i0, hi, hz0, hz1, hz2⟩ := info_parts infoPair
  go_enter Tryz.func22, Tryz.ntmps22
  go_wp2_with fail
  go_loopw [7, 8] (fun v i wr => ∃ k : Nat, k ≤ ps.length ∧ i = .int .i64 k ∧ wr.ownsRow w.heap.size 138 2 v (onlyL (ps.take k) keys are).length (pairCells (onlyL (ps.take k) keys are)) ∧ Below w.heap.size w wr) (fun _ i _ => ps.length - (intOf i).toNat)
  case atStart => exact ⟨0, Nat.zero_le _, rfl, World.ownsRow_nil _ _ _ _, Below.refl _ _⟩
  case round =>
    obtain ⟨k, hkk, rfl, hv, hB⟩ := hrel
    obtain ⟨n, hn⟩ : ∃ n, n = (onlyL (ps.take k) keys are).length := ⟨_, rfl⟩
    have hn2 : n ≤ 1048576 := by rw [hn]; exact Nat.le_trans (filter_len ps _ k) hlen
    rw [← hn] at hv
    have HN := Lib.hid hn
    clear hn
    obtain ⟨Av, cv, rfl⟩ := owns_slice hv
    by_cases hlt : k < ps.length
    · obtain ⟨b, o, rfl, hat⟩ := h4 (by omega)
      obtain ⟨p, hp⟩ : ∃ p, ps[k]? = some p := ⟨_, List.getElem?_eq_getElem hlt⟩
      obtain ⟨hp1, hp2⟩ := (pairCells_at ps k p hp)
      have c0 := hat.nth0 hB (k*2) _ hp1
      have c1 := hat.nth hB (k*2) 1 _ hp2
      have hstep := filter_snoc (fun p => amB keys p.1 == are) hp
      obtain ⟨p1, p2⟩ := p
      simp only at c0 c1 hstep
      have hK := refAmong p1 (.slice Ak keys.length ck) keys wr (hk.below hB)
      clear hp hp1 hp2 hat h4
      by_cases hm : amB keys p1 = are
      · rw [hm] at hK hstep
        have hstep2 : onlyL (ps.take (k + 1)) keys are = onlyL (ps.take k) keys are ++ [(p1, p2)] := by
          refine hstep.trans ?_
          simp [onlyL]
        have HS := Lib.hid hstep2
        clear hm hstep hstep2
        go_wp2_with fail
        (with_reducible refine hK.mono ?_)
        rintro e w3 ⟨rfl, rfl⟩
        have hB3 := hB
        clear hK
        go_wp2_with (at_builtin; refine wpl_stop fun W hW => ?_)
        refine Stopped.mk ?_
        have hBW : Blk W w3.heap.size #[.string p1, .string p2] 138 := by rw [hW]; exact Blk.new _ _ _
        have hbW : Below w3.heap.size w3 W := by rw [hW]; exact (Below.refl _ _).alloc (Nat.le_refl _) _
        clear hW
        have hvW := owns_below hv hbW
        have hsz2 := hB3.size
        have hnx : Rd W 2 (.slice (some ⟨w3.heap.size, 0, none⟩) 1 1) 1 (pairCells [(p1, p2)]) := ⟨_, _, rfl, rfl, Nat.le_refl _, by unfold maxLen; omega, fun _ => ⟨_, _, rfl, fun j u hj => by
          match j, hj with
          | 0, hj => simp [pairCells] at hj; subst hj; exact hBW.cell rfl
          | 1, hj => simp [pairCells] at hj; subst hj; exact hBW.cell rfl
          | j + 2, hj => simp [pairCells] at hj⟩⟩
        refine wpl_append_rd rfl (.tmp 24) (.tmp 29) 33 rfl w.heap.size 138 i0 _ 2 32 Tryz.underlying33 hi hz0 hz1 hz2 rfl (by decide) _ n _ rfl hvW _ 1 _ rfl hnx (pairCells_one _) (by unfold maxLen; omega) (by omega) (Nat.le_trans hsz2 hbW.size) fun v4 w4 hown4 hgr4 _ => ?_
        have hB4 := (hB3.trans (hbW.mono hB3.size)).grown hgr4 (Nat.le_trans hB3.size hbW.size) (fun gg hg => (hvW.lt gg hg).1)
        obtain ⟨A4, c4, rfl⟩ := owns_slice hown4
        clear hvW hnx hBW hbW hgr4
        go_wp2_with fail
        go_roundw
        case rel => exact ⟨k + 1, by omega, by go_num, by rw [HS.out, List.length_append, ← HN.out, pairCells_append]; exact hown4, hB4⟩
        case measure => simp [intOf]; omega
      · have hm2 : amB keys p1 = !are := by cases hx : amB keys p1 <;> cases are <;> simp_all
        rw [hm2] at hK hstep
        have hstep2 : onlyL (ps.take (k + 1)) keys are = onlyL (ps.take k) keys are := by
          refine hstep.trans ?_
          have : ((!are) == are) = false := by cases are <;> rfl
          simp [onlyL, this]
        have HS := Lib.hid hstep2
        have hX : ((!are) == are) = false := by cases are <;> rfl
        clear hm hm2 hstep hstep2
        cases are
        all_goals
          simp only [Bool.not_true, Bool.not_false] at hK
          clear hX
          go_wp2_with fail
          (with_reducible refine hK.mono ?_)
          rintro e w3 ⟨rfl, rfl⟩
          clear hK
          go_wp2_with fail
          go_roundw
          case rel => exact ⟨k + 1, by omega, by go_num, by rw [HS.out, ← HN.out]; exact hv, hB⟩
          case measure => simp [intOf]; omega
    · obtain rfl : k = ps.length := by omega
      have e9 : n = (onlyL ps keys are).length := by have := HN.out; rwa [List.take_length] at this
      rw [List.take_length] at hv
      have E9 := Lib.hid e9
      clear e9 h4
      go_wp2_with fail
      go_ret
      exact ⟨_, rfl, by rw [← E9.out]; exact hv, hB⟩

theorem cmpLL_nil_r (ps : List Pr) : cmpLL ps [] = if 0 < ps.length then 1 else 0 := by
  cases ps <;> simp [cmpLL]
end Go.Proofs.YtebnbbbiobaneaaGreatDoor
