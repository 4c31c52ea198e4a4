/-
  lab.Has; the reference's Has, Among, Only, Compare.
-/
import Derived.Test.YteiocplfmjkbkaaGreatDoorLRef
import Derived.Test.YteiocplfmjkbkaaGreatDoorMg3
import Derived.Deep.Draws
import Derived.Test.YteiocplfmjkbkaaGreatDoorLSet
import Derived.Test.YteiocplfmjkbkaaGreatDoorFreeS
namespace Go.Proofs.YteiocplfmjkbkaaGreatDoor
open Go.RowKit FreeSl
set_option maxRecDepth 100000
attribute [local go_sem] out

theorem amB_cons (z : ByteArray) (r : List ByteArray) (x : ByteArray) : amB (z :: r) x = if z = x then true else amB r x := by
  unfold amB
  rw [Bool.eq_iff_iff, Lib.containsS_iff]
  by_cases h : z = x
  · simp [h]
  · have h' : ¬ x = z := fun e => h e.symm
    simp [h, h', Lib.containsS_iff]
theorem amB_nil (x : ByteArray) : amB [] x = false := by
  unfold amB
  rw [Bool.eq_false_iff]
  intro h
  rw [Lib.containsS_iff] at h
  cases h
theorem refAmong (x : ByteArray) (v : Value) (keys : List ByteArray) (w : World) (hr : Rd w 1 v keys.length (keys.map Value.string)) :
    Calls Tryz.prog 32 #[.string x, v] w fun e w' => e = .returned (.bool (amB keys x)) ∧ w' = w := by
  obtain ⟨A, c, rfl, h1, h2, h3, h4⟩ := hr
  unfold maxLen at h3
  go_enter Tryz.func32, Tryz.ntmps32
  go_wp2_with fail
  go_loop [5] (fun i => ∃ k : Nat, k ≤ keys.length ∧ i = .int .i64 k ∧ amB keys x = amB (keys.drop k) x) (fun i => keys.length - (intOf i).toNat)
  case atStart => exact ⟨0, Nat.zero_le _, rfl, rfl⟩
  case round =>
    obtain ⟨k, hk, rfl, hc⟩ := hrel
    by_cases hlt : k < keys.length
    · obtain ⟨b, o, rfl, hat⟩ := h4 (by omega)
      obtain ⟨y, hy⟩ : ∃ y, keys[k]? = some y := ⟨_, List.getElem?_eq_getElem hlt⟩
      have c0 : w.cell? ⟨b, o + k, none⟩ = some (.string y) := hat k _ (by rw [List.getElem?_map, hy]; rfl)
      rw [drop_cons hy, amB_cons] at hc
      clear h4 hat hy
      by_cases he : y = x
      · have E := Lib.hid (hc.trans (if_pos he))
        have hE : (y == x) = true := by rw [beqS]; simpa using he
        have hE2 : (y.toList == x.toList) = true := by rw [eqS_eq]; simpa using he
        clear hc he
        go_wp2_with fail
        go_ret
        exact ⟨by rw [E.out]; rfl, rfl⟩
      · have E := Lib.hid (hc.trans (if_neg he))
        have hE : (y == x) = false := by rw [beqS]; simpa using he
        have hE2 : (y.toList == x.toList) = false := by rw [eqS_eq]; simpa using he
        clear hc he
        go_wp2_with fail
        go_round
        case rel => exact ⟨k + 1, by omega, by go_num, E.out⟩
        case measure => simp [intOf]; omega
    · obtain rfl : k = keys.length := by omega
      rw [List.drop_length, amB_nil] at hc
      have E := Lib.hid hc
      clear hc h4
      go_wp2_with fail
      go_ret
      exact ⟨by rw [E.out]; rfl, rfl⟩
set_option maxHeartbeats 1000000 in
theorem refOnly (v vk : Value) (are : Bool) (ps : List Pr) (keys : List ByteArray) (w : World) (hr : Rd w 2 v ps.length (pairCells ps)) (hk : Rd w 1 vk keys.length (keys.map Value.string)) (hlen : ps.length ≤ 1048576) :
    Calls Tryz.prog 16 #[v, vk, .bool are] w fun e w' => ∃ v', e = .returned v' ∧ w'.ownsRow w.heap.size 71 2 v' (onlyL ps keys are).length (pairCells (onlyL ps keys are)) ∧ Below w.heap.size w w' := by
  obtain ⟨A, c, rfl, h1, h2, h3, h4⟩ := hr
  obtain ⟨Ak, ck, rfl, _⟩ := id hk
  unfold maxLen at h3
  obtain ⟨i0, hi, hz0, hz1, hz2⟩ := info_parts infoPair
  go_enter Tryz.func16, Tryz.ntmps16
  go_wp2_with fail
  go_loopw [7, 8] (fun v i wr => ∃ k : Nat, k ≤ ps.length ∧ i = .int .i64 k ∧ wr.ownsRow w.heap.size 71 2 v (onlyL (ps.take k) keys are).length (pairCells (onlyL (ps.take k) keys are)) ∧ Below w.heap.size w wr) (fun _ i _ => ps.length - (intOf i).toNat)
  case atStart => exact ⟨0, Nat.zero_le _, rfl, World.ownsRow_nil _ _ _ _, Below.refl _ _⟩
  case round =>
    obtain ⟨k, hkk, rfl, hv, hB⟩ := hrel
    obtain ⟨n, hn⟩ : ∃ n, n = (onlyL (ps.take k) keys are).length := ⟨_, rfl⟩
    have hn2 : n ≤ 1048576 := by rw [hn]; exact Nat.le_trans (filter_len ps _ k) hlen
    rw [← hn] at hv
    have HN := Lib.hid hn
    clear hn
    obtain ⟨Av, cv, rfl⟩ := owns_slice hv
    by_cases hlt : k < ps.length
    · obtain ⟨b, o, rfl, hat⟩ := h4 (by omega)
      obtain ⟨p, hp⟩ : ∃ p, ps[k]? = some p := ⟨_, List.getElem?_eq_getElem hlt⟩
      obtain ⟨hp1, hp2⟩ := (pairCells_at ps k p hp)
      have c0 := hat.nth0 hB (k*2) _ hp1
      have c1 := hat.nth hB (k*2) 1 _ hp2
      have hstep := filter_snoc (fun p => amB keys p.1 == are) hp
      obtain ⟨p1, p2⟩ := p
      simp only at c0 c1 hstep
      have hK := refAmong p1 (.slice Ak keys.length ck) keys wr (hk.below hB)
      clear hp hp1 hp2 hat h4
      by_cases hm : amB keys p1 = are
      · rw [hm] at hK hstep
        have hstep2 : onlyL (ps.take (k + 1)) keys are = onlyL (ps.take k) keys are ++ [(p1, p2)] := by
          refine hstep.trans ?_
          simp [onlyL]
        have HS := Lib.hid hstep2
        clear hm hstep hstep2
        go_wp2_with fail
        (with_reducible refine hK.mono ?_)
        rintro e w3 ⟨rfl, rfl⟩
        have hB3 := hB
        clear hK
        go_wp2_with (at_builtin; refine wpl_stop fun W hW => ?_)
        refine Stopped.mk ?_
        have hBW : Blk W w3.heap.size #[.string p1, .string p2] 71 := by rw [hW]; exact Blk.new _ _ _
        have hbW : Below w3.heap.size w3 W := by rw [hW]; exact (Below.refl _ _).alloc (Nat.le_refl _) _
        clear hW
        have hvW := owns_below hv hbW
        have hsz2 := hB3.size
        have hnx : Rd W 2 (.slice (some ⟨w3.heap.size, 0, none⟩) 1 1) 1 (pairCells [(p1, p2)]) := ⟨_, _, rfl, rfl, Nat.le_refl _, by unfold maxLen; omega, fun _ => ⟨_, _, rfl, fun j u hj => by
          match j, hj with
          | 0, hj => simp [pairCells] at hj; subst hj; exact hBW.cell rfl
          | 1, hj => simp [pairCells] at hj; subst hj; exact hBW.cell rfl
          | j + 2, hj => simp [pairCells] at hj⟩⟩
        refine wpl_append_rd rfl (.tmp 24) (.tmp 29) 33 rfl w.heap.size 71 i0 _ 2 32 Tryz.underlying33 hi hz0 hz1 hz2 rfl (by decide) _ n _ rfl hvW _ 1 _ rfl hnx (pairCells_one _) (by unfold maxLen; omega) (by omega) (Nat.le_trans hsz2 hbW.size) fun v4 w4 hown4 hgr4 _ => ?_
        have hB4 := (hB3.trans (hbW.mono hB3.size)).grown hgr4 (Nat.le_trans hB3.size hbW.size) (fun gg hg => (hvW.lt gg hg).1)
        obtain ⟨A4, c4, rfl⟩ := owns_slice hown4
        clear hvW hnx hBW hbW hgr4
        go_wp2_with fail
        go_roundw
        case rel => exact ⟨k + 1, by omega, by go_num, by rw [HS.out, List.length_append, ← HN.out, pairCells_append]; exact hown4, hB4⟩
        case measure => simp [intOf]; omega
      · have hm2 : amB keys p1 = !are := by cases hx : amB keys p1 <;> cases are <;> simp_all
        rw [hm2] at hK hstep
        have hstep2 : onlyL (ps.take (k + 1)) keys are = onlyL (ps.take k) keys are := by
          refine hstep.trans ?_
          have : ((!are) == are) = false := by cases are <;> rfl
          simp [onlyL, this]
        have HS := Lib.hid hstep2
        have hX : ((!are) == are) = false := by cases are <;> rfl
        clear hm hm2 hstep hstep2
        cases are
        all_goals
          simp only [Bool.not_true, Bool.not_false] at hK
          clear hX
          go_wp2_with fail
          (with_reducible refine hK.mono ?_)
          rintro e w3 ⟨rfl, rfl⟩
          clear hK
          go_wp2_with fail
          go_roundw
          case rel => exact ⟨k + 1, by omega, by go_num, by rw [HS.out, ← HN.out]; exact hv, hB⟩
          case measure => simp [intOf]; omega
    · obtain rfl : k = ps.length := by omega
      have e9 : n = (onlyL ps keys are).length := by have := HN.out; rwa [List.take_length] at this
      rw [List.take_length] at hv
      have E9 := Lib.hid e9
      clear e9 h4
      go_wp2_with fail
      go_ret
      exact ⟨_, rfl, by rw [← E9.out]; exact hv, hB⟩

end Go.Proofs.YteiocplfmjkbkaaGreatDoor
