/-
  slices.Contains of texts; lab.Only, lab.Without; the reference's Among, Only.
-/
import Derived.Test.YteiocplfmjkbkaaGreatDoorLRef
import Derived.Test.YteiocplfmjkbkaaGreatDoorMg6
namespace Go.Proofs.YteiocplfmjkbkaaGreatDoor
open Go.RowKit
set_option maxRecDepth 100000

def amB (keys : List ByteArray) (k : ByteArray) : Bool := Lib.containsS keys k
def onlyL (ps : List Pr) (keys : List ByteArray) (are : Bool) : List Pr := ps.filter fun p => amB keys p.1 == are
theorem contains_any (v : Value) (keys : List ByteArray) (x : ByteArray) (w : World) (hr : Rd w 1 v keys.length (keys.map Value.string)) :
    Calls Tryz.prog 51 #[v, .string x] w fun e w' => e = .returned (.bool (amB keys x)) ∧ w' = w := by
  obtain ⟨A, c, rfl, h1, h2, h3, h4⟩ := hr
  unfold maxLen at h3
  rcases Nat.eq_zero_or_pos keys.length with h0 | h0
  · have hk : keys = [] := List.eq_nil_of_length_eq_zero h0
    subst hk
    show Calls Tryz.prog 51 #[.slice A 0 c, .string x] w _
    exact (Tryz.slices_Contains_string_empty A c x w).mono fun e w' ⟨h, hw⟩ => ⟨h, hw⟩
  · obtain ⟨b, o, rfl, hat⟩ := h4 h0
    refine (Tryz.slices_Contains_string b o keys.length c keys x w (Nat.le_refl _) (by omega) (fun j hj => ?_)).mono ?_
    · refine hat j _ ?_
      rw [List.getElem?_map, List.getElem?_eq_getElem hj, List.getD_eq_getElem?_getD, List.getElem?_eq_getElem hj]
      rfl
    · rintro e w' ⟨rfl, rfl⟩
      rw [List.take_length]
      exact ⟨rfl, rfl⟩
theorem filter_snoc {ps : List Pr} {k : Nat} {p : Pr} (f : Pr → Bool) (hp : ps[k]? = some p) : (ps.take (k + 1)).filter f = (ps.take k).filter f ++ (if f p = true then [p] else []) := by
  rw [List.take_add_one, hp]
  simp only [Option.toList_some, List.filter_append, List.filter_cons, List.filter_nil]
theorem filter_len (ps : List Pr) (f : Pr → Bool) (k : Nat) : ((ps.take k).filter f).length ≤ ps.length := Nat.le_trans (List.length_filter_le _ _) (by rw [List.length_take]; omega)

set_option maxHeartbeats 1000000 in
theorem lOnly (v vk : Value) (ps : List Pr) (keys : List ByteArray) (w : World) (hr : Rd w 2 v ps.length (pairCells ps)) (hk : Rd w 1 vk keys.length (keys.map Value.string)) (hlen : ps.length ≤ 1048576) :
    Calls Tryz.prog 31 #[v, vk] w fun e w' => ∃ v', e = .returned v' ∧ w'.ownsRow w.heap.size 71 2 v' (onlyL ps keys true).length (pairCells (onlyL ps keys true)) ∧ Below w.heap.size w w' := by
  obtain ⟨A, c, rfl, h1, h2, h3, h4⟩ := hr
  obtain ⟨Ak, ck, rfl, _⟩ := id hk
  unfold maxLen at h3
  obtain ⟨i0, hi, hz0, hz1, hz2⟩ := info_parts infoPair
  go_enter Tryz.func31, Tryz.ntmps31
  go_wp2_with fail
  go_loopw [5, 10] (fun v i wr => ∃ k : Nat, k ≤ ps.length ∧ i = .int .i64 k ∧ wr.ownsRow w.heap.size 71 2 v (onlyL (ps.take k) keys true).length (pairCells (onlyL (ps.take k) keys true)) ∧ Below w.heap.size w wr) (fun _ i _ => ps.length - (intOf i).toNat)
  case atStart => exact ⟨0, Nat.zero_le _, rfl, World.ownsRow_nil _ _ _ _, Below.refl _ _⟩
  case round =>
    obtain ⟨k, hkk, rfl, hv, hB⟩ := hrel
    obtain ⟨n, hn⟩ : ∃ n, n = (onlyL (ps.take k) keys true).length := ⟨_, rfl⟩
    have hn2 : n ≤ 1048576 := by rw [hn]; exact Nat.le_trans (filter_len ps _ k) hlen
    rw [← hn] at hv
    have HN := Lib.hid hn
    clear hn
    obtain ⟨Av, cv, rfl⟩ := owns_slice hv
    by_cases hlt : k < ps.length
    · obtain ⟨b, o, rfl, hat⟩ := h4 (by omega)
      obtain ⟨p, hp⟩ : ∃ p, ps[k]? = some p := ⟨_, List.getElem?_eq_getElem hlt⟩
      obtain ⟨hp1, hp2⟩ := (pairCells_at ps k p hp)
      have c0 := hat.nth0 hB (k*2) _ hp1
      have c1 := hat.nth hB (k*2) 1 _ hp2
      have hstep := filter_snoc (fun p => amB keys p.1 == true) hp
      obtain ⟨p1, p2⟩ := p
      simp only at c0 c1 hstep
      have hK := fun w' h => contains_any (.slice Ak keys.length ck) keys p1 w' (hk.below (hB.trans h))
      clear hp hp1 hp2 hat h4
      cases hm : amB keys p1 with
      | true =>
        rw [hm] at hK hstep
        have hstep2 : onlyL (ps.take (k + 1)) keys true = onlyL (ps.take k) keys true ++ [(p1, p2)] := hstep
        have HS := Lib.hid hstep2
        clear hm hstep hstep2
        go_wp2_with fail
        refine calls_genP fun w2 hw2 => ?_
        have hb2 : Below wr.heap.size wr w2 := by rw [hw2]; exact (Below.refl _ _).alloc (Nat.le_refl _) _
        have hB2 : Blk w2 wr.heap.size #[.string p1, .string p2] 71 := by rw [hw2]; exact Blk.new _ _ _
        clear hw2
        (with_reducible refine (hK w2 (hb2.mono hB.size)).mono ?_)
        rintro e w3 ⟨rfl, rfl⟩
        have hv2 := owns_below hv hb2
        have hB3 := hB.trans (hb2.mono hB.size)
        have e0 : w3.cell? ⟨wr.heap.size, 0, none⟩ = some (.string p1) := hB2.cell rfl
        have e1 : w3.cell? ⟨wr.heap.size, 1, none⟩ = some (.string p2) := hB2.cell rfl
        clear hK hv hB c0 c1
        go_wp2_with (at_builtin; refine wpl_stop fun W hW => ?_)
        refine Stopped.mk ?_
        have hBW : Blk W w3.heap.size #[.string p1, .string p2] 71 := by rw [hW]; exact Blk.new _ _ _
        have hbW : Below w3.heap.size w3 W := by rw [hW]; exact (Below.refl _ _).alloc (Nat.le_refl _) _
        clear hW e0 e1
        have hvW := owns_below hv2 hbW
        have hsz2 := hB3.size
        have hnx : Rd W 2 (.slice (some ⟨w3.heap.size, 0, none⟩) 1 1) 1 (pairCells [(p1, p2)]) := ⟨_, _, rfl, rfl, Nat.le_refl _, by unfold maxLen; omega, fun _ => ⟨_, _, rfl, fun j u hj => by
          match j, hj with
          | 0, hj => simp [pairCells] at hj; subst hj; exact hBW.cell rfl
          | 1, hj => simp [pairCells] at hj; subst hj; exact hBW.cell rfl
          | j + 2, hj => simp [pairCells] at hj⟩⟩
        refine wpl_append_rd rfl (.tmp 18) (.tmp 20) 33 rfl w.heap.size 71 i0 _ 2 32 Tryz.underlying33 hi hz0 hz1 hz2 rfl (by decide) _ n _ rfl hvW _ 1 _ rfl hnx (pairCells_one _) (by unfold maxLen; omega) (by omega) (Nat.le_trans hsz2 hbW.size) fun v4 w4 hown4 hgr4 _ => ?_
        have hB4 := (hB3.trans (hbW.mono hB3.size)).grown hgr4 (Nat.le_trans hB3.size hbW.size) (fun gg hg => (hvW.lt gg hg).1)
        obtain ⟨A4, c4, rfl⟩ := owns_slice hown4
        clear hv2 hvW hnx hBW hbW hgr4 hB3 hB2 hb2
        go_wp2_with fail
        go_roundw
        case rel => exact ⟨k + 1, by omega, by go_num, by rw [HS.out, List.length_append, ← HN.out, pairCells_append]; exact hown4, hB4⟩
        case measure => simp [intOf]; omega
      | false =>
        rw [hm] at hK hstep
        have hstep2 : onlyL (ps.take (k + 1)) keys true = onlyL (ps.take k) keys true := by
          refine Eq.trans hstep ?_
          exact List.append_nil _
        have HS := Lib.hid hstep2
        clear hm hstep hstep2
        go_wp2_with fail
        refine calls_genP fun w2 hw2 => ?_
        have hb2 : Below wr.heap.size wr w2 := by rw [hw2]; exact (Below.refl _ _).alloc (Nat.le_refl _) _
        clear hw2
        (with_reducible refine (hK w2 (hb2.mono hB.size)).mono ?_)
        rintro e w3 ⟨rfl, rfl⟩
        have hv2 := owns_below hv hb2
        have hB3 := hB.trans (hb2.mono hB.size)
        clear hK hv hB c0 c1 hb2
        go_wp2_with fail
        go_roundw
        case rel => exact ⟨k + 1, by omega, by go_num, by rw [HS.out, ← HN.out]; exact hv2, hB3⟩
        case measure => simp [intOf]; omega
    · obtain rfl : k = ps.length := by omega
      have e9 : n = (onlyL ps keys true).length := by have := HN.out; rwa [List.take_length] at this
      rw [List.take_length] at hv
      have E9 := Lib.hid e9
      clear e9 h4
      go_wp2_with fail
      go_ret
      exact ⟨_, rfl, by rw [← E9.out]; exact hv, hB⟩

end Go.Proofs.YteiocplfmjkbkaaGreatDoor
