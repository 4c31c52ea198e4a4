/-
  slices.Contains of texts and curb.Check: that they answer.
-/
import Derived.Test.YtdghpjkjhlankaaMatch
import Derived.Test.YtdghpjkjhlankaaCond
namespace Go.Proofs.Ytdghpjkjhlankaa
open Go.RowKit
set_option maxRecDepth 100000

theorem indexW (v : Value) (E : List ByteArray) (x : ByteArray) (w : World) (hr : Rd w 1 v E.length (E.map Value.string)) :
    Calls Try.prog 52 #[v, .string x] w fun e w' => ∃ n : Int, e = .returned (.int .i64 n) ∧ Below w.heap.size w w' := by
  obtain ⟨A, c, rfl, h1, h2, h3, h4⟩ := hr
  unfold maxLen at h3
  go_enter Try.func52, Try.ntmps52
  go_wp2_with fail
  go_loopw [8] (fun i wr => ∃ k : Nat, k ≤ E.length ∧ i = .int .i64 k ∧ Below w.heap.size w wr) (fun i _ => E.length - (intOf i).toNat)
  case atStart => exact ⟨0, Nat.zero_le _, rfl, Below.refl _ _⟩
  case round =>
    obtain ⟨k, hk, rfl, hB⟩ := hrel
    by_cases hlt : k < E.length
    · obtain ⟨y, hy⟩ : ∃ y, E[k]? = some y := ⟨_, List.getElem?_eq_getElem hlt⟩
      obtain ⟨b, o, rfl, hat⟩ := h4 (by omega)
      have c0 : wr.cell? ⟨b, o + k, none⟩ = some (.string y) := hat.nth0 hB k _ (by rw [List.getElem?_map, hy]; rfl)
      clear h4 h1 hat hy
      cases hb : (x.toList == y.toList) with
      | true =>
        go_wp2_with fail
        go_ret
        exact ⟨_, rfl, hB⟩
      | false =>
        go_wp2_with fail
        go_roundw
        case rel => exact ⟨k + 1, by omega, by go_num, hB⟩
        case measure => simp [intOf]; omega
    · obtain rfl : k = E.length := by omega
      go_wp2_with fail
      go_ret
      exact ⟨_, rfl, hB⟩
theorem containsW (v : Value) (E : List ByteArray) (x : ByteArray) (w : World) (hr : Rd w 1 v E.length (E.map Value.string)) :
    Calls Try.prog 44 #[v, .string x] w fun e w' => ∃ b : Bool, e = .returned (.bool b) ∧ Below w.heap.size w w' := by
  have hI := indexW v E x w hr
  obtain ⟨A, c, rfl, _⟩ := hr
  go_enter Try.func44, Try.ntmps44
  go_wp2_with fail
  (with_reducible refine hI.mono ?_)
  rintro e w1 ⟨n, rfl, hB⟩
  go_wp2_with fail
  go_ret
  exact ⟨_, rfl, hB⟩
theorem Rd.pre1 {w : World} {A : Option Addr} {n c m : Nat} {xs : List Value} (h : Rd w 1 (.slice A n c) n xs) (hm : m ≤ n) : Rd w 1 (.slice A m c) m (xs.take m) := by
  obtain ⟨A', c', he, h1, h2, h3, h4⟩ := h
  cases he
  refine ⟨_, _, rfl, by rw [List.length_take]; omega, by omega, h3, fun h0 => ?_⟩
  obtain ⟨q, o, rfl, hr⟩ := h4 (by omega)
  refine ⟨q, o, rfl, fun j u hj => hr j u ?_⟩
  rw [List.getElem?_take] at hj
  split at hj
  · exact hj
  · cases hj
set_option maxHeartbeats 1000000 in
theorem curbCheck (v1 v2 v3 : Value) (l1 l2 : List (Nat × Nat × Nat)) (E : List ByteArray) (w : World) (h1 : Rd w 3 v1 l1.length (askCells l1)) (h2 : Rd w 3 v2 l2.length (askCells l2)) (h3 : Rd w 1 v3 E.length (E.map Value.string)) (hE : ∀ x ∈ E, x.size ≤ maxLen) :
    Calls Try.prog 29 #[.agg #[v1, v2, v3]] w fun e w' => ∃ n : Int, e = .returned (.int .i64 n) ∧ Below w.heap.size w w' := by
  have h1' := h1
  have h2' := h2
  have h3' := h3
  obtain ⟨A1, c1, rfl, _, _, m1, _⟩ := h1
  obtain ⟨A2, c2, rfl, _, _, m2, _⟩ := h2
  obtain ⟨A3, c3, rfl, _, g3, m3, h4⟩ := h3
  unfold maxLen at m1 m2 m3
  have hbx : Below w.heap.size w (w.alloc (.cells #[.slice A1 l1.length c1, .slice A2 l2.length c2, .slice A3 E.length c3] 103)) := (Below.refl _ _).alloc (Nat.le_refl _) _
  have hBx : Blk (w.alloc (.cells #[.slice A1 l1.length c1, .slice A2 l2.length c2, .slice A3 E.length c3] 103)) w.heap.size #[.slice A1 l1.length c1, .slice A2 l2.length c2, .slice A3 E.length c3] 103 := Blk.new _ _ _
  go_enter Try.func29, Try.ntmps29
  by_cases z1 : l1.length = 0
  · have z1' : ((l1.length : Int) == 0) = true := by simp [z1]
    go_wp2_with fail
    go_ret
    exact ⟨_, rfl, (Below.refl _ _).alloc (Nat.le_refl _) _⟩
  have z1' : ((l1.length : Int) == 0) = false := by rw [beq_eq_false_iff_ne]; omega
  by_cases z2 : l2.length = 0
  · have z2' : ((l2.length : Int) == 0) = true := by simp [z2]
    clear z1
    go_wp2_with fail
    go_ret
    exact ⟨_, rfl, (Below.refl _ _).alloc (Nat.le_refl _) _⟩
  have z2' : ((l2.length : Int) == 0) = false := by rw [beq_eq_false_iff_ne]; omega
  clear z1 z2
  have hb2 : Below w.heap.size w ((w.alloc (.cells #[.slice A1 l1.length c1, .slice A2 l2.length c2, .slice A3 E.length c3] 103)).alloc (.cells #[.slice A1 l1.length c1, .slice A2 l2.length c2] 100)) := hbx.alloc hbx.size _
  have hB2 := hBx.alloc (.cells #[.slice A1 l1.length c1, .slice A2 l2.length c2] 100)
  have hL2 : Blk ((w.alloc (.cells #[.slice A1 l1.length c1, .slice A2 l2.length c2, .slice A3 E.length c3] 103)).alloc (.cells #[.slice A1 l1.length c1, .slice A2 l2.length c2] 100)) (w.heap.size + 1) #[.slice A1 l1.length c1, .slice A2 l2.length c2] 100 := Blk.new1 _ _ _ _
  clear hbx hBx
  go_wp2_with fail
  go_loopw [24] (fun i wr => ∃ k : Nat, k ≤ 2 ∧ i = .int .i64 k ∧ Blk wr w.heap.size #[.slice A1 l1.length c1, .slice A2 l2.length c2, .slice A3 E.length c3] 103 ∧ Blk wr (w.heap.size + 1) #[.slice A1 l1.length c1, .slice A2 l2.length c2] 100 ∧ Below w.heap.size w wr) (fun i _ => 2 - (intOf i).toNat)
  case atStart => exact ⟨0, by omega, rfl, hB2, hL2, hb2⟩
  case round =>
    obtain ⟨k, hk, rfl, hB, hL, hb⟩ := hrel
    clear hb2 hB2 hL2
    have hk' : k = 0 ∨ k = 1 ∨ k = 2 := by omega
    rcases hk' with rfl | rfl | rfl
    · have c0 := hL.cell (j := 0) rfl
      have hK := asksCheck (.slice A1 l1.length c1) l1 wr (h1'.below hb)
      go_wp2_with fail
      (with_reducible refine hK.mono ?_)
      rintro e w2 ⟨n, rfl, hb2⟩
      have hb3 := hb.trans (hb2.mono hb.size)
      have hB3 := hB.below hb2 hB.lt
      have hL3 := hL.below hb2 hL.lt
      clear hK hb2 hB hL hb c0
      by_cases hn : n = 0
      · have hn2 : (n != 0) = false := by simp [hn]
        go_wp2_with fail
        go_roundw
        case rel => exact ⟨1, by omega, by go_num, hB3, hL3, hb3⟩
        case measure => simp [intOf]
      · have hn2 : (n != 0) = true := by simpa using hn
        go_wp2_with fail
        go_ret
        exact ⟨_, rfl, hb3⟩
    · have c0 := hL.cell (j := 1) rfl
      have hK := asksCheck (.slice A2 l2.length c2) l2 wr (h2'.below hb)
      go_wp2_with fail
      (with_reducible refine hK.mono ?_)
      rintro e w2 ⟨n, rfl, hb2⟩
      have hb3 := hb.trans (hb2.mono hb.size)
      have hB3 := hB.below hb2 hB.lt
      have hL3 := hL.below hb2 hL.lt
      clear hK hb2 hB hL hb c0
      by_cases hn : n = 0
      · have hn2 : (n != 0) = false := by simp [hn]
        go_wp2_with fail
        go_roundw
        case rel => exact ⟨2, by omega, by go_num, hB3, hL3, hb3⟩
        case measure => simp [intOf]
      · have hn2 : (n != 0) = true := by simpa using hn
        go_wp2_with fail
        go_ret
        exact ⟨_, rfl, hb3⟩
    · have e2 := hB.cell (j := 2) rfl
      clear hL
      by_cases h8 : 8 < E.length
      · go_wp2_with fail
        go_ret
        exact ⟨_, rfl, hb⟩
      go_wp2_with fail
      go_loopw [41] (fun i wq => ∃ q : Nat, q ≤ E.length ∧ i = .int .i64 q ∧ Blk wq w.heap.size #[.slice A1 l1.length c1, .slice A2 l2.length c2, .slice A3 E.length c3] 103 ∧ Below w.heap.size w wq) (fun i _ => E.length - (intOf i).toNat)
      case atStart => exact ⟨0, Nat.zero_le _, rfl, hB, hb⟩
      case round =>
        obtain ⟨q, hq, rfl, hB1, hb1⟩ := hrel
        clear hB hb e2
        by_cases hlt : q < E.length
        · obtain ⟨y, hy⟩ : ∃ y, E[q]? = some y := ⟨_, List.getElem?_eq_getElem hlt⟩
          obtain ⟨b, o, rfl, hat⟩ := h4 (by omega)
          have c0 : wr.cell? ⟨b, o + q, none⟩ = some (.string y) := hat.nth0 hb1 q _ (by rw [List.getElem?_map, hy]; rfl)
          have hK := fun W => lKey y W (hE y (List.mem_of_getElem? hy))
          have e2 := hB1.cell (j := 2) rfl
          have h3q := (h3'.below hb1).pre1 (m := q) (by omega)
          have hm1 := Nat.le_of_lt hlt
          clear hat h4 hy
          rw [← List.map_take] at h3q
          have htl : (E.take q).length = q := by rw [List.length_take]; omega
          go_wp2_with fail
          (with_reducible refine (hK _).mono ?_)
          rintro e w2 ⟨rfl, hb2⟩
          have hB2 := hB1.below hb2 hB1.lt
          have h3r := h3q.below hb2
          have hb3 := hb1.trans (hb2.mono hb1.size)
          clear hK hb2 hB1 hb1 h3q e2 c0
          have e2 := hB2.cell (j := 2) rfl
          cases hw : wordB y 8 false with
          | false =>
            go_wp2_with fail
            go_ret
            exact ⟨_, rfl, hb3⟩
          | true =>
            have hC := containsW (.slice (some ⟨b, o, none⟩) q c3) (E.take q) y w2 (by rw [htl]; exact h3r)
            have q1 : (0 : Int) ≤ (q : Int) := by omega
            have q2 : (q : Int) ≤ (c3 : Int) := by omega
            clear htl h3r
            go_wp2_with fail
            (with_reducible refine hC.mono ?_)
            rintro e w3 ⟨bb, rfl, hb4⟩
            have hB3 := hB2.below hb4 hB2.lt
            have hb5 := hb3.trans (hb4.mono hb3.size)
            clear hC hb4 hB2 hb3 e2
            cases bb with
            | true =>
              go_wp2_with fail
              go_ret
              exact ⟨_, rfl, hb5⟩
            | false =>
              go_wp2_with fail
              go_roundw
              case rel =>
                refine ⟨_, _, _, _, _, _, _, _, _, _, _, _, _, _, _, _, _, _, _, _, ⟨q + 1, by omega, ?_, hB3, hb5⟩, rfl⟩
                go_num
              case measure => simp [intOf]; omega
        · obtain rfl : q = E.length := by omega
          go_wp2_with fail
          go_ret
          exact ⟨_, rfl, hb1⟩
end Go.Proofs.Ytdghpjkjhlankaa
