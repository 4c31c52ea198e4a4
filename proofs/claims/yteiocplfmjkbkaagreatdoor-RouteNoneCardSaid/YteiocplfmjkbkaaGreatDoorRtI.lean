/-
  The walk of RouteNone.
-/
import Derived.Test.YteiocplfmjkbkaaGreatDoorMg37
import Derived.Test.YteiocplfmjkbkaaGreatDoorRtD
namespace Go.Proofs.YteiocplfmjkbkaaGreatDoor
open Go.RowKit
set_option maxRecDepth 100000

/-- A store into a row. -/
theorem Upd.putRow {S : List Nat} {w0 w : World} {C : List Chunk} (h : Upd S w0 C w) (i : Nat) {e : TypeId} {size g n c : Nat} {xs : List Value} (hi : C[i]? = some (chRow e size (.slice (some ⟨g, 0, none⟩) n c) n xs)) (j : Nat) (u : Value) :
    Upd S w0 (chRow e size (.slice (some ⟨g, 0, none⟩) n c) n (xs.set j u) :: C.eraseIdx i) (w.setCell ⟨g, j, none⟩ u) := by
  have hr := h.row i hi
  have hr' : (w.setCell ⟨g, j, none⟩ u).ownsRow 0 e size (.slice (some ⟨g, 0, none⟩) n c) n (xs.set j u) := by
    obtain ⟨hl, hr⟩ := hr
    refine ⟨by rw [List.length_set]; exact hl, ?_⟩
    rcases hr with ⟨hv, hn⟩ | ⟨g', cap, cur, hv, hb, hh, h1, h2, h3, h4⟩
    · cases hv
    · right
      injection hv with hv1 hv2 hv3
      injection hv1 with hv1
      injection hv1 with hv1
      subst hv1 hv3
      have hB : Blk w g cur e := hh
      exact ⟨g, c, cur.setIfInBounds j u, rfl, hb, hB.set_ j u, h1, h2, by simpa using h3, by rw [← h4]; simp [List.take_set]⟩
  have : Upd (chRow e size (.slice (some ⟨g, 0, none⟩) n c) n xs).fp w [chRow e size (.slice (some ⟨g, 0, none⟩) n c) n (xs.set j u)] (w.setCell ⟨g, j, none⟩ u) :=
    ⟨rfl, rfl, rfl, by simp, fun k _ hne => Below.heap_setCell w _ u k (fun e => hne (by simp [chRow, Value.ownBlock, e])), fun d hd => by rw [List.mem_singleton.1 hd]; exact hr', fun d hd b hb => by rw [List.mem_singleton.1 hd] at hb; exact .inl hb, by simp⟩
  exact h.turn i hi this
theorem tNodeAny (t : Nat) (A : Option Addr) (c : Nat) (ns : List RNV) (z : Int) (w : World) (hB : Blk w t #[.slice A ns.length c] 74) (hN : NodesAt w (.slice A ns.length c) ns) (hok : NodesOk ns) (hlen : ns.length ≤ 32) :
    Calls Tryz.prog 13 #[.pointer (some ⟨t, 0, none⟩), .int .i64 z] w (NodeAny (decide (0 ≤ z) && decide (z < ns.length)) w) := by
  by_cases h : 0 ≤ z ∧ z < ns.length
  · obtain ⟨k, rfl⟩ : ∃ k : Nat, z = (k : Int) := ⟨z.toNat, by omega⟩
    obtain ⟨n, hn⟩ : ∃ n, ns[k]? = some n := ⟨_, List.getElem?_eq_getElem (by omega)⟩
    refine (tNode t _ ns k n w hB hN hok hn hlen).mono ?_
    rintro e w' ⟨va, vb, rfl, hU⟩
    obtain ⟨Av, cv, rfl⟩ := owns_slice (hU.row 0 rfl)
    obtain ⟨Bv, bv, rfl⟩ := owns_slice (hU.row 1 rfl)
    rw [decide_eq_true h.1, decide_eq_true h.2]
    exact ⟨_, _, _, _, _, _, _, _, _, _, _, _, rfl, hU.below⟩
  · refine (tNodeNo (.pointer (some ⟨t, 0, none⟩)) ns.length z w ⟨_, rfl⟩ (fun w' h => tLen t A ns.length c w' (hB.below h hB.lt)) (by omega)).mono ?_
    rintro e w' ⟨rfl, hb⟩
    rw [show (decide (0 ≤ z) && decide (z < (ns.length : Int))) = false by rw [← Bool.decide_and]; exact decide_eq_false h]
    exact ⟨none, 0, 0, ⟨#[]⟩, none, 0, 0, 0, 0, 0, false, 0, rfl, hb⟩
set_option maxHeartbeats 16000000 in
theorem routeNoneWalk (xo xr xa xb xn xt : Nat) (hx : xo < 256 ∧ xr < 256 ∧ xa < 256 ∧ xb < 256 ∧ xn < 256 ∧ xt < 256) (z : Int) (v2 : Value) (l : List SmN) (mx : Int) (w : World) (h0 : Rd w 8 v2 l.length (l.flatMap smn8)) (hok : ∀ s ∈ l, s.ok ∧ Rd w 3 s.v s.asks.length (smallCells s.asks))
    (hm : w.cell? ⟨2, 0, none⟩ = some (.int .i64 mx)) (hT : Lib.TabIs Tryz.prog w "strings.asciiSpace" .u8 Lib.asciiSpaceTab) :
    Calls Tryz.prog 5 #[.agg #[.int .u8 xo, .int .u8 xr, .int .u8 xa, .int .u8 xb, .int .u8 xn, .int .u8 xt], .int .i64 z, v2] w fun e w' => e = .returned (.bool true) ∧ Below w.heap.size w w' := by
  have KA := fun w' (h : Below w.heap.size w w') => awake20 mx w' (cell_updR (Upd.of_below h) (by simp) hm) (tab_below hT h)
  have KN := fun w' (h : Below w.heap.size w w') => smallNodes v2 l w' (h0.below h) (fun s hs => ⟨(hok s hs).1, (hok s hs).2.below h⟩)
  have K0 := fun w' => tNodeNo (.pointer none) 0 z w' ⟨_, rfl⟩ (fun w2 _ => tLenNil w2) (by omega)
  have K9 := fun w' => tTextNo (.pointer none) 0 z w' ⟨_, rfl⟩ (fun w2 _ => tLenNil w2) (by omega)
  obtain ⟨A0, c0, rfl, _⟩ := id h0
  obtain ⟨nl, hnl⟩ : ∃ n, n = l.length := ⟨_, rfl⟩
  rw [← hnl] at KN ⊢
  have U0 := (Upd.nil [] w).alloc #[.int .u8 xo, .int .u8 xr, .int .u8 xa, .int .u8 xb, .int .u8 xn, .int .u8 xt] 32
  clear h0 hok hm hT hnl
  go_enter Tryz.func5, Tryz.ntmps5
  go_wp2_with fail
  refine calls_genP fun w1 hw1 => ?_
  have U1 := U0.same hw1
  clear hw1 U0
  (with_reducible refine (KA _ U1.below).mono ?_)
  rintro e w2 ⟨rfl, hb2⟩
  have U2 := U1.grow hb2
  clear KA U1 hb2
  go_wp2_with fail
  (with_reducible refine (K0 _).mono ?_)
  rintro e w3 ⟨rfl, hb3⟩
  have U3 := (U2.grow hb3).alloc #[.slice none 0 0, .string ⟨#[]⟩, .slice none 0 0, .int .u64 0, .int .u64 0, .int .u64 0, .bool false, .int .i64 0] 50
  clear K0 U2 hb3
  go_wp2_with fail
  refine calls_genP fun w4 hw4 => ?_
  have U4 := U3.same hw4
  clear hw4 U3
  (with_reducible refine (KN _ U4.below).mono ?_)
  rintro e w5 ⟨vn, ns, rfl, hn1, hn2, hn3, hU⟩
  obtain ⟨d, hd⟩ := treeRN_tree l
  have hns : (ns.map toV).map (·.p) = treeRN l := by
    have e : (ns.map toV).map (·.p) = (ns.map (·.p)).map toRN := by rw [List.map_map, List.map_map]; rfl
    rw [e]
    unfold treeRN
    by_cases hl : l = []
    · rw [if_pos hl, hn2 hl]; rfl
    · rw [if_neg hl, hn1 hl]
  have hN : NodesAt w5 vn (ns.map toV) := by
    refine ⟨?_, fun n hn => ?_⟩
    · rw [toV_cells, List.length_map]
      exact rd_of_owns (hU.row 0 rfl)
    · obtain ⟨m, hm, rfl⟩ := List.mem_map.1 hn
      have hA := hU.all 1 rfl
      have g1 := hA (chRow 68 3 m.va m.p.asks.length (askCells m.p.asks)) (List.mem_flatMap.2 ⟨m, hm, .head _⟩)
      have g2 := hA (chRow 9 1 m.vb m.p.bys.length (m.p.bys.map Value.string)) (List.mem_flatMap.2 ⟨m, hm, .tail _ (.head _)⟩)
      refine ⟨?_, rd_of_owns (base := 0) g2⟩
      show Rd w5 3 m.va (m.p.asks.map toAq).length ((m.p.asks.map toAq).flatMap aqC)
      rw [asks_cells, List.length_map]
      exact rd_of_owns (base := 0) g1
  obtain ⟨nv, hnv⟩ : ∃ nv, nv = ns.map toV := ⟨_, rfl⟩
  rw [← hnv] at hns hN
  have hF := hd.nodes hns
  have KW := tNew vn nv d w5 hN hF
  obtain ⟨An, cn, rfl, _⟩ := id hN.1
  have U5 := U4.grow hU.below
  have HNS := Lib.hid hns
  have HD := Lib.hid hd
  have HF := Lib.hid hF
  clear hn1 hn2 hn3 hU KN hd hns hnv hF hN U4
  go_wp2_with fail
  (with_reducible refine KW.mono ?_)
  rintro e w6 ⟨t, vt, ms, rfl, hms, hB, hMS, ht, hb6⟩
  have U6 := U5.grow hb6
  have hmt : ms.map (·.p) = treeRN l := hms.trans HNS.out
  have hFit := HD.out.nodes hmt
  obtain ⟨ok1, _, _⟩ := NodesOk.of HD.out hmt
  obtain ⟨At, ct, rfl, _⟩ := id hMS.1
  have hl32 := hFit.many
  have hl0 := hFit.some
  obtain ⟨ln, hln⟩ : ∃ n, n = ms.length := ⟨_, rfl⟩
  obtain ⟨lk, hlk⟩ : ∃ n, n = ln - 1 := ⟨_, rfl⟩
  have hlk1 : (ln : Int) - 1 = (lk : Int) := by omega
  obtain ⟨n, hn⟩ : ∃ n, ms[lk]? = some n := ⟨_, List.getElem?_eq_getElem (by omega)⟩
  have KNA := fun w' (h : Below w6.heap.size w6 w') => tNodeAny t At ct ms z w' (hB.below h hB.lt) (hMS.below h) ok1 hl32
  have KNK := fun w' (h : Below w6.heap.size w6 w') => tNode t _ ms lk n w' (hB.below h hB.lt) (hMS.below h) ok1 hn hl32
  have KT := fun w' (h : Below w6.heap.size w6 w') => tText t _ ms d lk n w' (hB.below h hB.lt) (hMS.below h) hFit hn
  have KL := fun w' (h : Below w6.heap.size w6 w') => tLen t At ms.length ct w' (hB.below h hB.lt)
  rw [← hln] at KNA KL hl32 hl0
  obtain ⟨tx, htx⟩ : ∃ y, y = (lineOf n.p (d lk - 1)).text := ⟨_, rfl⟩
  rw [← htx] at KT
  obtain ⟨b1, hb1⟩ : ∃ b, b = decide (0 ≤ z) := ⟨_, rfl⟩
  obtain ⟨b2, hb2⟩ : ∃ b, b = decide (z < (ln : Int)) := ⟨_, rfl⟩
  rw [← hb1, ← hb2] at KNA
  have HB1 := Lib.hid hb1
  have HB2 := Lib.hid hb2
  clear hms hmt hFit ok1 hn hln hlk htx hB hMS ht hb6 KW U5 hb1 hb2
  go_wp2_with fail
  (with_reducible refine (KNA _ (Below.refl _ _)).mono ?_)
  rintro e w7 ⟨Aq1, na1, ca1, tg1, Bq1, nb1, cb1, wa1, be1, ag1, mo1, ab1, rfl, hb7⟩
  have hb8 : Below w6.heap.size w6 (w7.alloc (.cells #[.slice Aq1 na1 ca1, .string tg1, .slice Bq1 nb1 cb1, .int .u64 (wa1 : Nat), .int .u64 (be1 : Nat), .int .u64 (ag1 : Nat), .bool mo1, .int .i64 ab1] 50)) := hb7.trans (((Below.refl _ _).alloc (Nat.le_refl _) _).mono hb7.size)
  clear KNA
  go_wp2_with fail
  refine calls_genP fun w8 hw8 => ?_
  rw [← hw8] at hb8
  clear hw8
  (with_reducible refine (KL _ hb8).mono ?_)
  rintro e w9 ⟨rfl, rfl⟩
  go_wp2_with fail
  (with_reducible refine (KNK _ hb8).mono ?_)
  rintro e w10 ⟨va, vb, rfl, hU⟩
  obtain ⟨Av, cv, rfl⟩ := owns_slice (hU.row 0 rfl)
  obtain ⟨Bv, bv, rfl⟩ := owns_slice (hU.row 1 rfl)
  obtain ⟨na, hna⟩ : ∃ y, y = n.p.asks.length := ⟨_, rfl⟩
  obtain ⟨nb, hnb⟩ : ∃ y, y = n.p.bys.length := ⟨_, rfl⟩
  rw [← hna, ← hnb] at hU ⊢
  have V0 := hU.alloc #[.slice Av na cv, .string n.p.tgt, .slice Bv nb bv, .int .u64 (n.p.wait : Nat), .int .u64 (n.p.between : Nat), .int .u64 (n.p.again : Nat), .bool n.p.more, .int .i64 n.p.above] 50
  have U8 := U6.grow hb8
  clear hna hnb hU U6 KNK
  go_wp2_with fail
  refine calls_genP fun w11 hw11 => ?_
  have V1 := V0.same hw11
  clear hw11 V0
  (with_reducible refine (KL _ (hb8.trans (V1.below.mono hb8.size))).mono ?_)
  rintro e w12 ⟨rfl, rfl⟩
  go_wp2_with fail
  (with_reducible refine (KT _ (hb8.trans (V1.below.mono hb8.size))).mono ?_)
  rintro e w13 ⟨rfl, hb13⟩
  have V2 := V1.grow hb13
  clear V1 hb13
  have y2 := (V2.blk 0 rfl).cell (j := 2) (v := .slice Bv nb bv) rfl
  go_wp2_with fail
  go_loopw [57] (fun i wr => ∃ (q : Nat) (ys : List Value), q ≤ nb ∧ i = .int .i64 q ∧ Upd [] w9 [chBlk w10.heap.size #[.slice Av na cv, .string n.p.tgt, .slice Bv nb bv, .int .u64 (n.p.wait : Nat), .int .u64 (n.p.between : Nat), .int .u64 (n.p.again : Nat), .bool n.p.more, .int .i64 n.p.above] 50, chRow 68 3 (.slice Av na cv) na (n.p.asks.flatMap aqC), chRow 9 1 (.slice Bv nb bv) nb ys] wr) (fun i _ => nb - (intOf i).toNat)
  case atStart => exact ⟨0, _, Nat.zero_le _, rfl, V2⟩
  case round =>
    obtain ⟨q, ys, hq, rfl, V3⟩ := hrel
    clear V2 y2
    by_cases hlq : q < nb
    · obtain ⟨_, ⟨he, he0⟩ | ⟨g, cap, cur, he, _, hh, h1, h2, h3, _⟩⟩ := V3.row 2 rfl
      · omega
      · cases he
        obtain ⟨u, hu⟩ : ∃ u, cur[q]? = some u := ⟨_, Array.getElem?_eq_getElem (by omega)⟩
        have yq := (show Blk wr g cur 9 from hh).cell hu
        have yf := (show Blk wr g cur 9 from hh).frozen
        have y2 := (V3.blk 0 rfl).cell (j := 2) rfl
        have V4 := (V3.putRow 2 rfl q (.string ⟨#[122, 122]⟩)).pick [1, 2, 0] (by decide)
        have hn63 : nb ≤ 2 ^ 63 - 1 := by unfold maxLen at h2; omega
        clear hh hu h1 h2 h3 V3
        go_wp2_with fail
        go_roundw
        case rel => exact ⟨q + 1, _, by omega, by go_num, V4⟩
        case measure => simp [intOf]; omega
    · obtain rfl : q = nb := by omega
      have y0 := (V3.blk 0 rfl).cell (j := 0) (v := .slice Av na cv) rfl
      go_wp2_with fail
      go_loopw [68] (fun i wr => ∃ (r : Nat) (zs ys : List Value), r ≤ na ∧ i = .int .i64 r ∧ Upd [] w9 [chBlk w10.heap.size #[.slice Av na cv, .string n.p.tgt, .slice Bv q bv, .int .u64 (n.p.wait : Nat), .int .u64 (n.p.between : Nat), .int .u64 (n.p.again : Nat), .bool n.p.more, .int .i64 n.p.above] 50, chRow 68 3 (.slice Av na cv) na zs, chRow 9 1 (.slice Bv q bv) q ys] wr) (fun i _ => na - (intOf i).toNat)
      case atStart => exact ⟨0, _, ys, Nat.zero_le _, rfl, V3⟩
      case round =>
        obtain ⟨r, zs, ys2, hr, rfl, V5⟩ := hrel
        clear V3 y0
        by_cases hlr : r < na
        · obtain ⟨_, ⟨he, he0⟩ | ⟨g, cap, cur, he, _, hh, h1, h2, h3, _⟩⟩ := V5.row 1 rfl
          · omega
          · cases he
            obtain ⟨u, hu⟩ : ∃ u, cur[r * 3]? = some u := ⟨_, Array.getElem?_eq_getElem (by omega)⟩
            have yq := (show Blk wr g cur 68 from hh).cell hu
            have yf := (show Blk wr g cur 68 from hh).frozen
            have y0 := (V5.blk 0 rfl).cell (j := 0) rfl
            have V6 := (V5.putRow 1 rfl (r * 3) (.string ⟨#[122, 122]⟩)).pick [1, 0, 2] (by decide)
            have hn63 : na ≤ 2 ^ 63 - 1 := by unfold maxLen at h2; omega
            clear hh hu h1 h2 h3 V5
            go_wp2_with fail
            go_roundw
            case rel => exact ⟨r + 1, _, _, by omega, by go_num, V6⟩
            case measure => simp [intOf]; omega
        · obtain rfl : r = na := by omega
          have hbR := hb8.trans (V5.below.mono hb8.size)
          have U9 := U8.grow V5.below
          have e0 := (U9.blk 1 rfl).cell (j := 0) rfl
          have e1 := (U9.blk 1 rfl).cell (j := 1) rfl
          have e2 := (U9.blk 1 rfl).cell (j := 2) rfl
          have e3 := (U9.blk 1 rfl).cell (j := 3) rfl
          have e4 := (U9.blk 1 rfl).cell (j := 4) rfl
          have e5 := (U9.blk 1 rfl).cell (j := 5) rfl
          have KAl := fun w' => smallAlert xo xr xa xb xn xt hx.1 hx.2.1 hx.2.2.1 hx.2.2.2.1 hx.2.2.2.2.1 hx.2.2.2.2.2 w'
          clear V5 U8 hx hb8
          go_wp2_with fail
          (with_reducible refine (tNewNil _).mono ?_)
          rintro e w14 ⟨rfl, rfl⟩
          cases b1 with
          | true =>
            cases b2 with
            | true =>
              have d1 : decide (0 ≤ z) = true := HB1.out.symm
              have d2 : decide (z < (ln : Int)) = true := HB2.out.symm
              go_wp2_with fail
              (with_reducible refine (tLenNil _).mono ?_)
              rintro e w15 ⟨rfl, rfl⟩
              go_wp2_with fail
              (with_reducible refine (KAl _).mono ?_)
              rintro e w16 ⟨lv, rfl, hlv, hb16⟩
              obtain ⟨Al, cl, rfl, _⟩ := id hlv
              have hbS := hbR.trans (hb16.mono hbR.size)
              have U10 := U9.grow hb16
              clear hlv
              go_wp2_with fail
              (with_reducible refine (tFindNil _ _ _ _ _ _ _ _).mono ?_)
              rintro e w17 ⟨rfl, hb17⟩
              have hbT := hbS.trans (hb17.mono hbS.size)
              have U11 := U10.grow hb17
              go_wp2_with fail
              (with_reducible refine (K9 _).mono ?_)
              rintro e w18 ⟨rfl, hb18⟩
              have hbV := hbT.trans (hb18.mono hbT.size)
              have U12 := U11.grow hb18
              go_wp2_with fail
              (with_reducible refine (KL _ hbV).mono ?_)
              rintro e w19 ⟨rfl, rfl⟩
              go_wp2_with fail
              (with_reducible refine (KL _ hbV).mono ?_)
              rintro e w20 ⟨rfl, rfl⟩
              go_wp2_with fail
              (with_reducible refine (KT _ hbV).mono ?_)
              rintro e w21 ⟨rfl, hb21⟩
              go_wp2_with fail
              go_ret
              exact ⟨rfl, (U12.grow hb21).below⟩
            | false =>
              have d1 : decide (0 ≤ z) = true := HB1.out.symm
              have d2 : decide (z < (ln : Int)) = false := HB2.out.symm
              go_wp2_with fail
              (with_reducible refine (tLenNil _).mono ?_)
              rintro e w15 ⟨rfl, rfl⟩
              go_wp2_with fail
              (with_reducible refine (KAl _).mono ?_)
              rintro e w16 ⟨lv, rfl, hlv, hb16⟩
              obtain ⟨Al, cl, rfl, _⟩ := id hlv
              have hbS := hbR.trans (hb16.mono hbR.size)
              have U10 := U9.grow hb16
              clear hlv
              go_wp2_with fail
              (with_reducible refine (tFindNil _ _ _ _ _ _ _ _).mono ?_)
              rintro e w17 ⟨rfl, hb17⟩
              have hbT := hbS.trans (hb17.mono hbS.size)
              have U11 := U10.grow hb17
              go_wp2_with fail
              (with_reducible refine (K9 _).mono ?_)
              rintro e w18 ⟨rfl, hb18⟩
              have hbV := hbT.trans (hb18.mono hbT.size)
              have U12 := U11.grow hb18
              go_wp2_with fail
              (with_reducible refine (KL _ hbV).mono ?_)
              rintro e w19 ⟨rfl, rfl⟩
              go_wp2_with fail
              (with_reducible refine (KL _ hbV).mono ?_)
              rintro e w20 ⟨rfl, rfl⟩
              go_wp2_with fail
              (with_reducible refine (KT _ hbV).mono ?_)
              rintro e w21 ⟨rfl, hb21⟩
              go_wp2_with fail
              go_ret
              exact ⟨rfl, (U12.grow hb21).below⟩
          | false =>
            cases b2 with
            | true =>
              have d1 : decide (0 ≤ z) = false := HB1.out.symm
              have d2 : decide (z < (ln : Int)) = true := HB2.out.symm
              go_wp2_with fail
              (with_reducible refine (tLenNil _).mono ?_)
              rintro e w15 ⟨rfl, rfl⟩
              go_wp2_with fail
              (with_reducible refine (KAl _).mono ?_)
              rintro e w16 ⟨lv, rfl, hlv, hb16⟩
              obtain ⟨Al, cl, rfl, _⟩ := id hlv
              have hbS := hbR.trans (hb16.mono hbR.size)
              have U10 := U9.grow hb16
              clear hlv
              go_wp2_with fail
              (with_reducible refine (tFindNil _ _ _ _ _ _ _ _).mono ?_)
              rintro e w17 ⟨rfl, hb17⟩
              have hbT := hbS.trans (hb17.mono hbS.size)
              have U11 := U10.grow hb17
              go_wp2_with fail
              (with_reducible refine (K9 _).mono ?_)
              rintro e w18 ⟨rfl, hb18⟩
              have hbV := hbT.trans (hb18.mono hbT.size)
              have U12 := U11.grow hb18
              go_wp2_with fail
              (with_reducible refine (KL _ hbV).mono ?_)
              rintro e w20 ⟨rfl, rfl⟩
              go_wp2_with fail
              (with_reducible refine (KT _ hbV).mono ?_)
              rintro e w21 ⟨rfl, hb21⟩
              go_wp2_with fail
              go_ret
              exact ⟨rfl, (U12.grow hb21).below⟩
            | false =>
              have d1 : decide (0 ≤ z) = false := HB1.out.symm
              have d2 : decide (z < (ln : Int)) = false := HB2.out.symm
              go_wp2_with fail
              (with_reducible refine (tLenNil _).mono ?_)
              rintro e w15 ⟨rfl, rfl⟩
              go_wp2_with fail
              (with_reducible refine (KAl _).mono ?_)
              rintro e w16 ⟨lv, rfl, hlv, hb16⟩
              obtain ⟨Al, cl, rfl, _⟩ := id hlv
              have hbS := hbR.trans (hb16.mono hbR.size)
              have U10 := U9.grow hb16
              clear hlv
              go_wp2_with fail
              (with_reducible refine (tFindNil _ _ _ _ _ _ _ _).mono ?_)
              rintro e w17 ⟨rfl, hb17⟩
              have hbT := hbS.trans (hb17.mono hbS.size)
              have U11 := U10.grow hb17
              go_wp2_with fail
              (with_reducible refine (K9 _).mono ?_)
              rintro e w18 ⟨rfl, hb18⟩
              have hbV := hbT.trans (hb18.mono hbT.size)
              have U12 := U11.grow hb18
              go_wp2_with fail
              (with_reducible refine (KL _ hbV).mono ?_)
              rintro e w20 ⟨rfl, rfl⟩
              go_wp2_with fail
              (with_reducible refine (KT _ hbV).mono ?_)
              rintro e w21 ⟨rfl, hb21⟩
              go_wp2_with fail
              go_ret
              exact ⟨rfl, (U12.grow hb21).below⟩
end Go.Proofs.YteiocplfmjkbkaaGreatDoor
