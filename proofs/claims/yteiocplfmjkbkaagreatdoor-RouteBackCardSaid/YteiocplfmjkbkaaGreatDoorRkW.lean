/-
  The walk of RouteBack.
-/
import Derived.Test.YteiocplfmjkbkaaGreatDoorMg43
import Derived.Test.YteiocplfmjkbkaaGreatDoorRtL
import Derived.Test.YteiocplfmjkbkaaGreatDoorRtH
namespace Go.Proofs.YteiocplfmjkbkaaGreatDoor
open Go.RowKit
set_option maxRecDepth 100000

theorem infoSm20 : (Tryz.prog.info? 59).map (fun i => (i.zero, i.size, i.bytes)) = some (some (.agg #[.slice none 0 0, .int .u8 0, .int .u8 0, .int .u8 0, .int .u8 0, .int .u8 0, .bool false, .int .u8 0]), 8, 32) := by kernel_rfl
set_option maxHeartbeats 16000000 in
theorem routeBackWalk (v : Value) (l : List SmN) (mx : Int) (w : World) (h0 : Rd w 8 v l.length (l.flatMap smn8)) (hok : ∀ s ∈ l, s.ok ∧ Rd w 3 s.v s.asks.length (smallCells s.asks)) (hwt : l.length * 32 ≤ 140737488351232)
    (hm : w.cell? ⟨2, 0, none⟩ = some (.int .i64 mx)) (hT : Lib.TabIs Tryz.prog w "strings.asciiSpace" .u8 Lib.asciiSpaceTab) :
    Calls Tryz.prog 4 #[v] w fun e w' => e = .returned (.bool true) ∧ Below w.heap.size w w' := by
  have KA := fun w' (h : Below w.heap.size w w') => awake20 mx w' (cell_updR (Upd.of_below h) (by simp) hm) (tab_below hT h)
  obtain ⟨i0, hi, hz0, hz1, hz2⟩ := info_parts infoSm20
  obtain ⟨A0, c0, rfl, _⟩ := id h0
  obtain ⟨nl, hnl⟩ : ∃ n, n = l.length := ⟨_, rfl⟩
  rw [← hnl] at h0 hwt ⊢
  have HNL := Lib.hid hnl
  have HOK := Lib.hid hok
  have HM := Lib.hid hm
  have HTab := Lib.hid hT
  have U0 := Upd.nil [] w
  clear hok hm hT hnl
  go_enter Tryz.func4, Tryz.ntmps4
  go_wp2_with fail
  (with_reducible refine (KA _ U0.below).mono ?_)
  rintro e w2 ⟨rfl, hb2⟩
  have U2 := U0.grow hb2
  clear KA
  go_wp2_with fail
  go_loopw [0, 16] (fun v i wr => ∃ (q : Nat) (A : Option Addr) (c : Nat), q ≤ nl ∧ v = .slice A nl c ∧ i = .int .i64 q ∧ Rd wr 8 (.slice A nl c) nl ((turnL l q).flatMap smn8) ∧ Upd [] w [] wr) (fun _ i _ => nl - (intOf i).toNat)
  case atStart => exact ⟨0, A0, c0, Nat.zero_le _, rfl, rfl, by rw [turnL_zero]; exact h0.below hb2, U2⟩
  case round =>
    obtain ⟨q, A, c, hq, rfl, rfl, hR, U3⟩ := hrel
    clear U2 U0 hb2 h0
    have HRd := Lib.hid hR
    have HU := Lib.hid U3
    by_cases hlt : q < nl
    · obtain ⟨s, hs⟩ : ∃ s, l[q]? = some s := ⟨_, List.getElem?_eq_getElem (by rw [← HNL.out]; exact hlt)⟩
      have HS := Lib.hid hs
      obtain ⟨_, _, he, _, hl2, hl3, hl4⟩ := hR
      cases he
      obtain ⟨b, o, rfl, hat⟩ := hl4 (by omega)
      have x7 := hat.nth (Below.refl _ _) (q * 8) 7 (.int .u8 s.ab) (flat_at smn8 8 (fun _ => rfl) (turnL l q) q s (turnL_now hs) 7 (by omega))
      have hab := (HOK.out s (List.mem_of_getElem? hs)).1.2.2.2.2.2
      obtain ⟨t, ht⟩ : ∃ t, t = s.ab % 2 := ⟨_, rfl⟩
      have r1 : (s.ab : Int).tmod 2 = (t : Int) := by rw [ht]; rfl
      clear hat hl4 hs
      by_cases h2 : t = 0
      · subst h2
        have hab2 : Hid (s.ab % 2 = 0) := Lib.hid ht.symm
        clear ht U3
        have hts : turnS q s = { s with ab := 0 } := by unfold turnS; rw [if_pos hab2.out]
        go_wp2_with (at_builtin; refine wpl_stop fun W hW => ?_)
        refine Stopped.mk ?_
        have B1 := ((Upd.nil [] wr).alloc #[] 59).same hW
        clear hW
        refine wpl_append_copy rfl (.tmp 26) (.tmp 27) 22 rfl wr.heap.size 59 i0 _ 8 32 Tryz.underlying22 hi hz0 hz1 hz2 rfl (by decide) _ (B1.blk 0 rfl) (Nat.le_refl _) rfl _ nl _ rfl (HRd.out.below B1.below) (by unfold maxLen; omega) (by omega) fun v2 w2 hc2 hc3 => ?_
        have V := (Upd.nil [] wr).addRow (B1.below.trans (hc3.mono B1.below.size)) hc2 (Nat.le_refl _)
        obtain ⟨_, ⟨he, he0⟩ | ⟨g, cap, cur, he, _, hh, k1, k2, k3, _⟩⟩ := V.row 0 rfl
        · omega
        · subst he
          obtain ⟨u, hu⟩ : ∃ u, cur[q * 8 + 7]? = some u := ⟨_, Array.getElem?_eq_getElem (by omega)⟩
          have yq := (show Blk w2 g cur 59 from hh).cell hu
          have yf := (show Blk w2 g cur 59 from hh).frozen
          have V2 := V.putRow 0 rfl (q * 8 + 7) (.int .u8 (0 : Nat))
          have HV := Lib.hid V2
          have HT2 : Hid (turnL l (q + 1) = (turnL l q).set q { s with ab := 0 }) := Lib.hid (by rw [turnL_succ HS.out, hts])
          have HT3 := Lib.hid (smn8_set (turnL l q) q s (0) (turnL_now HS.out))
          clear hh hu k1 k2 k3 V2 V B1 hc2 hc3 x7
          go_wp2_with fail
          go_roundw
          case rel => exact ⟨q + 1, _, _, by omega, rfl, by go_num, by rw [HT2.out, ← HT3.out]; exact rd_of_owns (HV.out.row 0 rfl), HU.out.grow HV.out.below⟩
          case measure => simp [intOf]; omega
      · have hab2 : Hid (¬ s.ab % 2 = 0) := Lib.hid (by omega)
        have ht1 : t = 1 := by omega
        subst ht1
        by_cases hq0 : 0 < q
        · have gq : (0 : Int) < (q : Int) := by omega
          clear ht U3
          have hts : turnS q s = { s with ab := (q - 1) % 256 } := by unfold turnS; rw [if_neg hab2.out, if_pos hq0]
          have r2 : IntKind.u8.wrap ((q : Int) - 1) = (((q - 1) % 256 : Nat) : Int) := by simp only [IntKind.wrap, IntKind.bits, IntKind.signed]; simp; omega
          have r3 : IntKind.i64.wrap ((q : Int) - 1) = (q : Int) - 1 := by rw [IntKind.wrap_i64]; unfold maxLen at hl3; omega
          go_wp2_with (at_builtin; refine wpl_stop fun W hW => ?_)
          refine Stopped.mk ?_
          have B1 := ((Upd.nil [] wr).alloc #[] 59).same hW
          clear hW
          refine wpl_append_copy rfl (.tmp 35) (.tmp 36) 22 rfl wr.heap.size 59 i0 _ 8 32 Tryz.underlying22 hi hz0 hz1 hz2 rfl (by decide) _ (B1.blk 0 rfl) (Nat.le_refl _) rfl _ nl _ rfl (HRd.out.below B1.below) (by unfold maxLen; omega) (by omega) fun v2 w2 hc2 hc3 => ?_
          have V := (Upd.nil [] wr).addRow (B1.below.trans (hc3.mono B1.below.size)) hc2 (Nat.le_refl _)
          obtain ⟨_, ⟨he, he0⟩ | ⟨g, cap, cur, he, _, hh, k1, k2, k3, _⟩⟩ := V.row 0 rfl
          · omega
          · subst he
            obtain ⟨u, hu⟩ : ∃ u, cur[q * 8 + 7]? = some u := ⟨_, Array.getElem?_eq_getElem (by omega)⟩
            have yq := (show Blk w2 g cur 59 from hh).cell hu
            have yf := (show Blk w2 g cur 59 from hh).frozen
            have V2 := V.putRow 0 rfl (q * 8 + 7) (.int .u8 ((q - 1) % 256 : Nat))
            have HV := Lib.hid V2
            have HT2 : Hid (turnL l (q + 1) = (turnL l q).set q { s with ab := (q - 1) % 256 }) := Lib.hid (by rw [turnL_succ HS.out, hts])
            have HT3 := Lib.hid (smn8_set (turnL l q) q s ((q - 1) % 256) (turnL_now HS.out))
            clear hh hu k1 k2 k3 V2 V B1 hc2 hc3 x7
            go_wp2_with fail
            go_roundw
            case rel => exact ⟨q + 1, _, _, by omega, rfl, by go_num, by rw [HT2.out, ← HT3.out]; exact rd_of_owns (HV.out.row 0 rfl), HU.out.grow HV.out.below⟩
            case measure => simp [intOf]; omega
        · have gq : ¬ (0 : Int) < (q : Int) := by omega
          have hts : turnS q s = s := by unfold turnS; rw [if_neg hab2.out, if_neg hq0]
          have HT2 : Hid (turnL l (q + 1) = turnL l q) := Lib.hid (by
            rw [turnL_succ HS.out, hts]
            refine List.ext_getElem? fun j => ?_
            rw [List.getElem?_set]
            split
            · rename_i h; subst h
              rw [turnL_now HS.out]; simp [turnL_len, (List.getElem?_eq_some_iff.1 HS.out).1]
            · rfl)
          clear ht U3
          go_wp2_with fail
          go_roundw
          case rel => exact ⟨q + 1, _, _, by omega, rfl, by go_num, by rw [HT2.out]; exact HRd.out, HU.out⟩
          case measure => simp [intOf]; omega
    · obtain rfl : q = nl := by omega
      have hL : (turnL l q).length = q := by rw [turnL_len]; exact HNL.out.symm
      have KN := smallNodes (.slice A q c) (turnL l q) wr (by rw [hL]; exact hR) (fun s hs => by
        obtain ⟨x, hx, h⟩ := turnL_mem hs
        obtain ⟨o1, o2⟩ := HOK.out x hx
        have o3 := o2.below U3.below
        rcases h with rfl | ⟨i, rfl⟩
        · exact ⟨o1, o3⟩
        · obtain ⟨p1, p2, p3⟩ := turnS_ok (i := i) o1
          rw [p2, p3]
          exact ⟨p1, o3⟩)
      have hcl := close_turn l
      rw [← HNL.out] at hcl
      obtain ⟨L, hLd⟩ : ∃ L, L = turnL l q := ⟨_, rfl⟩
      rw [← hLd] at KN hcl
      obtain ⟨d, hd⟩ := treeRN_tree L
      have HCl := Lib.hid hcl
      have HD := Lib.hid hd
      clear hR hL hLd hcl HRd HU hd hwt
      go_wp2_with fail
      (with_reducible refine KN.mono ?_)
      rintro e w5 ⟨vn, ns, rfl, hn1, hn2, hn3, hU⟩
      have hns : (ns.map toV).map (·.p) = treeRN L := by
        have e : (ns.map toV).map (·.p) = (ns.map (·.p)).map toRN := by rw [List.map_map, List.map_map]; rfl
        rw [e]
        unfold treeRN
        by_cases hl : L = []
        · rw [if_pos hl, hn2 hl]; rfl
        · rw [if_neg hl, hn1 hl]
      have hN : NodesAt w5 vn (ns.map toV) := by
        refine ⟨?_, fun n hn => ?_⟩
        · rw [toV_cells, List.length_map]
          exact rd_of_owns (hU.row 0 rfl)
        · obtain ⟨m, hm, rfl⟩ := List.mem_map.1 hn
          have hA := hU.all 1 rfl
          have g1 := hA (chRow 68 3 m.va m.p.asks.length (askCells m.p.asks)) (List.mem_flatMap.2 ⟨m, hm, .head _⟩)
          have g2 := hA (chRow 9 1 m.vb m.p.bys.length (m.p.bys.map Value.string)) (List.mem_flatMap.2 ⟨m, hm, .tail _ (.head _)⟩)
          refine ⟨?_, rd_of_owns (base := 0) g2⟩
          show Rd w5 3 m.va (m.p.asks.map toAq).length ((m.p.asks.map toAq).flatMap aqC)
          rw [asks_cells, List.length_map]
          exact rd_of_owns (base := 0) g1
      obtain ⟨nv, hnv⟩ : ∃ nv, nv = ns.map toV := ⟨_, rfl⟩
      rw [← hnv] at hns hN
      have hF := HD.out.nodes hns
      have KW := tNew vn nv d w5 hN hF
      have HN0 := Lib.hid hN
      obtain ⟨An, cn, rfl, _⟩ := id hN.1
      have U5 := U3.grow hU.below
      have HNS := Lib.hid hns
      have HF := Lib.hid hF
      clear hn1 hn2 hn3 hU KN hns hnv hF hN U3
      go_wp2_with fail
      (with_reducible refine KW.mono ?_)
      rintro e w6 ⟨t, vt, ms, rfl, hms, hB, hMS, ht, hb6⟩
      have U6 := U5.grow hb6
      have hmt : ms.map (·.p) = treeRN L := hms.trans HNS.out
      have hFit := HD.out.nodes hmt
      obtain ⟨At, ct, rfl, _⟩ := id hMS.1
      have hl32 := hFit.many
      have hl0 := hFit.some
      have HM0 := Lib.hid (HN0.out.below hb6)
      have KTX := fun k n w' (h : Below w6.heap.size w6 w') (hn : ms[k]? = some n) => tText t _ ms d k n w' (hB.below h hB.lt) (hMS.below h) hFit hn
      have KL := fun w' (h : Below w6.heap.size w6 w') => tLen t At ms.length ct w' (hB.below h hB.lt)
      obtain ⟨ln, hln⟩ : ∃ n, n = ms.length := ⟨_, rfl⟩
      rw [← hln] at KL hl32 hl0
      have HLN := Lib.hid hln
      have HMT := Lib.hid hmt
      have HB6 := Lib.hid hb6
      obtain ⟨s0, hsi, sz0, sz1, sz2⟩ := info_parts infoStrV
      clear hms hmt hFit hln hB hMS ht hb6 KW U5
      go_wp2_with fail
      (with_reducible refine (KL _ (Below.refl _ _)).mono ?_)
      rintro e w7 ⟨rfl, rfl⟩
      have R0 := (Upd.nil [] w7).nilRow 9 1
      go_wp2_with fail
      go_loopw [7, 55] (fun lv i wq => ∃ q2 : Nat, q2 ≤ ln ∧ i = .int .i64 q2 ∧ Upd [] w7 [chRow 9 1 lv q2 (((linesOf (treeRN L) d).take q2).map fun y => Value.string y.text)] wq) (fun _ i _ => ln - (intOf i).toNat)
      case atStart => exact ⟨0, Nat.zero_le _, rfl, R0⟩
      case round =>
        obtain ⟨q2, hq2, rfl, U7⟩ := hrel
        clear R0
        obtain ⟨Al, cl, rfl⟩ := owns_slice (U7.row 0 rfl)
        by_cases hlt2 : q2 < ln
        · obtain ⟨n, hn⟩ : ∃ n, ms[q2]? = some n := ⟨_, List.getElem?_eq_getElem (by rw [← HLN.out]; omega)⟩
          have hp2 : (treeRN L)[q2]? = some n.p := by rw [← HMT.out, List.getElem?_map, hn]; rfl
          have HT : Hid (((linesOf (treeRN L) d).take (q2 + 1)).map (fun y => Value.string y.text) = ((linesOf (treeRN L) d).take q2).map (fun y => Value.string y.text) ++ [.string (lineOf n.p (d q2 - 1)).text]) := Lib.hid (by rw [List.take_add_one, linesOf_at hp2, List.map_append]; rfl)
          have KT2 := fun w' (h : Below w7.heap.size w7 w') => KTX q2 n w' h hn
          obtain ⟨tx, htx⟩ : ∃ y, y = (lineOf n.p (d q2 - 1)).text := ⟨_, rfl⟩
          rw [← htx] at KT2 HT
          clear hn hp2 htx KTX
          go_wp2_with fail
          (with_reducible refine (KT2 _ U7.below).mono ?_)
          rintro e w8 ⟨rfl, hb8⟩
          have U8 := (U7.grow hb8).alloc #[.string tx] 9
          clear KT2 hb8
          go_wp2_with (at_builtin; refine wpl_stop fun W hW => ?_)
          refine Stopped.mk ?_
          have U9 := U8.same hW
          clear U8 hW
          refine wpl_append_rd rfl (.tmp 58) (.tmp 62) 46 rfl 0 9 s0 _ 1 16 Tryz.underlying46 hsi sz0 sz1 sz2 rfl (by decide) _ q2 _ rfl (U9.row 1 rfl) _ 1 _ rfl (rd_oneR (U9.blk 0 rfl) (n := 1) rfl) (by intro u hu; simp at hu; subst hu; rfl) (by unfold maxLen; omega) (by omega) (Nat.zero_le _) fun v9 w9 hown9 hgr9 hv9 => ?_
          have U10 := U9.app 1 rfl hown9 hgr9 hv9
          simp only [List.eraseIdx_cons_succ, List.eraseIdx_cons_zero] at U10
          obtain ⟨A9, c9, rfl⟩ := owns_slice hown9
          clear hown9 hgr9 hv9 U9
          go_wp2_with fail
          go_roundw
          case rel => exact ⟨q2 + 1, by omega, by go_num, by rw [HT.out]; exact U10.drop 1⟩
          case measure => simp [intOf]; omega
        · obtain rfl : q2 = ln := by omega
          have hll : (linesOf (treeRN L) d).length = q2 := by rw [linesOf_len, ← HMT.out, List.length_map]; exact HLN.out.symm
          have hv : Rd wr 1 (.slice Al q2 cl) (linesOf (treeRN L) d).length (((linesOf (treeRN L) d).map LnV.text).map Value.string) := by
            have h := rd_of_owns (U7.row 0 rfl)
            rw [List.take_of_length_le (by rw [hll]; exact Nat.le_refl _)] at h
            rw [hll, List.map_map]
            exact h
          have UW := U6.grow U7.below
          have KP := rParse (linesOf (treeRN L) d) _ mx wr hv (lines_fit HD.out HCl.out) (fun ns e => ⟨d, HD.out.nodes (e.trans (back_all HD.out HCl.out))⟩) (cell_updR UW (by simp) HM.out) (tab_below HTab.out UW.below)
          have KR := fun w' (h : Below w7.heap.size w7 w') => lRefN _ nv w' (HM0.out.below h) HF.out.many (fun n hn => ⟨(HF.out.fit n hn).asks, fun a ha => by have := (chkA_parts ((HF.out.fit n hn).ask a ha)).2.2.1; omega⟩)
          have h67 := U7.below
          clear hv hll U6 U7 KTX
          go_wp2_with fail
          (with_reducible refine KP.mono ?_)
          rintro e w9 ⟨tu, vu, us, rfl, hus, hBu, hNu, htu, hb9⟩
          have U9 := UW.grow hb9
          have h69 := h67.trans (hb9.mono h67.size)
          have hus2 := hus.trans (back_all HD.out HCl.out)
          have KS := fun w' (h : Below w9.heap.size w9 w') vr rs (hR : NodesAtR w' vr rs) (he : rs.map (·.p) = nv.map (·.p)) => lSame tu vu vr us rs d w' (hBu.below h hBu.lt) (hNu.below h) (HD.out.nodes hus2) hR ((he.trans HNS.out).trans hus2.symm)
          clear UW KP hb9 hus hBu hNu htu h67
          go_wp2_with fail
          (with_reducible refine (KR _ h69).mono ?_)
          rintro e w10 ⟨vr, rs, rfl, hrs, hRR, hb10⟩
          have U10 := U9.grow hb10
          have h610 := h69.trans (hb10.mono h69.size)
          have KS1 := KS w10 hb10 vr rs hRR hrs
          obtain ⟨Ar, cr, rfl, _⟩ := id hRR.1
          clear KS KR hRR hrs hb10 U9 h69
          go_wp2_with fail
          (with_reducible refine KS1.mono ?_)
          rintro e w11 ⟨rfl, hb11⟩
          have U11 := U10.grow hb11
          have h611 := h610.trans (hb11.mono h610.size)
          clear KS1 hb11 U10 h610
          go_wp2_with fail
          (with_reducible refine (tTextNo (.pointer (some ⟨t, 0, none⟩)) q2 (-1) w11 ⟨_, rfl⟩ (fun w' h => KL w' (h611.trans (h.mono h611.size))) (by omega)).mono ?_)
          rintro e w12 ⟨rfl, hb12⟩
          have U12 := U11.grow hb12
          have h612 := h611.trans (hb12.mono h611.size)
          clear hb12 U11 h611
          go_wp2_with fail
          (with_reducible refine (KL _ h612).mono ?_)
          rintro e w13 ⟨rfl, rfl⟩
          go_wp2_with fail
          (with_reducible refine (tTextNo (.pointer (some ⟨t, 0, none⟩)) q2 q2 w13 ⟨_, rfl⟩ (fun w' h => KL w' (h612.trans (h.mono h612.size))) (by omega)).mono ?_)
          rintro e w14 ⟨rfl, hb14⟩
          have U14 := U12.grow hb14
          go_wp2_with fail
          go_ret
          exact ⟨rfl, U14.below⟩
end Go.Proofs.YteiocplfmjkbkaaGreatDoor
