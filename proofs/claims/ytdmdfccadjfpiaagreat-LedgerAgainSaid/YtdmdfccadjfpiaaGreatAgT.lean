/-
  LedgerAgain: the walk, and the lift: whatever it is handed, it returns true, and what it was handed reads as it did. Conditions: none.
-/
import Derived.Test.YtdmdfccadjfpiaaGreatAgT0
import Derived.Test.YtdmdfccadjfpiaaGreatLiftG
import Derived.Test.YtdmdfccadjfpiaaGreatDat
import Derived.ChangeMaps5
namespace Go.Proofs.YtdmdfccadjfpiaaGreat
open Go.RowKit
set_option maxRecDepth 100000

set_option maxHeartbeats 8000000 in
theorem laWalk (v vt : Value) (ss : List Sm) (ts : List (Nat × Nat)) (w : World) (hr : Rd w 11 v ss.length (ss.flatMap sm11)) (hok : ∀ s ∈ ss, s.ok) (hrt : Rd w 2 vt ts.length (tearCells ts)) (ht : ∀ t ∈ ts, t.1 < 65536 ∧ t.2 < 65536) :
    Calls Tryz.prog 5 #[v, vt] w fun e w' => e = .returned (.bool true) ∧ Below w.heap.size w w' := by
  obtain ⟨A, c, rfl, _, h2, h3, h4⟩ := hr
  obtain ⟨At, ct, rfl, _, ht2, ht3, ht4⟩ := hrt
  unfold maxLen at h3 ht3
  obtain ⟨n, hnn⟩ : ∃ n, n = ss.length := ⟨_, rfl⟩
  obtain ⟨nt, hnt⟩ : ∃ n, n = ts.length := ⟨_, rfl⟩
  rw [← hnn] at h2 h4 ⊢
  rw [← hnt] at ht2 ht4 ⊢
  have HN := Lib.hid hnn
  have HNT := Lib.hid hnt
  have HSS := Lib.hid hok
  have HTS := Lib.hid ht
  clear hnn hok hnt ht
  go_enter Tryz.func5, Tryz.ntmps5
  go_wp2_with fail
  (with_reducible refine (awake22 _).mono ?_)
  rintro e w1 ⟨rfl, hb1⟩
  by_cases hl : 40 < n
  · have d : decide ((40 : Int) < (n : Int)) = true := by simp; omega
    go_wp2_with fail
    go_ret
    exact ⟨rfl, hb1⟩
  have d : decide ((40 : Int) < (n : Int)) = false := by simp; omega
  by_cases hl8 : 8 < nt
  · have d8 : decide ((8 : Int) < (nt : Int)) = true := by simp; omega
    go_wp2_with fail
    go_ret
    exact ⟨rfl, hb1⟩
  have d8 : decide ((8 : Int) < (nt : Int)) = false := by simp; omega
  have U1 := (Upd.nil [] w).grow hb1
  clear hb1
  go_wp2_with fail
  (with_reducible refine (diskNew _).mono ?_)
  rintro e w8 ⟨d_, m, rfl, hd, hm, hD, hb8⟩
  have U8 := U1.add hb8 (chDisk d_ m []) hD (fun x hx => by
    rcases List.mem_cons.1 hx with rfl | hx
    · exact hd
    rcases List.mem_cons.1 hx with rfl | hx
    · exact hm
    · cases hx)
  clear U1 hd hm hD hb8 d d8
  go_wp2_with fail
  (with_reducible refine (crcNew w8).mono ?_)
  rintro e w12 ⟨rfl, hT, hb12⟩
  obtain ⟨b, hbb⟩ : ∃ b, b = w8.heap.size := ⟨_, rfl⟩
  rw [← hbb] at hT ⊢
  have hdl : d_ < w8.heap.size := U8.lt (List.mem_cons_self) (.head _)
  have hml : m < w8.heap.size := U8.lt (List.mem_cons_self) (.tail _ (.head _))
  have U12 := U8.add hb12 (chTbA b) hT (fun y hy => by rw [List.mem_singleton.1 hy]; omega)
  have hDd := U12.disk 1 rfl
  have hPd : (chDT d_ m b []).P w12 := ⟨hT, hDd, by simp only [List.mem_cons, List.not_mem_nil, or_false]; omega⟩
  have U13 := U12.join (chDT d_ m b []) hPd (fun y hy => by
    rcases List.mem_cons.1 hy with rfl | hy
    · exact .inl (.head _)
    · exact .inr hy)
  have KO := lOpen0 d_ m b w12 hPd
  clear U8 hb12 hT hbb hdl hml hDd hPd U12
  go_wp2_with fail
  (with_reducible refine KO.mono ?_)
  rintro e w14 ⟨g, j, fs0, rfl, hj0, h14⟩
  have U14 := U13.turn 0 rfl h14
  simp only [List.eraseIdx_cons_zero, List.append_nil] at U14
  clear KO h14 U13
  go_wp2_with fail
  go_loopw [36] (fun i wr => ∃ (k : Nat) (rs : List Ln) (es : List (Nat × ItV)) (lv : Value) (kk ks : Nat) (fs : List FileV), k ≤ n ∧ i = .int .i64 k ∧ Kept rs k ∧ es.map strip = (runS s0L rs).es ∧ hasJ fs nmL (layAll (rs.map lnB)) ks ∧ kk ≤ 708 * (k + 1) ∧ Upd [] w [chL g j d_ m b lv (runS s0L rs).h (runS s0L rs).li (runS s0L rs).la es kk fs] wr) (fun i _ => n - (intOf i).toNat)
  case atStart => exact ⟨0, [Ln.life 1], [], _, 10, _, fs0, Nat.zero_le _, rfl, Kept.zero, rfl, by
    have e : layAll (([Ln.life 1] : List Ln).map lnB) = layL [2, 1] := by
      show layAll [(2 : UInt8) :: uvar 1] = _
      rw [uvar_small (by decide)]
      show layL [2, 1] ++ [] = _
      rw [List.append_nil]
    rw [e]; exact hj0, by omega, U14⟩
  case round =>
    obtain ⟨k, rs, es, lv, kk, ks, fs, hk, rfl, hK, hes, hj, hkk, R1⟩ := hrel
    clear U14 hj0 w14 w12
    by_cases hkn : k < n
    · obtain ⟨s, hs⟩ : ∃ s, ss[k]? = some s := ⟨_, List.getElem?_eq_getElem (by rw [← HN.out]; exact hkn)⟩
      obtain ⟨bq, oo, rfl, hat⟩ := h4 (by omega)
      have e0 := fun j hj => flat_at sm11 11 (fun _ => rfl) ss k s hs j hj
      have hsk := HSS.out s (List.mem_of_getElem? hs)
      have hb5 := R1.below
      obtain ⟨g_, o, p, ow, sq, mo, ti, ru, la, va, stb⟩ := s
      obtain ⟨so1, so2, so3, so4, so5, so6, so7⟩ := hsk
      simp only at so1 so2 so3 so4 so5 so6 so7
      have x0 := hat.nth0 hb5 (k * 11) (.bool g_) (e0 0 (by omega))
      have x1 := hat.nth hb5 (k * 11) 1 (.int .u8 o) (e0 1 (by omega))
      have x2 := hat.nth hb5 (k * 11) 2 (.int .u8 p) (e0 2 (by omega))
      have x3 := hat.nth hb5 (k * 11) 3 (.int .u8 ow) (e0 3 (by omega))
      have x4 := hat.nth hb5 (k * 11) 4 (.int .u16 sq) (e0 4 (by omega))
      have x5 := hat.nth hb5 (k * 11) 5 (.int .u16 mo) (e0 5 (by omega))
      have x6 := hat.nth hb5 (k * 11) 6 (.int .u16 ti) (e0 6 (by omega))
      have x7 := hat.nth hb5 (k * 11) 7 (.int .u8 ru) (e0 7 (by omega))
      have x8 := hat.nth hb5 (k * 11) 8 (.int .u8 la) (e0 8 (by omega))
      have x9 := hat.nth hb5 (k * 11) 9 (.int .u8 va) (e0 9 (by omega))
      have x10 := hat.nth hb5 (k * 11) 10 (.bool stb) (e0 10 (by omega))
      clear hs hat e0
      have wk : IntKind.u64.wrap (k : Int) = (k : Int) := by rw [IntKind.wrap_u64]; omega
      have HES := Lib.hid hes
      have HK := Lib.hid hK
      have HJ := Lib.hid hj
      clear hes hK hj
      go_wp2_with fail
      refine calls_genP fun w3 hw3 => ?_
      have U3 := (R1.alloc #[.bool g_, .int .u8 o, .int .u8 p, .int .u8 ow, .int .u16 sq, .int .u16 mo, .int .u16 ti, .int .u8 ru, .int .u8 la, .int .u8 va, .bool stb] 27).same hw3
      clear hw3 x0 x1 x2 x3 x4 x5 x6 x7 x8 x9 x10 R1
      obtain ⟨hv, hhv⟩ : ∃ hv, hv = (runS s0L rs).h (o % 4) := ⟨_, rfl⟩
      have hvl : hv ≤ 1000000 := by have := HK.out.h (o % 4); omega
      have KN := smallNextH g_ g hv o p ow sq mo ti ru la va stb w3 hvl so2 so3 so4 so5 so6 so7 (fun o4 ho4 w' hb => by
        have hB := (two_open (two_open (two_open ((U3.grow hb).get 1 rfl) |>.get 0 rfl) |>.get 0 rfl)).blk 0 rfl
        refine (lHigh g _ lv (runS s0L rs).h (runS s0L rs).li (runS s0L rs).la w' hB o4 (by omega)).mono ?_
        rintro e w'' ⟨rfl, rfl⟩
        exact ⟨by rw [hhv, ho4], Below.refl _ _⟩)
      (with_reducible refine KN.mono ?_)
      rintro e w4 ⟨a, he, hnx, hrowa, hoka, hb4⟩
      have U4 := (U3.call ((Upd.nil [] w3).addRow hb4 hrowa (Nat.le_refl _)))
      simp only [List.cons_append, List.nil_append] at U4
      rw [hhv] at hnx
      have hN := HK.out.next (by omega) hnx hoka.nb
      clear KN U3 hb4 hvl hhv
      subst he
      obtain ⟨ag, ao, asq, atm, aru, alv, aps, ast, apr, ava, aow, ago, agf, agt⟩ := a
      obtain ⟨Al, acl, hal⟩ := owns_slice hrowa
      simp only at hal
      subst hal
      have hne : es.length = k := by
        have h5 := HK.out.ne
        rw [← HES.out, List.length_map] at h5
        exact h5
      have hby := HK.out.bytes
      have KA := admitOk g j d_ m b kk ks lv (runS s0L rs).h (runS s0L rs).li (runS s0L rs).la k es fs (layAll (rs.map lnB)) (⟨ag, ao, asq, atm, aru, .slice Al aps.length acl, aps, ast, apr, ava, aow, ago, agf, agt⟩ : ItV) w4 (U4.get 2 rfl) HJ.out hoka (fun x hx => by
          unfold rdFp at hx
          split at hx
          · cases hx
          · exact U4.apartAt 0 2 (by decide) rfl rfl x hx) hN.fit (by have := HK.out.h (spanO (⟨ag, ao, asq, atm, aru, .slice Al aps.length acl, aps, ast, apr, ava, aow, ago, agf, agt⟩ : ItV)); omega) (by omega) (by omega) (by have := hN.ps; omega)
        (by rw [hN.trim]; have := hN.rcl; omega) (by rw [hN.trim]; have := hN.rcl; omega)
      rw [hN.trim] at KA
      have HNX := Lib.hid hN
      clear hnx hrowa hoka hN hne hby
      go_wp2_with fail
      (with_reducible refine (show Calls _ _ #[.pointer (some ⟨g, 0, none⟩), .int .u64 k, .agg #[.bool ag, .int .u8 ao, .int .u64 asq, .int .u64 atm, .string aru, .slice Al aps.length acl, .int .u8 ast, .int .u8 apr, .int .i64 ava, .int .u8 aow, .int .u8 ago, .int .u64 agf, .int .u64 agt]] _ _ from KA).mono ?_)
      rintro e w5 ⟨lv5, A5, c5, fs5, rfl, hj5, h5⟩
      have U5 := (U4.turn 2 rfl h5).pick [0] (by decide)
      simp only [List.filterMap_cons, List.filterMap_nil, List.getElem?_cons_zero, List.eraseIdx_cons_succ, List.eraseIdx_cons_zero, List.cons_append, List.nil_append] at U5
      have HJ5 := Lib.hid hj5
      clear KA h5 U4 hj5
      go_wp2_with fail
      refine ⟨⟨k + 1, rs ++ [Ln.ent (k, (⟨ag, ao, asq, atm, aru, .slice Al aps.length acl, aps, ast, apr, ava, aow, ago, agf, agt⟩ : ItV))], es ++ [(k, { (⟨ag, ao, asq, atm, aru, .slice Al aps.length acl, aps, ast, apr, ava, aow, ago, agf, agt⟩ : ItV) with lv := .slice A5 aps.length c5 })], lv5, kk + ((recL k (⟨ag, ao, asq, atm, aru, .slice Al aps.length acl, aps, ast, apr, ava, aow, ago, agf, agt⟩ : ItV)).length + 8), ks, fs5, by omega, by go_num, HNX.out.kept, ?_, ?_, ?_, ?_⟩, by simp [intOf]; omega⟩
      rotate_left 3
      · rw [runS_snoc]; exact U5
      · rw [runS_snoc, List.map_append, HES.out]; rfl
      · rw [List.map_append]
        show hasJ fs5 nmL (layAll (rs.map lnB ++ [recL k (⟨ag, ao, asq, atm, aru, .slice Al aps.length acl, aps, ast, apr, ava, aow, ago, agf, agt⟩ : ItV)])) ks
        rw [layAll_snoc]; exact HJ5.out
      · have := HNX.out.rcl; omega
    · have hkN : k = n := by omega
      subst hkN
      clear h4 h2 h3
      have HES := Lib.hid hes
      have HK := Lib.hid hK
      have KS := lSync g j d_ m b kk ks lv _ _ _ es fs _ wr (R1.get 0 rfl) hj
      clear hes hK hj
      go_wp2_with fail
      (with_reducible refine KS.mono ?_)
      rintro e w2 ⟨rfl, fs2, hj2, hU2⟩
      have U2 := R1.turn 0 rfl hU2
      simp only [List.eraseIdx_cons_zero, List.append_nil] at U2
      clear KS hU2 R1
      have hne : k = es.length := by
        have h5 := HK.out.ne
        rw [← HES.out, List.length_map] at h5
        exact h5.symm
      have hnb0 := nb_strips HES.out HK.out.nb
      have KL := lList g k _ lv (runS s0L rs) es w2 hne (two_open (U2.get 0 rfl) |>.get 0 rfl) (by omega) (fun x hx => by have := (hnb0 x hx).2; omega)
      have HNE := Lib.hid hne
      clear hne hnb0
      go_wp2_with fail
      (with_reducible refine KL.mono ?_)
      rintro e w3 ⟨A3, c3, es3, rfl, hes3, hU3⟩
      have U3 := (U2.call hU3).pick [2, 0, 1] (by decide)
      simp only [List.filterMap_cons, List.filterMap_nil, List.getElem?_cons_zero, List.getElem?_cons_succ, List.cons_append, List.nil_append] at U3
      replace U3 := U3.left
      clear KL hU3 U2
      have hbl : 1 ≤ (layAll (rs.map lnB)).length := by
        have h1 := lenR_ge (rs.map lnB)
        have h2 := HK.out.len
        rw [layAll_len]
        rw [List.length_map] at h1
        omega
      obtain ⟨v3, rfl⟩ := hj2.some hbl
      have hn3 : k = es3.length := by
        have h5 := congrArg List.length hes3
        simp only [List.length_map] at h5
        rw [h5]; exact HNE.out
      have hes3' : es3.map strip = (runS s0L rs).es := hes3.trans HES.out
      have hL := HK.out.lived (by omega)
      have HNB := Lib.hid HK.out.nb
      obtain ⟨E0, hE0⟩ : ∃ E0, E0 = (runS s0L rs).es := ⟨_, rfl⟩
      rw [← hE0] at hL hes3' HNB
      have HE3 := Lib.hid hes3'
      have HN3 := Lib.hid hn3
      have HL := Lib.hid hL
      clear hbl hj2 hes3 hes3' hL hE0 HES HK HNE hn3
      go_wp2_with fail
      go_loopw [56] (fun i wr => ∃ (q : Nat) (rq : List Ln) (vq : Value), q ≤ nt ∧ i = .int .i64 q ∧ Lived rq E0 q ∧ Upd [] w [chDT d_ m b [⟨nmL, vq, layAll (rq.map lnB), (layAll (rq.map lnB)).length⟩], chRow 41 14 (.slice A3 k c3) es3.length (es3.flatMap en14), chAll (es3.map labRow)] wr) (fun i _ => nt - (intOf i).toNat)
      case atStart => exact ⟨0, rs, v3, Nat.zero_le _, rfl, HL.out, U3⟩
      case round =>
        obtain ⟨q, rq, vq, hq, rfl, hLv, R2⟩ := hrel
        clear U3
        by_cases hqn : q < nt
        · obtain ⟨t, htq⟩ : ∃ t, ts[q]? = some t := ⟨_, List.getElem?_eq_getElem (by rw [← HNT.out]; exact hqn)⟩
          obtain ⟨bt, ot, rfl, hat⟩ := ht4 (by omega)
          have htt := HTS.out t (List.mem_of_getElem? htq)
          have e0 := tear_atA htq
          have hb5 := R2.below
          obtain ⟨t1, t2⟩ := t
          simp only at htt e0
          have x0 := hat.nth0 hb5 (q * 2) (.int .u16 t1) e0.1
          have x1 := hat.nth hb5 (q * 2) 1 (.int .u16 t2) e0.2
          have wk : IntKind.u64.wrap (q : Int) = (q : Int) := by rw [IntKind.wrap_u64]; omega
          have wk2 : IntKind.u64.wrap ((q : Int) + 2) = (q : Int) + 2 := by rw [IntKind.wrap_u64]; omega
          have HLV := Lib.hid hLv
          clear htq hat e0 hLv
          go_wp2_with fail
          refine calls_genP fun w4 hw4 => ?_
          have U4 := ((R2.alloc #[.int .u16 t1, .int .u16 t2] 68).alloc #[.int .u16 t1, .int .u16 t2] 68).same hw4
          clear hw4 R2 x0 x1
          have KC := crashDT d_ m b nmL vq _ _ (t1, t2) w4 (U4.get 2 rfl) (rd_one (U4.blk 0 rfl) (n := 2) rfl) htt.1 htt.2
          simp only [World.size_alloc] at KC
          (with_reducible refine KC.mono ?_)
          rintro e w5 ⟨rfl, v5, hU5⟩
          have U5 := (U4.turn 2 rfl hU5).pick [0, 3, 4] (by decide)
          simp only [List.filterMap_cons, List.filterMap_nil, List.getElem?_cons_zero, List.getElem?_cons_succ, List.cons_append, List.nil_append, List.eraseIdx_cons_succ, List.eraseIdx_cons_zero] at U5
          clear KC hU5 U4 htt
          have KO := lOpenRec d_ m b v5 rq _ w5 (U5.get 0 rfl) HLV.out.good (fun r hr => by have := HLV.out.sz r hr; omega) (by have := HLV.out.len; omega) (by rw [HLV.out.li]; omega)
          go_wp2_with fail
          (with_reducible refine KO.mono ?_)
          rintro e w6 ⟨g6, j6, lv6, es6, fs6, k6, rfl, hes6, hle6, hj6, hk6, hU6⟩
          have U6 := U5.turn 0 rfl hU6
          simp only [List.eraseIdx_cons_zero, List.cons_append, List.nil_append] at U6
          clear KO hU6 U5 hle6 hk6
          rw [HLV.out.es] at hes6
          have hn6 : k = es6.length := by
            have h5 := congrArg List.length (hes6.trans HE3.out.symm)
            simp only [List.length_map] at h5
            rw [h5]; exact HN3.out
          have hnb6 := nb_strips hes6 HNB.out
          have KL := lList g6 k _ lv6 ⟨(runS s0L rq).h, [], (runS s0L rq).li + 1, (runS s0L rq).la⟩ es6 w6 hn6 (two_open (U6.get 0 rfl) |>.get 0 rfl) (by omega) (fun x hx => by have := (hnb6 x hx).2; omega)
          have HE6 := Lib.hid hes6
          have HN6 := Lib.hid hn6
          have HJ6 := Lib.hid hj6
          clear hes6 hn6 hj6 hnb6
          go_wp2_with fail
          (with_reducible refine KL.mono ?_)
          rintro e w7 ⟨A7, c7, es7, rfl, hes7, hU7⟩
          have U7 := U6.call hU7
          simp only [List.cons_append, List.nil_append] at U7
          clear KL hU7 U6
          have hst7 : es7.map strip = es3.map strip := (hes7.trans HE6.out).trans HE3.out.symm
          have hn7 : k = es7.length := by
            have h5 := congrArg List.length hst7
            simp only [List.length_map] at h5
            rw [h5]; exact HN3.out
          have KS := lSame A7 A3 k c7 c3 es7 es3 w7 hn7 hst7 (by have := rd_of_owns (U7.row 0 rfl); rw [← hn7] at this; exact this) (by have := rd_of_owns (U7.row 3 rfl); rw [← HN3.out] at this; exact this)
            (fun x hx => ((nb_strips (hes7.trans HE6.out) HNB.out) x hx).1.ok (labs_rd (U7.all 1 rfl) x hx)) (labs_rd (U7.all 4 rfl)) (by omega)
          clear hst7 hn7 hes7
          go_wp2_with fail
          (with_reducible refine KS.mono ?_)
          rintro e w8 ⟨rfl, hb8⟩
          have U8 := U7.grow hb8
          clear KS hb8 U7
          have hB8 := (two_open (two_open (two_open (U8.get 2 rfl) |>.get 0 rfl) |>.get 0 rfl)).blk 0 rfl
          obtain ⟨L, hL⟩ : ∃ L, L = (runS s0L rq).li + 1 := ⟨_, rfl⟩
          rw [← hL] at hB8
          have KF := lLife g6 _ lv6 (runS s0L rq).h L (runS s0L rq).la w8 hB8
          have hL2 : (L : Int) = (q : Int) + 2 := by rw [hL, HLV.out.li]; omega
          rw [hL2] at KF
          clear hB8 hL hL2
          go_wp2_with fail
          (with_reducible refine KF.mono ?_)
          rintro e w9 ⟨rfl, rfl⟩
          have U9 := U8.pick [2, 3, 4] (by decide)
          simp only [List.filterMap_cons, List.filterMap_nil, List.getElem?_cons_zero, List.getElem?_cons_succ] at U9
          replace U9 := U9.left
          have hbl : 1 ≤ (layAll ((rq ++ [Ln.life ((runS s0L rq).li + 1)]).map lnB)).length := by
            have h1 := lenR_ge ((rq ++ [Ln.life ((runS s0L rq).li + 1)]).map lnB)
            rw [layAll_len]
            rw [List.length_map, List.length_append] at h1
            simp only [List.length_cons] at h1
            omega
          obtain ⟨v9, hv9⟩ := HJ6.out.some hbl
          rw [hv9] at U9
          have HU9 := Lib.hid U9
          clear hbl hv9 U9 U8 KF
          go_wp2_with fail
          exact ⟨⟨q + 1, rq ++ [Ln.life ((runS s0L rq).li + 1)], v9, by omega, by go_num, HLV.out.snoc (by omega), HU9.out⟩, by simp [intOf]; omega⟩
        · have hqN : q = nt := by omega
          subst hqN
          have HU := Lib.hid R2.below
          clear R2
          go_wp2_with fail
          go_ret
          exact ⟨rfl, HU.out⟩
end Go.Proofs.YtdmdfccadjfpiaaGreat
namespace Go.Proofs.YtdmdfccadjfpiaaGreat
open Go.Joins Go.ChangeShapes Go.WideShapes Go.ChangeAt Go.RowKit Go.Deep Go.ChangeMaps
set_option maxRecDepth 100000

theorem ownKnobNone : ownKnob Tryz.prog.godebug = none := by kernel_rfl
theorem laidOut_ : laidOutB Tryz.prog = true := by kernel_rfl

theorem liftedLedgerAgain (os : Os) (started : os.Started) (H : Type) (enc : TypeId × Value → H) :
    ReturnsInHanded {} Tryz.checked os 5 .any (Rows.ledgerAgainSpec.pre6 enc Tryz.prog Tryz.f5 Rows.ledgerAgainRow.domain false) (Rows.ledgerAgainSpec.post enc Tryz.prog Tryz.f5 false true false false) := by
  refine returnsInHanded_of_change (C := Tryz.checked) ownKnobNone started (by kernel_rfl) Tryz.func5
    (ChangeSpec.witness6 (enc := enc) (C := Tryz.checked) false ⟨#[], #[.slice none 0 0, .slice none 0 0], []⟩ 8 (by kernel_rfl) (by kernel_rfl) (by kernel_rfl) (by kernel_rfl)) ?_
  intro W base args ds gs before hval0 hW _ _
  have hval : ∀ (j : Nat) t v, Tryz.f5.params[j]? = some t → args[j]? = some v → Value.okWide Tryz.prog W .any base t v := hval0
  have hW' := hW
  obtain ⟨p, q, hA0, hV, rfl, hfz, hnd⟩ := hW
  have hA : DataW.TrodAll enc Tryz.prog W 0 (fun _ => true) true Tryz.f5.params.toList args.toList ds p := hA0
  rw [Tryz.params5] at hA hval
  obtain ⟨v0, vs0, d0, ds0, p0, q0, hargs, rfl, rfl, h0, r0⟩ := trodAll_cons hA
  obtain ⟨v1, vs1, d1, ds1, p1, q1, rfl, rfl, rfl, h1, r1⟩ := trodAll_cons r0
  obtain ⟨rfl, rfl, rfl⟩ := trodAll_nil r1
  obtain rfl : args = #[v0, v1] := by cases args; simp_all
  obtain ⟨rfl, rfl⟩ := trodVars_none hV
  obtain ⟨e0, h0⟩ := rows_of Tryz.underlying22 (hval 0 22 v0 rfl rfl) h0
  obtain ⟨y0, a0, c0⟩ := open_sms h0
  obtain ⟨e1, h1⟩ := rows_of Tryz.underlying66 (hval 1 66 v1 rfl rfl) h1
  obtain ⟨y1, a1, c1⟩ := open_tearsD h1
  refine (laWalk v0 v1 y0 y1 W a0 c0 a1 c1).mono fun e W' ⟨he, hb⟩ => ?_
  subst he
  exact ⟨_, rfl, post_true laidOut_ (by kernel_rfl) rfl hW' rfl (by kernel_rfl) Tryz.underlying4 hb⟩

theorem ledgerAgain_proved : Rows.LedgerAgainSaid :=
  OpenClaim.holds_of_wide 5 Tryz.f5 rfl rfl rfl rfl rfl rfl rfl ⟨rfl, rfl, rfl, rfl, rfl⟩ rfl rfl rfl rfl rfl (by kernel_rfl) Tryz.func5 (by kernel_rfl)
    (of_decide_eq_true (by kernel_rfl)) (by unfold Func.isWrapper; first | (rw [if_pos (by decide +kernel)]; kernel_rfl) | (rw [if_neg (by decide +kernel)]; exact ⟨rfl, rfl⟩))
    (fun os started H enc _ => liftedLedgerAgain os started H enc)
end Go.Proofs.YtdmdfccadjfpiaaGreat
