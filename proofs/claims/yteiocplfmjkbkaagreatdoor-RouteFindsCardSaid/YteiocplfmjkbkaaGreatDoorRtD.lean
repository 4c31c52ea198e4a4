/-
  The walk of RouteFinds.
-/
import Derived.Test.YteiocplfmjkbkaaGreatDoorRtB
import Derived.Test.YteiocplfmjkbkaaGreatDoorRAlert
import Derived.Test.YteiocplfmjkbkaaGreatDoorLHas
namespace Go.Proofs.YteiocplfmjkbkaaGreatDoor
open Go.RowKit
set_option maxRecDepth 100000
attribute [local go_sem] FreeOrd.out FreeSl.out

/-- An alert in small numbers. -/
structure Al6 where
  o : Nat
  r : Nat
  a : Nat
  b : Nat
  n : Nat
  s : Nat
def al6 (x : Al6) : List Value := [.int .u8 x.o, .int .u8 x.r, .int .u8 x.a, .int .u8 x.b, .int .u8 x.n, .int .u8 x.s]
def Al6.ok (x : Al6) : Prop := x.o < 256 ∧ x.r < 256 ∧ x.a < 256 ∧ x.b < 256 ∧ x.n < 256 ∧ x.s < 256
theorem sameB_self (ps : List Pr) : sameB ps ps = true := by unfold sameB; simp
theorem small_vals (l : List Nat) : ∀ p ∈ smallL l, p.2.size ≤ 1000 := by
  intro p hp
  unfold smallL at hp
  obtain ⟨q, _, rfl⟩ := List.mem_map.1 hp
  show (valB q.1).size ≤ 1000
  unfold valB
  split
  · show 0 ≤ 1000; omega
  · split <;> (show 1 ≤ 1000; omega)
theorem rule_small (r : Nat) : (ruleB r).size ≤ 1000 := by
  unfold ruleB
  split
  · show 3 ≤ 1000; omega
  · split
    · show 4 ≤ 1000; omega
    · show 1 ≤ 1000; omega
set_option maxHeartbeats 16000000 in
theorem routeFindsWalk (v0 v1 : Value) (l : List SmN) (xs : List Al6) (mx : Int) (w : World) (h0 : Rd w 8 v0 l.length (l.flatMap smn8)) (hok : ∀ s ∈ l, s.ok ∧ Rd w 3 s.v s.asks.length (smallCells s.asks)) (h1 : Rd w 6 v1 xs.length (xs.flatMap al6)) (hao : ∀ x ∈ xs, x.ok)
    (hm : w.cell? ⟨2, 0, none⟩ = some (.int .i64 mx)) (hT : Lib.TabIs Tryz.prog w "strings.asciiSpace" .u8 Lib.asciiSpaceTab) :
    Calls Tryz.prog 3 #[v0, v1] w fun e w' => e = .returned (.bool true) ∧ Below w.heap.size w w' := by
  have KA := awake20 mx w hm hT
  have KN := fun w' (h : Below w.heap.size w w') => smallNodes v0 l w' (h0.below h) (fun s hs => ⟨(hok s hs).1, (hok s hs).2.below h⟩)
  obtain ⟨A0, c0, rfl, _⟩ := id h0
  obtain ⟨na, hna⟩ : ∃ n, n = xs.length := ⟨_, rfl⟩
  rw [← hna] at h1
  obtain ⟨A1, c1, rfl, h2, h3, h4, h5⟩ := h1
  unfold maxLen at h4
  have HA := Lib.hid h5
  have HNA := Lib.hid hna
  have HO := Lib.hid hao
  obtain ⟨nl, hnl⟩ : ∃ n, n = l.length := ⟨_, rfl⟩
  rw [← hnl] at KN ⊢
  clear h0 hok h5 hm hT hao h2 hna hnl
  go_enter Tryz.func3, Tryz.ntmps3
  go_wp2_with fail
  (with_reducible refine KA.mono ?_)
  rintro e w1 ⟨rfl, hb1⟩
  clear KA
  go_wp2_with fail
  (with_reducible refine (KN _ hb1).mono ?_)
  rintro e w2 ⟨vn, ns, rfl, hn1, hn2, hn3, hU⟩
  have hb2 := hb1.trans (hU.below.mono hb1.size)
  obtain ⟨d, hd⟩ := treeRN_tree l
  have hns : (ns.map toV).map (·.p) = treeRN l := by
    have e : (ns.map toV).map (·.p) = (ns.map (·.p)).map toRN := by rw [List.map_map, List.map_map]; rfl
    rw [e]
    unfold treeRN
    by_cases hl : l = []
    · rw [if_pos hl, hn2 hl]; rfl
    · rw [if_neg hl, hn1 hl]
  have hN : NodesAt w2 vn (ns.map toV) := by
    refine ⟨?_, fun n hn => ?_⟩
    · rw [toV_cells, List.length_map]
      exact rd_of_owns (hU.row 0 rfl)
    · obtain ⟨m, hm, rfl⟩ := List.mem_map.1 hn
      have hA := hU.all 1 rfl
      have g1 := hA (chRow 68 3 m.va m.p.asks.length (askCells m.p.asks)) (List.mem_flatMap.2 ⟨m, hm, .head _⟩)
      have g2 := hA (chRow 9 1 m.vb m.p.bys.length (m.p.bys.map Value.string)) (List.mem_flatMap.2 ⟨m, hm, .tail _ (.head _)⟩)
      refine ⟨?_, rd_of_owns (base := 0) g2⟩
      show Rd w2 3 m.va (m.p.asks.map toAq).length ((m.p.asks.map toAq).flatMap aqC)
      rw [asks_cells, List.length_map]
      exact rd_of_owns (base := 0) g1
  obtain ⟨nv, hnv⟩ : ∃ nv, nv = ns.map toV := ⟨_, rfl⟩
  rw [← hnv] at hns hN
  have hF := hd.nodes hns
  have KW := tNew vn nv d w2 hN hF
  obtain ⟨An, cn, rfl, _⟩ := id hN.1
  obtain ⟨ln, hln⟩ : ∃ n, n = nv.length := ⟨_, rfl⟩
  rw [← hln] at hN KW
  rw [← hln]
  have HFIT := Lib.hid hF
  have HLN := Lib.hid hln
  have HNS := Lib.hid hns
  have HD := Lib.hid hd
  clear hn1 hn2 hn3 hU hb1 KN hd hns hnv hF hln
  go_wp2_with fail
  (with_reducible refine KW.mono ?_)
  rintro e w3 ⟨t, vt, ms, rfl, hms, hB, hMS, ht, hb3⟩
  have hb4 := hb2.trans (hb3.mono hb2.size)
  have hN3 := hN.below hb3
  have hmt : ms.map (·.p) = treeRN l := hms.trans HNS.out
  obtain ⟨ok1, ok2, ok3⟩ := NodesOk.of HD.out hmt
  obtain ⟨ok4, ok5, ok6⟩ := NodesOk.of HD.out HNS.out
  have hml : ms.length = ln := by have := congrArg List.length hms; rw [List.length_map, List.length_map, ← HLN.out] at this; exact this
  have hl32 : ln ≤ 32 := by rw [HLN.out]; exact HFIT.out.many
  have hl0 : 0 < ln := by rw [HLN.out]; exact HFIT.out.some
  have HML := Lib.hid hml
  have HMS := Lib.hid hms
  have HMT := Lib.hid hmt
  have OK1 := Lib.hid ok1
  have OK2 := Lib.hid ok2
  have OK4 := Lib.hid ok4
  have OK6 := Lib.hid ok6
  have HFA : ∀ n ∈ nv, n.p.asks.length ≤ 8 ∧ ∀ a ∈ n.p.asks, a.2.1 < 256 := fun n hn => ⟨(OK4.out n hn).1, fun a ha => by have := (OK6.out n hn a ha).2; omega⟩
  have HFA' := Lib.hid HFA
  obtain ⟨At, ct, rfl, _⟩ := id hMS.1
  clear hms hmt ok1 ok2 ok3 ok4 ok5 ok6 hml KW hb2 hb3 hN HFA
  by_cases h20 : 20 < na
  · have d1 : decide ((20 : Int) < (na : Int)) = true := decide_eq_true (by omega)
    go_wp2_with fail
    go_ret
    exact ⟨rfl, hb4⟩
  have d1 : decide ((20 : Int) < (na : Int)) = false := decide_eq_false (by omega)
  go_wp2_with fail
  go_loopw [36] (fun i wr => ∃ k : Nat, k ≤ na ∧ i = .int .i64 k ∧ Below w3.heap.size w3 wr) (fun i _ => na - (intOf i).toNat)
  case atStart => exact ⟨0, Nat.zero_le _, rfl, Below.refl _ _⟩
  case round =>
    obtain ⟨k, hk, rfl, hbr⟩ := hrel
    have hb5 := hb4.trans (hbr.mono hb4.size)
    by_cases hlt : k < na
    · obtain ⟨b, o, rfl, hat⟩ := HA.out (by omega)
      obtain ⟨x, hx⟩ : ∃ x, xs[k]? = some x := ⟨_, List.getElem?_eq_getElem (by rw [← HNA.out]; exact hlt)⟩
      have hxo := HO.out x (List.mem_of_getElem? hx)
      have hat0 := flatN al6 6 (fun _ => rfl) xs k x hx
      obtain ⟨xo, xr, xa, xb, xn, xt⟩ := x
      obtain ⟨hx0, hx1, hx2, hx3, hx4, hx5⟩ := hxo
      have e0 := hat.nth0 hb5 (k * 6) _ (hat0 0 _ rfl)
      have e1 := hat.nth hb5 (k * 6) 1 _ (hat0 1 _ rfl)
      have e2 := hat.nth hb5 (k * 6) 2 _ (hat0 2 _ rfl)
      have e3 := hat.nth hb5 (k * 6) 3 _ (hat0 3 _ rfl)
      have e4 := hat.nth hb5 (k * 6) 4 _ (hat0 4 _ rfl)
      have e5 := hat.nth hb5 (k * 6) 5 _ (hat0 5 _ rfl)
      dsimp only at e0 e1 e2 e3 e4 e5 hx0 hx1 hx2 hx3 hx4 hx5
      have U0 := (Upd.nil [] wr).alloc #[.int .u8 xo, .int .u8 xr, .int .u8 xa, .int .u8 xb, .int .u8 xn, .int .u8 xt] 32
      have KAl := fun w' => smallAlert xo xr xa xb xn xt hx0 hx1 hx2 hx3 hx4 hx5 w'
      clear hx hat hat0 hx1 hx2 hx3 hx4 hx5
      go_wp2_with fail
      refine calls_genP fun w5 hw5 => ?_
      have U1 := U0.same hw5
      clear hw5 U0 e0 e1 e2 e3 e4 e5
      (with_reducible refine (KAl w5).mono ?_)
      rintro e w6 ⟨lv, rfl, hlv, hb6⟩
      have hls1 := small_vals [xa, xb, xn]
      have hls2 : (smallL [xa, xb, xn]).length ≤ 3 := smallL_len _
      have hrl := rule_small xr
      have ho9 : xo % 3 ≤ 9 := by omega
      obtain ⟨ls, hls⟩ : ∃ z, z = smallL [xa, xb, xn] := ⟨_, rfl⟩
      obtain ⟨org, horg⟩ : ∃ z, z = xo % 3 := ⟨_, rfl⟩
      obtain ⟨rule, hrule⟩ : ∃ z, z = ruleB xr := ⟨_, rfl⟩
      obtain ⟨st, hst⟩ : ∃ z, z = stOf xt := ⟨_, rfl⟩
      obtain ⟨pr, hpr⟩ : ∃ z, z = xt / 4 % 8 := ⟨_, rfl⟩
      rw [← hls] at hlv hls1 hls2
      rw [← hrule] at hrl
      rw [← horg] at ho9
      rw [← horg, ← hrule, ← hst, ← hpr]
      obtain ⟨Al, cl, rfl, _⟩ := id hlv
      obtain ⟨vl, hvl⟩ : ∃ z : Int, z = (xa : Int) := ⟨_, rfl⟩
      rw [← hvl]
      obtain ⟨nls, hnls⟩ : ∃ z, z = ls.length := ⟨_, rfl⟩
      rw [← hnls] at hlv ⊢
      have HNLS := Lib.hid hnls
      have U6 := (U1.grow hb6).alloc #[.int .u8 org, .string rule, .slice Al nls cl, .int .u8 st, .int .u64 0, .int .u8 pr, .int .i64 vl] 37
      clear KAl hls horg hrule hst hpr hvl hnls U1 hx0
      have hw36 : Below w3.heap.size w3 (w6.alloc (.cells #[.int .u8 org, .string rule, .slice Al nls cl, .int .u8 st, .int .u64 0, .int .u8 pr, .int .i64 vl] 37)) := hbr.trans (U6.below.mono hbr.size)
      have hl7 : Below w6.heap.size w6 (w6.alloc (.cells #[.int .u8 org, .string rule, .slice Al nls cl, .int .u8 st, .int .u64 0, .int .u8 pr, .int .i64 vl] 37)) := (Below.refl _ _).alloc (Nat.le_refl _) _
      obtain ⟨R, hR⟩ : ∃ z, z = findT (treeRN l) (holdN (namesL ls rule org)) ln 0 := ⟨_, rfl⟩
      have htl : (treeRN l).length = ln := by rw [← HMT.out, List.length_map, HML.out]
      have KF : ∀ w', Below (w6.alloc (.cells #[.int .u8 org, .string rule, .slice Al nls cl, .int .u8 st, .int .u64 0, .int .u8 pr, .int .i64 vl] 37)).heap.size (w6.alloc (.cells #[.int .u8 org, .string rule, .slice Al nls cl, .int .u8 st, .int .u64 0, .int .u8 pr, .int .i64 vl] 37)) w' → Calls Tryz.prog 10 #[.pointer (some ⟨t, 0, none⟩), .agg #[.int .u8 org, .string rule, .slice Al nls cl, .int .u8 st, .int .u64 0, .int .u8 pr, .int .i64 vl]] w' fun e w2 => ∃ v', e = .returned v' ∧ w2.ownsRow w'.heap.size 3 1 v' R.length (natV R) ∧ Below w'.heap.size w' w2 := fun w' h => by
        have h3 := hw36.trans (h.mono hw36.size)
        have := tFind t (.slice At ms.length ct) ms org rule (.slice Al nls cl) (.int .u8 st) (.int .u64 0) (.int .u8 pr) (.int .i64 vl) ls w' (hB.below h3 hB.lt) (hMS.below h3) OK2.out (names_small org rule ls ho9 hrl hls1) (by rw [HML.out]; exact hl32) (by rw [HML.out]; exact hl0) ho9 (by omega) (by rw [← HNLS.out]; exact (hlv.below hl7).below h)
        rw [HMT.out, HML.out, ← hR] at this
        exact this
      have KR : ∀ w', Below (w6.alloc (.cells #[.int .u8 org, .string rule, .slice Al nls cl, .int .u8 st, .int .u64 0, .int .u8 pr, .int .i64 vl] 37)).heap.size (w6.alloc (.cells #[.int .u8 org, .string rule, .slice Al nls cl, .int .u8 st, .int .u64 0, .int .u8 pr, .int .i64 vl] 37)) w' → Calls Tryz.prog 12 #[.slice An ln cn] w' (RefMade nv w') := fun w' h => by
        have h3 := hw36.trans (h.mono hw36.size)
        exact lRefN (.slice An ln cn) nv w' (hN3.below h3) (by rw [← HLN.out]; exact hl32) HFA'.out
      have KQ : ∀ (vq : Value) (mq : List RNV) w', Below (w6.alloc (.cells #[.int .u8 org, .string rule, .slice Al nls cl, .int .u8 st, .int .u64 0, .int .u8 pr, .int .i64 vl] 37)).heap.size (w6.alloc (.cells #[.int .u8 org, .string rule, .slice Al nls cl, .int .u8 st, .int .u64 0, .int .u8 pr, .int .i64 vl] 37)) w' → mq.map (·.p) = treeRN l → NodesAtR w' vq mq → Calls Tryz.prog 11 #[vq, .int .i64 0, .agg #[.int .u8 org, .string rule, .slice Al nls cl, .int .u8 st, .int .u64 0, .int .u8 pr, .int .i64 vl]] w' (RefFound R w') := fun vq mq w' h hmq hq => by
        have hlq : mq.length = ln := by rw [← htl, ← hmq, List.length_map]
        have := rFind vq mq org rule (.slice Al nls cl) (.int .u8 st) (.int .u64 0) (.int .u8 pr) (.int .i64 vl) ls ho9 (by omega) (NodesOk.of HD.out hmq).2.2 (by rw [hlq]; exact hl32) ln 0 w' hq (by rw [← HNLS.out]; exact (hlv.below hl7).below h) (by rw [hlq]; exact hl0) (by omega)
        rw [hmq, ← hR] at this
        exact this
      have hRne : R ≠ [] := by rw [hR]; exact findT_ne _ _ _ _
      have hRlt : ∀ r ∈ R, r < ln := by rw [hR]; intro r hr; have := findT_lt _ _ _ _ (by rw [htl]; exact hl0) r hr; rw [htl] at this; exact this
      have hR0 : 0 < R.length := List.length_pos_iff.2 hRne
      obtain ⟨nR, hnR⟩ : ∃ z, z = R.length := ⟨_, rfl⟩
      rw [← hnR] at KF hR0
      have HNR := Lib.hid hnR
      have HRL := Lib.hid hRlt
      have HLS1 := Lib.hid hls1
      clear hR hRne hRlt hnR htl hls1
      go_upto_region 11 with fail
      refine wp_gen fun W9 hW9 => ?_
      rw [← hW9] at KF KR KQ hw36 hl7
      have U9 := U6.same hW9
      clear hW9 U6
      have F : ∀ w', Below W9.heap.size W9 w' → w'.cell? ⟨w6.heap.size, 0, none⟩ = some (.int .u8 org) ∧ w'.cell? ⟨w6.heap.size, 1, none⟩ = some (.string rule) ∧ w'.cell? ⟨w6.heap.size, 2, none⟩ = some (.slice Al nls cl) ∧ w'.cell? ⟨w6.heap.size, 3, none⟩ = some (.int .u8 st) ∧ w'.cell? ⟨w6.heap.size, 4, none⟩ = some (.int .u64 0) ∧ w'.cell? ⟨w6.heap.size, 5, none⟩ = some (.int .u8 pr) ∧ w'.cell? ⟨w6.heap.size, 6, none⟩ = some (.int .i64 vl) := fun w' h => ⟨((U9.grow h).blk 0 rfl).cell (j := 0) rfl, ((U9.grow h).blk 0 rfl).cell (j := 1) rfl, ((U9.grow h).blk 0 rfl).cell (j := 2) rfl, ((U9.grow h).blk 0 rfl).cell (j := 3) rfl, ((U9.grow h).blk 0 rfl).cell (j := 4) rfl, ((U9.grow h).blk 0 rfl).cell (j := 5) rfl, ((U9.grow h).blk 0 rfl).cell (j := 6) rfl⟩
      refine FreeOrd.region_free (fun w' => Below W9.heap.size W9 w') [2, 4, 6] [7, 8] [0, 1, 2, 3, 4, 5, 6] (by kernel_rfl) (by kernel_rfl) (by kernel_rfl) (Below.refl _ _).drew ?_
      repeat (first
        | (refine FreeOrd.RelSeq.pure_ (c := ?_) rfl rfl ?_ ?_; rotate_left; (focus (intro x w'; dsimp only; go_simp; (repeat' apply And.intro) <;> first | with_reducible rfl | assumption)); simp only [Act.put, List.setIfInBounds_toArray, List.set_cons_zero, List.set_cons_succ])
        | (refine FreeOrd.RelSeq.grow_ (c := ?_) rfl rfl ?_ ?_; rotate_left; (focus (intro x w' hw _; dsimp only; obtain ⟨q0, q1, q2, q3, q4, q5, q6⟩ := F w' hw; have hbr := Below.refl w'.heap.size w'; go_simp; (repeat' apply And.intro) <;> first | with_reducible rfl | assumption)); simp only [Act.put, List.setIfInBounds_toArray, List.set_cons_zero, List.set_cons_succ]))
      refine FreeOrd.RelSeq.rel_ (fun v u => u.ownsRow W9.heap.size 3 1 v nR (natV R)) rfl rfl (fun v u u' h hb => owns_below h hb) ?_ ?_
      focus
        intro x w' hw _; dsimp only
        go_simp
        (with_reducible refine (KF w' hw).mono ?_)
        rintro e w2 ⟨v2, rfl, hv2, hb2⟩
        exact ⟨owns_mono hv2 hw.size, hw.trans (hb2.mono hw.size), hb2⟩
      simp only [Act.put, List.setIfInBounds_toArray, List.set_cons_zero, List.set_cons_succ, List.nil_append]
      repeat (first
        | (refine FreeOrd.RelSeq.pure_ (c := ?_) rfl rfl ?_ ?_; rotate_left; (focus (intro x w'; dsimp only; go_simp; (repeat' apply And.intro) <;> first | with_reducible rfl | assumption)); simp only [Act.put, List.setIfInBounds_toArray, List.set_cons_zero, List.set_cons_succ])
        | (refine FreeOrd.RelSeq.grow_ (c := ?_) rfl rfl ?_ ?_; rotate_left; (focus (intro x w' hw _; dsimp only; obtain ⟨q0, q1, q2, q3, q4, q5, q6⟩ := F w' hw; have hbr := Below.refl w'.heap.size w'; go_simp; (repeat' apply And.intro) <;> first | with_reducible rfl | assumption)); simp only [Act.put, List.setIfInBounds_toArray, List.set_cons_zero, List.set_cons_succ]))
      refine FreeOrd.RelSeq.rel_ (fun v u => ∃ mq : List RNV, mq.map (·.p) = treeRN l ∧ NodesAtR u v mq) rfl rfl (fun v u u' ⟨mq, h5, h6⟩ hb => ⟨mq, h5, h6.below hb⟩) ?_ ?_
      focus
        intro x w' hw _; dsimp only
        go_simp
        (with_reducible refine (KR w' hw).mono ?_)
        rintro e w2 ⟨v2, mq, rfl, hmq, hq, hb2⟩
        exact ⟨⟨mq, hmq.trans HNS.out, hq⟩, hw.trans (hb2.mono hw.size), hb2⟩
      simp only [Act.put, List.setIfInBounds_toArray, List.set_cons_zero, List.set_cons_succ, List.nil_append, List.cons_append]
      repeat (first
        | (refine FreeOrd.RelSeq.pure_ (c := ?_) rfl rfl ?_ ?_; rotate_left; (focus (intro x w'; dsimp only; go_simp; (repeat' apply And.intro) <;> first | with_reducible rfl | assumption)); simp only [Act.put, List.setIfInBounds_toArray, List.set_cons_zero, List.set_cons_succ])
        | (refine FreeOrd.RelSeq.grow_ (c := ?_) rfl rfl ?_ ?_; rotate_left; (focus (intro x w' hw _; dsimp only; obtain ⟨q0, q1, q2, q3, q4, q5, q6⟩ := F w' hw; have hbr := Below.refl w'.heap.size w'; go_simp; (repeat' apply And.intro) <;> first | with_reducible rfl | assumption)); simp only [Act.put, List.setIfInBounds_toArray, List.set_cons_zero, List.set_cons_succ]))
      refine FreeOrd.RelSeq.rel_ (fun v u => u.ownsRow W9.heap.size 3 1 v nR (natV R)) rfl rfl (fun v u u' h hb => owns_below h hb) ?_ ?_
      focus
        intro x w' hw hf; dsimp only
        obtain ⟨mq, hmq, hq⟩ := hf _ (.tail _ (.head _)) (by kernel_rfl)
        go_simp
        (with_reducible refine (KQ _ mq w' hw hmq hq).mono ?_)
        rintro e w2 ⟨v2, rfl, hv2, hb2⟩
        rw [← HNR.out] at hv2
        exact ⟨owns_mono hv2 hw.size, hw.trans (hb2.mono hw.size), hb2⟩
      simp only [Act.put, List.setIfInBounds_toArray, List.set_cons_zero, List.set_cons_succ, List.nil_append, List.cons_append]
      refine FreeOrd.RelSeq.nil_ fun x w10 hw hf => ?_
      have g1 := hf _ (.head _)
      have g2 := hf _ (.tail _ (.tail _ (.head _)))
      dsimp only at g1 g2
      obtain ⟨Ag, cg, eg⟩ := owns_slice g1
      obtain ⟨Aw, cw, ew⟩ := owns_slice g2
      rw [eg] at g1
      rw [ew] at g2
      have U10 := U9.grow hw
      have hw10 := hw36.trans (hw.mono hw36.size)
      have hl10 := hl7.trans (hw.mono hl7.size)
      clear hf F KF KR KQ
      refine FreeOrd.TailSeq.cons_ rfl ?_
      go_simp
      refine FreeOrd.TailSeq.cons_ rfl ?_
      go_simp
      refine FreeOrd.TailSeq.nil_ ?_
      obtain ⟨_, _, he, hgl, hgc, hgm, hg4⟩ := rd_of_owns g1
      cases he
      have hn63 : nR ≤ 2 ^ 63 - 1 := by unfold maxLen at hgm; omega
      clear hgl hgc hgm
      obtain ⟨bg, og, rfl, hgat⟩ := hg4 hR0
      obtain ⟨_, _, he, hgl, hgc, hgm, hr4⟩ := rd_of_owns g2
      cases he
      clear hgl hgc hgm
      obtain ⟨bw, ow, rfl, hwat⟩ := hr4 hR0
      have z1 : ((nR : Int) == 0) = false := by
        have : ¬ (nR : Int) = 0 := by omega
        simpa using this
      have z2 : ((nR : Int) != (nR : Int)) = false := by simp
      clear g1 g2 hg4 hr4 eg ew hw36 hl7 hw U9
      go_wp2_with fail
      go_loopw [61] (fun i wr2 => ∃ q : Nat, q ≤ nR ∧ i = .int .i64 q ∧ Below w10.heap.size w10 wr2) (fun i _ => nR - (intOf i).toNat)
      case atStart => exact ⟨0, Nat.zero_le _, rfl, Below.refl _ _⟩
      case round =>
        obtain ⟨q, hq, rfl, hbq⟩ := hrel
        have hw11 := hw10.trans (hbq.mono hw10.size)
        have hl11 := hl10.trans (hbq.mono hl10.size)
        by_cases hlq : q < nR
        · obtain ⟨r, hr⟩ : ∃ r, R[q]? = some r := ⟨_, List.getElem?_eq_getElem (by rw [← HNR.out]; exact hlq)⟩
          have hrl2 := HRL.out r (List.mem_of_getElem? hr)
          have hnat : (natV R)[q]? = some (.int .i64 (r : Nat)) := by unfold natV; rw [List.getElem?_map, hr]; rfl
          have cg0 := fun w' (h : Below w10.heap.size w10 w') => hgat.nth0 h q _ hnat
          have cw0 := fun w' (h : Below w10.heap.size w10 w') => hwat.nth0 h q _ hnat
          obtain ⟨n, hn⟩ : ∃ n, ms[r]? = some n := ⟨_, List.getElem?_eq_getElem (by rw [HML.out]; exact hrl2)⟩
          have KNode := tNode t (.slice At ms.length ct) ms r n wr (hB.below hw11 hB.lt) (hMS.below hw11) OK1.out hn (by rw [HML.out]; exact hl32)
          have c1g := cg0 _ hbq
          have i1 : (q : Int) < (nR : Int) := by omega
          clear hr hnat hn
          go_wp2_with fail
          (with_reducible refine KNode.mono ?_)
          rintro e w12 ⟨va, vb, rfl, hU12⟩
          obtain ⟨Av, cv, rfl⟩ := owns_slice (hU12.row 0 rfl)
          obtain ⟨Bv, bv, rfl⟩ := owns_slice (hU12.row 1 rfl)
          have hbk : Rd w12 1 (.slice Bv n.p.bys.length bv) n.p.bys.length (n.p.bys.map Value.string) := rd_of_owns (hU12.row 1 rfl)
          have U13 := hU12.alloc #[.slice Av n.p.asks.length cv, .string n.p.tgt, .slice Bv n.p.bys.length bv, .int .u64 (n.p.wait : Nat), .int .u64 (n.p.between : Nat), .int .u64 (n.p.again : Nat), .bool n.p.more, .int .i64 n.p.above] 50
          have hal : Below w12.heap.size w12 (w12.alloc (.cells #[.slice Av n.p.asks.length cv, .string n.p.tgt, .slice Bv n.p.bys.length bv, .int .u64 (n.p.wait : Nat), .int .u64 (n.p.between : Nat), .int .u64 (n.p.again : Nat), .bool n.p.more, .int .i64 n.p.above] 50)) := (Below.refl _ _).alloc (Nat.le_refl _) _
          have hb13 : Below w10.heap.size w10 (w12.alloc (.cells #[.slice Av n.p.asks.length cv, .string n.p.tgt, .slice Bv n.p.bys.length bv, .int .u64 (n.p.wait : Nat), .int .u64 (n.p.between : Nat), .int .u64 (n.p.again : Nat), .bool n.p.more, .int .i64 n.p.above] 50)) := hbq.trans (U13.below.mono hbq.size)
          have hl13 := hl10.trans (hb13.mono hl10.size)
          have hbk2 := hbk.below hal
          have hls2' := hlv.below hl13
          clear KNode hbk hal hU12 c1g
          go_upto_region 18 with fail
          refine wp_gen fun W14 hW14 => ?_
          have U14 := U13.same hW14
          rw [← hW14] at hb13 hl13 hbk2 hls2'
          clear hW14 U13
          have KG := fun w' (h : Below W14.heap.size W14 w') => nGroup n.p.bys (.slice Av n.p.asks.length cv) (.slice Bv n.p.bys.length bv) n.p.tgt n.p.wait n.p.between n.p.again n.p.more n.p.above org rule (.slice Al nls cl) (.int .u8 st) (.int .u64 0) (.int .u8 pr) (.int .i64 vl) ls w' (hbk2.below h) ho9 (by omega) (by rw [← HNLS.out]; exact hls2'.below h)
          have KM := fun w' (h : Below W14.heap.size W14 w') => refNames org rule (.slice Al nls cl) (.int .u8 st) (.int .u64 0) (.int .u8 pr) (.int .i64 vl) ls w' ho9 (by omega) (by rw [← HNLS.out]; exact hls2'.below h)
          have hnml : (namesL ls rule org).length ≤ 1048576 := by have : (namesL ls rule org).length ≤ ls.length + 2 := namesP_len ls rule org 2; omega
          obtain ⟨nm, hnm⟩ : ∃ z, z = namesL ls rule org := ⟨_, rfl⟩
          rw [← hnm] at KG KM hnml
          have KO := fun lv' w' (h : Below W14.heap.size W14 w') (hr' : Rd w' 2 lv' nm.length (pairCells nm)) => refOnly lv' (.slice Bv n.p.bys.length bv) true nm n.p.bys w' hr' (hbk2.below h) hnml
          obtain ⟨on, hon⟩ : ∃ z, z = onlyL nm n.p.bys true := ⟨_, rfl⟩
          rw [← hon] at KG KO
          have KS := fun v1 v2 w' (h1 : Rd w' 2 v1 on.length (pairCells on)) (h2 : Rd w' 2 v2 on.length (pairCells on)) => refSame v1 v2 on on w' h1 h2
          rw [sameB_self] at KS
          have F : ∀ w', Below W14.heap.size W14 w' → w'.cell? ⟨w12.heap.size, 0, none⟩ = some (.slice Av n.p.asks.length cv) ∧ w'.cell? ⟨w12.heap.size, 1, none⟩ = some (.string n.p.tgt) ∧ w'.cell? ⟨w12.heap.size, 2, none⟩ = some (.slice Bv n.p.bys.length bv) ∧ w'.cell? ⟨w12.heap.size, 3, none⟩ = some (.int .u64 (n.p.wait : Nat)) ∧ w'.cell? ⟨w12.heap.size, 4, none⟩ = some (.int .u64 (n.p.between : Nat)) ∧ w'.cell? ⟨w12.heap.size, 5, none⟩ = some (.int .u64 (n.p.again : Nat)) ∧ w'.cell? ⟨w12.heap.size, 6, none⟩ = some (.bool n.p.more) ∧ w'.cell? ⟨w12.heap.size, 7, none⟩ = some (.int .i64 n.p.above) ∧ w'.cell? ⟨w6.heap.size, 0, none⟩ = some (.int .u8 org) ∧ w'.cell? ⟨w6.heap.size, 1, none⟩ = some (.string rule) ∧ w'.cell? ⟨w6.heap.size, 2, none⟩ = some (.slice Al nls cl) ∧ w'.cell? ⟨w6.heap.size, 3, none⟩ = some (.int .u8 st) ∧ w'.cell? ⟨w6.heap.size, 4, none⟩ = some (.int .u64 0) ∧ w'.cell? ⟨w6.heap.size, 5, none⟩ = some (.int .u8 pr) ∧ w'.cell? ⟨w6.heap.size, 6, none⟩ = some (.int .i64 vl) ∧ w'.cell? ⟨bg, og + q, none⟩ = some (.int .i64 (r : Nat)) ∧ w'.cell? ⟨bw, ow + q, none⟩ = some (.int .i64 (r : Nat)) := fun w' h =>
            ⟨((U14.grow h).blk 0 rfl).cell (j := 0) rfl, ((U14.grow h).blk 0 rfl).cell (j := 1) rfl, ((U14.grow h).blk 0 rfl).cell (j := 2) rfl, ((U14.grow h).blk 0 rfl).cell (j := 3) rfl, ((U14.grow h).blk 0 rfl).cell (j := 4) rfl, ((U14.grow h).blk 0 rfl).cell (j := 5) rfl, ((U14.grow h).blk 0 rfl).cell (j := 6) rfl, ((U14.grow h).blk 0 rfl).cell (j := 7) rfl, ((U10.grow (hb13.trans (h.mono hb13.size))).blk 0 rfl).cell (j := 0) rfl, ((U10.grow (hb13.trans (h.mono hb13.size))).blk 0 rfl).cell (j := 1) rfl, ((U10.grow (hb13.trans (h.mono hb13.size))).blk 0 rfl).cell (j := 2) rfl, ((U10.grow (hb13.trans (h.mono hb13.size))).blk 0 rfl).cell (j := 3) rfl, ((U10.grow (hb13.trans (h.mono hb13.size))).blk 0 rfl).cell (j := 4) rfl, ((U10.grow (hb13.trans (h.mono hb13.size))).blk 0 rfl).cell (j := 5) rfl, ((U10.grow (hb13.trans (h.mono hb13.size))).blk 0 rfl).cell (j := 6) rfl, cg0 _ (hb13.trans (h.mono hb13.size)), cw0 _ (hb13.trans (h.mono hb13.size))⟩
          clear hnm hon cg0 cw0 hnml hls2' hl13
          refine FreeSl.region_free (fun w' => Below W14.heap.size W14 w') [16, 18, 21] [] [0, 1, 2, 3, 4, 5, 6, 7, 8, 9, 10, 11, 12, 13, 14, 15, 16, 17, 18, 19, 20, 21, 22, 23, 24] (by kernel_rfl) (by kernel_rfl) (by kernel_rfl) (Below.refl _ _).drew ?_
          repeat (first
            | (refine FreeSl.RelSeq.pure_ (c := ?_) rfl rfl ?_ ?_; rotate_left; (focus (intro x w'; dsimp only; go_simp; (repeat' apply And.intro) <;> first | with_reducible rfl | assumption)); simp only [Act.put, List.setIfInBounds_toArray, List.set_cons_zero, List.set_cons_succ])
            | (refine FreeSl.RelSeq.skip_ rfl (fun _ => rfl) ?_; simp only [Act.put, List.setIfInBounds_toArray, List.set_cons_zero, List.set_cons_succ])
            | (refine FreeSl.RelSeq.pureG_ (c := ?_) rfl (fun _ => rfl) rfl ?_ ?_; rotate_left; (focus (intro x w'; dsimp only; go_simp; (repeat' apply And.intro) <;> first | with_reducible rfl | assumption)); simp only [Act.put, List.setIfInBounds_toArray, List.set_cons_zero, List.set_cons_succ])
            | (refine FreeSl.RelSeq.grow_ (c := ?_) rfl rfl ?_ ?_; rotate_left; (focus (intro x w' hw _; dsimp only; obtain ⟨n0, n1, n2, n3, n4, n5, n6, n7, q0, q1, q2, q3, q4, q5, q6, g0, r0⟩ := F w' hw; have hbr := Below.refl w'.heap.size w'; go_simp; (repeat' apply And.intro) <;> first | with_reducible rfl | assumption)); simp only [Act.put, List.setIfInBounds_toArray, List.set_cons_zero, List.set_cons_succ])
            | (refine FreeSl.RelSeq.growG_ (c := ?_) rfl (fun _ => rfl) rfl ?_ ?_; rotate_left; (focus (intro x w' hw _; dsimp only; obtain ⟨n0, n1, n2, n3, n4, n5, n6, n7, q0, q1, q2, q3, q4, q5, q6, g0, r0⟩ := F w' hw; have hbr := Below.refl w'.heap.size w'; go_simp; (repeat' apply And.intro) <;> first | with_reducible rfl | assumption)); simp only [Act.put, List.setIfInBounds_toArray, List.set_cons_zero, List.set_cons_succ]))
          refine FreeSl.RelSeq.relG_ (fun v u => u.ownsRow W14.heap.size 71 2 v on.length (pairCells on)) rfl (fun _ => rfl) rfl (fun v u u' h hb => owns_below h hb) ?_ ?_
          focus
            intro x w' hw _; dsimp only
            go_simp
            (with_reducible refine (KG w' hw).mono ?_)
            rintro e w2 ⟨v2, rfl, hv2, hb2⟩
            exact ⟨⟨owns_mono hv2 hw.size, fun h => absurd h (by decide)⟩, hw.trans (hb2.mono hw.size), hb2⟩
          simp only [Act.put, List.setIfInBounds_toArray, List.set_cons_zero, List.set_cons_succ, List.nil_append]
          repeat (first
            | (refine FreeSl.RelSeq.pure_ (c := ?_) rfl rfl ?_ ?_; rotate_left; (focus (intro x w'; dsimp only; go_simp; (repeat' apply And.intro) <;> first | with_reducible rfl | assumption)); simp only [Act.put, List.setIfInBounds_toArray, List.set_cons_zero, List.set_cons_succ])
            | (refine FreeSl.RelSeq.skip_ rfl (fun _ => rfl) ?_; simp only [Act.put, List.setIfInBounds_toArray, List.set_cons_zero, List.set_cons_succ])
            | (refine FreeSl.RelSeq.pureG_ (c := ?_) rfl (fun _ => rfl) rfl ?_ ?_; rotate_left; (focus (intro x w'; dsimp only; go_simp; (repeat' apply And.intro) <;> first | with_reducible rfl | assumption)); simp only [Act.put, List.setIfInBounds_toArray, List.set_cons_zero, List.set_cons_succ])
            | (refine FreeSl.RelSeq.grow_ (c := ?_) rfl rfl ?_ ?_; rotate_left; (focus (intro x w' hw _; dsimp only; obtain ⟨n0, n1, n2, n3, n4, n5, n6, n7, q0, q1, q2, q3, q4, q5, q6, g0, r0⟩ := F w' hw; have hbr := Below.refl w'.heap.size w'; go_simp; (repeat' apply And.intro) <;> first | with_reducible rfl | assumption)); simp only [Act.put, List.setIfInBounds_toArray, List.set_cons_zero, List.set_cons_succ])
            | (refine FreeSl.RelSeq.growG_ (c := ?_) rfl (fun _ => rfl) rfl ?_ ?_; rotate_left; (focus (intro x w' hw _; dsimp only; obtain ⟨n0, n1, n2, n3, n4, n5, n6, n7, q0, q1, q2, q3, q4, q5, q6, g0, r0⟩ := F w' hw; have hbr := Below.refl w'.heap.size w'; go_simp; (repeat' apply And.intro) <;> first | with_reducible rfl | assumption)); simp only [Act.put, List.setIfInBounds_toArray, List.set_cons_zero, List.set_cons_succ]))
          refine FreeSl.RelSeq.relG_ (fun v u => u.ownsRow W14.heap.size 71 2 v nm.length (pairCells nm)) rfl (fun _ => rfl) rfl (fun v u u' h hb => owns_below h hb) ?_ ?_
          focus
            intro x w' hw _; dsimp only
            go_simp
            (with_reducible refine (KM w' hw).mono ?_)
            rintro e w2 ⟨v2, rfl, hv2, hb2⟩
            exact ⟨⟨owns_mono hv2 hw.size, fun h => absurd h (by decide)⟩, hw.trans (hb2.mono hw.size), hb2⟩
          simp only [Act.put, List.setIfInBounds_toArray, List.set_cons_zero, List.set_cons_succ, List.nil_append, List.cons_append]
          repeat (first
            | (refine FreeSl.RelSeq.pure_ (c := ?_) rfl rfl ?_ ?_; rotate_left; (focus (intro x w'; dsimp only; go_simp; (repeat' apply And.intro) <;> first | with_reducible rfl | assumption)); simp only [Act.put, List.setIfInBounds_toArray, List.set_cons_zero, List.set_cons_succ])
            | (refine FreeSl.RelSeq.skip_ rfl (fun _ => rfl) ?_; simp only [Act.put, List.setIfInBounds_toArray, List.set_cons_zero, List.set_cons_succ])
            | (refine FreeSl.RelSeq.pureG_ (c := ?_) rfl (fun _ => rfl) rfl ?_ ?_; rotate_left; (focus (intro x w'; dsimp only; go_simp; (repeat' apply And.intro) <;> first | with_reducible rfl | assumption)); simp only [Act.put, List.setIfInBounds_toArray, List.set_cons_zero, List.set_cons_succ])
            | (refine FreeSl.RelSeq.grow_ (c := ?_) rfl rfl ?_ ?_; rotate_left; (focus (intro x w' hw _; dsimp only; obtain ⟨n0, n1, n2, n3, n4, n5, n6, n7, q0, q1, q2, q3, q4, q5, q6, g0, r0⟩ := F w' hw; have hbr := Below.refl w'.heap.size w'; go_simp; (repeat' apply And.intro) <;> first | with_reducible rfl | assumption)); simp only [Act.put, List.setIfInBounds_toArray, List.set_cons_zero, List.set_cons_succ])
            | (refine FreeSl.RelSeq.growG_ (c := ?_) rfl (fun _ => rfl) rfl ?_ ?_; rotate_left; (focus (intro x w' hw _; dsimp only; obtain ⟨n0, n1, n2, n3, n4, n5, n6, n7, q0, q1, q2, q3, q4, q5, q6, g0, r0⟩ := F w' hw; have hbr := Below.refl w'.heap.size w'; go_simp; (repeat' apply And.intro) <;> first | with_reducible rfl | assumption)); simp only [Act.put, List.setIfInBounds_toArray, List.set_cons_zero, List.set_cons_succ]))
          refine FreeSl.RelSeq.relG_ (fun v u => u.ownsRow W14.heap.size 71 2 v on.length (pairCells on)) rfl (fun _ => rfl) rfl (fun v u u' h hb => owns_below h hb) ?_ ?_
          focus
            intro x w' hw hf; dsimp only
            have f1 := hf _ (.tail _ (.head _)) (by kernel_rfl)
            dsimp only at f1
            have hrd := rd_of_owns f1
            go_simp
            (with_reducible refine (KO _ w' hw hrd).mono ?_)
            rintro e w2 ⟨v2, rfl, hv2, hb2⟩
            exact ⟨⟨owns_mono hv2 hw.size, fun h => absurd h (by decide)⟩, hw.trans (hb2.mono hw.size), hb2⟩
          simp only [Act.put, List.setIfInBounds_toArray, List.set_cons_zero, List.set_cons_succ, List.nil_append, List.cons_append]
          refine FreeSl.RelSeq.growG_ (c := ?_) rfl (fun _ => rfl) rfl ?_ ?_; rotate_left
          focus
            intro x w' hw hf; dsimp only
            have f1 := hf _ (.head _) (by kernel_rfl)
            have f2 := hf _ (.tail _ (.tail _ (.head _))) (by kernel_rfl)
            dsimp only at f1 f2
            have h5 := rd_of_owns f1
            have h6 := rd_of_owns f2
            go_simp
            (with_reducible refine (KS _ _ w' h5 h6).mono ?_)
            rintro e w2 ⟨rfl, hb2⟩
            have hI := hw.trans (hb2.mono hw.size)
            go_simp
            (repeat' apply And.intro) <;> first | with_reducible rfl | assumption
          simp only [Act.put, List.setIfInBounds_toArray, List.set_cons_zero, List.set_cons_succ]
          repeat (first
            | (refine FreeSl.RelSeq.pure_ (c := ?_) rfl rfl ?_ ?_; rotate_left; (focus (intro x w'; dsimp only; go_simp; (repeat' apply And.intro) <;> first | with_reducible rfl | assumption)); simp only [Act.put, List.setIfInBounds_toArray, List.set_cons_zero, List.set_cons_succ])
            | (refine FreeSl.RelSeq.skip_ rfl (fun _ => rfl) ?_; simp only [Act.put, List.setIfInBounds_toArray, List.set_cons_zero, List.set_cons_succ])
            | (refine FreeSl.RelSeq.pureG_ (c := ?_) rfl (fun _ => rfl) rfl ?_ ?_; rotate_left; (focus (intro x w'; dsimp only; go_simp; (repeat' apply And.intro) <;> first | with_reducible rfl | assumption)); simp only [Act.put, List.setIfInBounds_toArray, List.set_cons_zero, List.set_cons_succ])
            | (refine FreeSl.RelSeq.grow_ (c := ?_) rfl rfl ?_ ?_; rotate_left; (focus (intro x w' hw _; dsimp only; obtain ⟨n0, n1, n2, n3, n4, n5, n6, n7, q0, q1, q2, q3, q4, q5, q6, g0, r0⟩ := F w' hw; have hbr := Below.refl w'.heap.size w'; go_simp; (repeat' apply And.intro) <;> first | with_reducible rfl | assumption)); simp only [Act.put, List.setIfInBounds_toArray, List.set_cons_zero, List.set_cons_succ])
            | (refine FreeSl.RelSeq.growG_ (c := ?_) rfl (fun _ => rfl) rfl ?_ ?_; rotate_left; (focus (intro x w' hw _; dsimp only; obtain ⟨n0, n1, n2, n3, n4, n5, n6, n7, q0, q1, q2, q3, q4, q5, q6, g0, r0⟩ := F w' hw; have hbr := Below.refl w'.heap.size w'; go_simp; (repeat' apply And.intro) <;> first | with_reducible rfl | assumption)); simp only [Act.put, List.setIfInBounds_toArray, List.set_cons_zero, List.set_cons_succ]))
          refine FreeSl.RelSeq.nil_ fun x w15 hw _ _ => ?_
          have hb15 := hb13.trans (hw.mono hb13.size)
          clear F KG KM KO KS hw U14
          refine FreeSl.TailSeq.nil_ ?_
          go_wp2_with fail
          go_roundw
          case rel => exact ⟨q + 1, by omega, by go_num, hb15⟩
          case measure => simp [intOf]; omega
        · obtain rfl : q = nR := by omega
          have hfin := hbr.trans ((U10.below.trans (hbq.mono U10.size)).mono hbr.size)
          go_wp2_with fail
          go_roundw
          case rel => exact ⟨k + 1, by omega, by go_num, hfin⟩
          case measure => simp [intOf]; omega
    · obtain rfl : k = na := by omega
      go_wp2_with fail
      go_ret
      exact ⟨rfl, hb5⟩
end Go.Proofs.YteiocplfmjkbkaaGreatDoor
