/-
  law20.same: a tree and the reference's nodes that are the same.
-/
import Derived.Test.YteiocplfmjkbkaaGreatDoorRtM
import Derived.Test.YteiocplfmjkbkaaGreatDoorRtR
import Derived.Test.YteiocplfmjkbkaaGreatDoorRtX
import Derived.Test.YteiocplfmjkbkaaGreatDoorFreeS
namespace Go.Proofs.YteiocplfmjkbkaaGreatDoor
open Go.RowKit
set_option maxRecDepth 100000
attribute [local go_sem] FreeSl.out

set_option maxHeartbeats 16000000 in
theorem lSame (t : Nat) (v vr : Value) (ms rs : List RNV) (d : Nat → Nat) (w : World) (hB : Blk w t #[v] 74) (hN : NodesAt w v ms) (hF : TreeFit ms d) (hR : NodesAtR w vr rs) (he : rs.map (·.p) = ms.map (·.p)) :
    Calls Tryz.prog 21 #[.pointer (some ⟨t, 0, none⟩), vr] w fun e w' => e = .returned (.bool true) ∧ Below w.heap.size w w' := by
  have hok : NodesOk ms := fun m hm => ⟨(hF.fit m hm).asks, (hF.fit m hm).bys⟩
  have hlen := hF.many
  have hrl : rs.length = ms.length := by have := congrArg List.length he; simpa using this
  have KNK := fun k n (hk : ms[k]? = some n) w' (h : Below w.heap.size w w') => tNode t v ms k n w' (hB.below h hB.lt) (hN.below h) hok hk hlen
  obtain ⟨A, c, rfl, _⟩ := id hN.1
  have KL := fun w' (h : Below w.heap.size w w') => tLen t A ms.length c w' (hB.below h hB.lt)
  obtain ⟨nl, hnl⟩ : ∃ n, n = ms.length := ⟨_, rfl⟩
  obtain ⟨A2, c2, rfl, h1, h2, h3, h4⟩ := id hR.1
  rw [hrl, ← hnl] at h2 h4 ⊢
  rw [← hnl] at KL hlen
  have HE := Lib.hid he
  have HFit := Lib.hid hF.fit
  have HR := Lib.hid hR.2
  have HA := Lib.hid h4
  have HNL := Lib.hid hnl
  have HRL := Lib.hid hrl
  unfold maxLen at h3
  have U0 := Upd.nil [] w
  clear h4 h1 hnl hrl he hF hok hN hB hR
  go_enter Tryz.func21, Tryz.ntmps21
  go_wp2_with fail
  (with_reducible refine (KL _ (Below.refl _ _)).mono ?_)
  rintro e w1 ⟨rfl, rfl⟩
  go_wp2_with fail
  go_loopw [18] (fun i wr => ∃ k : Nat, k ≤ nl ∧ i = .int .i64 k ∧ Upd [] w1 [] wr) (fun i _ => nl - (intOf i).toNat)
  case atStart => exact ⟨0, Nat.zero_le _, rfl, U0⟩
  case round =>
    obtain ⟨wo, rfl⟩ : ∃ wo, wo = wr := ⟨_, rfl⟩
    obtain ⟨k, hk, rfl, U1⟩ := hrel
    clear U0
    by_cases hlt : k < nl
    · obtain ⟨b, o, rfl, hat⟩ := HA.out (by omega)
      obtain ⟨n, hn⟩ : ∃ n, ms[k]? = some n := ⟨_, List.getElem?_eq_getElem (by rw [← HNL.out]; omega)⟩
      obtain ⟨r, hr⟩ : ∃ r, rs[k]? = some r := ⟨_, List.getElem?_eq_getElem (by rw [HRL.out, ← HNL.out]; omega)⟩
      have hp : r.p = n.p := by
        have h5 := congrArg (fun l => l[k]?) HE.out
        simp only [List.getElem?_map, hn, hr, Option.map_some] at h5
        exact Option.some.inj h5
      have hat0 := flatN rn8 8 rn8_len rs k r hr
      have KN := KNK k n hn
      have hfit := HFit.out n (List.mem_of_getElem? hn)
      obtain ⟨hra, hrb⟩ := HR.out r (List.mem_of_getElem? hr)
      obtain ⟨np, nva, nvb⟩ := n
      obtain ⟨rp, rva, rvb⟩ := r
      dsimp only at hp hat0 hra hrb KN hfit
      subst hp
      obtain ⟨asks, tgt, bys, wait, betw, again, more, ab⟩ := rp
      dsimp only at hat0 hra hrb KN hfit
      have hb := U1.below
      have fa := hfit.asks
      have fk := hfit.ask
      have fb := hfit.bys
      dsimp only at fa fk fb
      have hra1 := hra.below hb
      have hrb1 := hrb.below hb
      obtain ⟨Aa, ca, rfl, _⟩ := hra
      obtain ⟨Ab, cb, rfl, _⟩ := hrb
      have x0 := hat.nth0 hb (k * 8) _ (hat0 0 _ rfl)
      have x1 := hat.nth hb (k * 8) 1 _ (hat0 1 _ rfl)
      have x2 := hat.nth hb (k * 8) 2 _ (hat0 2 _ rfl)
      have x3 := hat.nth hb (k * 8) 3 _ (hat0 3 _ rfl)
      have x4 := hat.nth hb (k * 8) 4 _ (hat0 4 _ rfl)
      have x5 := hat.nth hb (k * 8) 5 _ (hat0 5 _ rfl)
      have x6 := hat.nth hb (k * 8) 6 _ (hat0 6 _ rfl)
      have x7 := hat.nth hb (k * 8) 7 _ (hat0 7 _ rfl)
      obtain ⟨na, hna⟩ : ∃ n, n = asks.length := ⟨_, rfl⟩
      obtain ⟨nb, hnb⟩ : ∃ n, n = bys.length := ⟨_, rfl⟩
      rw [← hna] at x0 hra1 fa KN
      rw [← hnb] at x2 hrb1 fb KN
      have HNA := Lib.hid hna
      have HNB := Lib.hid hnb
      have HFK := Lib.hid fk
      clear hn hr hat hat0 hfit hna hnb fk hb
      have U2 := U1.alloc #[.slice Aa na ca, .string tgt, .slice Ab nb cb, .int .u64 (wait : Nat), .int .u64 (betw : Nat), .int .u64 (again : Nat), .bool more, .int .i64 ab] 84
      have G0 : Upd [] wo [chBlk wo.heap.size #[.slice Aa na ca, .string tgt, .slice Ab nb cb, .int .u64 (wait : Nat), .int .u64 (betw : Nat), .int .u64 (again : Nat), .bool more, .int .i64 ab] 84] _ := (Upd.nil [] wo).alloc #[.slice Aa na ca, .string tgt, .slice Ab nb cb, .int .u64 (wait : Nat), .int .u64 (betw : Nat), .int .u64 (again : Nat), .bool more, .int .i64 ab] 84
      go_wp2_with fail
      refine calls_genP fun w3 hw3 => ?_
      have U3 := U2.same hw3
      have G3 := G0.same hw3
      clear hw3 U2 G0 x0 x1 x2 x3 x4 x5 x6 x7
      (with_reducible refine (KN _ U3.below).mono ?_)
      rintro e w4 ⟨va, vb, rfl, hU⟩
      obtain ⟨Av, cv, rfl⟩ := owns_slice (hU.row 0 rfl)
      obtain ⟨Bv, bv, rfl⟩ := owns_slice (hU.row 1 rfl)
      have V1 := (hU.alloc #[.slice Av na cv, .string tgt, .slice Bv nb bv, .int .u64 (wait : Nat), .int .u64 (betw : Nat), .int .u64 (again : Nat), .bool more, .int .i64 ab] 50).alloc #[.slice Av na cv, .string tgt, .slice Bv nb bv, .int .u64 (wait : Nat), .int .u64 (betw : Nat), .int .u64 (again : Nat), .bool more, .int .i64 ab] 50
      rw [allocSzR] at V1
      clear hU KN
      go_wp2_with fail
      refine calls_genP fun w5 hw5 => ?_
      have V2 := V1.same hw5
      clear hw5 V1
      have hN1 : NodesAt w5 (.slice (some ⟨w4.heap.size + 1, 0, none⟩) 1 1) [⟨⟨asks, tgt, bys, wait, betw, again, more, ab⟩, .slice Av na cv, .slice Bv nb bv⟩] := by
        refine ⟨rd_oneR (V2.blk 0 rfl) (n := 8) rfl, fun m hm => ?_⟩
        rw [List.mem_singleton.1 hm]
        dsimp only
        rw [← HNA.out, ← HNB.out]
        exact ⟨rd_of_owns (V2.row 2 rfl), rd_of_owns (V2.row 3 rfl)⟩
      have KRef := lRefN _ _ w5 hN1 (by simp) (fun m hm => by
        rw [List.mem_singleton.1 hm]
        dsimp only
        rw [← HNA.out]
        exact ⟨fa, fun a ha => by have := (chkA_parts (HFK.out a ha)).2.2.1; omega⟩)
      (with_reducible refine KRef.mono ?_)
      rintro e w6 ⟨v6, m6, rfl, hm6, hR6, hb6⟩
      obtain ⟨m, rfl⟩ : ∃ m, m6 = [m] := by
        have h5 := congrArg List.length hm6
        rw [List.length_map] at h5
        cases m6 with
        | nil => cases h5
        | cons m r =>
          cases r with
          | nil => exact ⟨m, rfl⟩
          | cons _ _ => simp at h5
      have hmp : m.p = ⟨asks, tgt, bys, wait, betw, again, more, ab⟩ := by simpa using hm6
      obtain ⟨mp, mva, mvb⟩ := m
      dsimp only at hmp
      subst hmp
      obtain ⟨hr6, hm⟩ := hR6
      have h7 := hm _ (List.mem_singleton.2 rfl)
      dsimp only at h7
      rw [← HNA.out, ← HNB.out] at h7
      obtain ⟨hma, hmb⟩ := h7
      obtain ⟨A6, c6, he6, _, _, _, hat6⟩ := hr6
      have he6 : v6 = .slice A6 1 c6 := he6
      subst he6
      obtain ⟨b6, o6, rfl, hat7⟩ := hat6 (show 0 < 1 from Nat.one_pos)
      obtain ⟨Am, cm, rfl, _⟩ := id hma
      obtain ⟨Bm, dm, rfl, _⟩ := id hmb
      have y0 := hat7 0 _ rfl
      rw [Nat.add_zero] at y0
      have y1 := hat7 1 _ rfl
      have y2 := hat7 2 _ rfl
      have y3 := hat7 3 _ rfl
      have y4 := hat7 4 _ rfl
      have y5 := hat7 5 _ rfl
      have y6 := hat7 6 _ rfl
      have y7 := hat7 7 _ rfl
      dsimp only at y0 y1 y2 y3 y4 y5 y6 y7
      have U6 := ((U3.grow V2.below).grow hb6).alloc #[.slice Am na cm, .string tgt, .slice Bm nb dm, .int .u64 (wait : Nat), .int .u64 (betw : Nat), .int .u64 (again : Nat), .bool more, .int .i64 ab] 84
      have G6 := (G3.grow V2.below).grow hb6
      have X6 := (Upd.nil [] w6).alloc #[.slice Am na cm, .string tgt, .slice Bm nb dm, .int .u64 (wait : Nat), .int .u64 (betw : Nat), .int .u64 (again : Nat), .bool more, .int .i64 ab] 84
      clear hat6 hat7 hm6 hm KRef hN1 V2 U3 G3 hb6
      go_upto_region 8 with fail
      refine wp_gen fun W9 hW9 => ?_
      have U9 := U6.same hW9
      have X9 := X6.same hW9
      clear hW9 U6 X6 y0 y1 y2 y3 y4 y5 y6 y7
      have b69 := X9.below
      have br9 := G6.below.trans (b69.mono G6.below.size)
      have F : ∀ w', Below W9.heap.size W9 w' → w'.cell? ⟨w6.heap.size, 0, none⟩ = some (.slice Am na cm) ∧ w'.cell? ⟨w6.heap.size, 1, none⟩ = some (.string tgt) ∧ w'.cell? ⟨w6.heap.size, 2, none⟩ = some (.slice Bm nb dm) ∧ w'.cell? ⟨w6.heap.size, 3, none⟩ = some (.int .u64 (wait : Nat)) ∧ w'.cell? ⟨w6.heap.size, 4, none⟩ = some (.int .u64 (betw : Nat)) ∧ w'.cell? ⟨w6.heap.size, 5, none⟩ = some (.int .u64 (again : Nat)) ∧ w'.cell? ⟨w6.heap.size, 6, none⟩ = some (.bool more) ∧ w'.cell? ⟨w6.heap.size, 7, none⟩ = some (.int .i64 ab) ∧ w'.cell? ⟨wo.heap.size, 0, none⟩ = some (.slice Aa na ca) ∧ w'.cell? ⟨wo.heap.size, 1, none⟩ = some (.string tgt) ∧ w'.cell? ⟨wo.heap.size, 2, none⟩ = some (.slice Ab nb cb) ∧ w'.cell? ⟨wo.heap.size, 3, none⟩ = some (.int .u64 (wait : Nat)) ∧ w'.cell? ⟨wo.heap.size, 4, none⟩ = some (.int .u64 (betw : Nat)) ∧ w'.cell? ⟨wo.heap.size, 5, none⟩ = some (.int .u64 (again : Nat)) ∧ w'.cell? ⟨wo.heap.size, 6, none⟩ = some (.bool more) ∧ w'.cell? ⟨wo.heap.size, 7, none⟩ = some (.int .i64 ab) := fun w' h => ⟨((U9.grow h).blk 0 rfl).cell (j := 0) rfl, ((U9.grow h).blk 0 rfl).cell (j := 1) rfl, ((U9.grow h).blk 0 rfl).cell (j := 2) rfl, ((U9.grow h).blk 0 rfl).cell (j := 3) rfl, ((U9.grow h).blk 0 rfl).cell (j := 4) rfl, ((U9.grow h).blk 0 rfl).cell (j := 5) rfl, ((U9.grow h).blk 0 rfl).cell (j := 6) rfl, ((U9.grow h).blk 0 rfl).cell (j := 7) rfl, ((U9.grow h).blk 1 rfl).cell (j := 0) rfl, ((U9.grow h).blk 1 rfl).cell (j := 1) rfl, ((U9.grow h).blk 1 rfl).cell (j := 2) rfl, ((U9.grow h).blk 1 rfl).cell (j := 3) rfl, ((U9.grow h).blk 1 rfl).cell (j := 4) rfl, ((U9.grow h).blk 1 rfl).cell (j := 5) rfl, ((U9.grow h).blk 1 rfl).cell (j := 6) rfl, ((U9.grow h).blk 1 rfl).cell (j := 7) rfl⟩
      obtain ⟨TX, hTX⟩ : ∃ y, y = refTx asks := ⟨_, rfl⟩
      have KT1 := fun w' (h : Below W9.heap.size W9 w') => refText asks (.slice Am na cm) w' (by rw [← HNA.out]; exact hma.below (b69.trans (h.mono b69.size))) (by rw [← HNA.out]; exact fa) HFK.out
      have KT2 := fun w' (h : Below W9.heap.size W9 w') => refText asks (.slice Aa na ca) w' (by rw [← HNA.out]; exact hra1.below (br9.trans (h.mono br9.size))) (by rw [← HNA.out]; exact fa) HFK.out
      rw [← hTX] at KT1 KT2
      have hmb9 := hmb.below b69
      have hrb9 := hrb1.below br9
      clear hTX hma hmb hra1 hrb1 G6 X9 b69 br9
      have ext : ∀ w' w'', Below W9.heap.size W9 w' → Below w'.heap.size w' w'' → Below W9.heap.size W9 w'' := fun w' w'' h h2 => h.trans (h2.mono h.size)
      refine FreeSl.region_free (fun w' => Below W9.heap.size W9 w') [] [] (List.range 62) (by kernel_rfl) (by kernel_rfl) (by kernel_rfl) (Below.refl _ _).drew ?_
      simp only [List.range, List.range.loop]
      repeat (first
        | (refine FreeSl.RelSeq.pure_ (c := ?_) rfl rfl ?_ ?_; rotate_left; (focus (intro x w'; dsimp only; go_simp; (repeat' apply And.intro) <;> first | with_reducible rfl | assumption)); simp only [Act.put, List.setIfInBounds_toArray, List.set_cons_zero, List.set_cons_succ])
        | (refine FreeSl.RelSeq.pureG_ (c := ?_) rfl (fun _ => rfl) rfl ?_ ?_; rotate_left; (focus (intro x w'; dsimp only; go_simp; (repeat' apply And.intro) <;> first | with_reducible rfl | assumption)); simp only [Act.put, List.setIfInBounds_toArray, List.set_cons_zero, List.set_cons_succ])
        | (refine FreeSl.RelSeq.grow_ (c := ?_) rfl rfl ?_ ?_; rotate_left; (focus (intro x w' hw _; dsimp only; obtain ⟨d0, d1, d2, d3, d4, d5, d6, d7, d8, d9, d10, d11, d12, d13, d14, d15⟩ := F w' hw; have hbr := Below.refl w'.heap.size w'; go_simp; (repeat' apply And.intro) <;> first | with_reducible rfl | assumption)); simp only [Act.put, List.setIfInBounds_toArray, List.set_cons_zero, List.set_cons_succ])
        | (refine FreeSl.RelSeq.growG_ (c := ?_) rfl (fun _ => rfl) rfl ?_ ?_; rotate_left; (focus (intro x w' hw _; dsimp only; obtain ⟨d0, d1, d2, d3, d4, d5, d6, d7, d8, d9, d10, d11, d12, d13, d14, d15⟩ := F w' hw; have hbr := Below.refl w'.heap.size w'; go_simp; (repeat' apply And.intro) <;> first | with_reducible rfl | assumption)); simp only [Act.put, List.setIfInBounds_toArray, List.set_cons_zero, List.set_cons_succ])
        | (refine FreeSl.RelSeq.growG_ (c := ?_) rfl (fun _ => rfl) rfl ?_ ?_; rotate_left; (focus (intro x w' hw _; dsimp only; go_simp; (with_reducible refine (KT1 w' hw).mono ?_); rintro e w2 ⟨rfl, hb2⟩; have hI := ext w' w2 hw hb2; go_simp; (repeat' apply And.intro) <;> first | with_reducible rfl | assumption)); simp only [Act.put, List.setIfInBounds_toArray, List.set_cons_zero, List.set_cons_succ])
        | (refine FreeSl.RelSeq.growG_ (c := ?_) rfl (fun _ => rfl) rfl ?_ ?_; rotate_left; (focus (intro x w' hw _; dsimp only; go_simp; (with_reducible refine (KT2 w' hw).mono ?_); rintro e w2 ⟨rfl, hb2⟩; have hI := ext w' w2 hw hb2; go_simp; (repeat' apply And.intro) <;> first | with_reducible rfl | assumption)); simp only [Act.put, List.setIfInBounds_toArray, List.set_cons_zero, List.set_cons_succ]))
      refine FreeSl.RelSeq.nil_ fun x wv hwv _ _ => ?_
      refine FreeSl.TailSeq.nil_ ?_
      have U10 := U9.grow hwv
      have hmb10 := hmb9.below hwv
      have hrb10 := hrb9.below hwv
      clear F ext KT1 KT2 U9 hmb9 hrb9
      have g2 := (U10.blk 0 rfl).cell (j := 2) (v := .slice Bm nb dm) rfl
      go_wp2_with fail
      go_loopw [99] (fun i wq => ∃ q : Nat, q ≤ nb ∧ i = .int .i64 q ∧ Upd [] w1 [chBlk w6.heap.size #[.slice Am na cm, .string tgt, .slice Bm nb dm, .int .u64 (wait : Nat), .int .u64 (betw : Nat), .int .u64 (again : Nat), .bool more, .int .i64 ab] 84, chBlk wo.heap.size #[.slice Aa na ca, .string tgt, .slice Ab nb cb, .int .u64 (wait : Nat), .int .u64 (betw : Nat), .int .u64 (again : Nat), .bool more, .int .i64 ab] 84] wq ∧ Below wv.heap.size wv wq) (fun i _ => nb - (intOf i).toNat)
      case atStart => exact ⟨0, Nat.zero_le _, rfl, U10, Below.refl _ _⟩
      case round =>
        obtain ⟨q, hq, rfl, U11, hbq⟩ := hrel
        clear g2 U10
        have m2 := (U11.blk 0 rfl).cell (j := 2) (v := .slice Bm nb dm) rfl
        have r2 := (U11.blk 1 rfl).cell (j := 2) (v := .slice Ab nb cb) rfl
        by_cases hlq : q < nb
        · obtain ⟨_, _, e1, _, l1, l2, a1⟩ := hmb10
          cases e1
          obtain ⟨bm, om, rfl, at1⟩ := a1 (by omega)
          obtain ⟨_, _, e2, _, l3, l4, a2⟩ := hrb10
          cases e2
          obtain ⟨bq, oq, rfl, at2⟩ := a2 (by omega)
          obtain ⟨y, hy⟩ : ∃ y, bys[q]? = some y := ⟨_, List.getElem?_eq_getElem (by rw [← HNB.out]; omega)⟩
          have z1 := at1.nth0 hbq q (.string y) (by rw [List.getElem?_map, hy]; rfl)
          have z2 := at2.nth0 hbq q (.string y) (by rw [List.getElem?_map, hy]; rfl)
          have i0 : (0 : Int) ≤ (q : Int) := by omega
          have i1 : (q : Int) < (nb : Int) := by omega
          have HU := Lib.hid U11
          clear at1 at2 hy a1 a2 U11
          go_wp2_with fail
          go_region
          go_wp2_with fail
          go_roundw
          case rel => exact ⟨q + 1, by omega, by go_num, HU.out.drew, hbq.drew⟩
          case measure => simp [intOf]; omega
        · obtain rfl : q = nb := by omega
          go_wp2_with fail
          go_roundw
          case rel => exact ⟨k + 1, by omega, by go_num, (U11.drop 0).drop 0⟩
          case measure => simp [intOf]; omega
    · obtain rfl : k = nl := by omega
      go_wp2_with fail
      go_ret
      exact ⟨rfl, U1.below⟩
end Go.Proofs.YteiocplfmjkbkaaGreatDoor
