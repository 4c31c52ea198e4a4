/-
  route.New of nodes that are a tree.
-/
import Derived.Test.YteiocplfmjkbkaaGreatDoorRtW
namespace Go.Proofs.YteiocplfmjkbkaaGreatDoor
open Go.RowKit FreeOrd
set_option maxRecDepth 100000
attribute [local go_sem] out

theorem infoNodeX : (Tryz.prog.info? 50).map (fun i => (i.zero, i.size, i.bytes)) = some (some (.agg #[.slice none 0 0, .string ⟨#[]⟩, .slice none 0 0, .int .u64 0, .int .u64 0, .int .u64 0, .bool false, .int .i64 0]), 8, 104) := by kernel_rfl
/-- Nodes that are a tree; d: how deep each is. -/
structure TreeFit (ns : List RNV) (d : Nat → Nat) : Prop where
  some : 0 < ns.length
  many : ns.length ≤ 32
  fit : ∀ n ∈ ns, n.p.Fit
  deep : DeepOk ns d
  root : ∀ n, ns[0]? = .some n → n.p.above = -1 ∧ n.p.asks = [] ∧ n.p.more = false
  hang : ∀ (i : Nat) n, 0 < i → ns[i]? = .some n → 0 ≤ n.p.above ∧ n.p.above < (i : Int)
  most : ∀ i : Nat, i < ns.length → d i ≤ 8
def rnCh (n : RNV) : List Chunk := [chRow 68 3 n.va n.p.asks.length (n.p.asks.flatMap aqC), chRow 9 1 n.vb n.p.bys.length (n.p.bys.map Value.string)]
theorem DeepOk.take {ns ms : List RNV} {d : Nat → Nat} {k : Nat} (h : DeepOk ns d) (e : ms.map (·.p) = (ns.take k).map (·.p)) : DeepOk ms d := by
  intro i m hi
  have h1 : (ms.map (·.p))[i]? = some m.p := by rw [List.getElem?_map, hi]; rfl
  rw [e, List.getElem?_map, List.getElem?_take] at h1
  split at h1
  · cases hn : ns[i]? with
    | none => rw [hn] at h1; cases h1
    | some n =>
      rw [hn] at h1
      have : n.p = m.p := Option.some.inj h1
      have := h i n hn
      rwa [‹n.p = m.p›] at this
  · cases h1
theorem map_take_len {ns ms : List RNV} {k : Nat} (hk : k ≤ ns.length) (e : ms.map (·.p) = (ns.take k).map (·.p)) : ms.length = k := by
  have := congrArg List.length e
  rw [List.length_map, List.length_map, List.length_take] at this
  omega
theorem map_take_snoc {ns ms : List RNV} {k : Nat} {n m : RNV} (e : ms.map (·.p) = (ns.take k).map (·.p)) (hn : ns[k]? = some n) (hp : m.p = n.p) : (ms ++ [m]).map (·.p) = (ns.take (k + 1)).map (·.p) := by
  rw [List.map_append, e, List.take_add_one, hn, List.map_append]
  simp [hp]
theorem nodesAt_of {w : World} {v : Value} {k : Nat} {ms : List RNV} {base : Nat} (h : w.ownsRow base 50 8 v k (ms.flatMap rn8)) (hk : ms.length = k) (ha : ∀ c ∈ ms.flatMap rnCh, c.P w) : NodesAt w v ms := by
  subst hk
  refine ⟨rd_of_owns h, fun n hn => ⟨?_, ?_⟩⟩
  · exact rd_of_owns (base := 0) (ha (chRow 68 3 n.va n.p.asks.length (n.p.asks.flatMap aqC)) (List.mem_flatMap.2 ⟨n, hn, .head _⟩))
  · exact rd_of_owns (base := 0) (ha (chRow 9 1 n.vb n.p.bys.length (n.p.bys.map Value.string)) (List.mem_flatMap.2 ⟨n, hn, .tail _ (.head _)⟩))
/-- What New hands back. -/
def TreeMade (ns : List RNV) (w : World) (e : Ending) (w' : World) : Prop := ∃ (t : Nat) (v' : Value) (ms : List RNV), e = .returned (.tuple #[.pointer (some ⟨t, 0, none⟩), .int .i64 0]) ∧ ms.map (·.p) = ns.map (·.p) ∧ Blk w' t #[v'] 74 ∧ NodesAt w' v' ms ∧ w.heap.size ≤ t ∧ Below w.heap.size w w'
set_option maxHeartbeats 16000000 in
/-- route.New of nodes that are a tree. -/
theorem tNew (v : Value) (ns : List RNV) (d : Nat → Nat) (w : World) (hN : NodesAt w v ns) (hf : TreeFit ns d) :
    Calls Tryz.prog 8 #[v] w (TreeMade ns w) := by
  obtain ⟨i0, hi, hz0, hz1, hz2⟩ := info_parts infoNodeX
  have hR := hN.1
  have HN := Lib.hid hN
  have HF := Lib.hid hf
  have hs := hf.some
  have hm := hf.many
  obtain ⟨nl, hnl⟩ : ∃ n, n = ns.length := ⟨_, rfl⟩
  rw [← hnl] at hR hs hm
  obtain ⟨A, c, rfl, h1, h2, h3, h4⟩ := hR
  unfold maxLen at h3
  have HA := Lib.hid h4
  have HNL := Lib.hid hnl
  have b0 : ((nl : Int) == 0) = false := by
    have : ¬ ((nl : Int) = 0) := by omega
    simpa using this
  have UN := (((Upd.nil [] w).alloc #[.slice none 0 0] 74).nilRow 50 8).allNil
  have U0 := UN.pick [2, 1, 0] (by decide)
  simp only [List.filterMap_cons, List.filterMap_nil, List.getElem?_cons_zero, List.getElem?_cons_succ] at U0
  clear hN hf h1 h4 hnl UN
  go_enter Tryz.func8, Tryz.ntmps8
  go_wp2_with fail
  go_loopw [20] (fun i wr => ∃ (k : Nat) (ms : List RNV) (vr : Value), k ≤ nl ∧ i = .int .i64 k ∧ Hid (ms.map (·.p) = (ns.take k).map (·.p)) ∧ Upd [] w [chBlk w.heap.size #[vr] 74, chRow 50 8 vr k (ms.flatMap rn8), chAll (ms.flatMap rnCh)] wr) (fun i _ => nl - (intOf i).toNat)
  case atStart => exact ⟨0, [], .slice none 0 0, Nat.zero_le _, rfl, Lib.hid rfl, U0⟩
  case round =>
    obtain ⟨k, ms, vr, hk, rfl, HM, U1⟩ := hrel
    clear U0
    have hml := map_take_len (by rw [← HNL.out]; exact hk) HM.out
    obtain ⟨Ar, cr, rfl⟩ := owns_slice (U1.row 1 rfl)
    have HML := Lib.hid hml
    clear hml
    by_cases hlt : k < nl
    · obtain ⟨b, o, rfl, hat⟩ := HA.out (by omega)
      obtain ⟨n, hp⟩ : ∃ n, ns[k]? = some n := ⟨_, List.getElem?_eq_getElem (by rw [← HNL.out]; exact hlt)⟩
      have HP := Lib.hid hp
      have hat0 := flatN rn8 8 rn8_len ns k n hp
      have hmem := List.mem_of_getElem? hp
      obtain ⟨hna, hnb⟩ := HN.out.2 n hmem
      have hfit := HF.out.fit n hmem
      have hla := hfit.asks
      have hlb := hfit.bys
      have KC := fun w' (h : Below w.heap.size w w') => nodeChk n w' (hna.below h) (hnb.below h) hfit
      have hab1 : -1 ≤ n.p.above ∧ n.p.above < (k : Int) ∧ deepZ d n.p.above < 8 := by
        have hmost := HF.out.most k (by rw [← HNL.out]; exact hlt)
        rcases HF.out.deep k n hp with ⟨h5, h6⟩ | ⟨a, h5, h6, h7⟩
        · refine ⟨by omega, by omega, ?_⟩
          rw [h5]; show 0 < 8; omega
        · refine ⟨by omega, by omega, ?_⟩
          have : deepZ d n.p.above = d a := by rw [h5]; unfold deepZ; rw [if_neg (by omega)]; rfl
          omega
      have hroot : k = 0 → n.p.above = -1 ∧ n.p.asks = [] ∧ n.p.more = false := fun h => HF.out.root n (by rw [← h]; exact hp)
      have hhang : 0 < k → 0 ≤ n.p.above ∧ n.p.above < k := fun h => HF.out.hang k n h hp
      have KD := fun w' (vv : Value) (hBt : Blk w' w.heap.size #[vv] 74) (hrr : Rd w' 8 vv ms.length (ms.flatMap rn8)) => tDepth w.heap.size vv ms d n.p.above w' hBt hrr (HF.out.deep.take HM.out) hab1.1 (by rw [HML.out]; exact hab1.2.1) (by rw [HML.out]; omega)
      rw [HML.out] at KD
      have KA := fun w' (h : Below w.heap.size w w') => cloneAsks n.va n.p.asks.length (n.p.asks.flatMap aqC) w' (hna.below h) (by omega) (aqC_one _)
      have KB := fun w' (h : Below w.heap.size w w') => cloneStrs n.vb n.p.bys.length (n.p.bys.map Value.string) w' (hnb.below h) (by omega) (strs_one _)
      obtain ⟨⟨asks, tgt, bys, wait, betw, again, more, ab⟩, va, vb⟩ := n
      dsimp only at hat0 hna hnb KC hab1 hroot hhang KD KA KB hla hlb
      obtain ⟨Aa, ca, rfl, _⟩ := hna
      obtain ⟨Ab, cb, rfl, _⟩ := hnb
      have hb1 := U1.below
      have x0 := hat.nth0 hb1 (k * 8) _ (hat0 0 _ rfl)
      have x1 := hat.nth hb1 (k * 8) 1 _ (hat0 1 _ rfl)
      have x2 := hat.nth hb1 (k * 8) 2 _ (hat0 2 _ rfl)
      have x3 := hat.nth hb1 (k * 8) 3 _ (hat0 3 _ rfl)
      have x4 := hat.nth hb1 (k * 8) 4 _ (hat0 4 _ rfl)
      have x5 := hat.nth hb1 (k * 8) 5 _ (hat0 5 _ rfl)
      have x6 := hat.nth hb1 (k * 8) 6 _ (hat0 6 _ rfl)
      have x7 := hat.nth hb1 (k * 8) 7 _ (hat0 7 _ rfl)
      obtain ⟨na, hna⟩ : ∃ n, n = asks.length := ⟨_, rfl⟩
      obtain ⟨nb, hnb⟩ : ∃ n, n = bys.length := ⟨_, rfl⟩
      rw [← hna] at x0 KC KA hla
      rw [← hnb] at x2 KC KB hlb
      have HNA := Lib.hid hna
      have HNB := Lib.hid hnb
      have HH := Lib.hid hhang
      have HRT := Lib.hid hroot
      obtain ⟨dz, hdz⟩ : ∃ n, n = deepZ d ab := ⟨_, rfl⟩
      rw [← hdz] at KD hab1
      obtain ⟨hab1, hab2, hab3⟩ := hab1
      have b7 : decide ((8 : Int) ≤ (dz : Int)) = false := decide_eq_false (by omega)
      clear hp hmem hfit hat hat0 hb1 hdz hna hnb hhang hroot
      have U2 := U1.alloc #[.slice Aa na ca, .string tgt, .slice Ab nb cb, .int .u64 (wait : Nat), .int .u64 (betw : Nat), .int .u64 (again : Nat), .bool more, .int .i64 ab] 50
      clear U1
      go_wp2_with fail
      refine calls_genP fun w1 hw1 => ?_
      have U3 := U2.same hw1
      clear hw1 U2
      (with_reducible refine (KC _ U3.below).mono ?_)
      rintro e w4 ⟨rfl, hb4⟩
      have U4 := U3.grow hb4
      clear hb4 U3 KC x0 x1 x2 x3 x4 x5 x6 x7
      have KD4 := KD w4 _ (U4.blk 1 rfl) (rd_of_owns (U4.row 2 rfl))
      have n0 := (U4.blk 0 rfl).cell (j := 0) (v := .slice Aa na ca) rfl
      have n6 := (U4.blk 0 rfl).cell (j := 6) (v := .bool more) rfl
      have n7 := (U4.blk 0 rfl).cell (j := 7) (v := .int .i64 ab) rfl
      clear KD
      by_cases hk0 : k = 0
      · obtain ⟨r1, r2, r3⟩ := HRT.out hk0
        have b1 : ((k : Int) == 0) = true := by
          have : (k : Int) = 0 := by omega
          simpa using this
        have b2 : (ab != (-1 : Int)) = false := by simpa using r1
        have b2' : (ab == (-1 : Int)) = true := by simpa using r1
        obtain rfl : na = 0 := by rw [HNA.out, r2]; rfl
        have b4 : decide ((0 : Int) < (k : Int)) = false := decide_eq_false (by omega)
        have b4' : decide (0 < k) = false := decide_eq_false (by omega)
        have b4i : ¬ (0 < k) := by omega
        have hk0' := Lib.hid hk0
        clear r1 r2 hk0
        subst r3
        go_wp2_with fail
        (with_reducible refine KD4.mono ?_)
        rintro e w5 ⟨rfl, rfl⟩
        clear n0 n6 n7 KD4
        go_upto_region 16 with fail
        refine wp_gen fun W9 hW9 => ?_
        have U9 := U4.same hW9
        clear hW9 U4
        have F : ∀ w', Below W9.heap.size W9 w' → w'.cell? ⟨wr.heap.size, 0, none⟩ = some (.slice Aa 0 ca) ∧ w'.cell? ⟨wr.heap.size, 2, none⟩ = some (.slice Ab nb cb) := fun w' h => ⟨((U9.grow h).blk 0 rfl).cell (j := 0) rfl, ((U9.grow h).blk 0 rfl).cell (j := 2) rfl⟩
        have KA9 := fun w' (h : Below W9.heap.size W9 w') => KA w' (U9.below.trans (h.mono U9.size))
        have KB9 := fun w' (h : Below W9.heap.size W9 w') => KB w' (U9.below.trans (h.mono U9.size))
        clear KA KB
        refine region_free (fun w' => Below W9.heap.size W9 w') [2, 5] [7, 9] [0, 1, 2, 3, 4, 5, 6, 8] (by kernel_rfl) (by kernel_rfl) (by kernel_rfl) (Below.refl _ _).drew ?_
        repeat (first
          | (refine RelSeq.pure_ (c := ?_) rfl rfl ?_ ?_; rotate_left; (focus (intro x w'; dsimp only; go_simp; (repeat' apply And.intro) <;> first | with_reducible rfl | assumption)); simp only [Act.put, List.setIfInBounds_toArray, List.set_cons_zero, List.set_cons_succ])
          | (refine RelSeq.grow_ (c := ?_) rfl rfl ?_ ?_; rotate_left; (focus (intro x w' hw _; dsimp only; obtain ⟨c0, c2⟩ := F w' hw; have hbr := Below.refl w'.heap.size w'; go_simp; (repeat' apply And.intro) <;> first | with_reducible rfl | assumption)); simp only [Act.put, List.setIfInBounds_toArray, List.set_cons_zero, List.set_cons_succ]))
        refine RelSeq.rel_ (fun v u => u.ownsRow W9.heap.size 68 3 v 0 (asks.flatMap aqC)) rfl rfl (fun v u u' h hb => owns_below h hb) ?_ ?_
        focus
          intro x w' hw _; dsimp only
          go_simp
          (with_reducible refine (KA9 w' hw).mono ?_)
          rintro e w2 ⟨v2, rfl, hv2, hb2⟩
          exact ⟨owns_mono hv2 hw.size, hw.trans (hb2.mono hw.size), hb2⟩
        simp only [Act.put, List.setIfInBounds_toArray, List.set_cons_zero, List.set_cons_succ, List.nil_append]
        repeat (first
          | (refine RelSeq.pure_ (c := ?_) rfl rfl ?_ ?_; rotate_left; (focus (intro x w'; dsimp only; go_simp; (repeat' apply And.intro) <;> first | with_reducible rfl | assumption)); simp only [Act.put, List.setIfInBounds_toArray, List.set_cons_zero, List.set_cons_succ])
          | (refine RelSeq.grow_ (c := ?_) rfl rfl ?_ ?_; rotate_left; (focus (intro x w' hw _; dsimp only; obtain ⟨c0, c2⟩ := F w' hw; have hbr := Below.refl w'.heap.size w'; go_simp; (repeat' apply And.intro) <;> first | with_reducible rfl | assumption)); simp only [Act.put, List.setIfInBounds_toArray, List.set_cons_zero, List.set_cons_succ]))
        refine RelSeq.rel_ (fun v u => u.ownsRow W9.heap.size 9 1 v nb (bys.map Value.string)) rfl rfl (fun v u u' h hb => owns_below h hb) ?_ ?_
        focus
          intro x w' hw _; dsimp only
          go_simp
          (with_reducible refine (KB9 w' hw).mono ?_)
          rintro e w2 ⟨v2, rfl, hv2, hb2⟩
          exact ⟨owns_mono hv2 hw.size, hw.trans (hb2.mono hw.size), hb2⟩
        simp only [Act.put, List.setIfInBounds_toArray, List.set_cons_zero, List.set_cons_succ, List.nil_append, List.cons_append]
        repeat (first
          | (refine RelSeq.pure_ (c := ?_) rfl rfl ?_ ?_; rotate_left; (focus (intro x w'; dsimp only; go_simp; (repeat' apply And.intro) <;> first | with_reducible rfl | assumption)); simp only [Act.put, List.setIfInBounds_toArray, List.set_cons_zero, List.set_cons_succ])
          | (refine RelSeq.grow_ (c := ?_) rfl rfl ?_ ?_; rotate_left; (focus (intro x w' hw _; dsimp only; obtain ⟨c0, c2⟩ := F w' hw; have hbr := Below.refl w'.heap.size w'; go_simp; (repeat' apply And.intro) <;> first | with_reducible rfl | assumption)); simp only [Act.put, List.setIfInBounds_toArray, List.set_cons_zero, List.set_cons_succ]))
        refine RelSeq.nil_ fun x w6 hw hf => ?_
        have g1 := hf _ (.head _)
        have g2 := hf _ (.tail _ (.head _))
        dsimp only at g1 g2
        obtain ⟨A1, c1, e1⟩ := owns_slice g1
        obtain ⟨A2, c2, e2⟩ := owns_slice g2
        rw [e1] at g1
        rw [e2] at g2
        have T1 := U9.addTwo hw g1 g2 (by decide)
        have p0 := (T1.blk 2 rfl).cell (j := 0) (v := .slice Aa 0 ca) rfl
        have p2 := (T1.blk 2 rfl).cell (j := 2) (v := .slice Ab nb cb) rfl
        have f0 := (T1.blk 2 rfl).frozen
        clear hf F hw U9 g1 g2 KA9 KB9
        refine TailSeq.cons_ rfl ?_
        go_simp
        refine TailSeq.cons_ rfl ?_
        go_simp
        refine TailSeq.nil_gen fun w7 hw7 => ?_
        have T2 := (((T1.put 2 rfl 0 (.slice A1 0 c1)).put 0 rfl 2 (.slice A2 nb c2))).same hw7
        simp only [List.setIfInBounds_toArray, List.set_cons_succ, List.set_cons_zero, List.eraseIdx_cons_succ, List.eraseIdx_cons_zero] at T2
        clear hw7 T1 p0 p2 f0 e1 e2
        go_upto_region 17 with fail
        refine wp_gen fun W10 hW10 => ?_
        have T3 := T2.same hW10
        clear hW10 T2
        have F : ∀ w', Below W10.heap.size W10 w' → w'.cell? ⟨w.heap.size, 0, none⟩ = some (.slice Ar k cr) ∧ w'.cell? ⟨wr.heap.size, 0, none⟩ = some (.slice A1 0 c1) ∧ w'.cell? ⟨wr.heap.size, 1, none⟩ = some (.string tgt) ∧ w'.cell? ⟨wr.heap.size, 2, none⟩ = some (.slice A2 nb c2) ∧ w'.cell? ⟨wr.heap.size, 3, none⟩ = some (.int .u64 (wait : Nat)) ∧ w'.cell? ⟨wr.heap.size, 4, none⟩ = some (.int .u64 (betw : Nat)) ∧ w'.cell? ⟨wr.heap.size, 5, none⟩ = some (.int .u64 (again : Nat)) ∧ w'.cell? ⟨wr.heap.size, 6, none⟩ = some (.bool false) ∧ w'.cell? ⟨wr.heap.size, 7, none⟩ = some (.int .i64 ab) := fun w' h =>
          ⟨((T3.grow h).blk 3 rfl).cell (j := 0) rfl, ((T3.grow h).blk 0 rfl).cell (j := 0) rfl, ((T3.grow h).blk 0 rfl).cell (j := 1) rfl, ((T3.grow h).blk 0 rfl).cell (j := 2) rfl, ((T3.grow h).blk 0 rfl).cell (j := 3) rfl, ((T3.grow h).blk 0 rfl).cell (j := 4) rfl, ((T3.grow h).blk 0 rfl).cell (j := 5) rfl, ((T3.grow h).blk 0 rfl).cell (j := 6) rfl, ((T3.grow h).blk 0 rfl).cell (j := 7) rfl⟩
        refine region_free (fun w' => Below W10.heap.size W10 w') [6] [7, 8, 9, 10] [0, 1, 2, 3, 4, 5, 6] (by kernel_rfl) (by kernel_rfl) (by kernel_rfl) (Below.refl _ _).drew ?_
        repeat (first
          | (refine RelSeq.pure_ (c := ?_) rfl rfl ?_ ?_; rotate_left; (focus (intro x w'; dsimp only; go_simp; (repeat' apply And.intro) <;> first | with_reducible rfl | assumption)); simp only [Act.put, List.setIfInBounds_toArray, List.set_cons_zero, List.set_cons_succ])
          | (refine RelSeq.grow_ (c := ?_) rfl rfl ?_ ?_; rotate_left; (focus (intro x w' hw _; dsimp only; obtain ⟨ct, e0, e1, e2, e3, e4, e5, e6, e7⟩ := F w' hw; have hbr := Below.refl w'.heap.size w'; go_simp; (repeat' apply And.intro) <;> first | with_reducible rfl | assumption)); simp only [Act.put, List.setIfInBounds_toArray, List.set_cons_zero, List.set_cons_succ]))
        refine RelSeq.rel_ (NewSl W10.heap.size 1 #[.slice A1 0 c1, .string tgt, .slice A2 nb c2, .int .u64 (wait : Nat), .int .u64 (betw : Nat), .int .u64 (again : Nat), .bool false, .int .i64 ab] 50) rfl rfl NewSl.stable ?_ ?_
        focus
          intro x w' hw _; dsimp only
          have hba : Below w'.heap.size w' (w'.alloc (.cells #[.slice A1 0 c1, .string tgt, .slice A2 nb c2, .int .u64 (wait : Nat), .int .u64 (betw : Nat), .int .u64 (again : Nat), .bool false, .int .i64 ab] 50)) := (Below.refl _ _).alloc (Nat.le_refl _) _
          have hI := hw.trans (hba.mono hw.size)
          have hsz := hw.size
          go_simp
          (repeat' apply And.intro) <;> first | assumption | exact ⟨_, rfl, hsz, Blk.new _ _ _⟩
        simp only [Act.put, List.setIfInBounds_toArray, List.set_cons_zero, List.set_cons_succ, List.nil_append]
        refine RelSeq.nil_ fun x w8 hw hf => ?_
        obtain ⟨bq, eq, hbq, hBq⟩ := hf _ (.head _)
        have T4 := (T3.grow hw).moreBlk hBq (Nat.le_trans T3.size hbq) (fun q hq he => by
          have := T3.lt hq he
          omega)
        clear hf F hw T3 hBq
        refine TailSeq.cons_ rfl ?_
        refine wp_append_rd (.tmp 80) (.tmp 82) 25 rfl 0 50 i0 _ 8 104 Tryz.underlying25 hi hz0 hz1 hz2 rfl (by decide) (.slice Ar k cr) k _ rfl (T4.row 5 rfl) (.slice (some ⟨bq, 0, none⟩) 1 1) 1 _ (by exact eq) (rd_oneR (T4.blk 0 rfl) (n := 8) rfl) (by intro u hu; simp at hu; rcases hu with rfl | rfl | rfl | rfl | rfl | rfl | rfl | rfl <;> rfl) (by unfold maxLen; omega) (by omega) (Nat.zero_le _) fun v8 w9 hown8 hgr8 hv8 => ?_
        refine ⟨rfl, ?_⟩
        have T5 := T4.app 5 rfl hown8 hgr8 hv8
        simp only [List.eraseIdx_cons_succ, List.eraseIdx_cons_zero] at T5
        obtain ⟨A8, c8, rfl⟩ := owns_slice hown8
        clear T4 hown8 hgr8 hv8 eq
        simp only [out, Act.put, List.setIfInBounds_toArray, List.set_cons_zero, List.set_cons_succ]
        refine TailSeq.cons_ rfl ?_
        go_simp
        refine TailSeq.cons_ rfl ?_
        go_simp
        refine TailSeq.cons_ rfl ?_
        have q0 := (T5.blk 5 rfl).cell (j := 0) (v := .slice Ar k cr) rfl
        have f1 := (T5.blk 5 rfl).frozen
        go_simp
        refine TailSeq.nil_gen fun w10 hw10 => ?_
        have T6 := (T5.put 5 rfl 0 (.slice A8 (k + 1) c8)).same hw10
        simp only [List.setIfInBounds_toArray, List.set_cons_zero, List.eraseIdx_cons_succ, List.eraseIdx_cons_zero] at T6
        clear hw10 T5 q0 f1
        have T7 := T6.pick [4, 6, 5, 0, 1] (by decide)
        simp only [List.filterMap_cons, List.filterMap_nil, List.getElem?_cons_zero, List.getElem?_cons_succ] at T7
        have T8 := T7.intoAll.pick [1, 0, 2, 3] (by decide)
        simp only [List.filterMap_cons, List.filterMap_nil, List.getElem?_cons_zero, List.getElem?_cons_succ] at T8
        have T9 := T8.intoAll.pick [1, 2, 0] (by decide)
        simp only [List.filterMap_cons, List.filterMap_nil, List.getElem?_cons_zero, List.getElem?_cons_succ] at T9
        clear T6 T7 T8
        have HM2 := Lib.hid (map_take_snoc (m := (⟨⟨asks, tgt, bys, wait, betw, again, false, ab⟩, .slice A1 0 c1, .slice A2 nb c2⟩ : RNV)) HM.out HP.out rfl)
        have T10 : Upd [] w [chBlk w.heap.size #[.slice A8 (k + 1) c8] 74, chRow 50 8 (.slice A8 (k + 1) c8) (k + 1) ((ms ++ [(⟨⟨asks, tgt, bys, wait, betw, again, false, ab⟩, .slice A1 0 c1, .slice A2 nb c2⟩ : RNV)]).flatMap rn8), chAll ((ms ++ [(⟨⟨asks, tgt, bys, wait, betw, again, false, ab⟩, .slice A1 0 c1, .slice A2 nb c2⟩ : RNV)]).flatMap rnCh)] w10 := by
          have h1 : asks.length = 0 := HNA.out.symm
          have h2 : bys.length = nb := HNB.out.symm
          rw [List.flatMap_append, List.flatMap_append]
          simpa [rn8, rnCh, h1, h2] using T9
        clear T9
        go_wp2_with fail
        go_roundw
        case rel => exact ⟨k + 1, _, _, by omega, by go_num, HM2, T10⟩
        case measure => simp [intOf]; omega
      · have b1 : ((k : Int) == 0) = false := by
          have : ¬ (k : Int) = 0 := by omega
          simpa using this
        have b4 : decide ((0 : Int) < (k : Int)) = true := decide_eq_true (by omega)
        have b5 : decide (ab < (0 : Int)) = false := decide_eq_false (by have := (HH.out (by omega)).1; omega)
        have b6 : decide ((k : Int) ≤ ab) = false := decide_eq_false (by omega)
        go_wp2_with fail
        (with_reducible refine KD4.mono ?_)
        rintro e w5 ⟨rfl, rfl⟩
        clear n0 n6 n7 KD4
        go_upto_region 16 with fail
        refine wp_gen fun W9 hW9 => ?_
        have U9 := U4.same hW9
        clear hW9 U4
        have F : ∀ w', Below W9.heap.size W9 w' → w'.cell? ⟨wr.heap.size, 0, none⟩ = some (.slice Aa na ca) ∧ w'.cell? ⟨wr.heap.size, 2, none⟩ = some (.slice Ab nb cb) := fun w' h => ⟨((U9.grow h).blk 0 rfl).cell (j := 0) rfl, ((U9.grow h).blk 0 rfl).cell (j := 2) rfl⟩
        have KA9 := fun w' (h : Below W9.heap.size W9 w') => KA w' (U9.below.trans (h.mono U9.size))
        have KB9 := fun w' (h : Below W9.heap.size W9 w') => KB w' (U9.below.trans (h.mono U9.size))
        clear KA KB
        refine region_free (fun w' => Below W9.heap.size W9 w') [2, 5] [7, 9] [0, 1, 2, 3, 4, 5, 6, 8] (by kernel_rfl) (by kernel_rfl) (by kernel_rfl) (Below.refl _ _).drew ?_
        repeat (first
          | (refine RelSeq.pure_ (c := ?_) rfl rfl ?_ ?_; rotate_left; (focus (intro x w'; dsimp only; go_simp; (repeat' apply And.intro) <;> first | with_reducible rfl | assumption)); simp only [Act.put, List.setIfInBounds_toArray, List.set_cons_zero, List.set_cons_succ])
          | (refine RelSeq.grow_ (c := ?_) rfl rfl ?_ ?_; rotate_left; (focus (intro x w' hw _; dsimp only; obtain ⟨c0, c2⟩ := F w' hw; have hbr := Below.refl w'.heap.size w'; go_simp; (repeat' apply And.intro) <;> first | with_reducible rfl | assumption)); simp only [Act.put, List.setIfInBounds_toArray, List.set_cons_zero, List.set_cons_succ]))
        refine RelSeq.rel_ (fun v u => u.ownsRow W9.heap.size 68 3 v na (asks.flatMap aqC)) rfl rfl (fun v u u' h hb => owns_below h hb) ?_ ?_
        focus
          intro x w' hw _; dsimp only
          go_simp
          (with_reducible refine (KA9 w' hw).mono ?_)
          rintro e w2 ⟨v2, rfl, hv2, hb2⟩
          exact ⟨owns_mono hv2 hw.size, hw.trans (hb2.mono hw.size), hb2⟩
        simp only [Act.put, List.setIfInBounds_toArray, List.set_cons_zero, List.set_cons_succ, List.nil_append]
        repeat (first
          | (refine RelSeq.pure_ (c := ?_) rfl rfl ?_ ?_; rotate_left; (focus (intro x w'; dsimp only; go_simp; (repeat' apply And.intro) <;> first | with_reducible rfl | assumption)); simp only [Act.put, List.setIfInBounds_toArray, List.set_cons_zero, List.set_cons_succ])
          | (refine RelSeq.grow_ (c := ?_) rfl rfl ?_ ?_; rotate_left; (focus (intro x w' hw _; dsimp only; obtain ⟨c0, c2⟩ := F w' hw; have hbr := Below.refl w'.heap.size w'; go_simp; (repeat' apply And.intro) <;> first | with_reducible rfl | assumption)); simp only [Act.put, List.setIfInBounds_toArray, List.set_cons_zero, List.set_cons_succ]))
        refine RelSeq.rel_ (fun v u => u.ownsRow W9.heap.size 9 1 v nb (bys.map Value.string)) rfl rfl (fun v u u' h hb => owns_below h hb) ?_ ?_
        focus
          intro x w' hw _; dsimp only
          go_simp
          (with_reducible refine (KB9 w' hw).mono ?_)
          rintro e w2 ⟨v2, rfl, hv2, hb2⟩
          exact ⟨owns_mono hv2 hw.size, hw.trans (hb2.mono hw.size), hb2⟩
        simp only [Act.put, List.setIfInBounds_toArray, List.set_cons_zero, List.set_cons_succ, List.nil_append, List.cons_append]
        repeat (first
          | (refine RelSeq.pure_ (c := ?_) rfl rfl ?_ ?_; rotate_left; (focus (intro x w'; dsimp only; go_simp; (repeat' apply And.intro) <;> first | with_reducible rfl | assumption)); simp only [Act.put, List.setIfInBounds_toArray, List.set_cons_zero, List.set_cons_succ])
          | (refine RelSeq.grow_ (c := ?_) rfl rfl ?_ ?_; rotate_left; (focus (intro x w' hw _; dsimp only; obtain ⟨c0, c2⟩ := F w' hw; have hbr := Below.refl w'.heap.size w'; go_simp; (repeat' apply And.intro) <;> first | with_reducible rfl | assumption)); simp only [Act.put, List.setIfInBounds_toArray, List.set_cons_zero, List.set_cons_succ]))
        refine RelSeq.nil_ fun x w6 hw hf => ?_
        have g1 := hf _ (.head _)
        have g2 := hf _ (.tail _ (.head _))
        dsimp only at g1 g2
        obtain ⟨A1, c1, e1⟩ := owns_slice g1
        obtain ⟨A2, c2, e2⟩ := owns_slice g2
        rw [e1] at g1
        rw [e2] at g2
        have T1 := U9.addTwo hw g1 g2 (by decide)
        have p0 := (T1.blk 2 rfl).cell (j := 0) (v := .slice Aa na ca) rfl
        have p2 := (T1.blk 2 rfl).cell (j := 2) (v := .slice Ab nb cb) rfl
        have f0 := (T1.blk 2 rfl).frozen
        clear hf F hw U9 g1 g2 KA9 KB9
        refine TailSeq.cons_ rfl ?_
        go_simp
        refine TailSeq.cons_ rfl ?_
        go_simp
        refine TailSeq.nil_gen fun w7 hw7 => ?_
        have T2 := (((T1.put 2 rfl 0 (.slice A1 na c1)).put 0 rfl 2 (.slice A2 nb c2))).same hw7
        simp only [List.setIfInBounds_toArray, List.set_cons_succ, List.set_cons_zero, List.eraseIdx_cons_succ, List.eraseIdx_cons_zero] at T2
        clear hw7 T1 p0 p2 f0 e1 e2
        go_upto_region 17 with fail
        refine wp_gen fun W10 hW10 => ?_
        have T3 := T2.same hW10
        clear hW10 T2
        have F : ∀ w', Below W10.heap.size W10 w' → w'.cell? ⟨w.heap.size, 0, none⟩ = some (.slice Ar k cr) ∧ w'.cell? ⟨wr.heap.size, 0, none⟩ = some (.slice A1 na c1) ∧ w'.cell? ⟨wr.heap.size, 1, none⟩ = some (.string tgt) ∧ w'.cell? ⟨wr.heap.size, 2, none⟩ = some (.slice A2 nb c2) ∧ w'.cell? ⟨wr.heap.size, 3, none⟩ = some (.int .u64 (wait : Nat)) ∧ w'.cell? ⟨wr.heap.size, 4, none⟩ = some (.int .u64 (betw : Nat)) ∧ w'.cell? ⟨wr.heap.size, 5, none⟩ = some (.int .u64 (again : Nat)) ∧ w'.cell? ⟨wr.heap.size, 6, none⟩ = some (.bool more) ∧ w'.cell? ⟨wr.heap.size, 7, none⟩ = some (.int .i64 ab) := fun w' h =>
          ⟨((T3.grow h).blk 3 rfl).cell (j := 0) rfl, ((T3.grow h).blk 0 rfl).cell (j := 0) rfl, ((T3.grow h).blk 0 rfl).cell (j := 1) rfl, ((T3.grow h).blk 0 rfl).cell (j := 2) rfl, ((T3.grow h).blk 0 rfl).cell (j := 3) rfl, ((T3.grow h).blk 0 rfl).cell (j := 4) rfl, ((T3.grow h).blk 0 rfl).cell (j := 5) rfl, ((T3.grow h).blk 0 rfl).cell (j := 6) rfl, ((T3.grow h).blk 0 rfl).cell (j := 7) rfl⟩
        refine region_free (fun w' => Below W10.heap.size W10 w') [6] [7, 8, 9, 10] [0, 1, 2, 3, 4, 5, 6] (by kernel_rfl) (by kernel_rfl) (by kernel_rfl) (Below.refl _ _).drew ?_
        repeat (first
          | (refine RelSeq.pure_ (c := ?_) rfl rfl ?_ ?_; rotate_left; (focus (intro x w'; dsimp only; go_simp; (repeat' apply And.intro) <;> first | with_reducible rfl | assumption)); simp only [Act.put, List.setIfInBounds_toArray, List.set_cons_zero, List.set_cons_succ])
          | (refine RelSeq.grow_ (c := ?_) rfl rfl ?_ ?_; rotate_left; (focus (intro x w' hw _; dsimp only; obtain ⟨ct, e0, e1, e2, e3, e4, e5, e6, e7⟩ := F w' hw; have hbr := Below.refl w'.heap.size w'; go_simp; (repeat' apply And.intro) <;> first | with_reducible rfl | assumption)); simp only [Act.put, List.setIfInBounds_toArray, List.set_cons_zero, List.set_cons_succ]))
        refine RelSeq.rel_ (NewSl W10.heap.size 1 #[.slice A1 na c1, .string tgt, .slice A2 nb c2, .int .u64 (wait : Nat), .int .u64 (betw : Nat), .int .u64 (again : Nat), .bool more, .int .i64 ab] 50) rfl rfl NewSl.stable ?_ ?_
        focus
          intro x w' hw _; dsimp only
          have hba : Below w'.heap.size w' (w'.alloc (.cells #[.slice A1 na c1, .string tgt, .slice A2 nb c2, .int .u64 (wait : Nat), .int .u64 (betw : Nat), .int .u64 (again : Nat), .bool more, .int .i64 ab] 50)) := (Below.refl _ _).alloc (Nat.le_refl _) _
          have hI := hw.trans (hba.mono hw.size)
          have hsz := hw.size
          go_simp
          (repeat' apply And.intro) <;> first | assumption | exact ⟨_, rfl, hsz, Blk.new _ _ _⟩
        simp only [Act.put, List.setIfInBounds_toArray, List.set_cons_zero, List.set_cons_succ, List.nil_append]
        refine RelSeq.nil_ fun x w8 hw hf => ?_
        obtain ⟨bq, eq, hbq, hBq⟩ := hf _ (.head _)
        have T4 := (T3.grow hw).moreBlk hBq (Nat.le_trans T3.size hbq) (fun q hq he => by
          have := T3.lt hq he
          omega)
        clear hf F hw T3 hBq
        refine TailSeq.cons_ rfl ?_
        refine wp_append_rd (.tmp 80) (.tmp 82) 25 rfl 0 50 i0 _ 8 104 Tryz.underlying25 hi hz0 hz1 hz2 rfl (by decide) (.slice Ar k cr) k _ rfl (T4.row 5 rfl) (.slice (some ⟨bq, 0, none⟩) 1 1) 1 _ (by exact eq) (rd_oneR (T4.blk 0 rfl) (n := 8) rfl) (by intro u hu; simp at hu; rcases hu with rfl | rfl | rfl | rfl | rfl | rfl | rfl | rfl <;> rfl) (by unfold maxLen; omega) (by omega) (Nat.zero_le _) fun v8 w9 hown8 hgr8 hv8 => ?_
        refine ⟨rfl, ?_⟩
        have T5 := T4.app 5 rfl hown8 hgr8 hv8
        simp only [List.eraseIdx_cons_succ, List.eraseIdx_cons_zero] at T5
        obtain ⟨A8, c8, rfl⟩ := owns_slice hown8
        clear T4 hown8 hgr8 hv8 eq
        simp only [out, Act.put, List.setIfInBounds_toArray, List.set_cons_zero, List.set_cons_succ]
        refine TailSeq.cons_ rfl ?_
        go_simp
        refine TailSeq.cons_ rfl ?_
        go_simp
        refine TailSeq.cons_ rfl ?_
        have q0 := (T5.blk 5 rfl).cell (j := 0) (v := .slice Ar k cr) rfl
        have f1 := (T5.blk 5 rfl).frozen
        go_simp
        refine TailSeq.nil_gen fun w10 hw10 => ?_
        have T6 := (T5.put 5 rfl 0 (.slice A8 (k + 1) c8)).same hw10
        simp only [List.setIfInBounds_toArray, List.set_cons_zero, List.eraseIdx_cons_succ, List.eraseIdx_cons_zero] at T6
        clear hw10 T5 q0 f1
        have T7 := T6.pick [4, 6, 5, 0, 1] (by decide)
        simp only [List.filterMap_cons, List.filterMap_nil, List.getElem?_cons_zero, List.getElem?_cons_succ] at T7
        have T8 := T7.intoAll.pick [1, 0, 2, 3] (by decide)
        simp only [List.filterMap_cons, List.filterMap_nil, List.getElem?_cons_zero, List.getElem?_cons_succ] at T8
        have T9 := T8.intoAll.pick [1, 2, 0] (by decide)
        simp only [List.filterMap_cons, List.filterMap_nil, List.getElem?_cons_zero, List.getElem?_cons_succ] at T9
        clear T6 T7 T8
        have HM2 := Lib.hid (map_take_snoc (m := (⟨⟨asks, tgt, bys, wait, betw, again, more, ab⟩, .slice A1 na c1, .slice A2 nb c2⟩ : RNV)) HM.out HP.out rfl)
        have T10 : Upd [] w [chBlk w.heap.size #[.slice A8 (k + 1) c8] 74, chRow 50 8 (.slice A8 (k + 1) c8) (k + 1) ((ms ++ [(⟨⟨asks, tgt, bys, wait, betw, again, more, ab⟩, .slice A1 na c1, .slice A2 nb c2⟩ : RNV)]).flatMap rn8), chAll ((ms ++ [(⟨⟨asks, tgt, bys, wait, betw, again, more, ab⟩, .slice A1 na c1, .slice A2 nb c2⟩ : RNV)]).flatMap rnCh)] w10 := by
          have h1 : asks.length = na := HNA.out.symm
          have h2 : bys.length = nb := HNB.out.symm
          rw [List.flatMap_append, List.flatMap_append]
          simpa [rn8, rnCh, h1, h2] using T9
        clear T9
        go_wp2_with fail
        go_roundw
        case rel => exact ⟨k + 1, _, _, by omega, by go_num, HM2, T10⟩
        case measure => simp [intOf]; omega
    · obtain rfl : k = nl := by omega
      go_wp2_with fail
      go_ret2
      refine ⟨w.heap.size, _, ms, rfl, ?_, U1.blk 0 rfl, nodesAt_of (U1.row 1 rfl) HML.out (U1.all 2 rfl), Nat.le_refl _, U1.below⟩
      rw [HM.out, HNL.out, List.take_length]
end Go.Proofs.YteiocplfmjkbkaaGreatDoor
