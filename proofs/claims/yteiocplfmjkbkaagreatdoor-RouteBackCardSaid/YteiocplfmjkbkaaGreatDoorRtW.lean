/-
  (*Tree).Len, Node, Find; route.Node.Group.
-/
import Derived.Test.YteiocplfmjkbkaaGreatDoorRtK
import Derived.Test.YteiocplfmjkbkaaGreatDoorRtV
import Derived.Test.YteiocplfmjkbkaaGreatDoorRt8
import Derived.Test.YteiocplfmjkbkaaGreatDoorFree
import Derived.Test.YteiocplfmjkbkaaGreatDoorLRef
import Derived.Test.YteiocplfmjkbkaaGreatDoorMg6
namespace Go.Proofs.YteiocplfmjkbkaaGreatDoor
open Go.RowKit FreeOrd
set_option maxRecDepth 100000
attribute [local go_sem] out

/-- Rows of unlike elements are apart. -/
theorem rows_apart {w : World} {base base' : Nat} {e e' : TypeId} {size size' : Nat} {v v' : Value} {n n' : Nat} {xs xs' : List Value} (h : w.ownsRow base e size v n xs) (h' : w.ownsRow base' e' size' v' n' xs') (hne : e ≠ e') : ∀ b, v.ownBlock = some b → some b ≠ v'.ownBlock := by
  intro b hb he
  obtain ⟨_, h | ⟨g, cap, cur, rfl, _, hh, _⟩⟩ := h
  · rw [h.1] at hb; cases hb
  · obtain ⟨_, h' | ⟨g', cap', cur', rfl, _, hh', _⟩⟩ := h'
    · rw [h'.1] at he; cases he
    · have e1 : g = b := Option.some.inj hb
      have e2 : b = g' := Option.some.inj he
      subst e1; subst e2
      rw [hh] at hh'
      exact hne (Obj.cells.inj (Option.some.inj hh')).2.1
/-- Two new rows of unlike elements. -/
theorem Upd.addTwo {S : List Nat} {w0 w w' : World} {C : List Chunk} (h : Upd S w0 C w) (hb : Below w.heap.size w w') {e e' : TypeId} {size size' : Nat} {v v' : Value} {n n' : Nat} {xs xs' : List Value} (h1 : w'.ownsRow w.heap.size e size v n xs) (h2 : w'.ownsRow w.heap.size e' size' v' n' xs') (hne : e ≠ e') : Upd S w0 (chRow e size v n xs :: chRow e' size' v' n' xs' :: C) w' := by
  have U := h.addRow hb h2 (Nat.le_refl _)
  refine U.moreRow h1 h.size fun d hd q hq he => ?_
  rcases List.mem_cons.1 hd with rfl | hd
  · exact rows_apart h1 h2 hne q he.symm (chRow_fp.1 hq).symm
  · have := h.lt hd hq
    have := owns_ge h1 q he.symm
    omega
/-- (*Tree).Len. -/
theorem tLen (t : Nat) (A : Option Addr) (n c : Nat) (w : World) (hB : Blk w t #[.slice A n c] 74) :
    Calls Tryz.prog 18 #[.pointer (some ⟨t, 0, none⟩)] w fun e w' => e = .returned (.int .i64 (n : Nat)) ∧ w' = w := by
  have c0 := hB.cell (j := 0) (v := .slice A n c) rfl
  clear hB
  go_enter Tryz.func18, Tryz.ntmps18
  go_wp2_with fail
  go_ret
  exact ⟨rfl, rfl⟩
def NodesOk (ns : List RNV) : Prop := ∀ n ∈ ns, n.p.asks.length ≤ 8 ∧ n.p.bys.length ≤ 8
theorem aqC_one (l : List Aq) : ∀ u ∈ l.flatMap aqC, u.oneCell' = true := by
  intro u hu
  obtain ⟨a, _, ha⟩ := List.mem_flatMap.1 hu
  simp only [aqC, List.mem_cons, List.not_mem_nil, or_false] at ha
  rcases ha with rfl | rfl | rfl <;> rfl
theorem strs_one (l : List ByteArray) : ∀ u ∈ l.map Value.string, u.oneCell' = true := by
  intro u hu
  obtain ⟨a, _, rfl⟩ := List.mem_map.1 hu
  rfl
set_option maxHeartbeats 8000000 in
/-- (*Tree).Node of a place that there is. -/
theorem tNode (t : Nat) (v : Value) (ns : List RNV) (k : Nat) (n : RNV) (w : World) (hB : Blk w t #[v] 74) (hN : NodesAt w v ns) (hok : NodesOk ns) (hk : ns[k]? = some n) (hlen : ns.length ≤ 32) :
    Calls Tryz.prog 13 #[.pointer (some ⟨t, 0, none⟩), .int .i64 (k : Nat)] w fun e w' => ∃ va vb, e = .returned (.tuple #[.agg #[va, .string n.p.tgt, vb, .int .u64 (n.p.wait : Nat), .int .u64 (n.p.between : Nat), .int .u64 (n.p.again : Nat), .bool n.p.more, .int .i64 n.p.above], .bool true]) ∧
      Upd [] w [chRow 68 3 va n.p.asks.length (n.p.asks.flatMap aqC), chRow 9 1 vb n.p.bys.length (n.p.bys.map Value.string)] w' := by
  have hm := List.mem_of_getElem? hk
  obtain ⟨ok1, ok2⟩ := hok n hm
  have hR := hN.1
  obtain ⟨ha, hb⟩ := hN.2 n hm
  have hat0 := flatN rn8 8 rn8_len ns k n hk
  have hkl : k < ns.length := (List.getElem?_eq_some_iff.1 hk).1
  obtain ⟨⟨asks, tgt, bys, wait, betw, again, more, ab⟩, va, vb⟩ := n
  dsimp only at ok1 ok2 ha hb hat0 ⊢
  obtain ⟨nl, hnl⟩ : ∃ n, n = ns.length := ⟨_, rfl⟩
  rw [← hnl] at hR hkl hlen
  obtain ⟨A, c, rfl, h1, h2, h3, h4⟩ := hR
  unfold maxLen at h3
  obtain ⟨b, o, rfl, hat⟩ := h4 (by omega)
  have KA := fun w' (h : Below w.heap.size w w') => cloneAsks va asks.length (asks.flatMap aqC) w' (ha.below h) (by omega) (aqC_one _)
  have KB := fun w' (h : Below w.heap.size w w') => cloneStrs vb bys.length (bys.map Value.string) w' (hb.below h) (by omega) (strs_one _)
  obtain ⟨Aa, ca, rfl, _⟩ := ha
  obtain ⟨Ab, cb, rfl, _⟩ := hb
  have U0 := (Upd.nil [] w).alloc #[.slice none 0 0, .string ⟨#[]⟩, .slice none 0 0, .int .u64 0, .int .u64 0, .int .u64 0, .bool false, .int .i64 0] 50
  have KL := fun w' (h : Below w.heap.size w w') => tLen t (some ⟨b, o, none⟩) nl c w' (hB.below h hB.lt)
  have hb0 := U0.below
  have y0 := hat.nth0 hb0 (k * 8) _ (hat0 0 _ rfl)
  have y1 := hat.nth hb0 (k * 8) 1 _ (hat0 1 _ rfl)
  have y2 := hat.nth hb0 (k * 8) 2 _ (hat0 2 _ rfl)
  have y3 := hat.nth hb0 (k * 8) 3 _ (hat0 3 _ rfl)
  have y4 := hat.nth hb0 (k * 8) 4 _ (hat0 4 _ rfl)
  have y5 := hat.nth hb0 (k * 8) 5 _ (hat0 5 _ rfl)
  have y6 := hat.nth hb0 (k * 8) 6 _ (hat0 6 _ rfl)
  have y7 := hat.nth hb0 (k * 8) 7 _ (hat0 7 _ rfl)
  have ct := (hB.below hb0 hB.lt).cell (j := 0) (v := .slice (some ⟨b, o, none⟩) nl c) rfl
  clear hat hat0 hB hN h1 h4 hk hm hnl hok hb0
  go_enter Tryz.func13, Tryz.ntmps13
  go_wp2_with fail
  refine calls_genP fun w1 hw1 => ?_
  have U1 := U0.same hw1
  rw [← hw1] at y0 y1 y2 y3 y4 y5 y6 y7 ct
  clear hw1 U0
  (with_reducible refine (KL _ U1.below).mono ?_)
  rintro e w2 ⟨rfl, rfl⟩
  go_upto_region 4 with fail
  refine wp_gen fun W9 hW9 => ?_
  have U9 := (U1.alloc #[.slice Aa asks.length ca, .string tgt, .slice Ab bys.length cb, .int .u64 (wait : Nat), .int .u64 (betw : Nat), .int .u64 (again : Nat), .bool more, .int .i64 ab] 50).same hW9
  have hz9 : w2.heap.size < W9.heap.size := (U9.blk 0 rfl).lt
  clear hW9 y0 y1 y2 y3 y4 y5 y6 y7 ct
  have F : ∀ w', Below W9.heap.size W9 w' → w'.cell? ⟨w2.heap.size, 0, none⟩ = some (.slice Aa asks.length ca) ∧ w'.cell? ⟨w2.heap.size, 2, none⟩ = some (.slice Ab bys.length cb) := fun w' h => ⟨((U9.grow h).blk 0 rfl).cell (j := 0) rfl, ((U9.grow h).blk 0 rfl).cell (j := 2) rfl⟩
  have KA9 := fun w' (h : Below W9.heap.size W9 w') => KA w' (U9.below.trans (h.mono U9.size))
  have KB9 := fun w' (h : Below W9.heap.size W9 w') => KB w' (U9.below.trans (h.mono U9.size))
  clear KA KB KL U1
  refine region_free (fun w' => Below W9.heap.size W9 w') [2, 5] [7, 9] [0, 1, 2, 3, 4, 5, 6, 8] (by kernel_rfl) (by kernel_rfl) (by kernel_rfl) (Below.refl _ _).drew ?_
  repeat (first
    | (refine RelSeq.pure_ (c := ?_) rfl rfl ?_ ?_; rotate_left; (focus (intro x w'; dsimp only; go_simp; (repeat' apply And.intro) <;> first | with_reducible rfl | assumption)); simp only [Act.put, List.setIfInBounds_toArray, List.set_cons_zero, List.set_cons_succ])
    | (refine RelSeq.grow_ (c := ?_) rfl rfl ?_ ?_; rotate_left; (focus (intro x w' hw _; dsimp only; obtain ⟨c0, c2⟩ := F w' hw; have hbr := Below.refl w'.heap.size w'; go_simp; (repeat' apply And.intro) <;> first | with_reducible rfl | assumption)); simp only [Act.put, List.setIfInBounds_toArray, List.set_cons_zero, List.set_cons_succ]))
  refine RelSeq.rel_ (fun v u => u.ownsRow W9.heap.size 68 3 v asks.length (asks.flatMap aqC)) rfl rfl (fun v u u' h hb => owns_below h hb) ?_ ?_
  focus
    intro x w' hw _; dsimp only
    go_simp
    (with_reducible refine (KA9 w' hw).mono ?_)
    rintro e w2 ⟨v2, rfl, hv2, hb2⟩
    exact ⟨owns_mono hv2 hw.size, hw.trans (hb2.mono hw.size), hb2⟩
  simp only [Act.put, List.setIfInBounds_toArray, List.set_cons_zero, List.set_cons_succ, List.nil_append]
  repeat (first
    | (refine RelSeq.pure_ (c := ?_) rfl rfl ?_ ?_; rotate_left; (focus (intro x w'; dsimp only; go_simp; (repeat' apply And.intro) <;> first | with_reducible rfl | assumption)); simp only [Act.put, List.setIfInBounds_toArray, List.set_cons_zero, List.set_cons_succ])
    | (refine RelSeq.grow_ (c := ?_) rfl rfl ?_ ?_; rotate_left; (focus (intro x w' hw _; dsimp only; obtain ⟨c0, c2⟩ := F w' hw; have hbr := Below.refl w'.heap.size w'; go_simp; (repeat' apply And.intro) <;> first | with_reducible rfl | assumption)); simp only [Act.put, List.setIfInBounds_toArray, List.set_cons_zero, List.set_cons_succ]))
  refine RelSeq.rel_ (fun v u => u.ownsRow W9.heap.size 9 1 v bys.length (bys.map Value.string)) rfl rfl (fun v u u' h hb => owns_below h hb) ?_ ?_
  focus
    intro x w' hw _; dsimp only
    go_simp
    (with_reducible refine (KB9 w' hw).mono ?_)
    rintro e w2 ⟨v2, rfl, hv2, hb2⟩
    exact ⟨owns_mono hv2 hw.size, hw.trans (hb2.mono hw.size), hb2⟩
  simp only [Act.put, List.setIfInBounds_toArray, List.set_cons_zero, List.set_cons_succ, List.nil_append, List.cons_append]
  repeat (first
    | (refine RelSeq.pure_ (c := ?_) rfl rfl ?_ ?_; rotate_left; (focus (intro x w'; dsimp only; go_simp; (repeat' apply And.intro) <;> first | with_reducible rfl | assumption)); simp only [Act.put, List.setIfInBounds_toArray, List.set_cons_zero, List.set_cons_succ])
    | (refine RelSeq.grow_ (c := ?_) rfl rfl ?_ ?_; rotate_left; (focus (intro x w' hw _; dsimp only; obtain ⟨c0, c2⟩ := F w' hw; have hbr := Below.refl w'.heap.size w'; go_simp; (repeat' apply And.intro) <;> first | with_reducible rfl | assumption)); simp only [Act.put, List.setIfInBounds_toArray, List.set_cons_zero, List.set_cons_succ]))
  refine RelSeq.nil_ fun x w1 hw hf => ?_
  have g1 := hf _ (.head _)
  have g2 := hf _ (.tail _ (.head _))
  dsimp only at g1 g2
  obtain ⟨A1, c1, e1⟩ := owns_slice g1
  obtain ⟨A2, c2, e2⟩ := owns_slice g2
  rw [e1] at g1
  rw [e2] at g2
  have T1 := U9.addTwo hw g1 g2 (by decide)
  have p0 := (T1.blk 2 rfl).cell (j := 0) (v := .slice Aa asks.length ca) rfl
  have p2 := (T1.blk 2 rfl).cell (j := 2) (v := .slice Ab bys.length cb) rfl
  have f0 := (T1.blk 2 rfl).frozen
  clear hf F hw U9 g1 g2 KA9 KB9
  refine TailSeq.cons_ rfl ?_
  go_simp
  refine TailSeq.cons_ rfl ?_
  go_simp
  refine TailSeq.nil_gen fun w3 hw3 => ?_
  have T2 := (((T1.put 2 rfl 0 (.slice A1 asks.length c1)).put 0 rfl 2 (.slice A2 bys.length c2))).same hw3
  simp only [List.setIfInBounds_toArray, List.set_cons_succ, List.set_cons_zero, List.eraseIdx_cons_succ, List.eraseIdx_cons_zero] at T2
  clear hw3 T1 p0 p2 f0
  have e0 := (T2.blk 0 rfl).cell (j := 0) rfl
  have e1 := (T2.blk 0 rfl).cell (j := 1) rfl
  have e2 := (T2.blk 0 rfl).cell (j := 2) rfl
  have e3 := (T2.blk 0 rfl).cell (j := 3) rfl
  have e4 := (T2.blk 0 rfl).cell (j := 4) rfl
  have e5 := (T2.blk 0 rfl).cell (j := 5) rfl
  have e6 := (T2.blk 0 rfl).cell (j := 6) rfl
  have e7 := (T2.blk 0 rfl).cell (j := 7) rfl
  have z0 := (T2.blk 3 rfl).cell (j := 0) rfl
  have z1 := (T2.blk 3 rfl).cell (j := 1) rfl
  have z2 := (T2.blk 3 rfl).cell (j := 2) rfl
  have z3 := (T2.blk 3 rfl).cell (j := 3) rfl
  have z4 := (T2.blk 3 rfl).cell (j := 4) rfl
  have z5 := (T2.blk 3 rfl).cell (j := 5) rfl
  have z6 := (T2.blk 3 rfl).cell (j := 6) rfl
  have z7 := (T2.blk 3 rfl).cell (j := 7) rfl
  have zf := (T2.blk 3 rfl).frozen
  go_wp2_with fail
  refine bodyPost_gen fun w4 hw4 => ?_
  have V := ((((((((T2.put 3 rfl 0 (.slice A1 asks.length c1)).put 0 rfl 1 (.string tgt)).put 0 rfl 2 (.slice A2 bys.length c2)).put 0 rfl 3 (.int .u64 (wait : Nat))).put 0 rfl 4 (.int .u64 (betw : Nat))).put 0 rfl 5 (.int .u64 (again : Nat))).put 0 rfl 6 (.bool more)).put 0 rfl 7 (.int .i64 ab)).same hw4
  simp only [List.setIfInBounds_toArray, List.set_cons_succ, List.set_cons_zero, List.eraseIdx_cons_succ, List.eraseIdx_cons_zero] at V
  clear hw4 T2
  have a0 := (V.blk 0 rfl).cell (j := 0) (v := .slice A1 asks.length c1) rfl
  have a1 := (V.blk 0 rfl).cell (j := 1) (v := .string tgt) rfl
  have a2 := (V.blk 0 rfl).cell (j := 2) (v := .slice A2 bys.length c2) rfl
  have a3 := (V.blk 0 rfl).cell (j := 3) (v := .int .u64 (wait : Nat)) rfl
  have a4 := (V.blk 0 rfl).cell (j := 4) (v := .int .u64 (betw : Nat)) rfl
  have a5 := (V.blk 0 rfl).cell (j := 5) (v := .int .u64 (again : Nat)) rfl
  have a6 := (V.blk 0 rfl).cell (j := 6) (v := .bool more) rfl
  have a7 := (V.blk 0 rfl).cell (j := 7) (v := .int .i64 ab) rfl
  have V2 := V.pick [2, 3] (by decide)
  simp only [List.filterMap_cons, List.filterMap_nil, List.getElem?_cons_zero, List.getElem?_cons_succ] at V2
  refine bodyPost_ret (v := .tuple #[.agg #[.slice A1 asks.length c1, .string tgt, .slice A2 bys.length c2, .int .u64 (wait : Nat), .int .u64 (betw : Nat), .int .u64 (again : Nat), .bool more, .int .i64 ab], .bool true]) ?_ rfl ⟨_, _, rfl, V2⟩
  simp [results, Tryz.results13, go_sem, a0, a1, a2, a3, a4, a5, a6, a7]
/-- (*Tree).Find. -/
theorem tFind (t : Nat) (v : Value) (ns : List RNV) (org : Nat) (rule : ByteArray) (lv st sn pr vl : Value) (ls : List Pr) (w : World) (hB : Blk w t #[v] 74) (hN : NodesAt w v ns) (hok : AsksFit ns) (hps : ∀ key, (getL (namesL ls rule org) key).1.size ≤ maxLen) (hn : ns.length ≤ 32) (h0 : 0 < ns.length) (ho : org ≤ 9) (hl : ls.length ≤ 100) (hr : Rd w 2 lv ls.length (pairCells ls)) :
    Calls Tryz.prog 10 #[.pointer (some ⟨t, 0, none⟩), .agg #[.int .u8 org, .string rule, lv, st, sn, pr, vl]] w fun e w' => ∃ v', e = .returned v' ∧ w'.ownsRow w.heap.size 3 1 v' (findT (ns.map (·.p)) (holdN (namesL ls rule org)) ns.length 0).length (natV (findT (ns.map (·.p)) (holdN (namesL ls rule org)) ns.length 0)) ∧ Below w.heap.size w w' := by
  have KM := fun w' (h : Below w.heap.size w w') => mNames org rule lv st sn pr vl ls w' ho hl (hr.below h)
  have KW := fun lv' w' (h : Below w.heap.size w w') (hr' : Rd w' 2 lv' (namesL ls rule org).length (pairCells (namesL ls rule org))) => (show Calls Tryz.prog 27 #[.pointer (some ⟨t, 0, none⟩), .int .i64 0, lv'] w' _ from tWalk t v lv' ns (namesL ls rule org) hok hps hn ns.length 0 w' (hB.below h hB.lt) (hN.below h) hr' h0 (by omega))
  have hR := hN.1
  obtain ⟨A, c, rfl, _⟩ := hR
  have KL := fun w' (h : Below w.heap.size w w') => tLen t A ns.length c w' (hB.below h hB.lt)
  have hz : ¬ ((ns.length : Int) = 0) := by omega
  obtain ⟨nl, hnl⟩ : ∃ n, n = ns.length := ⟨_, rfl⟩
  rw [← hnl] at KL hz KW ⊢
  have hzb : ((nl : Int) == 0) = false := by simpa using hz
  have U0 := (Upd.nil [] w).alloc #[.int .u8 org, .string rule, lv, st, sn, pr, vl] 37
  clear hB hN hok hps hr hnl
  go_enter Tryz.func10, Tryz.ntmps10
  go_wp2_with fail
  refine calls_genP fun w1 hw1 => ?_
  have U1 := U0.same hw1
  clear hw1 U0
  (with_reducible refine (KL _ U1.below).mono ?_)
  rintro e w2 ⟨rfl, rfl⟩
  have y0 := (U1.blk 0 rfl).cell (j := 0) rfl
  have y1 := (U1.blk 0 rfl).cell (j := 1) rfl
  have y2 := (U1.blk 0 rfl).cell (j := 2) rfl
  have y3 := (U1.blk 0 rfl).cell (j := 3) rfl
  have y4 := (U1.blk 0 rfl).cell (j := 4) rfl
  have y5 := (U1.blk 0 rfl).cell (j := 5) rfl
  have y6 := (U1.blk 0 rfl).cell (j := 6) rfl
  go_wp2_with fail
  (with_reducible refine (KM _ U1.below).mono ?_)
  rintro e w3 ⟨v3, rfl, hr3, hb3⟩
  have U3 := U1.addRow hb3 hr3 (Nat.le_refl _)
  obtain ⟨A3, c3, rfl⟩ := owns_slice hr3
  have hrd := rd_of_owns hr3
  clear U1 hb3 hr3
  go_wp2_with fail
  (with_reducible refine (KW _ _ U3.below hrd).mono ?_)
  rintro e w4 ⟨v4, rfl, hr4, hb4⟩
  obtain ⟨A4, c4, rfl⟩ := owns_slice hr4
  go_wp2_with fail
  go_ret
  exact ⟨_, rfl, owns_mono hr4 U3.size, (U3.grow hb4).below⟩
end Go.Proofs.YteiocplfmjkbkaaGreatDoor
