/-
  Questions and nodes as the reference has them: watchfirelaw17.Ref, watchfirelaw20.Ref.
-/
import Derived.Test.YteiocplfmjkbkaaGreatDoorRtX
namespace Go.Proofs.YteiocplfmjkbkaaGreatDoor
open Go.RowKit FreeOrd
set_option maxRecDepth 100000
attribute [local go_sem] out

theorem infoAskQ : (Tryz.prog.info? 108).map (fun i => (i.zero, i.size, i.bytes)) = some (some (.agg #[.string ⟨#[]⟩, .int .i64 0, .string ⟨#[]⟩]), 3, 40) := by kernel_rfl
theorem infoRouteQ : (Tryz.prog.info? 84).map (fun i => (i.zero, i.size, i.bytes)) = some (some (.agg #[.slice none 0 0, .string ⟨#[]⟩, .slice none 0 0, .int .u64 0, .int .u64 0, .int .u64 0, .bool false, .int .i64 0]), 8, 104) := by kernel_rfl
set_option maxHeartbeats 4000000 in
/-- watchfirelaw17.Ref. -/
theorem lRefA (l : List Aq) (v : Value) (w : World) (hr : Rd w 3 v l.length (l.flatMap aqC)) (hl : l.length ≤ 1048576) (hop : ∀ a ∈ l, a.2.1 < 256) :
    Calls Tryz.prog 30 #[v] w fun e w' => ∃ v', e = .returned v' ∧ w'.ownsRow w.heap.size 108 3 v' l.length (l.flatMap aqR) ∧ Below w.heap.size w w' := by
  obtain ⟨i0, hi, hz0, hz1, hz2⟩ := info_parts infoAskQ
  obtain ⟨nl, hnl⟩ : ∃ n, n = l.length := ⟨_, rfl⟩
  rw [← hnl] at hr hl ⊢
  obtain ⟨A, c, rfl, h1, h2, h3, h4⟩ := hr
  unfold maxLen at h3
  have HA := Lib.hid h4
  have HO := Lib.hid hop
  have HNL := Lib.hid hnl
  have U0 := (Upd.nil [] w).nilRow 108 3
  clear h4 h1 hop hnl
  go_enter Tryz.func30, Tryz.ntmps30
  go_wp2_with fail
  go_loopw [3, 8] (fun v i wr => ∃ k : Nat, k ≤ nl ∧ i = .int .i64 k ∧ Upd [] w [chRow 108 3 v k ((l.take k).flatMap aqR)] wr) (fun _ i _ => nl - (intOf i).toNat)
  case atStart => exact ⟨0, Nat.zero_le _, rfl, U0⟩
  case round =>
    obtain ⟨k, hk, rfl, U1⟩ := hrel
    obtain ⟨Av, cv, rfl⟩ := owns_slice (U1.row 0 rfl)
    by_cases hlt : k < nl
    · obtain ⟨b, o, rfl, hat⟩ := HA.out (by omega)
      obtain ⟨a, ha⟩ : ∃ a, l[k]? = some a := ⟨_, List.getElem?_eq_getElem (by rw [← HNL.out]; omega)⟩
      have hb := U1.below
      have c0 := hat.nth0 hb (k*3) _ (flatN aqC 3 aqC_len l k a ha 0 _ rfl)
      have c1 := hat.nth hb (k*3) 1 _ (flatN aqC 3 aqC_len l k a ha 1 _ rfl)
      have c2 := hat.nth hb (k*3) 2 _ (flatN aqC 3 aqC_len l k a ha 2 _ rfl)
      have hop := HO.out a (List.mem_of_getElem? ha)
      have wo : IntKind.i64.wrap ((a.2.1 : Nat) : Int) = ((a.2.1 : Nat) : Int) := by rw [IntKind.wrap_i64]; omega
      have HT := Lib.hid (show (l.take (k + 1)).flatMap aqR = (l.take k).flatMap aqR ++ aqR a by rw [List.take_add_one, ha, List.flatMap_append]; simp)
      obtain ⟨key, op, x⟩ := a
      dsimp only at c0 c1 c2 hop wo
      clear hat ha hb
      have U2 := (U1.alloc #[.string key, .int .u8 (op : Nat), .string x] 68).alloc #[.string key, .int .i64 (op : Nat), .string x] 108
      clear U1
      go_wp2_with (at_builtin; refine wpl_stop fun W hW => ?_)
      refine Stopped.mk ?_
      rw [allocSzR] at U2
      have U3 := U2.same hW
      clear U2 hW
      refine wpl_append_rd rfl (.tmp 12) (.tmp 21) 82 rfl 0 108 i0 _ 3 40 Tryz.underlying82 hi hz0 hz1 hz2 rfl (by decide) _ k _ rfl (U3.row 2 rfl) _ 1 _ rfl (rd_oneR (U3.blk 0 rfl) (n := 3) rfl) (by intro u hu; simp at hu; rcases hu with rfl | rfl | rfl <;> rfl) (by unfold maxLen; omega) (by omega) (Nat.zero_le _) fun v7 w7 hown7 hgr7 hv7 => ?_
      have U7 := U3.app 2 rfl hown7 hgr7 hv7
      simp only [List.eraseIdx_cons_succ, List.eraseIdx_cons_zero] at U7
      obtain ⟨A7, c7, rfl⟩ := owns_slice hown7
      clear hown7 hgr7 hv7 U3
      go_wp2_with fail
      go_roundw
      case rel => exact ⟨k + 1, by omega, by go_num, by rw [HT.out]; exact (U7.drop 1).drop 1⟩
      case measure => simp [intOf]; omega
    · obtain rfl : k = nl := by omega
      rw [HNL.out, List.take_length, ← HNL.out] at U1
      go_wp2_with fail
      go_ret
      exact ⟨_, rfl, rowBaseR U1 0 rfl, U1.below⟩
/-- The reference's nodes that can be read. -/
def NodesAtR (w : World) (v : Value) (ns : List RNV) : Prop :=
  Rd w 8 v ns.length (ns.flatMap rn8) ∧ ∀ n ∈ ns, Rd w 3 n.va n.p.asks.length (n.p.asks.flatMap aqR) ∧ Rd w 1 n.vb n.p.bys.length (n.p.bys.map Value.string)
theorem NodesAtR.below {w w' : World} {v : Value} {ns : List RNV} (h : NodesAtR w v ns) (hb : Below w.heap.size w w') : NodesAtR w' v ns :=
  ⟨h.1.below hb, fun n hn => ⟨(h.2 n hn).1.below hb, (h.2 n hn).2.below hb⟩⟩
def rrCh (n : RNV) : List Chunk := [chRow 108 3 n.va n.p.asks.length (n.p.asks.flatMap aqR)]
def RefMade (ns : List RNV) (w : World) (e : Ending) (w' : World) : Prop := ∃ (v' : Value) (ms : List RNV), e = .returned v' ∧ ms.map (·.p) = ns.map (·.p) ∧ NodesAtR w' v' ms ∧ Below w.heap.size w w'
theorem map_take_snoc2 {ns ms : List RNV} {k : Nat} {n m : RNV} (e : ms.map (fun n => (n.p, n.vb)) = (ns.take k).map (fun n => (n.p, n.vb))) (hn : ns[k]? = some n) (hp : m.p = n.p) (hb : m.vb = n.vb) : (ms ++ [m]).map (fun n => (n.p, n.vb)) = (ns.take (k + 1)).map (fun n => (n.p, n.vb)) := by
  rw [List.map_append, e, List.take_add_one, hn, List.map_append]
  simp [hp, hb]
theorem map_two {ns ms : List RNV} (e : ms.map (fun n => (n.p, n.vb)) = ns.map (fun n => (n.p, n.vb))) : ms.map (·.p) = ns.map (·.p) ∧ ∀ m ∈ ms, ∃ n ∈ ns, n.p = m.p ∧ n.vb = m.vb := by
  refine ⟨?_, fun m hm => ?_⟩
  · have := congrArg (List.map Prod.fst) e
    simpa [List.map_map, Function.comp_def] using this
  · have h1 : (m.p, m.vb) ∈ ms.map (fun n => (n.p, n.vb)) := List.mem_map.2 ⟨m, hm, rfl⟩
    rw [e] at h1
    obtain ⟨n, hn, he⟩ := List.mem_map.1 h1
    exact ⟨n, hn, congrArg Prod.fst he, congrArg Prod.snd he⟩
set_option maxHeartbeats 8000000 in
/-- watchfirelaw20.Ref. -/
theorem lRefN (v : Value) (ns : List RNV) (w : World) (hN : NodesAt w v ns) (hn : ns.length ≤ 32) (hok : ∀ n ∈ ns, n.p.asks.length ≤ 8 ∧ ∀ a ∈ n.p.asks, a.2.1 < 256) :
    Calls Tryz.prog 12 #[v] w (RefMade ns w) := by
  obtain ⟨i0, hi, hz0, hz1, hz2⟩ := info_parts infoRouteQ
  have hR := hN.1
  have HN := Lib.hid hN
  obtain ⟨nl, hnl⟩ : ∃ n, n = ns.length := ⟨_, rfl⟩
  rw [← hnl] at hR hn
  obtain ⟨A, c, rfl, h1, h2, h3, h4⟩ := hR
  unfold maxLen at h3
  have HA := Lib.hid h4
  have HO := Lib.hid hok
  have HNL := Lib.hid hnl
  have U0 := ((Upd.nil [] w).allNil).nilRow 84 8
  clear h4 h1 hok hnl hN
  go_enter Tryz.func12, Tryz.ntmps12
  go_wp2_with fail
  go_loopw [3, 8] (fun vr i wr => ∃ (k : Nat) (ms : List RNV), k ≤ nl ∧ i = .int .i64 k ∧ Hid (ms.map (fun n => (n.p, n.vb)) = (ns.take k).map (fun n => (n.p, n.vb))) ∧ Upd [] w [chRow 84 8 vr k (ms.flatMap rn8), chAll (ms.flatMap rrCh)] wr) (fun _ i _ => nl - (intOf i).toNat)
  case atStart => exact ⟨0, [], Nat.zero_le _, rfl, Lib.hid rfl, U0⟩
  case round =>
    obtain ⟨k, ms, hk, rfl, HM, U1⟩ := hrel
    clear U0
    obtain ⟨Ar, cr, rfl⟩ := owns_slice (U1.row 0 rfl)
    by_cases hlt : k < nl
    · obtain ⟨b, o, rfl, hat⟩ := HA.out (by omega)
      obtain ⟨n, hp⟩ : ∃ n, ns[k]? = some n := ⟨_, List.getElem?_eq_getElem (by rw [← HNL.out]; exact hlt)⟩
      have HP := Lib.hid hp
      have hat0 := flatN rn8 8 rn8_len ns k n hp
      have hmem := List.mem_of_getElem? hp
      obtain ⟨hna, hnb⟩ := HN.out.2 n hmem
      have hfit := HO.out n hmem
      have hla := hfit.1
      have KA := fun w' (h : Below w.heap.size w w') => lRefA n.p.asks n.va w' (hna.below h) (by omega) hfit.2
      obtain ⟨⟨asks, tgt, bys, wait, betw, again, more, ab⟩, va, vb⟩ := n
      dsimp only at hat0 hna hnb KA hla
      obtain ⟨Aa, ca, rfl, _⟩ := hna
      obtain ⟨Ab, cb, rfl, _⟩ := hnb
      have hb1 := U1.below
      have x0 := hat.nth0 hb1 (k * 8) _ (hat0 0 _ rfl)
      have x1 := hat.nth hb1 (k * 8) 1 _ (hat0 1 _ rfl)
      have x2 := hat.nth hb1 (k * 8) 2 _ (hat0 2 _ rfl)
      have x3 := hat.nth hb1 (k * 8) 3 _ (hat0 3 _ rfl)
      have x4 := hat.nth hb1 (k * 8) 4 _ (hat0 4 _ rfl)
      have x5 := hat.nth hb1 (k * 8) 5 _ (hat0 5 _ rfl)
      have x6 := hat.nth hb1 (k * 8) 6 _ (hat0 6 _ rfl)
      have x7 := hat.nth hb1 (k * 8) 7 _ (hat0 7 _ rfl)
      obtain ⟨na, hna⟩ : ∃ n, n = asks.length := ⟨_, rfl⟩
      obtain ⟨nb, hnb⟩ : ∃ n, n = bys.length := ⟨_, rfl⟩
      rw [← hna] at x0 KA hla
      rw [← hnb] at x2
      have HNA := Lib.hid hna
      have HNB := Lib.hid hnb
      clear hp hmem hfit hat hat0 hb1 hna hnb
      have U2 := U1.alloc #[.slice Aa na ca, .string tgt, .slice Ab nb cb, .int .u64 (wait : Nat), .int .u64 (betw : Nat), .int .u64 (again : Nat), .bool more, .int .i64 ab] 50
      clear U1
      go_upto_region 5 with fail
      refine wp_gen fun W9 hW9 => ?_
      have U9 := U2.same hW9
      clear hW9 U2 x0 x1 x2 x3 x4 x5 x6 x7
      have F : ∀ w', Below W9.heap.size W9 w' → w'.cell? ⟨wr.heap.size, 0, none⟩ = some (.slice Aa na ca) ∧ w'.cell? ⟨wr.heap.size, 1, none⟩ = some (.string tgt) ∧ w'.cell? ⟨wr.heap.size, 2, none⟩ = some (.slice Ab nb cb) ∧ w'.cell? ⟨wr.heap.size, 3, none⟩ = some (.int .u64 (wait : Nat)) ∧ w'.cell? ⟨wr.heap.size, 4, none⟩ = some (.int .u64 (betw : Nat)) ∧ w'.cell? ⟨wr.heap.size, 5, none⟩ = some (.int .u64 (again : Nat)) ∧ w'.cell? ⟨wr.heap.size, 6, none⟩ = some (.bool more) ∧ w'.cell? ⟨wr.heap.size, 7, none⟩ = some (.int .i64 ab) := fun w' h =>
        ⟨((U9.grow h).blk 0 rfl).cell (j := 0) rfl, ((U9.grow h).blk 0 rfl).cell (j := 1) rfl, ((U9.grow h).blk 0 rfl).cell (j := 2) rfl, ((U9.grow h).blk 0 rfl).cell (j := 3) rfl, ((U9.grow h).blk 0 rfl).cell (j := 4) rfl, ((U9.grow h).blk 0 rfl).cell (j := 5) rfl, ((U9.grow h).blk 0 rfl).cell (j := 6) rfl, ((U9.grow h).blk 0 rfl).cell (j := 7) rfl⟩
      have KA9 := fun w' (h : Below W9.heap.size W9 w') => KA w' (U9.below.trans (h.mono U9.size))
      clear KA
      refine region_free (fun w' => Below W9.heap.size W9 w') [3, 21, 22] [23, 24] [0, 1, 2, 3, 4, 5, 6, 7, 8, 9, 10, 11, 12, 13, 14, 15, 16, 17, 18, 19, 20, 21, 22] (by kernel_rfl) (by kernel_rfl) (by kernel_rfl) (Below.refl _ _).drew ?_
      repeat (first
        | (refine RelSeq.pure_ (c := ?_) rfl rfl ?_ ?_; rotate_left; (focus (intro x w'; dsimp only; go_simp; (repeat' apply And.intro) <;> first | with_reducible rfl | assumption)); simp only [Act.put, List.setIfInBounds_toArray, List.set_cons_zero, List.set_cons_succ])
        | (refine RelSeq.grow_ (c := ?_) rfl rfl ?_ ?_; rotate_left; (focus (intro x w' hw _; dsimp only; obtain ⟨e0, e1, e2, e3, e4, e5, e6, e7⟩ := F w' hw; have hbr := Below.refl w'.heap.size w'; go_simp; (repeat' apply And.intro) <;> first | with_reducible rfl | assumption)); simp only [Act.put, List.setIfInBounds_toArray, List.set_cons_zero, List.set_cons_succ]))
      refine RelSeq.rel_ (fun v u => u.ownsRow W9.heap.size 108 3 v na (asks.flatMap aqR)) rfl rfl (fun v u u' h hb => owns_below h hb) ?_ ?_
      focus
        intro x w' hw _; dsimp only
        go_simp
        (with_reducible refine (KA9 w' hw).mono ?_)
        rintro e w2 ⟨v2, rfl, hv2, hb2⟩
        exact ⟨owns_mono hv2 hw.size, hw.trans (hb2.mono hw.size), hb2⟩
      simp only [Act.put, List.setIfInBounds_toArray, List.set_cons_zero, List.set_cons_succ, List.nil_append]
      repeat (first
        | (refine RelSeq.pure_ (c := ?_) rfl rfl ?_ ?_; rotate_left; (focus (intro x w'; dsimp only; go_simp; (repeat' apply And.intro) <;> first | with_reducible rfl | assumption)); simp only [Act.put, List.setIfInBounds_toArray, List.set_cons_zero, List.set_cons_succ])
        | (refine RelSeq.grow_ (c := ?_) rfl rfl ?_ ?_; rotate_left; (focus (intro x w' hw _; dsimp only; obtain ⟨e0, e1, e2, e3, e4, e5, e6, e7⟩ := F w' hw; have hbr := Below.refl w'.heap.size w'; go_simp; (repeat' apply And.intro) <;> first | with_reducible rfl | assumption)); simp only [Act.put, List.setIfInBounds_toArray, List.set_cons_zero, List.set_cons_succ]))
      refine RelSeq.rel_ (fun v u => ∃ B1 d1, v = .agg #[.slice B1 na d1, .string tgt, .slice Ab nb cb, .int .u64 (wait : Nat), .int .u64 (betw : Nat), .int .u64 (again : Nat), .bool more, .int .i64 ab] ∧ u.ownsRow W9.heap.size 108 3 (.slice B1 na d1) na (asks.flatMap aqR)) rfl rfl (fun v u u' ⟨B1, d1, h1, h2⟩ hb => ⟨B1, d1, h1, owns_below h2 hb⟩) ?_ ?_
      focus
        intro x w' hw hf; dsimp only
        have g1 := hf _ (.head _) (by kernel_rfl)
        dsimp only at g1
        obtain ⟨B1, d1, e1⟩ := owns_slice g1
        rw [e1] at g1
        have hbr := Below.refl w'.heap.size w'
        go_simp
        (repeat' apply And.intro) <;> first | assumption | exact ⟨B1, d1, ⟨rfl, rfl⟩, g1⟩ | exact ⟨B1, d1, rfl, g1⟩
      simp only [Act.put, List.setIfInBounds_toArray, List.set_cons_zero, List.set_cons_succ, List.nil_append, List.cons_append]
      refine RelSeq.rel_ (fun v w' => ∃ b A4 c4, v = .slice (some ⟨b, 0, none⟩) 1 1 ∧ W9.heap.size ≤ b ∧ Blk w' b #[.slice A4 na c4, .string tgt, .slice Ab nb cb, .int .u64 (wait : Nat), .int .u64 (betw : Nat), .int .u64 (again : Nat), .bool more, .int .i64 ab] 84 ∧ w'.ownsRow W9.heap.size 108 3 (.slice A4 na c4) na (asks.flatMap aqR)) rfl rfl (fun v w w' ⟨b, A4, c4, e, h1, h2, hr⟩ hb => ⟨b, A4, c4, e, h1, h2.below hb h2.lt, owns_below hr hb⟩) ?_ ?_
      focus
        intro x w' hw hf; dsimp only
        obtain ⟨A4, c4, e, hrow⟩ := hf _ (.tail _ (.head _)) (by kernel_rfl)
        have hba : Below w'.heap.size w' (w'.alloc (.cells #[.slice A4 na c4, .string tgt, .slice Ab nb cb, .int .u64 (wait : Nat), .int .u64 (betw : Nat), .int .u64 (again : Nat), .bool more, .int .i64 ab] 84)) := (Below.refl _ _).alloc (Nat.le_refl _) _
        have hI := hw.trans (hba.mono hw.size)
        have hsz := hw.size
        go_simp
        exact ⟨A4, c4, Blk.new _ _ _, owns_below hrow hba⟩
      simp only [Act.put, List.setIfInBounds_toArray, List.set_cons_zero, List.set_cons_succ, List.nil_append, List.cons_append]
      refine RelSeq.nil_ fun x w7 hw hf => ?_
      obtain ⟨bq, A4, c4, eq, hb0, hBb, hrow⟩ := hf _ (.tail _ (.tail _ (.head _)))
      have hs9 := U9.size
      have T4 := ((U9.grow hw).moreRow hrow hs9 (fun d hd q hq he => by
        have := U9.lt hd hq
        have := owns_ge hrow q he.symm
        omega)).moreBlk hBb (Nat.le_trans hs9 hb0) (fun d hd hq => by
        rcases List.mem_cons.1 hd with rfl | hd
        · exact owns_ne hrow hBb (by decide) (chRow_fp.1 hq).symm
        · have := U9.lt hd hq
          omega)
      clear hf F hw U9 hBb hrow KA9
      refine TailSeq.cons_ rfl ?_
      refine wp_append_rd (.tmp 12) (.tmp 34) 42 rfl 0 84 i0 _ 8 104 Tryz.underlying42 hi hz0 hz1 hz2 rfl (by decide) (.slice Ar k cr) k _ rfl (T4.row 3 rfl) (.slice (some ⟨bq, 0, none⟩) 1 1) 1 _ (by exact eq) (rd_oneR (T4.blk 0 rfl) (n := 8) rfl) (by intro u hu; simp at hu; rcases hu with rfl | rfl | rfl | rfl | rfl | rfl | rfl | rfl <;> rfl) (by unfold maxLen; omega) (by omega) (Nat.zero_le _) fun v8 w9 hown8 hgr8 hv8 => ?_
      refine ⟨rfl, ?_⟩
      have T5 := T4.app 3 rfl hown8 hgr8 hv8
      simp only [List.eraseIdx_cons_succ, List.eraseIdx_cons_zero] at T5
      obtain ⟨A8, c8, rfl⟩ := owns_slice hown8
      clear T4 hown8 hgr8 hv8 eq
      simp only [out, Act.put, List.setIfInBounds_toArray, List.set_cons_zero, List.set_cons_succ]
      refine TailSeq.cons_ rfl ?_
      go_simp
      refine TailSeq.nil_ ?_
      have T7 := T5.pick [2, 4, 0] (by decide)
      simp only [List.filterMap_cons, List.filterMap_nil, List.getElem?_cons_zero, List.getElem?_cons_succ] at T7
      have T8 := T7.intoAll.pick [1, 0] (by decide)
      simp only [List.filterMap_cons, List.filterMap_nil, List.getElem?_cons_zero, List.getElem?_cons_succ] at T8
      clear T5 T7
      have HM2 := Lib.hid (map_take_snoc2 (m := (⟨⟨asks, tgt, bys, wait, betw, again, more, ab⟩, .slice A4 na c4, .slice Ab nb cb⟩ : RNV)) HM.out HP.out rfl (by rw [HNB.out]))
      have T10 : Upd [] w [chRow 84 8 (.slice A8 (k + 1) c8) (k + 1) ((ms ++ [(⟨⟨asks, tgt, bys, wait, betw, again, more, ab⟩, .slice A4 na c4, .slice Ab nb cb⟩ : RNV)]).flatMap rn8), chAll ((ms ++ [(⟨⟨asks, tgt, bys, wait, betw, again, more, ab⟩, .slice A4 na c4, .slice Ab nb cb⟩ : RNV)]).flatMap rrCh)] w9 := by
        have h1 : asks.length = na := HNA.out.symm
        rw [List.flatMap_append, List.flatMap_append]
        simpa [rn8, rrCh, h1] using T8
      clear T8
      go_wp2_with fail
      go_roundw
      case rel => exact ⟨k + 1, _, by omega, by go_num, HM2, T10⟩
      case measure => simp [intOf]; omega
    · obtain rfl : k = nl := by omega
      have hlk := HM.out
      rw [HNL.out, List.take_length] at hlk
      obtain ⟨e1, e2⟩ := map_two hlk
      have hml : ms.length = k := by have := congrArg List.length e1; rw [List.length_map, List.length_map, ← HNL.out] at this; exact this
      have HML := Lib.hid hml
      clear hml hlk
      have E1 := Lib.hid e1
      clear e1
      go_wp2_with fail
      go_ret
      refine ⟨_, ms, rfl, E1.out, ⟨by rw [HML.out]; exact rd_of_owns (U1.row 0 rfl), fun m hm => ⟨?_, ?_⟩⟩, U1.below⟩
      · exact rd_of_owns (base := 0) ((U1.all 1 rfl) (chRow 108 3 m.va m.p.asks.length (m.p.asks.flatMap aqR)) (List.mem_flatMap.2 ⟨m, hm, .head _⟩))
      · obtain ⟨n, hn, h1, h2⟩ := e2 m hm
        rw [← h1, ← h2]
        exact (HN.out.2 n hn).2.below U1.below
end Go.Proofs.YteiocplfmjkbkaaGreatDoor
