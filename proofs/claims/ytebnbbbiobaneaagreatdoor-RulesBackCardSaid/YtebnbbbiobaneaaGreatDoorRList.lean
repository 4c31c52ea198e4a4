/-
  Rules of small numbers, each name once (watchfirelaw15.List).
-/
import Derived.Test.YtebnbbbiobaneaaGreatDoorMg41
import Derived.Test.YtebnbbbiobaneaaGreatDoorRuK
namespace Go.Proofs.YtebnbbbiobaneaaGreatDoor
open Go.RowKit FreeOrd
set_option maxRecDepth 100000
attribute [local go_sem] out

structure RuleP where
  name : ByteArray
  metric : ByteArray
  ifl : List (ByteArray × ByteArray)
  kind : Nat
  lim : Int
  ticks : Nat
  wait : Nat
  keep : Nat
  prio : Nat
  withl : List (ByteArray × ByteArray)
structure RuleV where
  p : RuleP
  v1 : Value
  v2 : Value
def smP (s : SmR) : RuleP := ⟨ruleNameB s.nm, ruleMetB s.me, labL (s.fi % 4), 1 + s.k % 5, condLim s.k s.m, condTicks s.k s.t, s.fo % 6, s.ke % 6, s.pr % 8, labL s.wi⟩
def rule10 (r : RuleV) : List Value := [.string r.p.name, .string r.p.metric, r.v1, .int .u8 r.p.kind, .int .i64 r.p.lim, .int .u64 r.p.ticks, .int .u64 r.p.wait, .int .u64 r.p.keep, .int .u8 r.p.prio, r.v2]
def RuleV.good (r : RuleV) (w : World) (base : Nat) : Prop := w.ownsRow base 138 2 r.v1 r.p.ifl.length (pairCells r.p.ifl) ∧ w.ownsRow base 138 2 r.v2 r.p.withl.length (pairCells r.p.withl)
def dedup (acc : List RuleP) (p : RuleP) : List RuleP := if acc.any (fun q => decide (q.name = p.name)) = true then acc else acc ++ [p]
def dedupL (l : List RuleP) : List RuleP := l.foldl dedup []
theorem infoRule : (Tryz.prog.info? 63).map (fun i => (i.zero, i.size, i.bytes)) = some (some (.agg #[.string ⟨#[]⟩, .string ⟨#[]⟩, .slice none 0 0, .int .u8 0, .int .i64 0, .int .u64 0, .int .u64 0, .int .u64 0, .int .u8 0, .slice none 0 0]), 10, 128) := by kernel_rfl
theorem dedup_any (acc : List RuleP) (p : RuleP) : (acc.any (fun q => decide (q.name = p.name)) = true) ↔ p.name ∈ acc.map (·.name) := by
  rw [List.any_eq_true]
  constructor
  · rintro ⟨q, h, e⟩
    exact List.mem_map.2 ⟨q, h, by simpa using e⟩
  · intro h
    obtain ⟨q, h, e⟩ := List.mem_map.1 h
    exact ⟨q, h, by simpa using e⟩
theorem dedupL_snoc (l : List RuleP) (p : RuleP) : dedupL (l ++ [p]) = dedup (dedupL l) p := by simp [dedupL]
def fiveN : List ByteArray := [ruleNameB 0, ruleNameB 1, ruleNameB 2, ruleNameB 3, ruleNameB 4]
theorem ruleName_five (k : Nat) : ruleNameB k ∈ fiveN := by
  have h : k % 5 = 0 ∨ k % 5 = 1 ∨ k % 5 = 2 ∨ k % 5 = 3 ∨ k % 5 = 4 := by omega
  have e : ruleNameB k = ruleNameB (k % 5) := by unfold ruleNameB; rw [Nat.mod_mod]
  rw [e]
  rcases h with h | h | h | h | h <;> rw [h] <;> simp [fiveN]
theorem nodup_short : ∀ (l s : List ByteArray), l.Nodup → (∀ x ∈ l, x ∈ s) → l.length ≤ s.length := by
  intro l
  induction l with
  | nil => intro s _ _; exact Nat.zero_le _
  | cons a r ih =>
    intro s hn hs
    obtain ⟨ha, hr⟩ := List.nodup_cons.1 hn
    obtain ⟨s1, s2, rfl⟩ := List.append_of_mem (hs a (.head _))
    have := ih (s1 ++ s2) hr fun x hx => by
      have h := hs x (.tail _ hx)
      rcases List.mem_append.1 h with h | h
      · exact List.mem_append_left _ h
      · rcases List.mem_cons.1 h with h | h
        · subst h; exact absurd hx ha
        · exact List.mem_append_right _ h
    simp only [List.length_append, List.length_cons] at this ⊢
    omega
theorem dedup_names (l : List SmR) : ((dedupL (l.map smP)).map (·.name)).Nodup ∧ ∀ x ∈ (dedupL (l.map smP)).map (·.name), x ∈ fiveN := by
  have key : ∀ (l : List SmR) (acc : List RuleP), (acc.map (·.name)).Nodup → (∀ x ∈ acc.map (·.name), x ∈ fiveN) → (((l.map smP).foldl dedup acc).map (·.name)).Nodup ∧ ∀ x ∈ ((l.map smP).foldl dedup acc).map (·.name), x ∈ fiveN := by
    intro l
    induction l with
    | nil => intro acc h1 h2; exact ⟨h1, h2⟩
    | cons s r ih =>
      intro acc h1 h2
      simp only [List.map_cons, List.foldl_cons]
      refine ih _ ?_ ?_
      · unfold dedup
        split
        · exact h1
        · rename_i hn
          rw [dedup_any] at hn
          rw [List.map_append, List.map_singleton]
          exact List.nodup_append.2 ⟨h1, by simp, fun x hx y hy => by
            have := List.mem_singleton.1 hy
            subst this
            exact fun e => hn (e ▸ hx)⟩
      · unfold dedup
        split
        · exact h2
        · intro x hx
          rw [List.map_append, List.map_singleton] at hx
          rcases List.mem_append.1 hx with h | h
          · exact h2 x h
          · rw [List.mem_singleton.1 h]; exact ruleName_five _
  exact key l [] (by simp) (by simp)
theorem dedup_len (l : List SmR) : (dedupL (l.map smP)).length ≤ 5 := by
  have := nodup_short _ fiveN (dedup_names l).1 (dedup_names l).2
  simpa [fiveN] using this
theorem owns_grown {w w' : World} {base base' : Nat} {e e' : TypeId} {size size' : Nat} {v v' : Value} {n n' : Nat} {xs xs' : List Value} (h : w.ownsRow base e size v n xs) (hv : w.ownsRow base' e' size' v' n' xs') (hne : e ≠ e') (hg : w.grownBy w' v'.ownBlock) : w'.ownsRow base e size v n xs := by
  refine h.kept hg ?_
  rcases h.2 with ⟨rfl, _⟩ | ⟨g, cap, cur, rfl, _, hh, _⟩
  · exact .inl rfl
  · exact .inr (fun he => owns_ne hv (g := g) hh (Ne.symm hne) he)
theorem owns_setm {w w' : World} {base m : Nat} {e : TypeId} {size : Nat} {v : Value} {n : Nat} {xs : List Value} {N : List ByteArray} (h : w.ownsRow base e size v n xs) (hS : SetAt w m N) (hB : But m w w') : w'.ownsRow base e size v n xs := by
  refine h.kept hB.grownBy ?_
  rcases h.2 with ⟨rfl, _⟩ | ⟨g, cap, cur, rfl, _, hh, _⟩
  · exact .inl rfl
  · refine .inr (fun he => ?_)
    exact hS.ne (g := g) (cs := cur) (t := e) hh (by simpa [Value.ownBlock] using he.symm)
theorem SetAt.grownRow {w w' : World} {base m : Nat} {e : TypeId} {size : Nat} {v : Value} {n : Nat} {xs : List Value} {N : List ByteArray} (hS : SetAt w m N) (h : w.ownsRow base e size v n xs) (hg : w.grownBy w' v.ownBlock) : SetAt w' m N := by
  refine hS.grown hg ?_
  rcases h.2 with ⟨rfl, _⟩ | ⟨g, cap, cur, rfl, _, hh, _⟩
  · simp [Value.ownBlock]
  · intro he
    exact hS.ne (g := g) (cs := cur) (t := e) hh (by simpa [Value.ownBlock] using he)

set_option maxHeartbeats 4000000 in
theorem smallList (v : Value) (l : List SmR) (w : World) (hr : Rd w 10 v l.length (l.flatMap sm10)) (hok : ∀ s ∈ l, s.ok) :
    Calls Tryz.prog 37 #[v] w fun e w' => ∃ (v' : Value) (rs : List RuleV), e = .returned v' ∧ rs.map (·.p) = dedupL (l.map smP) ∧ w'.ownsRow w.heap.size 63 10 v' rs.length (rs.flatMap rule10) ∧ (∀ r ∈ rs, r.good w' w.heap.size) ∧ Below w.heap.size w w' := by
  have hmm := @run_makeMap Tryz.prog
  obtain ⟨A, c, rfl, h1, h2, h3, h4⟩ := hr
  unfold maxLen at h3
  obtain ⟨i0, hi, hz0, hz1, hz2⟩ := info_parts infoRule
  go_enter Tryz.func37, Tryz.ntmps37
  go_wp2_with fail
  go_loopw [3, 11] (fun v i wr => ∃ (k : Nat) (rs : List RuleV), k ≤ l.length ∧ i = .int .i64 k ∧ rs.map (·.p) = dedupL ((l.take k).map smP) ∧ wr.ownsRow w.heap.size 63 10 v rs.length (rs.flatMap rule10) ∧ (∀ r ∈ rs, r.good wr w.heap.size) ∧
    SetAt wr w.heap.size (rs.map (·.p.name)) ∧ Below w.heap.size w wr) (fun _ i _ => l.length - (intOf i).toNat)
  case atStart => exact ⟨0, [], Nat.zero_le _, rfl, rfl, World.ownsRow_nil _ _ _ _, (fun r hr => by cases hr), SetAt.made _, (Below.refl _ _).alloc (Nat.le_refl _) _⟩
  case round =>
    obtain ⟨k, rs, hk, rfl, hrs, hv, hg, hS, hB⟩ := hrel
    obtain ⟨Av, cv, rfl⟩ := owns_slice hv
    by_cases hlt : k < l.length
    · obtain ⟨s, hs⟩ : ∃ s, l[k]? = some s := ⟨_, List.getElem?_eq_getElem hlt⟩
      obtain ⟨b, o, rfl, hat⟩ := h4 (by omega)
      obtain ⟨ok1, ok3, ok4⟩ := hok s (List.mem_of_getElem? hs)
      have e0 := fun j hj => flat_at sm10 10 (fun _ => rfl) l k s hs j hj
      have c0 := hat.nth0 hB (k * 10) _ (by have := e0 0 (by omega); simpa [sm10] using this)
      have c1 := hat.nth hB (k * 10) 1 _ (by have := e0 1 (by omega); simpa [sm10] using this)
      have c2 := hat.nth hB (k * 10) 2 _ (by have := e0 2 (by omega); simpa [sm10] using this)
      have c3 := hat.nth hB (k * 10) 3 _ (by have := e0 3 (by omega); simpa [sm10] using this)
      have c4 := hat.nth hB (k * 10) 4 _ (by have := e0 4 (by omega); simpa [sm10] using this)
      have c5 := hat.nth hB (k * 10) 5 _ (by have := e0 5 (by omega); simpa [sm10] using this)
      have c6 := hat.nth hB (k * 10) 6 _ (by have := e0 6 (by omega); simpa [sm10] using this)
      have c7 := hat.nth hB (k * 10) 7 _ (by have := e0 7 (by omega); simpa [sm10] using this)
      have c8 := hat.nth hB (k * 10) 8 _ (by have := e0 8 (by omega); simpa [sm10] using this)
      have c9 := hat.nth hB (k * 10) 9 _ (by have := e0 9 (by omega); simpa [sm10] using this)
      have hts := take_snocK hs
      have hlen5 : rs.length ≤ 5 := by have := congrArg List.length hrs; simp only [List.length_map] at this; rw [this]; exact dedup_len _
      have hR := fun W => smallRule s.nm s.me s.fi s.wi s.k s.t s.fo s.ke s.pr s.m ok1 ok3 ok4 W
      have hsz := hB.size
      have hba : Below w.heap.size w (wr.alloc (.cells #[.int .u8 s.nm, .int .u8 s.me, .int .u8 s.fi, .int .u8 s.wi, .int .u8 s.k, .int .i16 s.m, .int .u8 s.t, .int .u8 s.fo, .int .u8 s.ke, .int .u8 s.pr] 68)) := hB.alloc hsz _
      have hbr : Below wr.heap.size wr (wr.alloc (.cells #[.int .u8 s.nm, .int .u8 s.me, .int .u8 s.fi, .int .u8 s.wi, .int .u8 s.k, .int .i16 s.m, .int .u8 s.t, .int .u8 s.fo, .int .u8 s.ke, .int .u8 s.pr] 68)) := (Below.refl _ _).alloc (Nat.le_refl _) _
      have hd : dedupL ((l.take (k + 1)).map smP) = dedup (dedupL ((l.take k).map smP)) (smP s) := by rw [hts, List.map_append, List.map_singleton, dedupL_snoc]
      rw [← hrs] at hd
      obtain ⟨P, hP⟩ : ∃ P, P = smP s := ⟨_, rfl⟩
      have hR' : ∀ W, Calls Tryz.prog 25 #[.agg #[.int .u8 s.nm, .int .u8 s.me, .int .u8 s.fi, .int .u8 s.wi, .int .u8 s.k, .int .i16 s.m, .int .u8 s.t, .int .u8 s.fo, .int .u8 s.ke, .int .u8 s.pr]] W fun e w' => ∃ A1 q1 A2 q2, e = .returned (.agg #[.string P.name, .string P.metric, .slice A1 P.ifl.length q1, .int .u8 P.kind, .int .i64 P.lim, .int .u64 P.ticks, .int .u64 P.wait, .int .u64 P.keep, .int .u8 P.prio, .slice A2 P.withl.length q2]) ∧ (RuleV.mk P (.slice A1 P.ifl.length q1) (.slice A2 P.withl.length q2)).good w' W.heap.size ∧ Below W.heap.size W w' := fun W => (hR W).mono fun e w' ⟨v1, v2, he, g1, g2, hb⟩ => by
        obtain ⟨A1, q1, rfl⟩ := owns_slice g1
        obtain ⟨A2, q2, rfl⟩ := owns_slice g2
        exact ⟨A1, q1, A2, q2, by rw [he, hP]; rfl, by rw [hP]; exact ⟨g1, g2⟩, hb⟩
      rw [← hP] at hd
      clear h4 h1 hat e0 hs hts hR hP ok1 ok3 ok4
      go_wp2_with fail
      (with_reducible refine (hR' _).mono ?_)
      rintro e w1 ⟨A1, q1, A2, q2, rfl, hgr, hb1⟩
      have hbr1 := hbr.trans (hb1.mono hbr.size)
      have hB1 := hB.trans (hbr1.mono hsz)
      have hv1 := owns_below hv hbr1
      have hS1 := hS.below hbr1 hS.lt
      have hg1 : ∀ q ∈ rs, q.good w1 w.heap.size := fun q hq => ⟨owns_below (hg q hq).1 hbr1, owns_below (hg q hq).2 hbr1⟩
      have hgr1 : (RuleV.mk P (.slice A1 P.ifl.length q1) (.slice A2 P.withl.length q2)).good w1 w.heap.size := ⟨owns_mono hgr.1 hba.size, owns_mono hgr.2 hba.size⟩
      have hsz1 := hB1.size
      have hbW : Below w1.heap.size w1 (w1.alloc (.cells #[.string P.name, .string P.metric, .slice A1 P.ifl.length q1, .int .u8 P.kind, .int .i64 P.lim, .int .u64 P.ticks, .int .u64 P.wait, .int .u64 P.keep, .int .u8 P.prio, .slice A2 P.withl.length q2] 63)) := (Below.refl _ _).alloc (Nat.le_refl _) _
      have hSW := hS1.below hbW hS1.lt
      have hBR : Blk (w1.alloc (.cells #[.string P.name, .string P.metric, .slice A1 P.ifl.length q1, .int .u8 P.kind, .int .i64 P.lim, .int .u64 P.ticks, .int .u64 P.wait, .int .u64 P.keep, .int .u8 P.prio, .slice A2 P.withl.length q2] 63)) w1.heap.size #[.string P.name, .string P.metric, .slice A1 P.ifl.length q1, .int .u8 P.kind, .int .i64 P.lim, .int .u64 P.ticks, .int .u64 P.wait, .int .u64 P.keep, .int .u8 P.prio, .slice A2 P.withl.length q2] 63 := Blk.new _ _ _
      have hmap : (rs.map (·.p)).map (·.name) = rs.map (·.p.name) := by rw [List.map_map]; rfl
      clear hbr hba hb1 hv hS hg hgr hbr1 hR' c0 c1 c2 c3 c4 c5 c6 c7 c8 c9
      by_cases hin : P.name ∈ rs.map (·.p.name)
      · have hd2 : dedupL ((l.take (k + 1)).map smP) = rs.map (·.p) := by rw [hd]; unfold dedup; rw [if_pos ((dedup_any _ _).2 (by rw [hmap]; exact hin))]
        have hl := set_look hSW P.name true (by simpa using hin)
        have HD := Lib.hid hd2
        have hvW := owns_below hv1 hbW
        have hgW : ∀ q ∈ rs, q.good (w1.alloc (.cells #[.string P.name, .string P.metric, .slice A1 P.ifl.length q1, .int .u8 P.kind, .int .i64 P.lim, .int .u64 P.ticks, .int .u64 P.wait, .int .u64 P.keep, .int .u8 P.prio, .slice A2 P.withl.length q2] 63)) w.heap.size := fun q hq => ⟨owns_below (hg1 q hq).1 hbW, owns_below (hg1 q hq).2 hbW⟩
        have hBW := hB1.trans (hbW.mono hsz1)
        clear hd hd2 hmap hin
        go_wp2_with fail
        go_roundw
        case rel => exact ⟨k + 1, rs, by omega, by go_num, HD.out.symm, hvW, hgW, hSW, hBW⟩
        case measure => simp [intOf]; omega
      · have hd2 : dedupL ((l.take (k + 1)).map smP) = (rs ++ [RuleV.mk P (.slice A1 P.ifl.length q1) (.slice A2 P.withl.length q2)]).map (·.p) := by rw [hd]; unfold dedup; rw [if_neg (fun h => hin (by rw [← hmap]; exact (dedup_any _ _).1 h)), List.map_append, List.map_singleton]
        have hl := set_look hSW P.name false (by simpa using hin)
        obtain ⟨W2, hup, hS2, hbut⟩ := set_put hSW P.name hin
        have HD := Lib.hid hd2
        have hne : w1.heap.size ≠ w.heap.size := by have := hS1.lt; omega
        have hBR2 := hBR.but hbut hne
        have hv2 := owns_setm (owns_below hv1 hbW) hSW hbut
        have hg2 : ∀ q ∈ rs ++ [RuleV.mk P (.slice A1 P.ifl.length q1) (.slice A2 P.withl.length q2)], q.good W2 w.heap.size := fun q hq => by
          have hq1 : q.good w1 w.heap.size := by
            rcases List.mem_append.1 hq with h | h
            · exact hg1 q h
            · rw [List.mem_singleton.1 h]; exact hgr1
          exact ⟨owns_setm (owns_below hq1.1 hbW) hSW hbut, owns_setm (owns_below hq1.2 hbW) hSW hbut⟩
        have hB2 := hbut.below (hB1.trans (hbW.mono hsz1)) (Nat.le_refl _) (Nat.le_refl _)
        clear hd hd2 hmap hin hbW hgr1 hg1 hv1 hBR hSW hbut hS1 hB1
        have r0 := hBR2.cell (j := 0) rfl
        have r1 := hBR2.cell (j := 1) rfl
        have r2 := hBR2.cell (j := 2) rfl
        have r3 := hBR2.cell (j := 3) rfl
        have r4 := hBR2.cell (j := 4) rfl
        have r5 := hBR2.cell (j := 5) rfl
        have r6 := hBR2.cell (j := 6) rfl
        have r7 := hBR2.cell (j := 7) rfl
        have r8 := hBR2.cell (j := 8) rfl
        have r9 := hBR2.cell (j := 9) rfl
        go_wp2_with (at_builtin; refine wpl_stop fun W hW => ?_)
        refine Stopped.mk ?_
        (try rw [← hW])
        have hbW : Below W2.heap.size W2 W := by rw [hW]; exact (Below.refl _ _).alloc (Nat.le_refl _) _
        have hBW : Blk W W2.heap.size #[.string P.name, .string P.metric, .slice A1 P.ifl.length q1, .int .u8 P.kind, .int .i64 P.lim, .int .u64 P.ticks, .int .u64 P.wait, .int .u64 P.keep, .int .u8 P.prio, .slice A2 P.withl.length q2] 63 := by rw [hW]; exact Blk.new _ _ _
        clear hW r0 r1 r2 r3 r4 r5 r6 r7 r8 r9
        have hnx := rd_one hBW (n := 10) rfl
        have hvW := owns_below hv2 hbW
        have hgW : ∀ q ∈ rs ++ [RuleV.mk P (.slice A1 P.ifl.length q1) (.slice A2 P.withl.length q2)], q.good W w.heap.size := fun q hq => ⟨owns_below (hg2 q hq).1 hbW, owns_below (hg2 q hq).2 hbW⟩
        have hSW := hS2.below hbW hS2.lt
        refine wpl_append_rd rfl (.tmp 25) (.tmp 27) 90 rfl w.heap.size 63 i0 _ 10 128 Tryz.underlying90 hi hz0 hz1 hz2 rfl (by decide) _ rs.length _ rfl hvW _ 1 _ rfl hnx (by intro u hu; simp at hu; rcases hu with rfl | rfl | rfl | rfl | rfl | rfl | rfl | rfl | rfl | rfl <;> rfl) (by unfold maxLen; omega) (by omega) (Nat.le_trans hB2.size hbW.size) fun v4 w4 hown4 hgr4 _ => ?_
        have hB4 := (hB2.trans (hbW.mono hB2.size)).grown hgr4 (Nat.le_trans hB2.size hbW.size) (fun gg hg => (hvW.lt gg hg).1)
        have hg4 : ∀ q ∈ rs ++ [RuleV.mk P (.slice A1 P.ifl.length q1) (.slice A2 P.withl.length q2)], q.good w4 w.heap.size := fun q hq => ⟨owns_grown (hgW q hq).1 hvW (by decide) hgr4, owns_grown (hgW q hq).2 hvW (by decide) hgr4⟩
        have hS4 := SetAt.grownRow hSW hvW hgr4
        obtain ⟨A4, c4, rfl⟩ := owns_slice hown4
        clear hv2 hvW hnx hBW hbW hgr4 hB2 hg2 hgW hS2 hSW
        go_wp2_with fail
        go_roundw
        case rel => exact ⟨k + 1, rs ++ [RuleV.mk P (.slice A1 P.ifl.length q1) (.slice A2 P.withl.length q2)], by omega, by go_num, HD.out.symm, by rw [List.length_append, List.flatMap_append]; exact hown4, hg4, by rw [List.map_append]; exact hS4, hB4⟩
        case measure => simp [intOf]; omega
    · obtain rfl : k = l.length := by omega
      rw [List.take_length] at hrs
      go_wp2_with fail
      go_ret
      exact ⟨_, rs, rfl, hrs, hv, hg, hB⟩
end Go.Proofs.YtebnbbbiobaneaaGreatDoor
