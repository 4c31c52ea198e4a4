/-
  The reference's Sorted and Make.
-/
import Derived.Test.YtebnbbbiobaneaaGreatDoorLRefC
import Derived.Test.YtebnbbbiobaneaaGreatDoorLParse
import Derived.Deep.AppendSrc
import Derived.Test.YtebnbbbiobaneaaGreatDoorFreeS
namespace Go.Proofs.YtebnbbbiobaneaaGreatDoor
open Go.RowKit FreeSl
set_option maxRecDepth 100000
attribute [local go_sem] out

/-- append onto an empty slice without room: new memory, nothing else. -/
theorem run_append_empty {P : Program} {w : World} (base : Nat) (t ty e : TypeId) (i : TypeInfo) (z : Value) (size bytes : Nat) (ht : P.underlying t = some (.slice e)) (hi : P.info? e = some i) (hz : i.zero = some z)
    (hsize : i.size = size) (hby : i.bytes = bytes) (hzs : z.cells.size = size) (hsz : 0 < size) (g : Nat) (hg : base ≤ g) (hB : Blk w g #[] e) (x : Value) (m : Nat) (news : List Value) (hr : Rd w size x m news)
    (h63 : m ≤ maxLen) (hbytes : m * bytes ≤ 140737488355328) (hbase : base ≤ w.heap.size) :
    ∃ v' w', (Builtin.append_ #[t, t] ty #[.slice (some ⟨g, 0, none⟩) 0 0, x]).run P w = .ok v' w' ∧ w'.ownsRow base e size v' m news ∧ Below w.heap.size w w' := by
  obtain ⟨A, c, rfl, hl, h2, h3, h4⟩ := hr
  have hown0 : w.ownsRow base e size (.slice (some ⟨g, 0, none⟩) 0 0) 0 [] := ⟨by simp, .inr ⟨g, 0, #[], rfl, hg, hB, Nat.le_refl _, Nat.zero_le _, by simp, by simp⟩⟩
  rcases Nat.eq_zero_or_pos m with h0 | h0
  · subst h0
    have hn : news = [] := List.eq_nil_of_length_eq_zero (by simpa using hl)
    subst hn
    have hs : Src P i.size t (.slice A 0 c) 0 [] w := by
      cases A with
      | none => exact Src.ofNil w ht c
      | some a => exact Src.ofSlice w ht a 0 c [] (by simp) (fun j u hj => by simp at hj) (fun u hu => by simp at hu)
    exact ⟨_, w, run_append_nothing w t t ty e i ht hi _ 0 0 (Nat.le_refl _) _ hs, hown0, Below.refl _ _⟩
  · obtain ⟨b, o, rfl, hat⟩ := h4 h0
    obtain ⟨v', w', hrun, h5, h6⟩ := run_append_arg_grows (P := P) w t ty e i z size bytes ht hi hz hsize hby hzs hsz ⟨g, 0, none⟩ 0 0 [] (by simp) (fun j u hu => by simp at hu) ⟨b, o, none⟩ m c news hl (fun j u hu => by
      have : (⟨b, o, none⟩ : Addr).add j = ⟨b, o + j, none⟩ := by unfold Addr.add; split <;> simp_all
      rw [this]; exact hat j u hu) (by omega) (by omega) (by simpa using hbytes)
    rw [Nat.zero_add, List.nil_append] at h5
    exact ⟨v', w', hrun, ⟨h5.1, h5.2.imp id fun ⟨g', cap, cur, q1, q2, q3⟩ => ⟨g', cap, cur, q1, Nat.le_trans hbase q2, q3⟩⟩, ⟨h6.os, h6.tape, h6.output, h6.size, fun k hk => h6.block k hk (by simp)⟩⟩
theorem wp_append_empty {P : Program} {o : Oper} {a : Act} {w : World} {K : Act → World → Prop} {Q : Exit → Act → World → Prop} (s x : Operand) (t : TypeId)
    (ho : o.op = .call { callee := .builtin .append, args := #[s, x], argTypes := #[t, t] })
    (base : Nat) (e : TypeId) (i : TypeInfo) (z : Value) (size bytes : Nat) (ht : P.underlying t = some (.slice e)) (hi : P.info? e = some i) (hz : i.zero = some z)
    (hsize : i.size = size) (hby : i.bytes = bytes) (hzs : z.cells.size = size) (hsz : 0 < size) (g : Nat) (hs : a.eval s = .slice (some ⟨g, 0, none⟩) 0 0) (hg : base ≤ g) (hB : Blk w g #[] e)
    (xv : Value) (m : Nat) (news : List Value) (hx : a.eval x = xv) (hr : Rd w size xv m news) (h63 : m ≤ maxLen) (hbytes : m * bytes ≤ 140737488355328) (hbase : base ≤ w.heap.size)
    (h : ∀ v' w', w'.ownsRow base e size v' m news → Below w.heap.size w w' → K (a.put o.dst v') w') : o.wp P a w K Q := by
  obtain ⟨v', w', hrun, h2, h3⟩ := run_append_empty (P := P) base t o.type e i z size bytes ht hi hz hsize hby hzs hsz g hg hB xv m news hr h63 hbytes hbase
  unfold Oper.wp execOp
  simp only [ho, resolve, invoke, builtin, Sem.run_bind, Sem.run_pure, Result.andThen_ok, List.map_toArray, List.map_cons, List.map_nil, hs, hx, hrun]
  exact h v' w' h2 h3

theorem Rd.pre2 {w : World} {A : Option Addr} {n c m : Nat} {xs : List Value} (h : Rd w 2 (.slice A n c) n xs) (hm : m ≤ n) : Rd w 2 (.slice A m c) m (xs.take (m * 2)) := by
  obtain ⟨A', c', he, h1, h2, h3, h4⟩ := h
  cases he
  refine ⟨_, _, rfl, by rw [List.length_take]; omega, by omega, h3, fun h0 => ?_⟩
  obtain ⟨q, o, rfl, hr⟩ := h4 (by omega)
  refine ⟨q, o, rfl, fun j u hj => hr j u ?_⟩
  rw [List.getElem?_take] at hj
  split at hj
  · exact hj
  · cases hj
theorem Rd.cut2 {w : World} {A : Option Addr} {n c k : Nat} {xs : List Value} (h : Rd w 2 (.slice A n c) n xs) (hk : k ≤ n) (A1 : Option Addr) (hA : A1 = if c = k then A else A.map (·.add (k * 2))) : Rd w 2 (.slice A1 (n - k) (c - k)) (n - k) (xs.drop (k * 2)) := by
  obtain ⟨A', c', he, h1, h2, h3, h4⟩ := h
  cases he
  refine ⟨_, _, rfl, by rw [List.length_drop]; omega, by omega, by omega, fun h0 => ?_⟩
  obtain ⟨q, o, rfl, hr⟩ := h4 (by omega)
  rw [if_neg (by omega)] at hA
  refine ⟨q, o + k * 2, by rw [hA]; simp [Addr.add], fun j u hj => ?_⟩
  rw [List.getElem?_drop] at hj
  rw [Nat.add_assoc]
  exact hr _ u hj

/-- Insertion ahead of all that come behind it. -/
theorem sortL_insert (ps : List Pr) (x : Pr) (k : Nat) (hk : k ≤ (sortL ps).length) (h1 : ∀ j q, k ≤ j → (sortL ps)[j]? = some q → ltP x q = true) (h2 : ∀ m q, k = m + 1 → (sortL ps)[m]? = some q → ltP x q = false) :
    (sortL ps).take k ++ x :: (sortL ps).drop k = sortL (ps ++ [x]) := by
  have hs := sortL_sorted ps
  have hp := sortL_perm ps
  generalize sortL ps = l at hk h1 h2 hs hp
  refine sortL_unique ?_ ?_
  · refine List.perm_middle.trans ?_
    rw [List.take_append_drop]
    exact (List.Perm.cons x hp).trans (List.perm_append_singleton x ps).symm
  · have hs2 := hs
    rw [← List.take_append_drop k l] at hs2
    obtain ⟨s1, s2, s3⟩ := List.pairwise_append.1 hs2
    refine List.pairwise_append.2 ⟨s1, List.pairwise_cons.2 ⟨fun b hb => ?_, s2⟩, fun a ha b hb => ?_⟩
    · obtain ⟨j, hj⟩ := List.mem_iff_getElem?.1 hb
      rw [List.getElem?_drop] at hj
      have := h1 (k + j) b (by omega) hj
      simp only [leP, Bool.not_eq_true']
      exact ltP_asymm this
    · have hax : leP a x = true := by
        cases k with
        | zero => simp at ha
        | succ m =>
          obtain ⟨q, hq⟩ : ∃ q, l[m]? = some q := ⟨_, List.getElem?_eq_getElem (by omega)⟩
          have hxq := h2 m q rfl hq
          have haq : leP a q = true := by
            obtain ⟨j, hj⟩ := List.mem_iff_getElem?.1 ha
            rw [List.getElem?_take] at hj
            split at hj
            · rename_i hjm
              rcases Nat.lt_or_ge j m with h | h
              · have hjl : j < l.length := by omega
                have hml : m < l.length := by omega
                have := List.pairwise_iff_getElem.1 hs j m hjl hml h
                rw [(List.getElem?_eq_some_iff.1 hj).2, (List.getElem?_eq_some_iff.1 hq).2] at this
                exact this
              · obtain rfl : j = m := by omega
                rw [hj] at hq
                injection hq with hq
                subst hq
                simp [leP, ltP_irrefl]
            · cases hj
          exact leP_trans a q x haq (by simp [leP, hxq])
      rcases List.mem_cons.1 hb with rfl | hb
      · exact hax
      · exact s3 a ha b hb

set_option maxHeartbeats 4000000 in
theorem refSorted (v : Value) (ps : List Pr) (w : World) (hr : Rd w 2 v ps.length (pairCells ps)) (hlen : ps.length ≤ 1048576) :
    Calls Tryz.prog 130 #[v] w fun e w' => ∃ v', e = .returned v' ∧ w'.ownsRow w.heap.size 138 2 v' ps.length (pairCells (sortL ps)) ∧ Below w.heap.size w w' := by
  obtain ⟨A, c, rfl, h1, h2, h3, h4⟩ := hr
  unfold maxLen at h3
  obtain ⟨i0, hi, hz0, hz1, hz2⟩ := info_parts infoPair
  go_enter Tryz.func130, Tryz.ntmps130
  go_wp2_with fail
  go_loopw [3, 4] (fun v i wr => ∃ k : Nat, k ≤ ps.length ∧ i = .int .i64 k ∧ wr.ownsRow w.heap.size 138 2 v k (pairCells (sortL (ps.take k))) ∧ Below w.heap.size w wr) (fun _ i _ => ps.length - (intOf i).toNat)
  case atStart => exact ⟨0, Nat.zero_le _, rfl, by simpa [sortL, pairCells] using World.ownsRow_nil _ _ _ _, Below.refl _ _⟩
  case round =>
    obtain ⟨k, hk, rfl, hv, hB⟩ := hrel
    obtain ⟨Av, cv, rfl⟩ := owns_slice hv
    by_cases hlt : k < ps.length
    · obtain ⟨b, o, rfl, hat⟩ := h4 (by omega)
      obtain ⟨p, hp⟩ : ∃ p, ps[k]? = some p := ⟨_, List.getElem?_eq_getElem hlt⟩
      obtain ⟨hp1, hp2⟩ := (pairCells_at ps k p hp)
      have htk : ps.take (k + 1) = ps.take k ++ [p] := by rw [List.take_add_one, hp]; rfl
      have hlk : (sortL (ps.take k)).length = k := by rw [sortL_length, List.length_take]; omega
      have HTK := Lib.hid htk
      have HLK := Lib.hid hlk
      obtain ⟨O, hO⟩ : ∃ O, O = sortL (ps.take k) := ⟨_, rfl⟩
      rw [← hO] at hv hlk
      have HO := Lib.hid hO
      have HLO := Lib.hid hlk
      clear htk hO hlk
      go_wp2_with fail
      go_loopw [5] (fun i wr => ∃ at_ : Nat, at_ ≤ k ∧ i = .int .i64 at_ ∧ (∀ j q, at_ ≤ j → O[j]? = some q → ltP p q = true) ∧ wr.ownsRow w.heap.size 138 2 (.slice Av k cv) k (pairCells O) ∧ Below w.heap.size w wr) (fun i _ => (intOf i).toNat)
      case atStart => exact ⟨k, Nat.le_refl _, rfl, (fun j q hj hq => by rw [List.getElem?_eq_none (by rw [HLO.out]; omega)] at hq; cases hq), hv, hB⟩
      case round =>
        clear hv hB
        obtain ⟨at_, hat_, rfl, hgt, hv, hB⟩ := hrel
        cases at_ with
        | zero =>
          have hle : ∀ m q, 0 = m + 1 → O[m]? = some q → ltP p q = false := fun m q h => by omega
          have HGT := Lib.hid (And.intro hgt hle)
          clear hgt hle
          go_wp2_with fail
          refine region_free (fun w' => Below wr.heap.size wr w') [] [] (List.range 14) (by kernel_rfl) (by kernel_rfl) (by kernel_rfl) (Below.refl _ _).drew ?_
          simp only [List.range, List.range.loop]
          repeat (first
            | (refine RelSeq.pure_ (c := ?_) rfl rfl ?_ ?_; rotate_left; (focus (intro x w'; dsimp only; go_simp; (repeat' apply And.intro) <;> first | with_reducible rfl | assumption)); simp only [Act.put, List.setIfInBounds_toArray, List.set_cons_zero, List.set_cons_succ])
            | (refine RelSeq.skip_ rfl (fun _ => rfl) ?_; simp only [Act.put, List.setIfInBounds_toArray, List.set_cons_zero, List.set_cons_succ])
            | (refine RelSeq.pureG_ (c := ?_) rfl (fun _ => rfl) rfl ?_ ?_; rotate_left; (focus (intro x w'; dsimp only; go_simp; (repeat' apply And.intro) <;> first | with_reducible rfl | assumption)); simp only [Act.put, List.setIfInBounds_toArray, List.set_cons_zero, List.set_cons_succ]))
          refine RelSeq.nil_ fun x w5 hw5 _ _ => ?_
          refine TailSeq.nil_ ?_
          have hv5 := owns_below hv hw5
          have hB5 := hB.trans (hw5.mono hB.size)
          clear hv hB
          go_wp2_with fail
          have hAT : 0 ≤ k := by omega
          obtain ⟨_, _, hE9, _, hAc, hAm, _⟩ := rd_of_owns hv5
          cases hE9
          unfold maxLen at hAm
          have G : ∀ w', Below w5.heap.size w5 w' → w'.cell? ⟨b, o + k * 2, none⟩ = some (.string p.1) ∧ w'.cell? ⟨b, o + k * 2 + 1, none⟩ = some (.string p.2) := fun w' h => ⟨hat.nth0 (hB5.trans (h.mono hB5.size)) (k * 2) _ hp1, hat.nth (hB5.trans (h.mono hB5.size)) (k * 2) 1 _ hp2⟩
          have hrow : ∀ w', Below w5.heap.size w5 w' → Rd w' 2 (.slice Av 0 cv) 0 (pairCells (O.take 0)) := fun w' h => by rw [← pairCells_take]; exact (rd_of_owns (owns_below hv5 h)).pre2 hAT
          have hcut : ∀ w' A1, A1 = (if cv = 0 then Av else (Av : Option Addr).map (·.add (0 * 2))) → Below w5.heap.size w5 w' → Rd w' 2 (.slice A1 (k - 0) (cv - 0)) (k - 0) (pairCells (O.drop 0)) := fun w' A1 hA h => by rw [← pairCells_drop]; exact (rd_of_owns (owns_below hv5 h)).cut2 hAT A1 hA
          have hfin : pairCells (O.take 0) ++ pairCells [p] ++ pairCells (O.drop 0) = pairCells (sortL (ps.take (k + 1))) := by
            rw [← pairCells_append, ← pairCells_append, HTK.out, List.append_assoc, List.singleton_append, HO.out, sortL_insert (ps.take k) p (0) (by rw [HLK.out]; omega) (by rw [← HO.out]; exact HGT.out.1) (by rw [← HO.out]; exact HGT.out.2)]
          have HF := Lib.hid hfin
          have hsz5 := hB5.size
          clear hfin
        
          refine region_free (fun w' => Below w5.heap.size w5 w') [0, 4, 9] [10, 14, 15] [0, 1, 2, 3, 4, 5, 6, 7, 8, 9, 11, 12, 13] (by kernel_rfl) (by kernel_rfl) (by kernel_rfl) (Below.refl _ _).drew ?_
          refine RelSeq.rel_ (fun v u => ∃ g : Nat, v = .slice (some ⟨g, 0, none⟩) 0 0 ∧ w5.heap.size ≤ g ∧ Blk u g #[] 138) rfl rfl (fun v u u' h hb => let ⟨g, h1, h2, h3⟩ := h; ⟨g, h1, h2, h3.below hb h3.lt⟩) ?_ ?_
          focus
            intro x w' hw _; dsimp only
            have hba : Below w'.heap.size w' (w'.alloc (.cells #[] 138)) := (Below.refl _ _).alloc (Nat.le_refl _) _
            have hI := hw.trans (hba.mono hw.size)
            have hsz := hw.size
            go_simp
            (repeat' apply And.intro) <;> first | assumption | exact ⟨_, rfl, hsz, Blk.new _ _ _⟩ | exact Blk.new _ _ _ | (with_unfolding_all rfl)
          simp only [Act.put, List.setIfInBounds_toArray, List.set_cons_zero, List.set_cons_succ, List.nil_append]
          repeat (first
            | (refine RelSeq.pure_ (c := ?_) rfl rfl ?_ ?_; rotate_left; (focus (intro x w'; dsimp only; go_simp; (repeat' apply And.intro) <;> first | with_reducible rfl | assumption)); simp only [Act.put, List.setIfInBounds_toArray, List.set_cons_zero, List.set_cons_succ])
            | (refine RelSeq.grow_ (c := ?_) rfl rfl ?_ ?_; rotate_left; (focus (intro x w' hw _; dsimp only; have hbr := Below.refl w'.heap.size w'; go_simp; (repeat' apply And.intro) <;> first | with_reducible rfl | assumption)); simp only [Act.put, List.setIfInBounds_toArray, List.set_cons_zero, List.set_cons_succ]))
          refine RelSeq.rel_ (fun v u => u.ownsRow w5.heap.size 138 2 v 0 (pairCells (O.take 0))) rfl rfl (fun v u u' h hb => owns_below h hb) ?_ ?_
          focus
            intro x w' hw hf; dsimp only
            obtain ⟨g, e0, hg, hBg⟩ := hf _ (.head _) (by kernel_rfl)
            refine wp_append_empty (.tmp 30) (.tmp 33) 33 rfl w5.heap.size 138 i0 _ 2 32 Tryz.underlying33 hi hz0 hz1 hz2 rfl (by decide) g e0 hg hBg _ 0 (pairCells (O.take 0)) rfl (hrow w' hw) (by unfold maxLen; omega) (by omega) hw.size fun v6 w6 hown6 hb6 => ?_
            exact ⟨rfl, ⟨hown6, fun h => absurd h (by decide)⟩, hw.trans (hb6.mono hw.size), hb6⟩
          simp only [Act.put, List.setIfInBounds_toArray, List.set_cons_zero, List.set_cons_succ, List.nil_append, List.cons_append]
          repeat (first
            | (refine RelSeq.pure_ (c := ?_) rfl rfl ?_ ?_; rotate_left; (focus (intro x w'; dsimp only; go_simp; (repeat' apply And.intro) <;> first | with_reducible rfl | assumption)); simp only [Act.put, List.setIfInBounds_toArray, List.set_cons_zero, List.set_cons_succ])
            | (refine RelSeq.grow_ (c := ?_) rfl rfl ?_ ?_; rotate_left; (focus (intro x w' hw _; dsimp only; obtain ⟨d0, d1⟩ := G w' hw; have hbr := Below.refl w'.heap.size w'; go_simp; (repeat' apply And.intro) <;> first | with_reducible rfl | assumption)); simp only [Act.put, List.setIfInBounds_toArray, List.set_cons_zero, List.set_cons_succ]))
          refine RelSeq.rel_ (fun v u => Rd u 2 v 1 (pairCells [p])) rfl rfl (fun v u u' h hb => h.below hb) ?_ ?_
          focus
            intro x w' hw _; dsimp only
            have hba : Below w'.heap.size w' (w'.alloc (.cells #[.string p.1, .string p.2] 138)) := (Below.refl _ _).alloc (Nat.le_refl _) _
            have hI := hw.trans (hba.mono hw.size)
            have hBn : Blk (w'.alloc (.cells #[.string p.1, .string p.2] 138)) w'.heap.size #[.string p.1, .string p.2] 138 := Blk.new _ _ _
            have hnx : Rd (w'.alloc (.cells #[.string p.1, .string p.2] 138)) 2 (.slice (some ⟨w'.heap.size, 0, none⟩) 1 1) 1 (pairCells [p]) := ⟨_, _, rfl, rfl, Nat.le_refl _, by unfold maxLen; omega, fun _ => ⟨_, _, rfl, fun j u hj => by
              match j, hj with
              | 0, hj => simp [pairCells] at hj; subst hj; exact hBn.cell rfl
              | 1, hj => simp [pairCells] at hj; subst hj; exact hBn.cell rfl
              | j + 2, hj => simp [pairCells] at hj⟩⟩
            go_simp
            (repeat' apply And.intro) <;> first | assumption | exact hnx | (with_unfolding_all rfl)
          simp only [Act.put, List.setIfInBounds_toArray, List.set_cons_zero, List.set_cons_succ, List.nil_append, List.cons_append]
          repeat (first
            | (refine RelSeq.pure_ (c := ?_) rfl rfl ?_ ?_; rotate_left; (focus (intro x w'; dsimp only; go_simp; (repeat' apply And.intro) <;> first | with_reducible rfl | assumption)); simp only [Act.put, List.setIfInBounds_toArray, List.set_cons_zero, List.set_cons_succ]))
          refine RelSeq.nil_ fun x w6 hw6 hf _ => ?_
          have hown4 : w6.ownsRow w5.heap.size 138 2 (x 4) 0 (pairCells (O.take 0)) := hf _ (.tail _ (.head _))
          have hrd9 : Rd w6 2 (x 9) 1 (pairCells [p]) := hf _ (.tail _ (.tail _ (.head _)))
          clear hf
          refine TailSeq.cons_ rfl ?_
          refine wp_append_rd (.tmp 34) (.tmp 39) 33 rfl w5.heap.size 138 i0 _ 2 32 Tryz.underlying33 hi hz0 hz1 hz2 rfl (by decide) (x 4) (0) _ rfl hown4 (x 9) 1 _ rfl hrd9 (pairCells_one _) (by unfold maxLen; omega) (by omega) hw6.size fun v7 w7 hown7 hgr7 _ => ?_
          have hb7 : Below w5.heap.size w5 w7 := hw6.grown hgr7 hw6.size (fun gg hg => (hown4.lt gg hg).1)
          refine ⟨rfl, ?_⟩
          refine TailSeq.cons_ rfl ?_
          refine wp_append_rd (.tmp 40) (.tmp 43) 33 rfl w5.heap.size 138 i0 _ 2 32 Tryz.underlying33 hi hz0 hz1 hz2 rfl (by decide) v7 (0 + 1) _ rfl hown7 _ (k - (0)) _ rfl (hcut w7 _ (by first | rfl | simp [Addr.add]) hb7) (pairCells_one _) (by unfold maxLen; omega) (by omega) hb7.size fun v8 w8 hown8 hgr8 _ => ?_
          have hb8 : Below w5.heap.size w5 w8 := hb7.grown hgr8 hb7.size (fun gg hg => (hown7.lt gg hg).1)
          rw [HF.out, show 0 + 1 + (k - (0)) = k + 1 by omega] at hown8
          have hown9 := owns_mono hown8 hsz5
          have hB8 := hB5.trans (hb8.mono hsz5)
          obtain ⟨A8, c8, rfl⟩ := owns_slice hown9
          clear hown4 hrd9 hown7 hgr7 hgr8 hown8 hb7 hb8 hv5 hrow hcut G hw6
          refine ⟨rfl, ?_⟩
          refine TailSeq.cons_ rfl ?_
          go_simp
          refine TailSeq.nil_ ?_
          go_wp2_with fail
          go_roundw
          case rel => exact ⟨k + 1, by omega, by go_num, hown9, hB8⟩
          case measure => simp [intOf]; omega
        | succ m =>
          obtain ⟨q, hq⟩ : ∃ q, O[m]? = some q := ⟨_, List.getElem?_eq_getElem (by rw [HLO.out]; omega)⟩
          obtain ⟨hq1, hq2⟩ := pairCells_at O m q hq
          obtain ⟨_, _, he, _, _, _, hv4⟩ := rd_of_owns hv
          cases he
          obtain ⟨bv, ov, rfl, hvat⟩ := hv4 (by omega)
          have F : ∀ w', Below wr.heap.size wr w' → w'.cell? ⟨b, o + k * 2, none⟩ = some (.string p.1) ∧ w'.cell? ⟨b, o + k * 2 + 1, none⟩ = some (.string p.2) ∧ w'.cell? ⟨bv, ov + m * 2, none⟩ = some (.string q.1) ∧ w'.cell? ⟨bv, ov + m * 2 + 1, none⟩ = some (.string q.2) := fun w' h =>
            ⟨hat.nth0 (hB.trans (h.mono hB.size)) (k * 2) _ hp1, hat.nth (hB.trans (h.mono hB.size)) (k * 2) 1 _ hp2, hvat.nth0 h (m * 2) _ hq1, hvat.nth h (m * 2) 1 _ hq2⟩
          have hwj : IntKind.i64.wrap (m : Int) = (m : Int) := by simp only [IntKind.wrap, IntKind.bits, IntKind.signed]; simp; omega
          have hml : m < k := by omega
          have hL := fun w' => refLess p q w'
          clear hv4 hvat
          cases hlt2 : ltP p q with
          | true =>
            rw [hlt2] at hL
            have hgt2 : ∀ j r, m ≤ j → O[j]? = some r → ltP p r = true := fun j r hj hr => by
              rcases Nat.lt_or_ge m j with h | h
              · exact hgt j r (by omega) hr
              · obtain rfl : j = m := by omega
                rw [hq] at hr
                injection hr with hr
                rw [← hr]; exact hlt2
            have HG := Lib.hid hgt2
            clear hgt hgt2 hlt2 hq hq1 hq2
            go_wp2_with fail
            refine region_free (fun w' => Below wr.heap.size wr w') [] [] (List.range 14) (by kernel_rfl) (by kernel_rfl) (by kernel_rfl) (Below.refl _ _).drew ?_
            simp only [List.range, List.range.loop]
            repeat (first
              | (refine RelSeq.pure_ (c := ?_) rfl rfl ?_ ?_; rotate_left; (focus (intro x w'; dsimp only; go_simp; (repeat' apply And.intro) <;> first | with_reducible rfl | assumption)); simp only [Act.put, List.setIfInBounds_toArray, List.set_cons_zero, List.set_cons_succ])
              | (refine RelSeq.skip_ rfl (fun _ => rfl) ?_; simp only [Act.put, List.setIfInBounds_toArray, List.set_cons_zero, List.set_cons_succ])
              | (refine RelSeq.pureG_ (c := ?_) rfl (fun _ => rfl) rfl ?_ ?_; rotate_left; (focus (intro x w'; dsimp only; go_simp; (repeat' apply And.intro) <;> first | with_reducible rfl | assumption)); simp only [Act.put, List.setIfInBounds_toArray, List.set_cons_zero, List.set_cons_succ])
              | (refine RelSeq.grow_ (c := ?_) rfl rfl ?_ ?_; rotate_left; (focus (intro x w' hw _; dsimp only; obtain ⟨d0, d1, d2, d3⟩ := F w' hw; have hbr := Below.refl w'.heap.size w'; go_simp; (repeat' apply And.intro) <;> first | with_reducible rfl | assumption)); simp only [Act.put, List.setIfInBounds_toArray, List.set_cons_zero, List.set_cons_succ])
              | (refine RelSeq.growG_ (c := ?_) rfl (fun _ => rfl) rfl ?_ ?_; rotate_left; (focus (intro x w' hw _; dsimp only; obtain ⟨d0, d1, d2, d3⟩ := F w' hw; have hbr := Below.refl w'.heap.size w'; go_simp; (repeat' apply And.intro) <;> first | with_reducible rfl | assumption)); simp only [Act.put, List.setIfInBounds_toArray, List.set_cons_zero, List.set_cons_succ])
              | (refine RelSeq.growG_ (c := .bool true) rfl (fun _ => rfl) rfl ?_ ?_; (focus (intro x w' hw _; dsimp only; go_simp; (with_reducible refine (hL w').mono ?_); rintro e w2 ⟨rfl, hb2⟩; exact ⟨rfl, hw.trans (hb2.mono hw.size), hb2⟩)); simp only [Act.put, List.setIfInBounds_toArray, List.set_cons_zero, List.set_cons_succ]))
            refine RelSeq.nil_ fun x w5 hw5 _ _ => ?_
            refine TailSeq.nil_ ?_
            have hv5 := owns_below hv hw5
            have hB5 := hB.trans (hw5.mono hB.size)
            clear hv hB F hL
            go_wp2_with fail
            go_roundw
            case rel => exact ⟨m, by omega, by go_num, HG.out, hv5, hB5⟩
            case measure => simp [intOf]
          | false =>
            rw [hlt2] at hL
            have hle : ∀ m' q', m + 1 = m' + 1 → O[m']? = some q' → ltP p q' = false := fun m' q' h hr => by
              obtain rfl : m' = m := by omega
              rw [hq] at hr
              injection hr with hr
              rw [← hr]; exact hlt2
            have HGT := Lib.hid (And.intro hgt hle)
            clear hgt hle hlt2 hq hq1 hq2
            go_wp2_with fail
            refine region_free (fun w' => Below wr.heap.size wr w') [] [] (List.range 14) (by kernel_rfl) (by kernel_rfl) (by kernel_rfl) (Below.refl _ _).drew ?_
            simp only [List.range, List.range.loop]
            repeat (first
              | (refine RelSeq.pure_ (c := ?_) rfl rfl ?_ ?_; rotate_left; (focus (intro x w'; dsimp only; go_simp; (repeat' apply And.intro) <;> first | with_reducible rfl | assumption)); simp only [Act.put, List.setIfInBounds_toArray, List.set_cons_zero, List.set_cons_succ])
              | (refine RelSeq.skip_ rfl (fun _ => rfl) ?_; simp only [Act.put, List.setIfInBounds_toArray, List.set_cons_zero, List.set_cons_succ])
              | (refine RelSeq.pureG_ (c := ?_) rfl (fun _ => rfl) rfl ?_ ?_; rotate_left; (focus (intro x w'; dsimp only; go_simp; (repeat' apply And.intro) <;> first | with_reducible rfl | assumption)); simp only [Act.put, List.setIfInBounds_toArray, List.set_cons_zero, List.set_cons_succ])
              | (refine RelSeq.grow_ (c := ?_) rfl rfl ?_ ?_; rotate_left; (focus (intro x w' hw _; dsimp only; obtain ⟨d0, d1, d2, d3⟩ := F w' hw; have hbr := Below.refl w'.heap.size w'; go_simp; (repeat' apply And.intro) <;> first | with_reducible rfl | assumption)); simp only [Act.put, List.setIfInBounds_toArray, List.set_cons_zero, List.set_cons_succ])
              | (refine RelSeq.growG_ (c := ?_) rfl (fun _ => rfl) rfl ?_ ?_; rotate_left; (focus (intro x w' hw _; dsimp only; obtain ⟨d0, d1, d2, d3⟩ := F w' hw; have hbr := Below.refl w'.heap.size w'; go_simp; (repeat' apply And.intro) <;> first | with_reducible rfl | assumption)); simp only [Act.put, List.setIfInBounds_toArray, List.set_cons_zero, List.set_cons_succ])
              | (refine RelSeq.growG_ (c := .bool false) rfl (fun _ => rfl) rfl ?_ ?_; (focus (intro x w' hw _; dsimp only; go_simp; (with_reducible refine (hL w').mono ?_); rintro e w2 ⟨rfl, hb2⟩; exact ⟨rfl, hw.trans (hb2.mono hw.size), hb2⟩)); simp only [Act.put, List.setIfInBounds_toArray, List.set_cons_zero, List.set_cons_succ]))
            refine RelSeq.nil_ fun x w5 hw5 _ _ => ?_
            refine TailSeq.nil_ ?_
            have hv5 := owns_below hv hw5
            have hB5 := hB.trans (hw5.mono hB.size)
            clear hv hB F hL
            go_wp2_with fail
            have hAT : (m + 1) ≤ k := by omega
            obtain ⟨_, _, hE9, _, hAc, hAm, _⟩ := rd_of_owns hv5
            cases hE9
            unfold maxLen at hAm
            have G : ∀ w', Below w5.heap.size w5 w' → w'.cell? ⟨b, o + k * 2, none⟩ = some (.string p.1) ∧ w'.cell? ⟨b, o + k * 2 + 1, none⟩ = some (.string p.2) := fun w' h => ⟨hat.nth0 (hB5.trans (h.mono hB5.size)) (k * 2) _ hp1, hat.nth (hB5.trans (h.mono hB5.size)) (k * 2) 1 _ hp2⟩
            have hrow : ∀ w', Below w5.heap.size w5 w' → Rd w' 2 (.slice (some ⟨bv, ov, none⟩) (m + 1) cv) (m + 1) (pairCells (O.take (m + 1))) := fun w' h => by rw [← pairCells_take]; exact (rd_of_owns (owns_below hv5 h)).pre2 hAT
            have hcut : ∀ w' A1, A1 = (if cv = (m + 1) then (some ⟨bv, ov, none⟩) else ((some ⟨bv, ov, none⟩) : Option Addr).map (·.add ((m + 1) * 2))) → Below w5.heap.size w5 w' → Rd w' 2 (.slice A1 (k - (m + 1)) (cv - (m + 1))) (k - (m + 1)) (pairCells (O.drop (m + 1))) := fun w' A1 hA h => by rw [← pairCells_drop]; exact (rd_of_owns (owns_below hv5 h)).cut2 hAT A1 hA
            have hfin : pairCells (O.take (m + 1)) ++ pairCells [p] ++ pairCells (O.drop (m + 1)) = pairCells (sortL (ps.take (k + 1))) := by
              rw [← pairCells_append, ← pairCells_append, HTK.out, List.append_assoc, List.singleton_append, HO.out, sortL_insert (ps.take k) p ((m + 1)) (by rw [HLK.out]; omega) (by rw [← HO.out]; exact HGT.out.1) (by rw [← HO.out]; exact HGT.out.2)]
            have HF := Lib.hid hfin
            have hsz5 := hB5.size
            clear hfin
            have hi1 : 0 ≤ (m : Int) + 1 := by omega
            have hi2 : (m : Int) + 1 ≤ (cv : Int) := by omega
            have hi3 : ((m : Int) + 1).toNat = m + 1 := by omega
            have hi4 : m + 1 ≤ cv := by omega
            have hi5 : (m : Int) + 1 ≤ (k : Int) := by omega
            have hi6 : m + 1 ≤ k := by omega
            refine region_free (fun w' => Below w5.heap.size w5 w') [0, 4, 9] [10, 14, 15] [0, 1, 2, 3, 4, 5, 6, 7, 8, 9, 11, 12, 13] (by kernel_rfl) (by kernel_rfl) (by kernel_rfl) (Below.refl _ _).drew ?_
            refine RelSeq.rel_ (fun v u => ∃ g : Nat, v = .slice (some ⟨g, 0, none⟩) 0 0 ∧ w5.heap.size ≤ g ∧ Blk u g #[] 138) rfl rfl (fun v u u' h hb => let ⟨g, h1, h2, h3⟩ := h; ⟨g, h1, h2, h3.below hb h3.lt⟩) ?_ ?_
            focus
              intro x w' hw _; dsimp only
              have hba : Below w'.heap.size w' (w'.alloc (.cells #[] 138)) := (Below.refl _ _).alloc (Nat.le_refl _) _
              have hI := hw.trans (hba.mono hw.size)
              have hsz := hw.size
              go_simp
              (repeat' apply And.intro) <;> first | assumption | exact ⟨_, rfl, hsz, Blk.new _ _ _⟩ | exact Blk.new _ _ _ | (with_unfolding_all rfl)
            simp only [Act.put, List.setIfInBounds_toArray, List.set_cons_zero, List.set_cons_succ, List.nil_append]
            repeat (first
              | (refine RelSeq.pure_ (c := ?_) rfl rfl ?_ ?_; rotate_left; (focus (intro x w'; dsimp only; go_simp; (repeat' apply And.intro) <;> first | with_reducible rfl | assumption)); simp only [Act.put, List.setIfInBounds_toArray, List.set_cons_zero, List.set_cons_succ])
              | (refine RelSeq.grow_ (c := ?_) rfl rfl ?_ ?_; rotate_left; (focus (intro x w' hw _; dsimp only; have hbr := Below.refl w'.heap.size w'; go_simp; (repeat' apply And.intro) <;> first | with_reducible rfl | assumption)); simp only [Act.put, List.setIfInBounds_toArray, List.set_cons_zero, List.set_cons_succ]))
            refine RelSeq.rel_ (fun v u => u.ownsRow w5.heap.size 138 2 v (m + 1) (pairCells (O.take (m + 1)))) rfl rfl (fun v u u' h hb => owns_below h hb) ?_ ?_
            focus
              intro x w' hw hf; dsimp only
              obtain ⟨g, e0, hg, hBg⟩ := hf _ (.head _) (by kernel_rfl)
              refine wp_append_empty (.tmp 30) (.tmp 33) 33 rfl w5.heap.size 138 i0 _ 2 32 Tryz.underlying33 hi hz0 hz1 hz2 rfl (by decide) g e0 hg hBg _ (m + 1) (pairCells (O.take (m + 1))) rfl (hrow w' hw) (by unfold maxLen; omega) (by omega) hw.size fun v6 w6 hown6 hb6 => ?_
              exact ⟨rfl, ⟨hown6, fun h => absurd h (by decide)⟩, hw.trans (hb6.mono hw.size), hb6⟩
            simp only [Act.put, List.setIfInBounds_toArray, List.set_cons_zero, List.set_cons_succ, List.nil_append, List.cons_append]
            repeat (first
              | (refine RelSeq.pure_ (c := ?_) rfl rfl ?_ ?_; rotate_left; (focus (intro x w'; dsimp only; go_simp; (repeat' apply And.intro) <;> first | with_reducible rfl | assumption)); simp only [Act.put, List.setIfInBounds_toArray, List.set_cons_zero, List.set_cons_succ])
              | (refine RelSeq.grow_ (c := ?_) rfl rfl ?_ ?_; rotate_left; (focus (intro x w' hw _; dsimp only; obtain ⟨d0, d1⟩ := G w' hw; have hbr := Below.refl w'.heap.size w'; go_simp; (repeat' apply And.intro) <;> first | with_reducible rfl | assumption)); simp only [Act.put, List.setIfInBounds_toArray, List.set_cons_zero, List.set_cons_succ]))
            refine RelSeq.rel_ (fun v u => Rd u 2 v 1 (pairCells [p])) rfl rfl (fun v u u' h hb => h.below hb) ?_ ?_
            focus
              intro x w' hw _; dsimp only
              have hba : Below w'.heap.size w' (w'.alloc (.cells #[.string p.1, .string p.2] 138)) := (Below.refl _ _).alloc (Nat.le_refl _) _
              have hI := hw.trans (hba.mono hw.size)
              have hBn : Blk (w'.alloc (.cells #[.string p.1, .string p.2] 138)) w'.heap.size #[.string p.1, .string p.2] 138 := Blk.new _ _ _
              have hnx : Rd (w'.alloc (.cells #[.string p.1, .string p.2] 138)) 2 (.slice (some ⟨w'.heap.size, 0, none⟩) 1 1) 1 (pairCells [p]) := ⟨_, _, rfl, rfl, Nat.le_refl _, by unfold maxLen; omega, fun _ => ⟨_, _, rfl, fun j u hj => by
                match j, hj with
                | 0, hj => simp [pairCells] at hj; subst hj; exact hBn.cell rfl
                | 1, hj => simp [pairCells] at hj; subst hj; exact hBn.cell rfl
                | j + 2, hj => simp [pairCells] at hj⟩⟩
              go_simp
              (repeat' apply And.intro) <;> first | assumption | exact hnx | (with_unfolding_all rfl)
            simp only [Act.put, List.setIfInBounds_toArray, List.set_cons_zero, List.set_cons_succ, List.nil_append, List.cons_append]
            repeat (first
              | (refine RelSeq.pure_ (c := ?_) rfl rfl ?_ ?_; rotate_left; (focus (intro x w'; dsimp only; go_simp; (repeat' apply And.intro) <;> first | with_reducible rfl | assumption)); simp only [Act.put, List.setIfInBounds_toArray, List.set_cons_zero, List.set_cons_succ]))
            refine RelSeq.nil_ fun x w6 hw6 hf _ => ?_
            have hown4 : w6.ownsRow w5.heap.size 138 2 (x 4) (m + 1) (pairCells (O.take (m + 1))) := hf _ (.tail _ (.head _))
            have hrd9 : Rd w6 2 (x 9) 1 (pairCells [p]) := hf _ (.tail _ (.tail _ (.head _)))
            clear hf
            refine TailSeq.cons_ rfl ?_
            refine wp_append_rd (.tmp 34) (.tmp 39) 33 rfl w5.heap.size 138 i0 _ 2 32 Tryz.underlying33 hi hz0 hz1 hz2 rfl (by decide) (x 4) ((m + 1)) _ rfl hown4 (x 9) 1 _ rfl hrd9 (pairCells_one _) (by unfold maxLen; omega) (by omega) hw6.size fun v7 w7 hown7 hgr7 _ => ?_
            have hb7 : Below w5.heap.size w5 w7 := hw6.grown hgr7 hw6.size (fun gg hg => (hown4.lt gg hg).1)
            refine ⟨rfl, ?_⟩
            refine TailSeq.cons_ rfl ?_
            refine wp_append_rd (.tmp 40) (.tmp 43) 33 rfl w5.heap.size 138 i0 _ 2 32 Tryz.underlying33 hi hz0 hz1 hz2 rfl (by decide) v7 ((m + 1) + 1) _ rfl hown7 _ (k - ((m + 1))) _ rfl (hcut w7 _ (by first | rfl | simp [Addr.add]) hb7) (pairCells_one _) (by unfold maxLen; omega) (by omega) hb7.size fun v8 w8 hown8 hgr8 _ => ?_
            have hb8 : Below w5.heap.size w5 w8 := hb7.grown hgr8 hb7.size (fun gg hg => (hown7.lt gg hg).1)
            rw [HF.out, show (m + 1) + 1 + (k - ((m + 1))) = k + 1 by omega] at hown8
            have hown9 := owns_mono hown8 hsz5
            have hB8 := hB5.trans (hb8.mono hsz5)
            obtain ⟨A8, c8, rfl⟩ := owns_slice hown9
            clear hown4 hrd9 hown7 hgr7 hgr8 hown8 hb7 hb8 hv5 hrow hcut G hw6
            refine ⟨rfl, ?_⟩
            refine TailSeq.cons_ rfl ?_
            go_simp
            refine TailSeq.nil_ ?_
            go_wp2_with fail
            go_roundw
            case rel => exact ⟨k + 1, by omega, by go_num, hown9, hB8⟩
            case measure => simp [intOf]; omega
    · obtain rfl : k = ps.length := by omega
      rw [List.take_length] at hv
      clear h4
      go_wp2_with fail
      go_ret
      exact ⟨_, rfl, hv, hB⟩
theorem refMake (v : Value) (ps : List Pr) (w : World) (hr : Rd w 2 v ps.length (pairCells ps)) (hs : ∀ p ∈ ps, p.1.size ≤ maxLen ∧ p.2.size ≤ maxLen) (hlen : ps.length ≤ 1048576) :
    Calls Tryz.prog 72 #[v] w fun e w' => ∃ v', e = .returned (.tuple #[v', .int .i64 (chkL (sortL ps) : Nat)]) ∧ w'.ownsRow w.heap.size 138 2 v' (makeL ps).length (pairCells (makeL ps)) ∧ Below w.heap.size w w' := by
  have hC := refSorted v ps w hr hlen
  have hs2 : ∀ p ∈ sortL ps, p.1.size ≤ maxLen ∧ p.2.size ≤ maxLen := fun p hp => hs p ((sortL_perm ps).mem_iff.1 hp)
  have hl2 := sortL_length ps
  obtain ⟨A, c, rfl, _⟩ := hr
  go_enter Tryz.func72, Tryz.ntmps72
  go_wp2_with fail
  (with_reducible refine hC.mono ?_)
  rintro e w2 ⟨v2, rfl, hv2, hb2⟩
  obtain ⟨A2, c2, rfl⟩ := owns_slice hv2
  have hr2 := rd_of_owns hv2
  have hK := refCheck _ (sortL ps) w2 (by rw [hl2]; exact hr2) hs2
  clear hC hr2
  cases hc : chkL (sortL ps) with
  | zero =>
    rw [hc] at hK
    have HM := Lib.hid (show makeL ps = sortL ps by simp [makeL, hc])
    have HC := Lib.hid hc
    clear hc
    go_wp2_with fail
    (with_reducible refine hK.mono ?_)
    rintro e w3 ⟨rfl, hb3⟩
    have hv3 := owns_below hv2 hb3
    have hb23 := hb2.trans (hb3.mono hb2.size)
    clear hK hv2 hb3
    have HL := Lib.hid hl2
    clear hl2
    go_wp2_with fail
    go_ret2
    exact ⟨_, by rw [HC.out]; rfl, by rw [HM.out, HL.out]; exact hv3, hb23⟩
  | succ n =>
    rw [hc] at hK
    have HM := Lib.hid (show makeL ps = [] by simp [makeL, hc])
    have HC := Lib.hid (show ((chkL (sortL ps) : Nat) : Int) = (n : Int) + 1 by rw [hc]; omega)
    have hne : ((n : Int) + 1 == 0) = false := by rw [beq_eq_false_iff_ne]; omega
    have hne2 : ((n : Int) + 1 != 0) = true := by rw [bne, hne]; rfl
    clear hc hl2
    go_wp2_with fail
    (with_reducible refine hK.mono ?_)
    rintro e w3 ⟨rfl, hb3⟩
    have hb23 := hb2.trans (hb3.mono hb2.size)
    clear hK hv2 hb3
    go_wp2_with fail
    go_ret2
    exact ⟨_, by rw [HC.out]; rfl, by rw [HM.out]; exact World.ownsRow_nil _ _ _ _, hb23⟩
end Go.Proofs.YtebnbbbiobaneaaGreatDoor
