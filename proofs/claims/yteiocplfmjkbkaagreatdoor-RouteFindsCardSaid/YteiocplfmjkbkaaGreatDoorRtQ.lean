/-
  The reference's Find.
-/
import Derived.Test.YteiocplfmjkbkaaGreatDoorRtR
namespace Go.Proofs.YteiocplfmjkbkaaGreatDoor
open Go.RowKit
set_option maxRecDepth 100000
attribute [local go_sem] FreeSl.out

def RefFound (L : List Nat) (w : World) (e : Ending) (w' : World) : Prop := ∃ v', e = .returned v' ∧ w'.ownsRow w.heap.size 3 1 v' L.length (natV L) ∧ Below w.heap.size w w'
def AsksFit2 (ns : List RNV) : Prop := ∀ n ∈ ns, ∀ a ∈ n.p.asks, 1 ≤ a.2.1 ∧ a.2.1 ≤ 5
set_option maxHeartbeats 16000000 in
theorem rFindStep (v : Value) (ns : List RNV) (org : Nat) (rule : ByteArray) (lv st sn pr vl : Value) (ls : List Pr) (rec : Nat → List Nat) (a : Nat) (w : World) (hN : NodesAtR w v ns) (hr : Rd w 2 lv ls.length (pairCells ls)) (ho : org ≤ 9) (hl : ls.length ≤ 100) (hok : AsksFit2 ns) (hn : ns.length ≤ 32) (ha : a < ns.length)
    (hrec : ∀ i w', a < i → i < ns.length → Below w.heap.size w w' → Calls Tryz.prog 11 #[v, .int .i64 (i : Nat), .agg #[.int .u8 org, .string rule, lv, st, sn, pr, vl]] w' (RefFound (rec i) w'))
    (hne : ∀ i, rec i ≠ []) (hL : (loopT (ns.map (·.p)) (holdN (namesL ls rule org)) rec a (ns.length - (a + 1)) (a + 1)).length ≤ 4294967296) :
    Calls Tryz.prog 11 #[v, .int .i64 (a : Nat), .agg #[.int .u8 org, .string rule, lv, st, sn, pr, vl]] w (RefFound (orAt a (loopT (ns.map (·.p)) (holdN (namesL ls rule org)) rec a (ns.length - (a + 1)) (a + 1))) w) := by
  obtain ⟨L, hLe⟩ : ∃ L, L = loopT (ns.map (·.p)) (holdN (namesL ls rule org)) rec a (ns.length - (a + 1)) (a + 1) := ⟨_, rfl⟩
  rw [← hLe] at hL ⊢
  obtain ⟨ps, hps⟩ : ∃ ps, ps = namesL ls rule org := ⟨_, rfl⟩
  have KN := fun w' (h : Below w.heap.size w w') => refNames org rule lv st sn pr vl ls w' ho hl (hr.below h)
  rw [← hps] at KN hLe
  have KH := fun (n : RNV) (hm : n ∈ ns) lv' w' (h : Below w.heap.size w w') (hr' : Rd w' 2 lv' ps.length (pairCells ps)) => refAll n.p.asks n.va lv' ps w' hr' ((hN.2 n hm).1.below h) (hok n hm)
  have HR := Lib.hid hrec
  have HN := Lib.hid hN
  have HNE := Lib.hid hne
  have HE := Lib.hid hLe
  have hR := hN.1
  obtain ⟨n0, ni, nz0, nz1, nz2⟩ := info_parts infoIntR
  obtain ⟨nl, hnl⟩ : ∃ n, n = ns.length := ⟨_, rfl⟩
  rw [← hnl] at hR hn ha
  obtain ⟨A, c, rfl, h1, h2, h3, h4⟩ := hR
  unfold maxLen at h3
  have HA := Lib.hid h4
  have HNL := Lib.hid hnl
  have U0 := ((Upd.nil [] w).alloc #[.int .u8 org, .string rule, lv, st, sn, pr, vl] 37).nilRow 3 1
  clear hrec hne hLe h4 hr hN hok h1 hnl hps
  go_enter Tryz.func11, Tryz.ntmps11
  go_wp2_with fail
  go_loopw [7, 8] (fun o i wr => ∃ (k : Nat) (acc : List Nat), a + 1 ≤ k ∧ k ≤ nl ∧ i = .int .i64 k ∧ Hid (L = acc ++ loopT (ns.map (·.p)) (holdN ps) rec a (nl - k) k) ∧ Upd [] w [chRow 3 1 o acc.length (natV acc), chBlk w.heap.size #[.int .u8 org, .string rule, lv, st, sn, pr, vl] 37] wr) (fun _ i _ => nl - (intOf i).toNat)
  case atStart => exact ⟨a + 1, [], Nat.le_refl _, ha, by go_num, Lib.hid (by rw [HE.out, HNL.out]; rfl), U0⟩
  case round =>
    obtain ⟨k, acc, hka, hk, rfl, HL, U1⟩ := hrel
    clear U0
    have xt := ((Upd.nil [] w).grow U1.below).below
    obtain ⟨Ao, co, rfl⟩ := owns_slice (U1.row 0 rfl)
    have hal : acc.length ≤ 4294967296 := by
      have := congrArg List.length HL.out
      rw [List.length_append] at this
      omega
    by_cases hlt : k < nl
    · obtain ⟨b, o, rfl, hat⟩ := HA.out (by omega)
      obtain ⟨n, hp⟩ : ∃ n, ns[k]? = some n := ⟨_, List.getElem?_eq_getElem (by rw [← HNL.out]; exact hlt)⟩
      have hp' : (ns.map (·.p))[k]? = some n.p := by rw [List.getElem?_map, hp]; rfl
      have hm := List.mem_of_getElem? hp
      have hat0 := flatN rn8 8 rn8_len ns k n hp
      have K1 := KH n hm
      have hE := HL.out
      rw [show nl - k = (nl - (k + 1)) + 1 by omega] at hE
      have hrd := (HN.out.2 n hm).1
      have hsk := loopT_skip (hold := holdN ps) (rec := rec) (a := a) (k := nl - (k + 1)) hp'
      have htk := loopT_take (hold := holdN ps) (rec := rec) (a := a) (k := nl - (k + 1)) hp'
      have hhold : holdN ps n.p = n.p.asks.all (holdA ps) := rfl
      obtain ⟨⟨asks, tgt, bys, wait, betw, again, more, ab⟩, va, vb⟩ := n
      dsimp only at hat0 K1 hrd hsk htk hhold
      obtain ⟨Aa, ca, rfl, _⟩ := hrd
      obtain ⟨b1, hb1⟩ : ∃ b, b = asks.all (holdA ps) := ⟨_, rfl⟩
      rw [← hb1] at K1 hhold
      rw [hhold] at hsk htk
      have X0 := fun w' (h : Below w.heap.size w w') => hat.nth0 h (k * 8) _ (hat0 0 _ rfl)
      have X6 := fun w' (h : Below w.heap.size w w') => hat.nth h (k * 8) 6 _ (hat0 6 _ rfl)
      have X7 := fun w' (h : Below w.heap.size w w') => hat.nth h (k * 8) 7 _ (hat0 7 _ rfl)
      have i1 : (k : Int) < (nl : Int) := by omega
      clear hp hp' hm hb1 hhold hat hat0
      go_upto_region 5 with fail
      refine wp_gen fun W9 hW9 => ?_
      have U9 := U1.same hW9
      clear hW9 U1
      have ext := fun w' (h : Below W9.heap.size W9 w') => U9.below.trans (h.mono U9.size)
      have F : ∀ w', Below W9.heap.size W9 w' → w'.cell? ⟨b, o + k * 8, none⟩ = some (.slice Aa asks.length ca) ∧ w'.cell? ⟨b, o + k * 8 + 7, none⟩ = some (.int .i64 ab) ∧ w'.cell? ⟨w.heap.size, 0, none⟩ = some (.int .u8 org) ∧ w'.cell? ⟨w.heap.size, 1, none⟩ = some (.string rule) ∧ w'.cell? ⟨w.heap.size, 2, none⟩ = some lv ∧ w'.cell? ⟨w.heap.size, 3, none⟩ = some st ∧ w'.cell? ⟨w.heap.size, 4, none⟩ = some sn ∧ w'.cell? ⟨w.heap.size, 5, none⟩ = some pr ∧ w'.cell? ⟨w.heap.size, 6, none⟩ = some vl := fun w' h =>
        ⟨X0 w' (ext w' h), X7 w' (ext w' h), ((U9.grow h).blk 1 rfl).cell (j := 0) rfl, ((U9.grow h).blk 1 rfl).cell (j := 1) rfl, ((U9.grow h).blk 1 rfl).cell (j := 2) rfl, ((U9.grow h).blk 1 rfl).cell (j := 3) rfl, ((U9.grow h).blk 1 rfl).cell (j := 4) rfl, ((U9.grow h).blk 1 rfl).cell (j := 5) rfl, ((U9.grow h).blk 1 rfl).cell (j := 6) rfl⟩
      clear X0 X7
      by_cases hab : ab = (a : Int)
      · have a1 : (ab == (a : Int)) = true := by simpa using hab
        have hsk2 := fun h : b1 = false => hsk (by rw [h]; simp)
        have htk2 := fun h : b1 = true => htk hab h
        have HAB := Lib.hid hab
        clear hab hsk htk
        refine FreeSl.region_free (fun w' => Below W9.heap.size W9 w') [14] [] [0, 1, 2, 3, 4, 5, 6, 7, 8, 9, 10, 11, 12, 13, 14, 15, 16] (by kernel_rfl) (by kernel_rfl) (by kernel_rfl) (Below.refl _ _).drew ?_
        repeat (first
          | (refine FreeSl.RelSeq.pure_ (c := ?_) rfl rfl ?_ ?_; rotate_left; (focus (intro x w'; dsimp only; go_simp; (repeat' apply And.intro) <;> first | with_reducible rfl | assumption)); simp only [Act.put, List.setIfInBounds_toArray, List.set_cons_zero, List.set_cons_succ])
          | (refine FreeSl.RelSeq.skip_ rfl (fun _ => rfl) ?_; simp only [Act.put, List.setIfInBounds_toArray, List.set_cons_zero, List.set_cons_succ])
          | (refine FreeSl.RelSeq.pureG_ (c := ?_) rfl (fun _ => rfl) rfl ?_ ?_; rotate_left; (focus (intro x w'; dsimp only; go_simp; (repeat' apply And.intro) <;> first | with_reducible rfl | assumption)); simp only [Act.put, List.setIfInBounds_toArray, List.set_cons_zero, List.set_cons_succ])
          | (refine FreeSl.RelSeq.grow_ (c := ?_) rfl rfl ?_ ?_; rotate_left; (focus (intro x w' hw _; dsimp only; obtain ⟨x0, x7, q0, q1, q2, q3, q4, q5, q6⟩ := F w' hw; have hbr := Below.refl w'.heap.size w'; go_simp; (repeat' apply And.intro) <;> first | with_reducible rfl | assumption)); simp only [Act.put, List.setIfInBounds_toArray, List.set_cons_zero, List.set_cons_succ])
          | (refine FreeSl.RelSeq.growG_ (c := ?_) rfl (fun _ => rfl) rfl ?_ ?_; rotate_left; (focus (intro x w' hw _; dsimp only; obtain ⟨x0, x7, q0, q1, q2, q3, q4, q5, q6⟩ := F w' hw; have hbr := Below.refl w'.heap.size w'; go_simp; (repeat' apply And.intro) <;> first | with_reducible rfl | assumption)); simp only [Act.put, List.setIfInBounds_toArray, List.set_cons_zero, List.set_cons_succ]))
        refine FreeSl.RelSeq.relG_ (fun v u => u.ownsRow W9.heap.size 71 2 v ps.length (pairCells ps)) rfl (fun _ => rfl) rfl (fun v u u' h hb => owns_below h hb) ?_ ?_
        focus
          intro x w' hw _; dsimp only
          go_simp
          (with_reducible refine (KN w' (ext w' hw)).mono ?_)
          rintro e w2 ⟨v2, rfl, hv2, hb2⟩
          exact ⟨⟨owns_mono hv2 hw.size, fun h => absurd h (by decide)⟩, hw.trans (hb2.mono hw.size), hb2⟩
        simp only [Act.put, List.setIfInBounds_toArray, List.set_cons_zero, List.set_cons_succ, List.nil_append]
        refine FreeSl.RelSeq.growG_ (c := ?_) rfl (fun _ => rfl) rfl ?_ ?_; rotate_left
        focus
          intro x w' hw hf; dsimp only
          have g1 := hf _ (.head _) (by kernel_rfl)
          dsimp only at g1
          have hrd := rd_of_owns g1
          go_simp
          (with_reducible refine (K1 _ w' (ext w' hw) hrd).mono ?_)
          rintro e w2 ⟨rfl, hb2⟩
          have hI := hw.trans (hb2.mono hw.size)
          go_simp
          (repeat' apply And.intro) <;> first | with_reducible rfl | assumption
        simp only [Act.put, List.setIfInBounds_toArray, List.set_cons_zero, List.set_cons_succ]
        repeat (first
          | (refine FreeSl.RelSeq.pure_ (c := ?_) rfl rfl ?_ ?_; rotate_left; (focus (intro x w'; dsimp only; go_simp; (repeat' apply And.intro) <;> first | with_reducible rfl | assumption)); simp only [Act.put, List.setIfInBounds_toArray, List.set_cons_zero, List.set_cons_succ])
          | (refine FreeSl.RelSeq.skip_ rfl (fun _ => rfl) ?_; simp only [Act.put, List.setIfInBounds_toArray, List.set_cons_zero, List.set_cons_succ])
          | (refine FreeSl.RelSeq.pureG_ (c := ?_) rfl (fun _ => rfl) rfl ?_ ?_; rotate_left; (focus (intro x w'; dsimp only; go_simp; (repeat' apply And.intro) <;> first | with_reducible rfl | assumption)); simp only [Act.put, List.setIfInBounds_toArray, List.set_cons_zero, List.set_cons_succ])
          | (refine FreeSl.RelSeq.grow_ (c := ?_) rfl rfl ?_ ?_; rotate_left; (focus (intro x w' hw _; dsimp only; obtain ⟨x0, x7, q0, q1, q2, q3, q4, q5, q6⟩ := F w' hw; have hbr := Below.refl w'.heap.size w'; go_simp; (repeat' apply And.intro) <;> first | with_reducible rfl | assumption)); simp only [Act.put, List.setIfInBounds_toArray, List.set_cons_zero, List.set_cons_succ])
          | (refine FreeSl.RelSeq.growG_ (c := ?_) rfl (fun _ => rfl) rfl ?_ ?_; rotate_left; (focus (intro x w' hw _; dsimp only; obtain ⟨x0, x7, q0, q1, q2, q3, q4, q5, q6⟩ := F w' hw; have hbr := Below.refl w'.heap.size w'; go_simp; (repeat' apply And.intro) <;> first | with_reducible rfl | assumption)); simp only [Act.put, List.setIfInBounds_toArray, List.set_cons_zero, List.set_cons_succ]))
        refine FreeSl.RelSeq.nil_ fun x w5 hw _ _ => ?_
        have U5 := U9.grow hw
        clear F hw U9 ext K1 KN
        refine FreeSl.TailSeq.nil_ ?_
        cases b1 with
        | false =>
          have hE2 := hE
          rw [hsk2 rfl] at hE2
          have HE2 := Lib.hid hE2
          clear hE hE2 hsk2 htk2
          go_wp2_with fail
          go_roundw
          case rel => exact ⟨k + 1, acc, by omega, by omega, by go_num, HE2, U5⟩
          case measure => simp [intOf]; omega
        | true =>
          have hE2 := hE
          rw [htk2 rfl] at hE2
          have HE2 := Lib.hid hE2
          clear hE hE2 hsk2 htk2
          have KR := HR.out k
          have hne := HNE.out k
          obtain ⟨rk, hrk⟩ : ∃ r, r = rec k := ⟨_, rfl⟩
          rw [← hrk] at KR hne HE2
          have hrl : acc.length + rk.length ≤ 4294967296 := by
            have := congrArg List.length HE2.out
            rw [List.length_append, List.length_append] at this
            omega
          have KR2 := fun w' (h : Below w.heap.size w w') => KR w' (by omega) (by rw [← HNL.out]; omega) h
          have HN1 := Lib.hid hne
          clear hrk KR hne
          have q0 := (U5.blk 1 rfl).cell (j := 0) rfl
          have q1 := (U5.blk 1 rfl).cell (j := 1) rfl
          have q2 := (U5.blk 1 rfl).cell (j := 2) rfl
          have q3 := (U5.blk 1 rfl).cell (j := 3) rfl
          have q4 := (U5.blk 1 rfl).cell (j := 4) rfl
          have q5 := (U5.blk 1 rfl).cell (j := 5) rfl
          have q6 := (U5.blk 1 rfl).cell (j := 6) rfl
          go_wp2_with fail
          (with_reducible refine (KR2 _ U5.below).mono ?_)
          rintro e w6 ⟨v6, rfl, hr6, hb6⟩
          obtain ⟨A6, c6, rfl⟩ := owns_slice hr6
          have U6 := U5.addRow hb6 hr6 (Nat.le_refl _)
          clear U5 hb6 q0 q1 q2 q3 q4 q5 q6
          go_wp2_with (at_builtin; refine wpl_stop fun W hW => ?_)
          refine Stopped.mk ?_
          subst hW
          refine wpl_append_rd rfl (.tmp 34) (.tmp 38) 39 rfl 0 3 n0 _ 1 8 Tryz.underlying39 ni nz0 nz1 nz2 rfl (by decide) _ acc.length _ rfl (U6.row 1 rfl) _ rk.length _ rfl (rd_of_owns hr6) (natV_one _) (by unfold maxLen; omega) (by omega) (Nat.zero_le _) fun v7 w7 hown7 hgr7 hv7 => ?_
          have U7 := U6.app 1 rfl hown7 hgr7 hv7
          simp only [List.eraseIdx_cons_succ, List.eraseIdx_cons_zero] at U7
          rw [natV_app] at U7
          obtain ⟨A7, c7, rfl⟩ := owns_slice hown7
          clear hown7 hgr7 hv7 U6 hr6
          have y6 := X6 _ U7.below
          cases more with
          | true =>
            rw [if_pos rfl] at HE2
            go_wp2_with fail
            go_roundw
            case rel => exact ⟨k + 1, acc ++ rk, by omega, by omega, by go_num, Lib.hid (by rw [HE2.out, List.append_assoc]), by rw [List.length_append]; exact U7.drop 1⟩
            case measure => simp [intOf]; omega
          | false =>
            rw [if_neg (by decide), List.append_nil] at HE2
            rw [← List.length_append] at U7
            have hne : acc ++ rk ≠ [] := fun h => HN1.out (List.append_eq_nil_iff.1 h).2
            have hz : (acc ++ rk).length ≠ 0 := fun h => hne (List.eq_nil_of_length_eq_zero h)
            generalize hlr : acc.length + rk.length = lr
            rw [List.length_append, hlr] at hz U7
            have HLR := Lib.hid hlr
            have e1 : ¬ ((lr : Int) = 0) := by omega
            have e2 : ((lr : Int) == 0) = false := by simpa using e1
            clear hlr hz
            go_wp2_with fail
            go_ret
            refine ⟨_, rfl, ?_, U7.below⟩
            rw [HE2.out, orAt, if_neg hne, List.length_append, HLR.out]
            exact rowBaseR U7 0 rfl
      · have e1 : (ab == (a : Int)) = false := by simpa using hab
        rw [hsk (fun h => hab h.1)] at hE
        have HE2 := Lib.hid hE
        have HAB := Lib.hid hab
        clear hE hsk htk hab
        refine FreeSl.region_free (fun w' => Below W9.heap.size W9 w') [14] [] [0, 1, 2, 3, 4, 5, 6, 7, 8, 9, 10, 11, 12, 13, 14, 15, 16] (by kernel_rfl) (by kernel_rfl) (by kernel_rfl) (Below.refl _ _).drew ?_
        repeat (first
          | (refine FreeSl.RelSeq.pure_ (c := ?_) rfl rfl ?_ ?_; rotate_left; (focus (intro x w'; dsimp only; go_simp; (repeat' apply And.intro) <;> first | with_reducible rfl | assumption)); simp only [Act.put, List.setIfInBounds_toArray, List.set_cons_zero, List.set_cons_succ])
          | (refine FreeSl.RelSeq.skip_ rfl (fun _ => rfl) ?_; simp only [Act.put, List.setIfInBounds_toArray, List.set_cons_zero, List.set_cons_succ])
          | (refine FreeSl.RelSeq.pureG_ (c := ?_) rfl (fun _ => rfl) rfl ?_ ?_; rotate_left; (focus (intro x w'; dsimp only; go_simp; (repeat' apply And.intro) <;> first | with_reducible rfl | assumption)); simp only [Act.put, List.setIfInBounds_toArray, List.set_cons_zero, List.set_cons_succ])
          | (refine FreeSl.RelSeq.grow_ (c := ?_) rfl rfl ?_ ?_; rotate_left; (focus (intro x w' hw _; dsimp only; obtain ⟨x0, x7, q0, q1, q2, q3, q4, q5, q6⟩ := F w' hw; have hbr := Below.refl w'.heap.size w'; go_simp; (repeat' apply And.intro) <;> first | with_reducible rfl | assumption)); simp only [Act.put, List.setIfInBounds_toArray, List.set_cons_zero, List.set_cons_succ])
          | (refine FreeSl.RelSeq.growG_ (c := ?_) rfl (fun _ => rfl) rfl ?_ ?_; rotate_left; (focus (intro x w' hw _; dsimp only; obtain ⟨x0, x7, q0, q1, q2, q3, q4, q5, q6⟩ := F w' hw; have hbr := Below.refl w'.heap.size w'; go_simp; (repeat' apply And.intro) <;> first | with_reducible rfl | assumption)); simp only [Act.put, List.setIfInBounds_toArray, List.set_cons_zero, List.set_cons_succ]))
        refine FreeSl.RelSeq.nil_ fun x w5 hw _ _ => ?_
        have U5 := U9.grow hw
        clear F hw U9 ext K1 KN
        refine FreeSl.TailSeq.nil_ ?_
        go_wp2_with fail
        go_roundw
        case rel => exact ⟨k + 1, acc, by omega, by omega, by go_num, HE2, U5⟩
        case measure => simp [intOf]; omega
    · obtain rfl : k = nl := by omega
      have e : L = acc := by have := HL.out; rw [Nat.sub_self] at this; rw [this]; simp [loopT]
      have E := Lib.hid e
      clear e
      by_cases h0 : acc = []
      · subst h0
        have U2 := U1.alloc #[.int .i64 (a : Nat)] 3
        go_wp2_with fail
        go_ret
        refine ⟨_, rfl, ?_, U2.below⟩
        rw [E.out, orAt, if_pos rfl]
        exact owns_of_blk (U2.blk 0 rfl) xt.size (by show 1 ≤ maxLen; unfold maxLen; omega)
      · have e1 : ¬ ((acc.length : Int) = 0) := by
          intro h
          exact h0 (List.eq_nil_of_length_eq_zero (by omega))
        have e2 : ((acc.length : Int) == 0) = false := by simpa using e1
        go_wp2_with fail
        go_ret
        refine ⟨_, rfl, ?_, U1.below⟩
        rw [E.out, orAt, if_neg h0]
        exact rowBaseR U1 0 rfl
/-- The reference's Find. -/
theorem rFind (v : Value) (ns : List RNV) (org : Nat) (rule : ByteArray) (lv st sn pr vl : Value) (ls : List Pr) (ho : org ≤ 9) (hl : ls.length ≤ 100) (hok : AsksFit2 ns) (hn : ns.length ≤ 32) : ∀ (f a : Nat) (w : World), NodesAtR w v ns → Rd w 2 lv ls.length (pairCells ls) → a < ns.length → ns.length ≤ a + f →
    Calls Tryz.prog 11 #[v, .int .i64 (a : Nat), .agg #[.int .u8 org, .string rule, lv, st, sn, pr, vl]] w (RefFound (findT (ns.map (·.p)) (holdN (namesL ls rule org)) f a) w) := by
  intro f
  induction f with
  | zero => intro a w _ _ ha hf; omega
  | succ f ih =>
    intro a w hN hr ha hf
    have hl2 : (ns.map (·.p)).length = ns.length := List.length_map _
    have hlen := loopT_len (ns.map (·.p)) (holdN (namesL ls rule org)) (findT (ns.map (·.p)) (holdN (namesL ls rule org)) f) a (fun i h1 h2 => findT_len _ _ f i h2 (by omega)) (ns.length - (a + 1)) (a + 1) (by omega) (by rw [hl2])
    have h32 : 2 ^ (ns.length - (a + 1)) ≤ 2 ^ 32 := Nat.pow_le_pow_right (by decide) (by omega)
    have e32 : (2 : Nat) ^ 32 = 4294967296 := by decide
    have := rFindStep v ns org rule lv st sn pr vl ls (findT (ns.map (·.p)) (holdN (namesL ls rule org)) f) a w hN hr ho hl hok hn ha (fun i w' h1 h2 hb => ih i w' (hN.below hb) (hr.below hb) h2 (by omega)) (fun i => findT_ne _ _ _ _) (by omega)
    have e : findT (ns.map (·.p)) (holdN (namesL ls rule org)) (f + 1) a = orAt a (loopT (ns.map (·.p)) (holdN (namesL ls rule org)) (findT (ns.map (·.p)) (holdN (namesL ls rule org)) f) a (ns.length - (a + 1)) (a + 1)) := by rw [findT, hl2]
    rw [e]
    exact this
end Go.Proofs.YteiocplfmjkbkaaGreatDoor
