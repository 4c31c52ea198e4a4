/-
  (*Tree).walk: the nodes below one that tell of labels.
-/
import Derived.Test.YteiocplfmjkbkaaGreatDoorRtC
namespace Go.Proofs.YteiocplfmjkbkaaGreatDoor
open Go.RowKit
set_option maxRecDepth 100000

theorem infoIntR : (Tryz.prog.info? 3).map (fun i => (i.zero, i.size, i.bytes)) = some (some (.int .i64 0), 1, 8) := by kernel_rfl
def natV (l : List Nat) : List Value := l.map fun n => .int .i64 (n : Nat)
theorem natV_one (l : List Nat) : ∀ u ∈ natV l, u.oneCell' = true := by
  intro u hu
  obtain ⟨n, _, rfl⟩ := List.mem_map.1 hu
  rfl
theorem natV_app (l m : List Nat) : natV l ++ natV m = natV (l ++ m) := by simp [natV]
/-- does a node take labels? -/
def holdN (ps : List Pr) (n : RN) : Bool := n.asks.all (holdA ps)
def AsksFit (ns : List RNV) : Prop := ∀ n ∈ ns, ∀ a ∈ n.p.asks, 1 ≤ a.2.1 ∧ a.2.1 ≤ 5 ∧ a.2.2.size ≤ maxLen
set_option maxHeartbeats 8000000 in
theorem tWalkStep (t : Nat) (v lv : Value) (ns : List RNV) (ps : List Pr) (rec : Nat → List Nat) (a : Nat) (w : World) (hB : Blk w t #[v] 74) (hN : NodesAt w v ns) (hr : Rd w 2 lv ps.length (pairCells ps)) (hok : AsksFit ns) (hps : ∀ key, (getL ps key).1.size ≤ maxLen) (hn : ns.length ≤ 32) (ha : a < ns.length)
    (hrec : ∀ i w', a < i → i < ns.length → Below w.heap.size w w' → Calls Tryz.prog 27 #[.pointer (some ⟨t, 0, none⟩), .int .i64 (i : Nat), lv] w' fun e w2 => ∃ v', e = .returned v' ∧ w2.ownsRow w'.heap.size 3 1 v' (rec i).length (natV (rec i)) ∧ Below w'.heap.size w' w2)
    (hne : ∀ i, rec i ≠ []) (hL : (loopT (ns.map (·.p)) (holdN ps) rec a (ns.length - (a + 1)) (a + 1)).length ≤ 4294967296) :
    Calls Tryz.prog 27 #[.pointer (some ⟨t, 0, none⟩), .int .i64 (a : Nat), lv] w fun e w' => ∃ v', e = .returned v' ∧ w'.ownsRow w.heap.size 3 1 v' (orAt a (loopT (ns.map (·.p)) (holdN ps) rec a (ns.length - (a + 1)) (a + 1))).length (natV (orAt a (loopT (ns.map (·.p)) (holdN ps) rec a (ns.length - (a + 1)) (a + 1)))) ∧ Below w.heap.size w w' := by
  obtain ⟨L, hLe⟩ : ∃ L, L = loopT (ns.map (·.p)) (holdN ps) rec a (ns.length - (a + 1)) (a + 1) := ⟨_, rfl⟩
  rw [← hLe] at hL ⊢
  have KH := fun (n : RNV) (hm : n ∈ ns) w' (h : Below w.heap.size w w') => asksHolds n.p.asks n.va lv ps w' (hr.below h) ((hN.2 n hm).1.below h) (hok n hm) hps
  have HR := Lib.hid hrec
  have HN := Lib.hid hN
  have HNE := Lib.hid hne
  have HE := Lib.hid hLe
  have HB := Lib.hid hB
  have hR := hN.1
  obtain ⟨n0, ni, nz0, nz1, nz2⟩ := info_parts infoIntR
  obtain ⟨nl, hnl⟩ : ∃ n, n = ns.length := ⟨_, rfl⟩
  rw [← hnl] at hR hn ha
  obtain ⟨A, c, rfl, h1, h2, h3, h4⟩ := hR
  unfold maxLen at h3
  have HA := Lib.hid h4
  have HNL := Lib.hid hnl
  have U0 := (Upd.nil [] w).nilRow 3 1
  clear hrec hne hLe h4 hr hN hok hps h1 hB hnl
  go_enter Tryz.func27, Tryz.ntmps27
  go_wp2_with fail
  go_loopw [7, 8] (fun o i wr => ∃ (k : Nat) (acc : List Nat), a + 1 ≤ k ∧ k ≤ nl ∧ i = .int .i64 k ∧ Hid (L = acc ++ loopT (ns.map (·.p)) (holdN ps) rec a (nl - k) k) ∧ Upd [] w [chRow 3 1 o acc.length (natV acc)] wr) (fun _ i _ => nl - (intOf i).toNat)
  case atStart => exact ⟨a + 1, [], Nat.le_refl _, ha, by go_num, Lib.hid (by rw [HE.out, HNL.out]; rfl), U0⟩
  case round =>
    obtain ⟨k, acc, hka, hk, rfl, HL, U1⟩ := hrel
    have xt := ((Upd.nil [] w).grow U1.below).below
    have ct := (HB.out.below xt HB.out.lt).cell (j := 0) (v := .slice A nl c) rfl
    obtain ⟨Ao, co, rfl⟩ := owns_slice (U1.row 0 rfl)
    have hal : acc.length ≤ 4294967296 := by
      have := HL.out
      have := congrArg List.length this
      rw [List.length_append] at this
      omega
    by_cases hlt : k < nl
    · obtain ⟨b, o, rfl, hat⟩ := HA.out (by omega)
      obtain ⟨n, hp⟩ : ∃ n, ns[k]? = some n := ⟨_, List.getElem?_eq_getElem (by rw [← HNL.out]; exact hlt)⟩
      have hp' : (ns.map (·.p))[k]? = some n.p := by rw [List.getElem?_map, hp]; rfl
      have hm := List.mem_of_getElem? hp
      have x0 := hat.nth0 U1.below (k*8) _ (flatN rn8 8 rn8_len ns k n hp 0 _ rfl)
      have x1 := hat.nth U1.below (k*8) 1 _ (flatN rn8 8 rn8_len ns k n hp 1 _ rfl)
      have x2 := hat.nth U1.below (k*8) 2 _ (flatN rn8 8 rn8_len ns k n hp 2 _ rfl)
      have x3 := hat.nth U1.below (k*8) 3 _ (flatN rn8 8 rn8_len ns k n hp 3 _ rfl)
      have x4 := hat.nth U1.below (k*8) 4 _ (flatN rn8 8 rn8_len ns k n hp 4 _ rfl)
      have x5 := hat.nth U1.below (k*8) 5 _ (flatN rn8 8 rn8_len ns k n hp 5 _ rfl)
      have x6 := hat.nth U1.below (k*8) 6 _ (flatN rn8 8 rn8_len ns k n hp 6 _ rfl)
      have x7 := hat.nth U1.below (k*8) 7 _ (flatN rn8 8 rn8_len ns k n hp 7 _ rfl)
      have K1 := KH n hm
      have hE := HL.out
      rw [show nl - k = (nl - (k + 1)) + 1 by omega] at hE
      have hrd := (HN.out.2 n hm).1
      have hrd2 := (HN.out.2 n hm).2
      have hsk := loopT_skip (hold := holdN ps) (rec := rec) (a := a) (k := nl - (k + 1)) hp'
      have htk := loopT_take (hold := holdN ps) (rec := rec) (a := a) (k := nl - (k + 1)) hp'
      have hhold : holdN ps n.p = n.p.asks.all (holdA ps) := rfl
      obtain ⟨⟨asks, tgt, bys, wait, betw, again, more, ab⟩, va, vb⟩ := n
      dsimp only at x0 x1 x2 x3 x4 x5 x6 x7 K1 hrd hrd2 hsk htk hhold
      obtain ⟨Aa, ca, rfl, _⟩ := hrd
      obtain ⟨Ab, cb, rfl, _⟩ := hrd2
      obtain ⟨b1, hb1⟩ : ∃ b, b = asks.all (holdA ps) := ⟨_, rfl⟩
      rw [← hb1] at K1 hhold
      rw [hhold] at hsk htk
      have U2 := U1.alloc #[.slice Aa asks.length ca, .string tgt, .slice Ab bys.length cb, .int .u64 (wait : Nat), .int .u64 (betw : Nat), .int .u64 (again : Nat), .bool more, .int .i64 ab] 50
      clear hp hp' hm hb1 hhold hat
      by_cases hab : ab = (a : Int)
      · subst hab
        cases b1 with
        | false =>
          rw [hsk (by simp)] at hE
          have HE2 := Lib.hid hE
          clear hE hsk htk
          go_wp2_with fail
          refine calls_genP fun w3 hw3 => ?_
          have U3 := U2.same hw3
          clear hw3 U2
          (with_reducible refine (K1 _ U3.below).mono ?_)
          rintro e w4 ⟨rfl, hb4⟩
          have U4 := U3.grow hb4
          go_wp2_with fail
          go_roundw
          case rel => exact ⟨k + 1, acc, by omega, by omega, by go_num, HE2, U4.drop 0⟩
          case measure => simp [intOf]; omega
        | true =>
          rw [htk rfl rfl] at hE
          have HE2 := Lib.hid hE
          clear hE hsk htk
          have KR := HR.out k
          have hne := HNE.out k
          obtain ⟨rk, hrk⟩ : ∃ r, r = rec k := ⟨_, rfl⟩
          rw [← hrk] at KR hne HE2
          have hrl : acc.length + rk.length ≤ 4294967296 := by
            have := congrArg List.length HE2.out
            rw [List.length_append, List.length_append] at this
            omega
          have KR2 := fun w' (h : Below w.heap.size w w') => KR w' (by omega) (by rw [← HNL.out]; omega) h
          have HN1 := Lib.hid hne
          clear hrk KR hne
          go_wp2_with fail
          refine calls_genP fun w3 hw3 => ?_
          have U3 := U2.same hw3
          clear hw3 U2
          (with_reducible refine (K1 _ U3.below).mono ?_)
          rintro e w4 ⟨rfl, hb4⟩
          have U4 := U3.grow hb4
          clear U3 hb4
          go_wp2_with fail
          (with_reducible refine (KR2 _ U4.below).mono ?_)
          rintro e w5 ⟨v5, rfl, hr5, hb5⟩
          obtain ⟨A5, c5, rfl⟩ := owns_slice hr5
          have U5 := U4.addRow hb5 hr5 (Nat.le_refl _)
          clear U4 hb5
          go_wp2_with (at_builtin; refine wpl_stop fun W hW => ?_)
          refine Stopped.mk ?_
          subst hW
          refine wpl_append_rd rfl (.tmp 39) (.tmp 43) 39 rfl 0 3 n0 _ 1 8 Tryz.underlying39 ni nz0 nz1 nz2 rfl (by decide) _ acc.length _ rfl (U5.row 2 rfl) _ rk.length _ rfl (rd_of_owns hr5) (natV_one _) (by unfold maxLen; omega) (by omega) (Nat.zero_le _) fun v7 w7 hown7 hgr7 hv7 => ?_
          have U7 := U5.app 2 rfl hown7 hgr7 hv7
          simp only [List.eraseIdx_cons_succ, List.eraseIdx_cons_zero] at U7
          rw [natV_app] at U7
          obtain ⟨A7, c7, rfl⟩ := owns_slice hown7
          clear hown7 hgr7 hv7 U5 hr5
          have y6 := (U7.blk 2 rfl).cell (j := 6) (v := .bool more) rfl
          cases more with
          | true =>
            rw [if_pos rfl] at HE2
            go_wp2_with fail
            go_roundw
            case rel => exact ⟨k + 1, acc ++ rk, by omega, by omega, by go_num, Lib.hid (by rw [HE2.out, List.append_assoc]), by rw [List.length_append]; exact (U7.drop 1).drop 1⟩
            case measure => simp [intOf]; omega
          | false =>
            rw [if_neg (by decide), List.append_nil] at HE2
            rw [← List.length_append] at U7
            have hne : acc ++ rk ≠ [] := fun h => HN1.out (List.append_eq_nil_iff.1 h).2
            have hz : (acc ++ rk).length ≠ 0 := fun h => hne (List.eq_nil_of_length_eq_zero h)
            generalize hlr : acc.length + rk.length = lr
            rw [List.length_append, hlr] at hz U7
            have HLR := Lib.hid hlr
            have e1 : ¬ ((lr : Int) = 0) := by omega
            have e2 : ((lr : Int) == 0) = false := by simpa using e1
            clear hlr hz
            go_wp2_with fail
            go_ret
            refine ⟨_, rfl, ?_, U7.below⟩
            rw [HE2.out, orAt, if_neg hne, List.length_append, HLR.out]
            exact rowBaseR U7 0 rfl
      · have e1 : (ab == (a : Int)) = false := by simpa using hab
        have e2 : (ab != (a : Int)) = true := by simpa using hab
        rw [hsk (fun h => hab h.1)] at hE
        have HE2 := Lib.hid hE
        clear hE hsk htk
        go_wp2_with fail
        go_roundw
        case rel => exact ⟨k + 1, acc, by omega, by omega, by go_num, HE2, U2.drop 0⟩
        case measure => simp [intOf]; omega
    · obtain rfl : k = nl := by omega
      have e : L = acc := by have := HL.out; rw [Nat.sub_self] at this; rw [this]; simp [loopT]
      have E := Lib.hid e
      clear e
      by_cases h0 : acc = []
      · subst h0
        have U2 := U1.alloc #[.int .i64 (a : Nat)] 3
        go_wp2_with fail
        go_ret
        refine ⟨_, rfl, ?_, U2.below⟩
        rw [E.out, orAt, if_pos rfl]
        exact owns_of_blk (U2.blk 0 rfl) xt.size (by show 1 ≤ maxLen; unfold maxLen; omega)
      · have e1 : ¬ ((acc.length : Int) = 0) := by
          intro h
          exact h0 (List.eq_nil_of_length_eq_zero (by omega))
        have e2 : ((acc.length : Int) == 0) = false := by simpa using e1
        go_wp2_with fail
        go_ret
        refine ⟨_, rfl, ?_, U1.below⟩
        rw [E.out, orAt, if_neg h0]
        exact rowBaseR U1 0 rfl
/-- (*Tree).walk. -/
theorem tWalk (t : Nat) (v lv : Value) (ns : List RNV) (ps : List Pr) (hok : AsksFit ns) (hps : ∀ key, (getL ps key).1.size ≤ maxLen) (hn : ns.length ≤ 32) : ∀ (f a : Nat) (w : World), Blk w t #[v] 74 → NodesAt w v ns → Rd w 2 lv ps.length (pairCells ps) → a < ns.length → ns.length ≤ a + f →
    Calls Tryz.prog 27 #[.pointer (some ⟨t, 0, none⟩), .int .i64 (a : Nat), lv] w fun e w' => ∃ v', e = .returned v' ∧ w'.ownsRow w.heap.size 3 1 v' (findT (ns.map (·.p)) (holdN ps) f a).length (natV (findT (ns.map (·.p)) (holdN ps) f a)) ∧ Below w.heap.size w w' := by
  intro f
  induction f with
  | zero => intro a w _ _ _ ha hf; omega
  | succ f ih =>
    intro a w hB hN hr ha hf
    have hl : (ns.map (·.p)).length = ns.length := List.length_map _
    have hlen := loopT_len (ns.map (·.p)) (holdN ps) (findT (ns.map (·.p)) (holdN ps) f) a (fun i h1 h2 => findT_len _ _ f i h2 (by omega)) (ns.length - (a + 1)) (a + 1) (by omega) (by rw [hl])
    have h32 : 2 ^ (ns.length - (a + 1)) ≤ 2 ^ 32 := Nat.pow_le_pow_right (by decide) (by omega)
    have e32 : (2 : Nat) ^ 32 = 4294967296 := by decide
    have := tWalkStep t v lv ns ps (findT (ns.map (·.p)) (holdN ps) f) a w hB hN hr hok hps hn ha (fun i w' h1 h2 hb => ih i w' (hB.below hb hB.lt) (hN.below hb) (hr.below hb) h2 (by omega)) (fun i => findT_ne _ _ _ _) (by omega)
    have e : findT (ns.map (·.p)) (holdN ps) (f + 1) a = orAt a (loopT (ns.map (·.p)) (holdN ps) (findT (ns.map (·.p)) (holdN ps) f) a (ns.length - (a + 1)) (a + 1)) := by rw [findT, hl]
    rw [e]
    exact this
end Go.Proofs.YteiocplfmjkbkaaGreatDoor
