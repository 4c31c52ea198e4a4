/-
  RulesChecks: any rule, and lists of rules: whether they may be.
-/
import Derived.Test.YtebnbbbiobaneaaDoorRuAwk
import Derived.Test.YtebnbbbiobaneaaDoorRuQ
import Derived.Test.YtebnbbbiobaneaaDoorRuS
import Derived.Test.YtebnbbbiobaneaaDoorRItoa
import Derived.RegionTactic
import Derived.BigRegion
namespace Go.Proofs.YtebnbbbiobaneaaDoor
open Go.RowKit FreeNew
set_option maxRecDepth 100000
attribute [local go_sem] out

theorem infoRefF : (Tryd.prog.info? 38).map (fun i => (i.zero, i.size, i.bytes)) = some (some (.agg #[.string ⟨#[]⟩, .string ⟨#[]⟩, .slice none 0 0, .slice none 0 0, .int .i64 0, .int .i64 0, .int .u64 0, .int .u64 0, .int .u64 0, .int .u8 0]), 10, 128) := by kernel_rfl
theorem owns_one10 {w : World} {g base : Nat} {cs : Array Value} {e : TypeId} (h : Blk w g cs e) (hs : cs.size = 10) (hb : base ≤ g) : w.ownsRow base e 10 (.slice (some ⟨g, 0, none⟩) 1 1) 1 cs.toList :=
  ⟨by simp [hs], .inr ⟨g, 1, cs, rfl, hb, h, Nat.le_refl _, by decide, by simp [hs], by rw [Nat.one_mul, ← hs, ← Array.length_toList, List.take_length]⟩⟩
theorem Rd.cut10 {w : World} {q o n c m : Nat} {xs : List Value} (h : Rd w 10 (.slice (some ⟨q, o, none⟩) n c) n xs) (hm : m ≤ n) :
    Rd w 10 (.slice (if c = m then some ⟨q, o, none⟩ else some ⟨q, o + m * 10, none⟩) (n - m) (c - m)) (n - m) (xs.drop (m * 10)) := by
  obtain ⟨A, c', he, h1, h2, h3, h4⟩ := h
  cases he
  refine ⟨_, _, rfl, by simp; omega, by omega, by omega, fun hn => ?_⟩
  obtain ⟨q', o', he, hr⟩ := h4 (by omega)
  cases he
  rw [if_neg (by omega)]
  refine ⟨_, _, rfl, fun j u hj => ?_⟩
  rw [List.getElem?_drop] at hj
  rw [Nat.add_assoc]
  exact hr _ u hj
theorem good_grown2 {r : RuV} {w w' : World} {base base' n : Nat} {v : Value} {xs : List Value} (h : r.good w base) (hv : w.ownsRow base' 38 10 v n xs) (hg : w.grownBy w' v.ownBlock) : r.good w' base :=
  ⟨h.nm, h.me, h.iz, h.wz, h.k, h.pr, owns_grownZ h.io hv (by decide) hg, owns_grownZ h.wo hv (by decide) hg⟩
set_option maxHeartbeats 16000000 in
theorem rulesChecksWalk (nm me : ByteArray) (A1 : Option Addr) (q1 : Nat) (ps1 : List Pr) (k : Nat) (lim : Int) (tk fo ke pr : Nat) (A2 : Option Addr) (q2 : Nat) (ps2 : List Pr) (vl : Value) (l : List SmR) (n : Nat) (mx : Int) (w : World)
    (hr : (RuV.mk nm me (.slice A1 ps1.length q1) ps1 k lim tk fo ke pr (.slice A2 ps2.length q2) ps2).ok w) (hl : Rd w 10 vl l.length (l.flatMap sm10)) (hlo : ∀ s ∈ l, s.ok) (_hn : n < 256) (hm : w.cell? ⟨2, 0, none⟩ = some (.int .i64 mx)) (hT : Lib.TabIs Tryd.prog w "strings.asciiSpace" .u8 Lib.asciiSpaceTab) :
    Calls Tryd.prog 3 #[.agg #[.string nm, .string me, .slice A1 ps1.length q1, .int .u8 k, .int .i64 lim, .int .u64 tk, .int .u64 fo, .int .u64 ke, .int .u8 pr, .slice A2 ps2.length q2], vl, .int .u8 n] w fun e w' => e = .returned (.bool true) ∧ Below w.heap.size w w' := by
  have htab : Tryd.prog.globalNamed "strings.asciiSpace" = some 0 := by kernel_rfl
  have KA := fun w' (hb : Below w.heap.size w w') (hc : w'.cell? ⟨2, 0, none⟩ = some (.int .i64 mx)) => awake15 mx w' hc (Joins.tab_stays htab hT hb (Nat.le_refl _))
  obtain ⟨Al, cl, rfl, l1, l2, l3, l4⟩ := hl
  unfold maxLen at l3
  have HL4 := Lib.hid l4
  have HLO := Lib.hid hlo
  have HRK := Lib.hid hr
  have U0 := (Upd.nil [] w).alloc #[.string nm, .string me, .slice A1 ps1.length q1, .int .u8 k, .int .i64 lim, .int .u64 tk, .int .u64 fo, .int .u64 ke, .int .u8 pr, .slice A2 ps2.length q2] 30
  have K5 := fun w' (hb : Below w.heap.size w w') => ruCheckA nm me A1 ps1.length q1 ps1 k lim tk fo ke pr A2 ps2.length q2 ps2 w' hr.nm hr.me (hr.ir.below hb) hr.iz (hr.wr.below hb) hr.wz hr.k
  have K6 := fun w' => law15Ref nm me A1 ps1.length q1 k lim tk fo ke pr A2 ps2.length q2 w' hr.k
  have K7 := fun w' (hb : Below w.heap.size w w') => refRuCheckA nm me A1 ps1.length q1 ps1 k lim tk fo ke pr A2 ps2.length q2 ps2 w' hr.nm hr.me (hr.ir.below hb) hr.iz (hr.wr.below hb) hr.wz
  obtain ⟨er, her⟩ : ∃ x, x = chkR (nameB nm) (nameB me) (ownName nm) (chkL ps1) (chkL ps2) (chkC k lim tk) (chkW fo ke) pr := ⟨_, rfl⟩
  rw [← her] at K5 K7
  have HM := Lib.hid hm
  obtain ⟨n40, hn40⟩ : ∃ x, x = n % 40 := ⟨_, rfl⟩
  have tn : (n : Int).tmod 40 = (n40 : Int) := by rw [hn40]; rfl
  have n40lt : n40 < 40 := by omega
  have wn : IntKind.i64.wrap (n40 : Int) = (n40 : Int) := by simp only [IntKind.wrap, IntKind.bits, IntKind.signed]; simp; omega
  clear hr hlo l4 her htab hT hm hn40
  go_enter Tryd.func3, Tryd.ntmps3
  go_wp2_with fail
  refine calls_genP fun W1 hW => ?_
  have U1 := U0.same hW
  clear hW U0
  (with_reducible refine (KA W1 U1.below (cell_upd U1 (by simp) HM.out)).mono ?_)
  rintro e w2 ⟨rfl, hb2⟩
  have U2 := U1.grow hb2
  clear U1 hb2 KA
  have c2 := (U2.blk 0 rfl).cell (j := 2) (v := .slice A1 ps1.length q1) rfl
  have c9 := (U2.blk 0 rfl).cell (j := 9) (v := .slice A2 ps2.length q2) rfl
  by_cases a1 : 12 < ps1.length
  · have da1 : decide ((12 : Int) < (ps1.length : Int)) = true := by simp; omega
    clear K5 K6 K7
    go_wp2_with fail
    go_ret
    exact ⟨rfl, U2.below⟩
  have da1 : decide ((12 : Int) < (ps1.length : Int)) = false := by simp; omega
  by_cases a2 : 12 < ps2.length
  · have da2 : decide ((12 : Int) < (ps2.length : Int)) = true := by simp; omega
    clear K5 K6 K7
    go_wp2_with fail
    go_ret
    exact ⟨rfl, U2.below⟩
  have da2 : decide ((12 : Int) < (ps2.length : Int)) = false := by simp; omega
  by_cases a3 : 10 < l.length
  · have da3 : decide ((10 : Int) < (l.length : Int)) = true := by simp; omega
    clear K5 K6 K7
    go_wp2_with fail
    go_ret
    exact ⟨rfl, U2.below⟩
  have da3 : decide ((10 : Int) < (l.length : Int)) = false := by simp; omega
  have F : ∀ w', Below w2.heap.size w2 w' → Upd [] w [chBlk w.heap.size #[.string nm, .string me, .slice A1 ps1.length q1, .int .u8 k, .int .i64 lim, .int .u64 tk, .int .u64 fo, .int .u64 ke, .int .u8 pr, .slice A2 ps2.length q2] 30] w' := fun w' h => U2.grow h
  have FC : ∀ w', Below w2.heap.size w2 w' → w'.cell? ⟨w.heap.size, 0, none⟩ = some (.string nm) ∧ w'.cell? ⟨w.heap.size, 1, none⟩ = some (.string me) ∧ w'.cell? ⟨w.heap.size, 2, none⟩ = some (.slice A1 ps1.length q1) ∧ w'.cell? ⟨w.heap.size, 3, none⟩ = some (.int .u8 k) ∧ w'.cell? ⟨w.heap.size, 4, none⟩ = some (.int .i64 lim) ∧ w'.cell? ⟨w.heap.size, 5, none⟩ = some (.int .u64 tk) ∧ w'.cell? ⟨w.heap.size, 6, none⟩ = some (.int .u64 fo) ∧ w'.cell? ⟨w.heap.size, 7, none⟩ = some (.int .u64 ke) ∧ w'.cell? ⟨w.heap.size, 8, none⟩ = some (.int .u8 pr) ∧ w'.cell? ⟨w.heap.size, 9, none⟩ = some (.slice A2 ps2.length q2) := fun w' h => ⟨((F w' h).blk 0 rfl).cell (j := 0) (v := .string nm) rfl, ((F w' h).blk 0 rfl).cell (j := 1) (v := .string me) rfl, ((F w' h).blk 0 rfl).cell (j := 2) (v := .slice A1 ps1.length q1) rfl, ((F w' h).blk 0 rfl).cell (j := 3) (v := .int .u8 k) rfl, ((F w' h).blk 0 rfl).cell (j := 4) (v := .int .i64 lim) rfl, ((F w' h).blk 0 rfl).cell (j := 5) (v := .int .u64 tk) rfl, ((F w' h).blk 0 rfl).cell (j := 6) (v := .int .u64 fo) rfl, ((F w' h).blk 0 rfl).cell (j := 7) (v := .int .u64 ke) rfl, ((F w' h).blk 0 rfl).cell (j := 8) (v := .int .u8 pr) rfl, ((F w' h).blk 0 rfl).cell (j := 9) (v := .slice A2 ps2.length q2) rfl⟩
  have ext : ∀ w' w'', Below w2.heap.size w2 w' → Below w'.heap.size w' w'' → Below w2.heap.size w2 w'' := fun w' w'' h h2 => h.trans (h2.mono h.size)
  go_wp2_with fail
  refine region_free (fun w' => Below w2.heap.size w2 w') [] [] (List.range 6) (by kernel_rfl) (by kernel_rfl) (by kernel_rfl) (Below.refl _ _).drew ?_
  simp only [List.range, List.range.loop]
  repeat (first
    | (refine RelSeq.pure_ (c := ?_) rfl rfl ?_ ?_; rotate_left; (focus (intro x w'; dsimp only; go_simp; (repeat' apply And.intro) <;> first | with_reducible rfl | assumption)); simp only [Act.put, List.setIfInBounds_toArray, List.set_cons_zero, List.set_cons_succ])
    | (refine RelSeq.grow_ (c := ?_) rfl rfl ?_ ?_; rotate_left; (focus (intro x w' hw _; dsimp only; obtain ⟨c0, c1, c2, c3, c4, c5, c6, c7, c8, c9⟩ := FC w' hw; have hbr := Below.refl w'.heap.size w'; go_simp; (repeat' apply And.intro) <;> first | with_reducible rfl | assumption)); simp only [Act.put, List.setIfInBounds_toArray, List.set_cons_zero, List.set_cons_succ])
    | (refine RelSeq.grow_ (c := ?_) rfl rfl ?_ ?_; rotate_left; (focus (intro x w' hw _; dsimp only; go_simp; (with_reducible refine (K5 w' (F w' hw).below).mono ?_); rintro e w3 ⟨rfl, hb2⟩; have hI := ext w' w3 hw hb2; go_simp; (repeat' apply And.intro) <;> first | with_reducible rfl | assumption)); simp only [Act.put, List.setIfInBounds_toArray, List.set_cons_zero, List.set_cons_succ])
    | (refine RelSeq.grow_ (c := ?_) rfl rfl ?_ ?_; rotate_left; (focus (intro x w' hw _; dsimp only; go_simp; (with_reducible refine (K6 w').mono ?_); rintro e w3 ⟨rfl, hb2⟩; have hI := ext w' w3 hw hb2; go_simp; (repeat' apply And.intro) <;> first | with_reducible rfl | assumption)); simp only [Act.put, List.setIfInBounds_toArray, List.set_cons_zero, List.set_cons_succ])
    | (refine RelSeq.grow_ (c := ?_) rfl rfl ?_ ?_; rotate_left; (focus (intro x w' hw _; dsimp only; go_simp; (with_reducible refine (K7 w' (F w' hw).below).mono ?_); rintro e w3 ⟨rfl, hb2⟩; have hI := ext w' w3 hw hb2; go_simp; (repeat' apply And.intro) <;> first | with_reducible rfl | assumption)); simp only [Act.put, List.setIfInBounds_toArray, List.set_cons_zero, List.set_cons_succ]))
  refine RelSeq.nil_ fun x w5 hw5 _ _ => ?_
  refine TailSeq.nil_ ?_
  have U5 := F w5 hw5
  clear F FC ext K5 K6 K7 U2 hw5 c2 c9
  have c0 := (U5.blk 0 rfl).cell (j := 0) (v := .string nm) rfl
  have c1 := (U5.blk 0 rfl).cell (j := 1) (v := .string me) rfl
  have c2 := (U5.blk 0 rfl).cell (j := 2) (v := .slice A1 ps1.length q1) rfl
  have c3 := (U5.blk 0 rfl).cell (j := 3) (v := .int .u8 k) rfl
  have c4 := (U5.blk 0 rfl).cell (j := 4) (v := .int .i64 lim) rfl
  have c5 := (U5.blk 0 rfl).cell (j := 5) (v := .int .u64 tk) rfl
  have c6 := (U5.blk 0 rfl).cell (j := 6) (v := .int .u64 fo) rfl
  have c7 := (U5.blk 0 rfl).cell (j := 7) (v := .int .u64 ke) rfl
  have c8 := (U5.blk 0 rfl).cell (j := 8) (v := .int .u8 pr) rfl
  have c9 := (U5.blk 0 rfl).cell (j := 9) (v := .slice A2 ps2.length q2) rfl
  obtain ⟨g1, hg1⟩ : ∃ g, g = w5.heap.size := ⟨_, rfl⟩
  have U6 := U5.alloc #[.string nm, .string me, .slice A1 ps1.length q1, .int .u8 k, .int .i64 lim, .int .u64 tk, .int .u64 fo, .int .u64 ke, .int .u8 pr, .slice A2 ps2.length q2] 30
  rw [← hg1] at U6
  have U7 := U6.say (chRow 30 10 (.slice (some ⟨g1, 0, none⟩) 1 1) 1 #[.string nm, .string me, .slice A1 ps1.length q1, .int .u8 k, .int .i64 lim, .int .u64 tk, .int .u64 fo, .int .u64 ke, .int .u8 pr, .slice A2 ps2.length q2].toList) (owns_one10 (U6.blk 0 rfl) rfl (Nat.zero_le _)) (fun b hb => by simpa [chRow, chBlk, Value.ownBlock] using hb)
  clear U5 U6
  obtain ⟨i0, hi, hz0, hz1, hz2⟩ := info_parts infoRuleZ
  go_wp2_with fail
  rw [← hg1]
  go_loopw [7, 45] (fun v i wr => ∃ (j : Nat) (ss : List RuV), j ≤ l.length ∧ i = .int .i64 j ∧ ss.length = j ∧ Upd [] w [chRow 30 10 v (ss.length + 1) (#[.string nm, .string me, .slice A1 ps1.length q1, .int .u8 k, .int .i64 lim, .int .u64 tk, .int .u64 fo, .int .u64 ke, .int .u8 pr, .slice A2 ps2.length q2].toList ++ ss.flatMap RuV.cells), chBlk w.heap.size #[.string nm, .string me, .slice A1 ps1.length q1, .int .u8 k, .int .i64 lim, .int .u64 tk, .int .u64 fo, .int .u64 ke, .int .u8 pr, .slice A2 ps2.length q2] 30] wr ∧ ∀ s ∈ ss, s.good wr w.heap.size) (fun _ i _ => l.length - (intOf i).toNat)
  case atStart => exact ⟨0, [], Nat.zero_le _, rfl, rfl, by simpa using U7, (fun s h => by cases h)⟩
  case round =>
    clear U7 hg1 c0 c1 c2 c3 c4 c5 c6 c7 c8 c9
    obtain ⟨j, ss, hj, rfl, hsj, U8, hg⟩ := hrel
    have hsl : ss.length ≤ 10 := by omega
    have HSJ := Lib.hid hsj
    clear hsj
    obtain ⟨Av, cv, rfl⟩ := owns_slice (U8.row 0 rfl)
    by_cases hlt : j < l.length
    · obtain ⟨s, hs⟩ : ∃ s, l[j]? = some s := ⟨_, List.getElem?_eq_getElem hlt⟩
      obtain ⟨b, oo, rfl, hat⟩ := HL4.out (by omega)
      have hso := HLO.out s (List.mem_of_getElem? hs)
      have e0 := fun i hi => flat_at sm10 10 (fun _ => rfl) l j s hs i hi
      have c0 := hat.nth0 U8.below (j * 10) (.int .u8 s.nm) (by have := e0 0 (by omega); simpa [sm10] using this)
      have c1 := hat.nth U8.below (j * 10) 1 (.int .u8 s.me) (by have := e0 1 (by omega); simpa [sm10] using this)
      have c2 := hat.nth U8.below (j * 10) 2 (.int .u8 s.fi) (by have := e0 2 (by omega); simpa [sm10] using this)
      have c3 := hat.nth U8.below (j * 10) 3 (.int .u8 s.wi) (by have := e0 3 (by omega); simpa [sm10] using this)
      have c4 := hat.nth U8.below (j * 10) 4 (.int .u8 s.k) (by have := e0 4 (by omega); simpa [sm10] using this)
      have c5 := hat.nth U8.below (j * 10) 5 (.int .i16 s.m) (by have := e0 5 (by omega); simpa [sm10] using this)
      have c6 := hat.nth U8.below (j * 10) 6 (.int .u8 s.t) (by have := e0 6 (by omega); simpa [sm10] using this)
      have c7 := hat.nth U8.below (j * 10) 7 (.int .u8 s.fo) (by have := e0 7 (by omega); simpa [sm10] using this)
      have c8 := hat.nth U8.below (j * 10) 8 (.int .u8 s.ke) (by have := e0 8 (by omega); simpa [sm10] using this)
      have c9 := hat.nth U8.below (j * 10) 9 (.int .u8 s.pr) (by have := e0 9 (by omega); simpa [sm10] using this)
      have KS := fun w' => smallRuleE s hso w'
      have i1 : (j : Int) < (l.length : Int) := by omega
      clear hat e0 hso hs
      go_wp2_with fail
      refine calls_genP fun W9 hW => ?_
      have U9 := (U8.alloc #[.int .u8 s.nm, .int .u8 s.me, .int .u8 s.fi, .int .u8 s.wi, .int .u8 s.k, .int .i16 s.m, .int .u8 s.t, .int .u8 s.fo, .int .u8 s.ke, .int .u8 s.pr] 46).same hW
      have hb9 : Below wr.heap.size wr W9 := by rw [hW]; exact (Below.refl _ _).alloc (Nat.le_refl _) _
      have hg9 : ∀ s ∈ ss, s.good W9 w.heap.size := fun s h => (hg s h).below hb9
      clear hW hb9 hg U8 c0 c1 c2 c3 c4 c5 c6 c7 c8 c9
      (with_reducible refine (KS W9).mono ?_)
      rintro e w10 ⟨nm', me', A1', q1', ps1', k', lim', tk', fo', ke', pr', A2', q2', ps2', rfl, hgd, hb10⟩
      have U10 := U9.grow hb10
      have hg10 : ∀ s ∈ ss, s.good w10 w.heap.size := fun s h => (hg9 s h).below hb10
      have hgd10 := hgd.mono U9.size
      have UA0 := U10.alloc #[.string nm', .string me', .slice A1' ps1'.length q1', .int .u8 k', .int .i64 lim', .int .u64 tk', .int .u64 fo', .int .u64 ke', .int .u8 pr', .slice A2' ps2'.length q2'] 30
      clear U9 hg9 hgd hb10 KS U10
      go_wp2_with (at_builtin; refine wpl_stop fun W hW => ?_)
      refine Stopped.mk ?_
      try rw [← hW]
      have UA := UA0.same hW
      have hba : Below w10.heap.size w10 W := by rw [hW]; exact (Below.refl _ _).alloc (Nat.le_refl _) _
      have hgA : ∀ q ∈ ss ++ [(RuV.mk nm' me' (.slice A1' ps1'.length q1') ps1' k' lim' tk' fo' ke' pr' (.slice A2' ps2'.length q2') ps2')], q.good W w.heap.size := fun q hq => by
        rcases List.mem_append.1 hq with h | h
        · exact (hg10 q h).below hba
        · rw [List.mem_singleton.1 h]; exact hgd10.below hba
      clear UA0 hW hba hg10 hgd10
      have hrow := UA.row (v := .slice Av (ss.length + 1) cv) 2 rfl
      refine wpl_append_rd rfl (.tmp 49) (.tmp 52) 41 rfl 0 30 i0 _ 10 128 Tryd.underlying41 hi hz0 hz1 hz2 rfl (by decide) _ (ss.length + 1) _ rfl hrow _ 1 _ rfl (rd_one (UA.blk 0 rfl) (n := 10) rfl) (by intro u hu; simp at hu; rcases hu with rfl | rfl | rfl | rfl | rfl | rfl | rfl | rfl | rfl | rfl <;> rfl) (by unfold maxLen; omega) (by omega) (Nat.zero_le _) fun v7 w7 hown7 hgr7 hv7 => ?_
      have UB := UA.app 2 rfl hown7 hgr7 hv7
      simp only [List.eraseIdx_cons_succ, List.eraseIdx_cons_zero] at UB
      have hgB : ∀ q ∈ ss ++ [(RuV.mk nm' me' (.slice A1' ps1'.length q1') ps1' k' lim' tk' fo' ke' pr' (.slice A2' ps2'.length q2') ps2')], q.good w7 w.heap.size := fun q hq => (hgA q hq).grown hrow hgr7
      obtain ⟨A7, c7, rfl⟩ := owns_slice hown7
      clear hown7 hgr7 hv7 UA hgA hrow
      go_wp2_with fail
      go_roundw
      case rel => exact ⟨j + 1, ss ++ [(RuV.mk nm' me' (.slice A1' ps1'.length q1') ps1' k' lim' tk' fo' ke' pr' (.slice A2' ps2'.length q2') ps2')], by omega, by go_num, by simp [HSJ.out], by rw [List.length_append, List.flatMap_append, ← List.append_assoc]; exact (UB.drop 1).drop 1, hgB⟩
      case measure => simp [intOf]; omega
    · obtain rfl : j = l.length := by omega
      clear hlt hj
      have U9 := U8.nilRow 30 10
      clear U8
      go_wp2_with fail
      go_loopw [10, 58] (fun v i wr => ∃ (j : Nat) (ls : List RuV), j ≤ n40 ∧ i = .int .i64 j ∧ ls.length = j ∧ Upd [] w [chRow 30 10 v ls.length (ls.flatMap RuV.cells), chRow 30 10 (.slice Av (ss.length + 1) cv) (ss.length + 1) (#[.string nm, .string me, .slice A1 ps1.length q1, .int .u8 k, .int .i64 lim, .int .u64 tk, .int .u64 fo, .int .u64 ke, .int .u8 pr, .slice A2 ps2.length q2].toList ++ ss.flatMap RuV.cells), chBlk w.heap.size #[.string nm, .string me, .slice A1 ps1.length q1, .int .u8 k, .int .i64 lim, .int .u64 tk, .int .u64 fo, .int .u64 ke, .int .u8 pr, .slice A2 ps2.length q2] 30] wr ∧ (∀ s ∈ ss, s.good wr w.heap.size) ∧ ∀ s ∈ ls, s.good wr w.heap.size) (fun _ i _ => n40 - (intOf i).toNat)
      case atStart => exact ⟨0, [], Nat.zero_le _, rfl, rfl, U9, hg, (fun s h => by cases h)⟩
      case round =>
        clear U9 hg
        obtain ⟨j, ls, hj, rfl, hlj, U10, hg, hgl⟩ := hrel
        obtain ⟨Al2, cl2, rfl⟩ := owns_slice (U10.row 0 rfl)
        have hll : ls.length ≤ 40 := by omega
        have HLJ := Lib.hid hlj
        clear hlj
        by_cases hlt : j < n40
        · have i1 : (j : Int) < (n40 : Int) := by omega
          have wj : IntKind.u64.wrap (j : Int) = (j : Int) := by rw [IntKind.wrap_u64]; omega
          have sj := decB_size j (by omega)
          have KI := fun w' => refItoa j w' (by omega)
          go_wp2_with fail
          (with_reducible refine (smallRuleZ _).mono ?_)
          rintro e w10 ⟨nm', me', A1', q1', ps1', k', lim', tk', fo', ke', pr', A2', q2', ps2', rfl, hgd, hb10⟩
          have U11 := U10.grow hb10
          have hg10 : ∀ s ∈ ss, s.good w10 w.heap.size := fun s h => (hg s h).below hb10
          have hgl10 : ∀ s ∈ ls, s.good w10 w.heap.size := fun s h => (hgl s h).below hb10
          have hgd10 := hgd.mono U10.size
          clear U10 hg hgl hgd hb10
          go_wp2_with fail
          refine calls_genP fun W12 hW => ?_
          have U12 := (U11.alloc #[.string nm', .string me', .slice A1' ps1'.length q1', .int .u8 k', .int .i64 lim', .int .u64 tk', .int .u64 fo', .int .u64 ke', .int .u8 pr', .slice A2' ps2'.length q2'] 30).same hW
          have hb12 : Below w10.heap.size w10 W12 := by rw [hW]; exact (Below.refl _ _).alloc (Nat.le_refl _) _
          (with_reducible refine (KI _).mono ?_)
          rintro e w13 ⟨rfl, hb13⟩
          have U13 := U12.grow hb13
          have hb := hb12.trans (hb13.mono hb12.size)
          have hg13 : ∀ s ∈ ss, s.good w13 w.heap.size := fun s h => (hg10 s h).below hb
          have hgl13 : ∀ s ∈ ls, s.good w13 w.heap.size := fun s h => (hgl10 s h).below hb
          have hgd13 := hgd10.below hb
          clear U11 U12 hW hb12 hb13 hb hg10 hgl10 hgd10 KI
          have c0 := (U13.blk 0 rfl).cell (j := 0) (v := .string nm') rfl
          have c1 := (U13.blk 0 rfl).cell (j := 1) (v := .string me') rfl
          have c2 := (U13.blk 0 rfl).cell (j := 2) (v := .slice A1' ps1'.length q1') rfl
          have c3 := (U13.blk 0 rfl).cell (j := 3) (v := .int .u8 k') rfl
          have c4 := (U13.blk 0 rfl).cell (j := 4) (v := .int .i64 lim') rfl
          have c5 := (U13.blk 0 rfl).cell (j := 5) (v := .int .u64 tk') rfl
          have c6 := (U13.blk 0 rfl).cell (j := 6) (v := .int .u64 fo') rfl
          have c7 := (U13.blk 0 rfl).cell (j := 7) (v := .int .u64 ke') rfl
          have c8 := (U13.blk 0 rfl).cell (j := 8) (v := .int .u8 pr') rfl
          have c9 := (U13.blk 0 rfl).cell (j := 9) (v := .slice A2' ps2'.length q2') rfl
          have z0 := (U13.blk 0 rfl).frozen 0
          have UA0 := (U13.put 0 rfl 0 (.string (⟨#[110]⟩ ++ decB j))).alloc #[.string (⟨#[110]⟩ ++ decB j), .string me', .slice A1' ps1'.length q1', .int .u8 k', .int .i64 lim', .int .u64 tk', .int .u64 fo', .int .u64 ke', .int .u8 pr', .slice A2' ps2'.length q2'] 30
          simp only [List.setIfInBounds_toArray, List.set_cons_zero, List.eraseIdx_cons_zero, List.cons_append, List.nil_append] at UA0
          rw [show (w13.setCell ⟨w10.heap.size, 0, none⟩ (.string (⟨#[110]⟩ ++ decB j))).heap.size = w13.heap.size by simp] at UA0
          have hput : But w10.heap.size w13 (w13.setCell ⟨w10.heap.size, 0, none⟩ (.string (⟨#[110]⟩ ++ decB j))) := But.set _ _ _ _
          have hB13 := U13.blk 0 rfl
          go_wp2_with (at_builtin; refine wpl_stop fun W hW => ?_)
          refine Stopped.mk ?_
          try rw [← hW]
          have UA := UA0.same hW
          have hgn : ∀ q : RuV, q.good w13 w.heap.size → q.good W w.heap.size := fun q h => by
            have h1 : q.good (w13.setCell ⟨w10.heap.size, 0, none⟩ (.string (⟨#[110]⟩ ++ decB j))) w.heap.size := ⟨h.nm, h.me, h.iz, h.wz, h.k, h.pr, owns_but h.io hB13 hput (by decide), owns_but h.wo hB13 hput (by decide)⟩
            rw [hW]
            exact h1.below ((Below.refl _ _).alloc (Nat.le_refl _) _)
          have hgA : ∀ q ∈ ss, q.good W w.heap.size := fun q h => hgn q (hg13 q h)
          have hgLA : ∀ q ∈ ls ++ [(RuV.mk (⟨#[110]⟩ ++ decB j) me' (.slice A1' ps1'.length q1') ps1' k' lim' tk' fo' ke' pr' (.slice A2' ps2'.length q2') ps2')], q.good W w.heap.size := fun q hq => by
            rcases List.mem_append.1 hq with h | h
            · exact hgn q (hgl13 q h)
            · rw [List.mem_singleton.1 h]
              have h2 := hgn _ hgd13
              exact ⟨by show ByteArray.size _ ≤ _; rw [ByteArray.size_append]; have : (⟨#[110]⟩ : ByteArray).size = 1 := rfl; unfold maxLen; omega, h2.me, h2.iz, h2.wz, h2.k, h2.pr, h2.io, h2.wo⟩
          clear UA0 hW hput hB13 hgn hg13 hgl13 hgd13 U13 z0 c0 c1 c2 c3 c4 c5 c6 c7 c8 c9
          have hrow := UA.row (v := .slice Al2 ls.length cl2) 2 rfl
          refine wpl_append_rd rfl (.tmp 68) (.tmp 70) 41 rfl 0 30 i0 _ 10 128 Tryd.underlying41 hi hz0 hz1 hz2 rfl (by decide) _ ls.length _ rfl hrow _ 1 _ rfl (rd_one (UA.blk 0 rfl) (n := 10) rfl) (by intro u hu; simp at hu; rcases hu with rfl | rfl | rfl | rfl | rfl | rfl | rfl | rfl | rfl | rfl <;> rfl) (by unfold maxLen; omega) (by omega) (Nat.zero_le _) fun v7 w7 hown7 hgr7 hv7 => ?_
          have UB := UA.app 2 rfl hown7 hgr7 hv7
          simp only [List.eraseIdx_cons_succ, List.eraseIdx_cons_zero] at UB
          have hgB : ∀ q ∈ ss, q.good w7 w.heap.size := fun q hq => (hgA q hq).grown hrow hgr7
          have hgLB : ∀ q ∈ ls ++ [(RuV.mk (⟨#[110]⟩ ++ decB j) me' (.slice A1' ps1'.length q1') ps1' k' lim' tk' fo' ke' pr' (.slice A2' ps2'.length q2') ps2')], q.good w7 w.heap.size := fun q hq => (hgLA q hq).grown hrow hgr7
          obtain ⟨A7, c7, rfl⟩ := owns_slice hown7
          clear hown7 hgr7 hv7 UA hgA hgLA hrow
          go_wp2_with fail
          go_roundw
          case rel => exact ⟨j + 1, ls ++ [(RuV.mk (⟨#[110]⟩ ++ decB j) me' (.slice A1' ps1'.length q1') ps1' k' lim' tk' fo' ke' pr' (.slice A2' ps2'.length q2') ps2')], by omega, by go_num, by simp [HLJ.out], by rw [List.length_append, List.flatMap_append]; exact (UB.drop 1).drop 1, hgB, hgLB⟩
          case measure => simp [intOf]; omega
        · obtain rfl : j = n40 := by omega
          clear hlt hj
          obtain ⟨gL, hgL⟩ : ∃ g, Av = some ⟨g, 0, none⟩ := by
            rcases (U10.row 1 rfl).2 with ⟨h1, _⟩ | ⟨g, cap, cur, h1, _⟩
            all_goals cases h1
            exact ⟨_, rfl⟩
          subst hgL
          have hRd0 : Rd wr 10 (.slice (some ⟨gL, 0, none⟩) (ss.length + 1) cv) (ss.length + 1) (#[.string nm, .string me, .slice A1 ps1.length q1, .int .u8 k, .int .i64 lim, .int .u64 tk, .int .u64 fo, .int .u64 ke, .int .u8 pr, .slice A2 ps2.length q2].toList ++ ss.flatMap RuV.cells) := rd_of_owns (U10.row 1 rfl)
          have hcv : ss.length + 1 ≤ cv := by obtain ⟨_, _, h0, _, h2, _⟩ := hRd0; cases h0; exact h2
          have sl1 : (1 : Int) ≤ (ss.length : Int) + 1 := by omega
          have sl2 : (1 : Int) ≤ (cv : Int) := by omega
          obtain ⟨j0, hj0, hz20, hz21, hz22⟩ := info_parts infoRefF
          clear hRd0
          by_cases hcc : cv = 1
          · skip
            have hss0 : ss = [] := List.eq_nil_of_length_eq_zero (by omega)
            subst hss0
            subst hcc
            obtain ⟨b3, hb3⟩ : ∃ g, g = wr.heap.size := ⟨_, rfl⟩
            have U20 := U10.alloc #[.slice (some ⟨gL, 0, none⟩) (1) 1, .slice (some ⟨gL, 0, none⟩) 0 0, .slice Al2 ls.length cl2] 41
            rw [← hb3] at U20
            go_wp2_with fail
            rw [← hb3]
            go_loopw [79] (fun i wr => ∃ j : Nat, j ≤ 3 ∧ i = .int .i64 j ∧ Upd [] w [chBlk b3 #[.slice (some ⟨gL, 0, none⟩) (1) 1, .slice (some ⟨gL, 0, none⟩) 0 0, .slice Al2 ls.length cl2] 41, chRow 30 10 (.slice Al2 ls.length cl2) ls.length (ls.flatMap RuV.cells), chRow 30 10 (.slice (some ⟨gL, 0, none⟩) 1 1) 1 (#[.string nm, .string me, .slice A1 ps1.length q1, .int .u8 k, .int .i64 lim, .int .u64 tk, .int .u64 fo, .int .u64 ke, .int .u8 pr, .slice A2 ps2.length q2].toList ++ ([] : List RuV).flatMap RuV.cells), chBlk w.heap.size #[.string nm, .string me, .slice A1 ps1.length q1, .int .u8 k, .int .i64 lim, .int .u64 tk, .int .u64 fo, .int .u64 ke, .int .u8 pr, .slice A2 ps2.length q2] 30] wr ∧ (∀ s ∈ ([] : List RuV), s.good wr w.heap.size) ∧ ∀ s ∈ ls, s.good wr w.heap.size) (fun i _ => 3 - (intOf i).toNat)
            case atStart => exact ⟨0, by omega, rfl, U20, fun s h => (hg s h).below ((Below.refl wr.heap.size wr).alloc (Nat.le_refl _) (.cells #[.slice (some ⟨gL, 0, none⟩) (1) 1, .slice (some ⟨gL, 0, none⟩) 0 0, .slice Al2 ls.length cl2] 41)), fun s h => (hgl s h).below ((Below.refl wr.heap.size wr).alloc (Nat.le_refl _) (.cells #[.slice (some ⟨gL, 0, none⟩) (1) 1, .slice (some ⟨gL, 0, none⟩) 0 0, .slice Al2 ls.length cl2] 41))⟩
            case round =>
              clear U20 hb3 U10 hg hgl
              obtain ⟨j, hj, rfl, U21, hg, hgl⟩ := hrel
              by_cases hlt : j < 3
              · have i1 : decide ((j : Int) < 3) = true := by simp; omega
                have i2 : (j : Int) < 3 := by omega
                obtain ⟨Ax, cx, rsx, hx100, hcell, hRd, hmem⟩ : ∃ (Ax : Option Addr) (cx : Nat) (rsx : List RuV), rsx.length ≤ 100 ∧ wr.cell? ⟨b3, j, none⟩ = some (.slice Ax rsx.length cx) ∧ (∀ W : World, (chRow 30 10 (.slice (some ⟨gL, 0, none⟩) 1 1) 1 (#[.string nm, .string me, .slice A1 ps1.length q1, .int .u8 k, .int .i64 lim, .int .u64 tk, .int .u64 fo, .int .u64 ke, .int .u8 pr, .slice A2 ps2.length q2].toList ++ ([] : List RuV).flatMap RuV.cells)).P W → (chRow 30 10 (.slice Al2 ls.length cl2) ls.length (ls.flatMap RuV.cells)).P W → Rd W 10 (.slice Ax rsx.length cx) rsx.length (rsx.flatMap RuV.cells)) ∧ (∀ r ∈ rsx, r = (RuV.mk nm me (.slice A1 ps1.length q1) ps1 k lim tk fo ke pr (.slice A2 ps2.length q2) ps2) ∨ r ∈ ([] : List RuV) ∨ r ∈ ls) := by
                  have hjc : j = 0 ∨ j = 1 ∨ j = 2 := by omega
                  rcases hjc with rfl | rfl | rfl
                  · refine ⟨some ⟨gL, 0, none⟩, 1, (RuV.mk nm me (.slice A1 ps1.length q1) ps1 k lim tk fo ke pr (.slice A2 ps2.length q2) ps2) :: ([] : List RuV), by simp <;> omega, (U21.blk 0 rfl).cell (j := 0) rfl, fun W h1 h2 => ?_, fun r hr => ?_⟩
                    · have h3 := rd_of_owns (show W.ownsRow 0 _ _ _ _ _ from h1)
                      exact h3
                    · rcases List.mem_cons.1 hr with h | h
                      · exact .inl h
                      · exact .inr (.inl h)
                  · refine ⟨some ⟨gL, 0, none⟩, 0, [], by simp, (U21.blk 0 rfl).cell (j := 1) rfl, fun W h1 h2 => ?_, fun r hr => by cases hr⟩
                    exact ⟨_, _, rfl, rfl, Nat.le_refl _, by decide, fun h => absurd h (by simp)⟩
                  · refine ⟨Al2, cl2, ls, by omega, (U21.blk 0 rfl).cell (j := 2) rfl, fun W h1 h2 => ?_, fun r hr => .inr (.inr hr)⟩
                    exact rd_of_owns (show W.ownsRow 0 _ _ _ _ _ from h2)
                have hxl : rsx.length ≤ 9223372036854775807 := by obtain ⟨_, _, h0, h1, h2, h3, _⟩ := hRd wr (U21.get 2 rfl) (U21.get 1 rfl); cases h0; unfold maxLen at h3; omega
                have HRd := Lib.hid hRd
                have HMem := Lib.hid hmem
                have U22 := U21.nilRow 38 10
                clear hRd hmem U21
                go_wp2_with fail
                go_loopw [15, 85] (fun v i wr => ∃ q : Nat, q ≤ rsx.length ∧ i = .int .i64 q ∧ Upd [] w [chRow 38 10 v q ((rsx.take q).flatMap RuV.ref), chBlk b3 #[.slice (some ⟨gL, 0, none⟩) (1) 1, .slice (some ⟨gL, 0, none⟩) 0 0, .slice Al2 ls.length cl2] 41, chRow 30 10 (.slice Al2 ls.length cl2) ls.length (ls.flatMap RuV.cells), chRow 30 10 (.slice (some ⟨gL, 0, none⟩) 1 1) 1 (#[.string nm, .string me, .slice A1 ps1.length q1, .int .u8 k, .int .i64 lim, .int .u64 tk, .int .u64 fo, .int .u64 ke, .int .u8 pr, .slice A2 ps2.length q2].toList ++ ([] : List RuV).flatMap RuV.cells), chBlk w.heap.size #[.string nm, .string me, .slice A1 ps1.length q1, .int .u8 k, .int .i64 lim, .int .u64 tk, .int .u64 fo, .int .u64 ke, .int .u8 pr, .slice A2 ps2.length q2] 30] wr ∧ (∀ s ∈ ([] : List RuV), s.good wr w.heap.size) ∧ ∀ s ∈ ls, s.good wr w.heap.size) (fun _ i _ => rsx.length - (intOf i).toNat)
                case atStart => exact ⟨0, Nat.zero_le _, rfl, U22, hg, hgl⟩
                case round =>
                  clear U22 hg hgl
                  obtain ⟨q, hq, rfl, U23, hg, hgl⟩ := hrel
                  obtain ⟨Am, cm, rfl⟩ := owns_slice (U23.row 0 rfl)
                  have hokx : ∀ r ∈ rsx, r.ok wr := fun r hr => by
                    rcases HMem.out r hr with h | h | h
                    · rw [h]; exact HRK.out.below U23.below
                    · exact (hg r h).ok
                    · exact (hgl r h).ok
                  have hRdx := HRd.out wr (U23.get 3 rfl) (U23.get 2 rfl)
                  by_cases hqlt : q < rsx.length
                  · obtain ⟨r, hs⟩ : ∃ s, rsx[q]? = some s := ⟨_, List.getElem?_eq_getElem hqlt⟩
                    obtain ⟨A9, c9, h0, x1, x2, x3, x4⟩ := hRdx
                    cases h0
                    obtain ⟨b, oo, rfl, hat⟩ := x4 (by omega)
                    have ok := hokx r (List.mem_of_getElem? hs)
                    have e0 := fun i hi => flat_at RuV.cells 10 cells_len rsx q r hs i hi
                    have htk := take_snocK hs
                    clear hs hokx x4
                    obtain ⟨nm', me', iv', ps1', k', lim', tk', fo', ke', pr', wv', ps2'⟩ := r
                    obtain ⟨o1, o2, o3, o4, o5, o6, o7, o8⟩ := ok
                    dsimp only at o1 o2 o3 o4 o5 o6 o7 o8
                    obtain ⟨A1', q1', rfl, _⟩ := o3
                    obtain ⟨A2', q2', rfl, _⟩ := o5
                    have y0 := hat (q * 10) (.string nm') (by have := e0 0 (by omega); simpa [RuV.cells] using this)
                    have y1 := hat (q * 10 + 1) (.string me') (by have := e0 1 (by omega); simpa [RuV.cells] using this)
                    have y2 := hat (q * 10 + 2) (.slice A1' ps1'.length q1') (by have := e0 2 (by omega); simpa [RuV.cells] using this)
                    have y3 := hat (q * 10 + 3) (.int .u8 k') (by have := e0 3 (by omega); simpa [RuV.cells] using this)
                    have y4 := hat (q * 10 + 4) (.int .i64 lim') (by have := e0 4 (by omega); simpa [RuV.cells] using this)
                    have y5 := hat (q * 10 + 5) (.int .u64 tk') (by have := e0 5 (by omega); simpa [RuV.cells] using this)
                    have y6 := hat (q * 10 + 6) (.int .u64 fo') (by have := e0 6 (by omega); simpa [RuV.cells] using this)
                    have y7 := hat (q * 10 + 7) (.int .u64 ke') (by have := e0 7 (by omega); simpa [RuV.cells] using this)
                    have y8 := hat (q * 10 + 8) (.int .u8 pr') (by have := e0 8 (by omega); simpa [RuV.cells] using this)
                    have y9 := hat (q * 10 + 9) (.slice A2' ps2'.length q2') (by have := e0 9 (by omega); simpa [RuV.cells] using this)
                    rw [← Nat.add_assoc] at y1
                    rw [← Nat.add_assoc] at y2
                    rw [← Nat.add_assoc] at y3
                    rw [← Nat.add_assoc] at y4
                    rw [← Nat.add_assoc] at y5
                    rw [← Nat.add_assoc] at y6
                    rw [← Nat.add_assoc] at y7
                    rw [← Nat.add_assoc] at y8
                    rw [← Nat.add_assoc] at y9
                    have K6 := fun w' => law15Ref nm' me' A1' ps1'.length q1' k' lim' tk' fo' ke' pr' A2' ps2'.length q2' w' o7
                    have k1 : (q : Int) < (rsx.length : Int) := by omega
                    have HTK := Lib.hid htk
                    clear e0 hat o1 o2 o4 o6 o7 o8 x1 htk
                    go_wp2_with fail
                    refine calls_genP fun W24 hW => ?_
                    have U24 := (U23.alloc #[.string nm', .string me', .slice A1' ps1'.length q1', .int .u8 k', .int .i64 lim', .int .u64 tk', .int .u64 fo', .int .u64 ke', .int .u8 pr', .slice A2' ps2'.length q2'] 30).same hW
                    have hb24 : Below wr.heap.size wr W24 := by rw [hW]; exact (Below.refl _ _).alloc (Nat.le_refl _) _
                    (with_reducible refine (K6 _).mono ?_)
                    rintro e w25 ⟨rfl, hb25⟩
                    have U25 := U24.grow hb25
                    have hb := hb24.trans (hb25.mono hb24.size)
                    have hg25 : ∀ s ∈ ([] : List RuV), s.good w25 w.heap.size := fun s h => (hg s h).below hb
                    have hgl25 : ∀ s ∈ ls, s.good w25 w.heap.size := fun s h => (hgl s h).below hb
                    have UA0 := U25.alloc #[.string nm', .string me', .slice A1' ps1'.length q1', .slice A2' ps2'.length q2', .int .i64 k', .int .i64 lim', .int .u64 tk', .int .u64 fo', .int .u64 ke', .int .u8 pr'] 38
                    clear U23 U24 hW hb24 hb25 hb hg hgl K6 U25 y0 y1 y2 y3 y4 y5 y6 y7 y8 y9
                    go_wp2_with (at_builtin; refine wpl_stop fun W hW => ?_)
                    refine Stopped.mk ?_
                    try rw [← hW]
                    have UA := UA0.same hW
                    have hba : Below w25.heap.size w25 W := by rw [hW]; exact (Below.refl _ _).alloc (Nat.le_refl _) _
                    have hgA : ∀ q ∈ ([] : List RuV), q.good W w.heap.size := fun q h => (hg25 q h).below hba
                    have hgLA : ∀ q ∈ ls, q.good W w.heap.size := fun q h => (hgl25 q h).below hba
                    clear UA0 hW hba hg25 hgl25
                    have hrow := UA.row (v := .slice Am q cm) 2 rfl
                    refine wpl_append_rd rfl (.tmp 89) (.tmp 92) 50 rfl 0 38 j0 _ 10 128 Tryd.underlying50 hj0 hz20 hz21 hz22 rfl (by decide) _ q _ rfl hrow _ 1 _ rfl (rd_one (UA.blk 0 rfl) (n := 10) rfl) (by intro u hu; simp at hu; rcases hu with rfl | rfl | rfl | rfl | rfl | rfl | rfl | rfl | rfl | rfl <;> rfl) (by unfold maxLen; omega) (by omega) (Nat.zero_le _) fun v7 w7 hown7 hgr7 hv7 => ?_
                    have UB := UA.app 2 rfl hown7 hgr7 hv7
                    simp only [List.eraseIdx_cons_succ, List.eraseIdx_cons_zero] at UB
                    have hgB : ∀ q ∈ ([] : List RuV), q.good w7 w.heap.size := fun q hq => good_grown2 (hgA q hq) hrow hgr7
                    have hgLB : ∀ q ∈ ls, q.good w7 w.heap.size := fun q hq => good_grown2 (hgLA q hq) hrow hgr7
                    obtain ⟨A7, c7, rfl⟩ := owns_slice hown7
                    clear hown7 hgr7 hv7 UA hgA hgLA hrow
                    go_wp2_with fail
                    go_roundw
                    case rel => exact ⟨q + 1, by omega, by go_num, by rw [HTK.out, List.flatMap_append]; exact (UB.drop 1).drop 1, hgB, hgLB⟩
                    case measure => simp [intOf]; omega
                  · obtain rfl : q = rsx.length := by omega
                    rw [List.take_length] at U23
                    have KC := ruList _ rsx wr hRdx hokx
                    have KR := fun w9 (h : Below wr.heap.size wr w9) => refRules (.slice Am rsx.length cm) rsx w9 (rd_of_owns ((U23.grow h).row 0 rfl)) (fun r hr => (hokx r hr).below h)
                    obtain ⟨ee, hee⟩ : ∃ x, x = chkRs rsx := ⟨_, rfl⟩
                    rw [← hee] at KC KR
                    clear hee hokx hRdx
                    go_wp2_with fail
                    (with_reducible refine KC.mono ?_)
                    rintro e w30 ⟨rfl, hb30⟩
                    have KR2 := KR w30 hb30
                    have U30 := (U23.drop 0).grow hb30
                    have hg30 : ∀ s ∈ ([] : List RuV), s.good w30 w.heap.size := fun s h => (hg s h).below hb30
                    have hgl30 : ∀ s ∈ ls, s.good w30 w.heap.size := fun s h => (hgl s h).below hb30
                    clear KC KR hb30 U23 hg hgl
                    go_wp2_with fail
                    (with_reducible refine KR2.mono ?_)
                    rintro e w31 ⟨rfl, hb31⟩
                    have U31 := U30.grow hb31
                    have hg31 : ∀ s ∈ ([] : List RuV), s.good w31 w.heap.size := fun s h => (hg30 s h).below hb31
                    have hgl31 : ∀ s ∈ ls, s.good w31 w.heap.size := fun s h => (hgl30 s h).below hb31
                    clear KR2 hb31 U30 hg30 hgl30
                    go_wp2_with fail
                    go_roundw
                    case rel => exact ⟨j + 1, by omega, by go_num, U31, hg31, hgl31⟩
                    case measure => simp [intOf]; omega
              · obtain rfl : j = 3 := by omega
                go_wp2_with fail
                go_ret
                exact ⟨rfl, U21.below⟩
          · have hcc2 : ¬ 1 = cv := fun h => hcc h.symm
            obtain ⟨b3, hb3⟩ : ∃ g, g = wr.heap.size := ⟨_, rfl⟩
            have U20 := U10.alloc #[.slice (some ⟨gL, 0, none⟩) (ss.length + 1) cv, .slice (some ⟨gL, 10, none⟩) ss.length (cv - 1), .slice Al2 ls.length cl2] 41
            rw [← hb3] at U20
            go_wp2_with fail
            rw [← hb3]
            go_loopw [79] (fun i wr => ∃ j : Nat, j ≤ 3 ∧ i = .int .i64 j ∧ Upd [] w [chBlk b3 #[.slice (some ⟨gL, 0, none⟩) (ss.length + 1) cv, .slice (some ⟨gL, 10, none⟩) ss.length (cv - 1), .slice Al2 ls.length cl2] 41, chRow 30 10 (.slice Al2 ls.length cl2) ls.length (ls.flatMap RuV.cells), chRow 30 10 (.slice (some ⟨gL, 0, none⟩) (ss.length + 1) cv) (ss.length + 1) (#[.string nm, .string me, .slice A1 ps1.length q1, .int .u8 k, .int .i64 lim, .int .u64 tk, .int .u64 fo, .int .u64 ke, .int .u8 pr, .slice A2 ps2.length q2].toList ++ ss.flatMap RuV.cells), chBlk w.heap.size #[.string nm, .string me, .slice A1 ps1.length q1, .int .u8 k, .int .i64 lim, .int .u64 tk, .int .u64 fo, .int .u64 ke, .int .u8 pr, .slice A2 ps2.length q2] 30] wr ∧ (∀ s ∈ ss, s.good wr w.heap.size) ∧ ∀ s ∈ ls, s.good wr w.heap.size) (fun i _ => 3 - (intOf i).toNat)
            case atStart => exact ⟨0, by omega, rfl, U20, fun s h => (hg s h).below ((Below.refl wr.heap.size wr).alloc (Nat.le_refl _) (.cells #[.slice (some ⟨gL, 0, none⟩) (ss.length + 1) cv, .slice (some ⟨gL, 10, none⟩) ss.length (cv - 1), .slice Al2 ls.length cl2] 41)), fun s h => (hgl s h).below ((Below.refl wr.heap.size wr).alloc (Nat.le_refl _) (.cells #[.slice (some ⟨gL, 0, none⟩) (ss.length + 1) cv, .slice (some ⟨gL, 10, none⟩) ss.length (cv - 1), .slice Al2 ls.length cl2] 41))⟩
            case round =>
              clear U20 hb3 U10 hg hgl
              obtain ⟨j, hj, rfl, U21, hg, hgl⟩ := hrel
              by_cases hlt : j < 3
              · have i1 : decide ((j : Int) < 3) = true := by simp; omega
                have i2 : (j : Int) < 3 := by omega
                obtain ⟨Ax, cx, rsx, hx100, hcell, hRd, hmem⟩ : ∃ (Ax : Option Addr) (cx : Nat) (rsx : List RuV), rsx.length ≤ 100 ∧ wr.cell? ⟨b3, j, none⟩ = some (.slice Ax rsx.length cx) ∧ (∀ W : World, (chRow 30 10 (.slice (some ⟨gL, 0, none⟩) (ss.length + 1) cv) (ss.length + 1) (#[.string nm, .string me, .slice A1 ps1.length q1, .int .u8 k, .int .i64 lim, .int .u64 tk, .int .u64 fo, .int .u64 ke, .int .u8 pr, .slice A2 ps2.length q2].toList ++ ss.flatMap RuV.cells)).P W → (chRow 30 10 (.slice Al2 ls.length cl2) ls.length (ls.flatMap RuV.cells)).P W → Rd W 10 (.slice Ax rsx.length cx) rsx.length (rsx.flatMap RuV.cells)) ∧ (∀ r ∈ rsx, r = (RuV.mk nm me (.slice A1 ps1.length q1) ps1 k lim tk fo ke pr (.slice A2 ps2.length q2) ps2) ∨ r ∈ ss ∨ r ∈ ls) := by
                  have hjc : j = 0 ∨ j = 1 ∨ j = 2 := by omega
                  rcases hjc with rfl | rfl | rfl
                  · refine ⟨some ⟨gL, 0, none⟩, cv, (RuV.mk nm me (.slice A1 ps1.length q1) ps1 k lim tk fo ke pr (.slice A2 ps2.length q2) ps2) :: ss, by simp <;> omega, (U21.blk 0 rfl).cell (j := 0) rfl, fun W h1 h2 => ?_, fun r hr => ?_⟩
                    · have h3 := rd_of_owns (show W.ownsRow 0 _ _ _ _ _ from h1)
                      exact h3
                    · rcases List.mem_cons.1 hr with h | h
                      · exact .inl h
                      · exact .inr (.inl h)
                  · refine ⟨some ⟨gL, 10, none⟩, cv - 1, ss, by omega, (U21.blk 0 rfl).cell (j := 1) rfl, fun W h1 h2 => ?_, fun r hr => .inr (.inl hr)⟩
                    have h3 := Rd.cut10 (m := 1) (rd_of_owns (show W.ownsRow 0 _ _ _ _ _ from h1)) (by omega)
                    rw [if_neg hcc] at h3
                    exact h3
                  · refine ⟨Al2, cl2, ls, by omega, (U21.blk 0 rfl).cell (j := 2) rfl, fun W h1 h2 => ?_, fun r hr => .inr (.inr hr)⟩
                    exact rd_of_owns (show W.ownsRow 0 _ _ _ _ _ from h2)
                have hxl : rsx.length ≤ 9223372036854775807 := by obtain ⟨_, _, h0, h1, h2, h3, _⟩ := hRd wr (U21.get 2 rfl) (U21.get 1 rfl); cases h0; unfold maxLen at h3; omega
                have HRd := Lib.hid hRd
                have HMem := Lib.hid hmem
                have U22 := U21.nilRow 38 10
                clear hRd hmem U21
                go_wp2_with fail
                go_loopw [15, 85] (fun v i wr => ∃ q : Nat, q ≤ rsx.length ∧ i = .int .i64 q ∧ Upd [] w [chRow 38 10 v q ((rsx.take q).flatMap RuV.ref), chBlk b3 #[.slice (some ⟨gL, 0, none⟩) (ss.length + 1) cv, .slice (some ⟨gL, 10, none⟩) ss.length (cv - 1), .slice Al2 ls.length cl2] 41, chRow 30 10 (.slice Al2 ls.length cl2) ls.length (ls.flatMap RuV.cells), chRow 30 10 (.slice (some ⟨gL, 0, none⟩) (ss.length + 1) cv) (ss.length + 1) (#[.string nm, .string me, .slice A1 ps1.length q1, .int .u8 k, .int .i64 lim, .int .u64 tk, .int .u64 fo, .int .u64 ke, .int .u8 pr, .slice A2 ps2.length q2].toList ++ ss.flatMap RuV.cells), chBlk w.heap.size #[.string nm, .string me, .slice A1 ps1.length q1, .int .u8 k, .int .i64 lim, .int .u64 tk, .int .u64 fo, .int .u64 ke, .int .u8 pr, .slice A2 ps2.length q2] 30] wr ∧ (∀ s ∈ ss, s.good wr w.heap.size) ∧ ∀ s ∈ ls, s.good wr w.heap.size) (fun _ i _ => rsx.length - (intOf i).toNat)
                case atStart => exact ⟨0, Nat.zero_le _, rfl, U22, hg, hgl⟩
                case round =>
                  clear U22 hg hgl
                  obtain ⟨q, hq, rfl, U23, hg, hgl⟩ := hrel
                  obtain ⟨Am, cm, rfl⟩ := owns_slice (U23.row 0 rfl)
                  have hokx : ∀ r ∈ rsx, r.ok wr := fun r hr => by
                    rcases HMem.out r hr with h | h | h
                    · rw [h]; exact HRK.out.below U23.below
                    · exact (hg r h).ok
                    · exact (hgl r h).ok
                  have hRdx := HRd.out wr (U23.get 3 rfl) (U23.get 2 rfl)
                  by_cases hqlt : q < rsx.length
                  · obtain ⟨r, hs⟩ : ∃ s, rsx[q]? = some s := ⟨_, List.getElem?_eq_getElem hqlt⟩
                    obtain ⟨A9, c9, h0, x1, x2, x3, x4⟩ := hRdx
                    cases h0
                    obtain ⟨b, oo, rfl, hat⟩ := x4 (by omega)
                    have ok := hokx r (List.mem_of_getElem? hs)
                    have e0 := fun i hi => flat_at RuV.cells 10 cells_len rsx q r hs i hi
                    have htk := take_snocK hs
                    clear hs hokx x4
                    obtain ⟨nm', me', iv', ps1', k', lim', tk', fo', ke', pr', wv', ps2'⟩ := r
                    obtain ⟨o1, o2, o3, o4, o5, o6, o7, o8⟩ := ok
                    dsimp only at o1 o2 o3 o4 o5 o6 o7 o8
                    obtain ⟨A1', q1', rfl, _⟩ := o3
                    obtain ⟨A2', q2', rfl, _⟩ := o5
                    have y0 := hat (q * 10) (.string nm') (by have := e0 0 (by omega); simpa [RuV.cells] using this)
                    have y1 := hat (q * 10 + 1) (.string me') (by have := e0 1 (by omega); simpa [RuV.cells] using this)
                    have y2 := hat (q * 10 + 2) (.slice A1' ps1'.length q1') (by have := e0 2 (by omega); simpa [RuV.cells] using this)
                    have y3 := hat (q * 10 + 3) (.int .u8 k') (by have := e0 3 (by omega); simpa [RuV.cells] using this)
                    have y4 := hat (q * 10 + 4) (.int .i64 lim') (by have := e0 4 (by omega); simpa [RuV.cells] using this)
                    have y5 := hat (q * 10 + 5) (.int .u64 tk') (by have := e0 5 (by omega); simpa [RuV.cells] using this)
                    have y6 := hat (q * 10 + 6) (.int .u64 fo') (by have := e0 6 (by omega); simpa [RuV.cells] using this)
                    have y7 := hat (q * 10 + 7) (.int .u64 ke') (by have := e0 7 (by omega); simpa [RuV.cells] using this)
                    have y8 := hat (q * 10 + 8) (.int .u8 pr') (by have := e0 8 (by omega); simpa [RuV.cells] using this)
                    have y9 := hat (q * 10 + 9) (.slice A2' ps2'.length q2') (by have := e0 9 (by omega); simpa [RuV.cells] using this)
                    rw [← Nat.add_assoc] at y1
                    rw [← Nat.add_assoc] at y2
                    rw [← Nat.add_assoc] at y3
                    rw [← Nat.add_assoc] at y4
                    rw [← Nat.add_assoc] at y5
                    rw [← Nat.add_assoc] at y6
                    rw [← Nat.add_assoc] at y7
                    rw [← Nat.add_assoc] at y8
                    rw [← Nat.add_assoc] at y9
                    have K6 := fun w' => law15Ref nm' me' A1' ps1'.length q1' k' lim' tk' fo' ke' pr' A2' ps2'.length q2' w' o7
                    have k1 : (q : Int) < (rsx.length : Int) := by omega
                    have HTK := Lib.hid htk
                    clear e0 hat o1 o2 o4 o6 o7 o8 x1 htk
                    go_wp2_with fail
                    refine calls_genP fun W24 hW => ?_
                    have U24 := (U23.alloc #[.string nm', .string me', .slice A1' ps1'.length q1', .int .u8 k', .int .i64 lim', .int .u64 tk', .int .u64 fo', .int .u64 ke', .int .u8 pr', .slice A2' ps2'.length q2'] 30).same hW
                    have hb24 : Below wr.heap.size wr W24 := by rw [hW]; exact (Below.refl _ _).alloc (Nat.le_refl _) _
                    (with_reducible refine (K6 _).mono ?_)
                    rintro e w25 ⟨rfl, hb25⟩
                    have U25 := U24.grow hb25
                    have hb := hb24.trans (hb25.mono hb24.size)
                    have hg25 : ∀ s ∈ ss, s.good w25 w.heap.size := fun s h => (hg s h).below hb
                    have hgl25 : ∀ s ∈ ls, s.good w25 w.heap.size := fun s h => (hgl s h).below hb
                    have UA0 := U25.alloc #[.string nm', .string me', .slice A1' ps1'.length q1', .slice A2' ps2'.length q2', .int .i64 k', .int .i64 lim', .int .u64 tk', .int .u64 fo', .int .u64 ke', .int .u8 pr'] 38
                    clear U23 U24 hW hb24 hb25 hb hg hgl K6 U25 y0 y1 y2 y3 y4 y5 y6 y7 y8 y9
                    go_wp2_with (at_builtin; refine wpl_stop fun W hW => ?_)
                    refine Stopped.mk ?_
                    try rw [← hW]
                    have UA := UA0.same hW
                    have hba : Below w25.heap.size w25 W := by rw [hW]; exact (Below.refl _ _).alloc (Nat.le_refl _) _
                    have hgA : ∀ q ∈ ss, q.good W w.heap.size := fun q h => (hg25 q h).below hba
                    have hgLA : ∀ q ∈ ls, q.good W w.heap.size := fun q h => (hgl25 q h).below hba
                    clear UA0 hW hba hg25 hgl25
                    have hrow := UA.row (v := .slice Am q cm) 2 rfl
                    refine wpl_append_rd rfl (.tmp 89) (.tmp 92) 50 rfl 0 38 j0 _ 10 128 Tryd.underlying50 hj0 hz20 hz21 hz22 rfl (by decide) _ q _ rfl hrow _ 1 _ rfl (rd_one (UA.blk 0 rfl) (n := 10) rfl) (by intro u hu; simp at hu; rcases hu with rfl | rfl | rfl | rfl | rfl | rfl | rfl | rfl | rfl | rfl <;> rfl) (by unfold maxLen; omega) (by omega) (Nat.zero_le _) fun v7 w7 hown7 hgr7 hv7 => ?_
                    have UB := UA.app 2 rfl hown7 hgr7 hv7
                    simp only [List.eraseIdx_cons_succ, List.eraseIdx_cons_zero] at UB
                    have hgB : ∀ q ∈ ss, q.good w7 w.heap.size := fun q hq => good_grown2 (hgA q hq) hrow hgr7
                    have hgLB : ∀ q ∈ ls, q.good w7 w.heap.size := fun q hq => good_grown2 (hgLA q hq) hrow hgr7
                    obtain ⟨A7, c7, rfl⟩ := owns_slice hown7
                    clear hown7 hgr7 hv7 UA hgA hgLA hrow
                    go_wp2_with fail
                    go_roundw
                    case rel => exact ⟨q + 1, by omega, by go_num, by rw [HTK.out, List.flatMap_append]; exact (UB.drop 1).drop 1, hgB, hgLB⟩
                    case measure => simp [intOf]; omega
                  · obtain rfl : q = rsx.length := by omega
                    rw [List.take_length] at U23
                    have KC := ruList _ rsx wr hRdx hokx
                    have KR := fun w9 (h : Below wr.heap.size wr w9) => refRules (.slice Am rsx.length cm) rsx w9 (rd_of_owns ((U23.grow h).row 0 rfl)) (fun r hr => (hokx r hr).below h)
                    obtain ⟨ee, hee⟩ : ∃ x, x = chkRs rsx := ⟨_, rfl⟩
                    rw [← hee] at KC KR
                    clear hee hokx hRdx
                    go_wp2_with fail
                    (with_reducible refine KC.mono ?_)
                    rintro e w30 ⟨rfl, hb30⟩
                    have KR2 := KR w30 hb30
                    have U30 := (U23.drop 0).grow hb30
                    have hg30 : ∀ s ∈ ss, s.good w30 w.heap.size := fun s h => (hg s h).below hb30
                    have hgl30 : ∀ s ∈ ls, s.good w30 w.heap.size := fun s h => (hgl s h).below hb30
                    clear KC KR hb30 U23 hg hgl
                    go_wp2_with fail
                    (with_reducible refine KR2.mono ?_)
                    rintro e w31 ⟨rfl, hb31⟩
                    have U31 := U30.grow hb31
                    have hg31 : ∀ s ∈ ss, s.good w31 w.heap.size := fun s h => (hg30 s h).below hb31
                    have hgl31 : ∀ s ∈ ls, s.good w31 w.heap.size := fun s h => (hgl30 s h).below hb31
                    clear KR2 hb31 U30 hg30 hgl30
                    go_wp2_with fail
                    go_roundw
                    case rel => exact ⟨j + 1, by omega, by go_num, U31, hg31, hgl31⟩
                    case measure => simp [intOf]; omega
              · obtain rfl : j = 3 := by omega
                go_wp2_with fail
                go_ret
                exact ⟨rfl, U21.below⟩
end Go.Proofs.YtebnbbbiobaneaaDoor
