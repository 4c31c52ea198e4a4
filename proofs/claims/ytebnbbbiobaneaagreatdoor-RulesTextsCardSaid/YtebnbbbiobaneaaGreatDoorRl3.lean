/-
  The reference's Read: a text as rules.
-/
import Derived.Test.YtebnbbbiobaneaaGreatDoorRl2
import Derived.Test.YtebnbbbiobaneaaGreatDoorRuH
import Derived.Test.YtebnbbbiobaneaaGreatDoorRuZ
namespace Go.Proofs.YtebnbbbiobaneaaGreatDoor
open Go.RowKit
set_option maxRecDepth 100000

theorem infoRule13 : (Tryz.prog.info? 77).map (fun i => (i.zero, i.size, i.bytes)) = some (some (.agg #[.string ⟨#[]⟩, .string ⟨#[]⟩, .slice none 0 0, .slice none 0 0, .int .i64 0, .int .i64 0, .int .u64 0, .int .u64 0, .int .u64 0, .int .u8 0]), 10, 128) := by kernel_rfl
theorem RuV.good.grown13 {r : RuV} {w w' : World} {base base' n : Nat} {v : Value} {xs : List Value} (h : r.good w base) (hv : w.ownsRow base' 77 10 v n xs) (hg : w.grownBy w' v.ownBlock) : r.good w' base :=
  ⟨h.nm, h.me, h.iz, h.wz, h.k, h.pr, owns_grownZ h.io hv (by decide) hg, owns_grownZ h.wo hv (by decide) hg⟩
theorem strip_lineR (ws : List ByteArray) (q : RuV) (h : q = lineR ws q.iv q.wv) : q.strip = lineS ws := by
  rw [h]
  exact strip_line ws _ _
set_option maxHeartbeats 16000000 in
theorem refRead (s : ByteArray) (w : World) (hs : s.size ≤ 1048576) :
    Calls Tryz.prog 36 #[.string s] w fun e w' => ∃ (A : Option Addr) (c : Nat) (rs : List RuV), e = .returned (.tuple #[.slice A rs.length c, .int .i64 ((parseE s).2 : Nat), .int .i64 ((parseE s).1 : Nat)]) ∧ ((parseE s).2 = 0 → rs.map RuV.strip = parseR s) ∧ w'.ownsRow w.heap.size 77 10 (.slice A rs.length c) rs.length (rs.flatMap RuV.ref) ∧ (∀ r ∈ rs, r.good w' w.heap.size) ∧ Below w.heap.size w w' := by
  by_cases h6 : 65536 < s.size
  · have d : decide ((65536 : Int) < (s.size : Int)) = true := decide_eq_true (by omega)
    have E := Lib.hid (show parseE s = (0, 4) by unfold parseE; rw [if_pos h6])
    clear h6
    go_enter Tryz.func36, Tryz.ntmps36
    go_wp2_with fail
    go_ret3
    exact ⟨none, 0, [], by rw [E.out]; rfl, (fun h => by rw [E.out] at h; cases h), World.ownsRow_nil _ _ _ _, (fun r hr => by cases hr), Below.refl _ _⟩
  have d : decide ((65536 : Int) < (s.size : Int)) = false := decide_eq_false (by omega)
  have E := Lib.hid (show parseE s = if (readG 0 (nlL s)).2 ≠ 0 then readG 0 (nlL s) else (0, chkRs ((readL (nlL s)).map lineS)) by unfold parseE; rw [if_neg h6])
  have hcl := countN_le s
  have hlen := nlL_length s
  have K0 := fun w' => refSplit s 10 w' hs
  rw [show (((10 : UInt8).toNat : Nat) : Int) = 10 from rfl, ← nlL_BA] at K0
  obtain ⟨i0, hi, hz0, hz1, hz2⟩ := info_parts infoRule13
  go_enter Tryz.func36, Tryz.ntmps36
  go_wp2_with fail
  (with_reducible refine (K0 _).mono ?_)
  rintro e w1 ⟨vl, rfl, hol, hb1⟩
  have U2 := (Upd.nil [] w1).nilRow 77 10
  have hRl := rd_of_owns hol
  obtain ⟨Al, cl, rfl⟩ := owns_slice hol
  obtain ⟨bl, ol, rfl, hatl⟩ := Rd.pos hRl (by omega)
  have HAT := Lib.hid hatl
  clear K0 hol hRl hatl
  go_wp2_with fail
  go_loopw [5, 7] (fun v i wr => ∃ (j : Nat) (rs : List RuV), j ≤ (nlL s).length ∧ i = .int .i64 j ∧ readG 0 (nlL s) = readG j ((nlL s).drop j) ∧ rs.map RuV.strip = (readL ((nlL s).take j)).map lineS ∧ Upd [] w1 [chRow 77 10 v rs.length (rs.flatMap RuV.ref)] wr ∧ ∀ r ∈ rs, r.good wr w.heap.size) (fun _ i _ => (nlL s).length - (intOf i).toNat)
  case atStart => exact ⟨0, [], Nat.zero_le _, rfl, rfl, rfl, U2, (fun r hr => by cases hr)⟩
  case round =>
    obtain ⟨j, rs, hj, rfl, hG, hL, U3, hg⟩ := hrel
    obtain ⟨Av, cv, rfl⟩ := owns_slice (U3.row 0 rfl)
    by_cases hlt : j < (nlL s).length
    · obtain ⟨x, hx⟩ : ∃ x, (nlL s)[j]? = some x := ⟨_, List.getElem?_eq_getElem hlt⟩
      have hxs := nlL_small (List.mem_of_getElem? hx)
      rw [drop_consK hx] at hG
      have htk := take_snocK hx
      have hrl : rs.length ≤ j := by
        have h1 := congrArg List.length hL
        rw [List.length_map, List.length_map] at h1
        have h2 := readL_len ((nlL s).take j)
        rw [List.length_take] at h2
        omega
      have c0 := HAT.out.nth0 U3.below j (.string x) (by simp [hx])
      have i1 : (j : Int) < ((nlL s).length : Int) := by omega
      have KW := refWords x wr (by omega)
      have wj : IntKind.i64.wrap ((j : Int) + 1) = ((j + 1 : Nat) : Int) := by simp only [IntKind.wrap, IntKind.bits, IntKind.signed]; simp; omega
      clear hx
      go_wp2_with fail
      (with_reducible refine KW.mono ?_)
      rintro e w5 ⟨vw, rfl, how, hb5⟩
      have U5 := U3.grow hb5
      have hg5 : ∀ r ∈ rs, r.good w5 w.heap.size := fun r hr => (hg r hr).below hb5
      have hwl := wordsL_length x
      have hws := wordsL_small x
      have hstep : readG j (x :: (nlL s).drop (j + 1)) = (match wordsL x with | [] => readG (j + 1) ((nlL s).drop (j + 1)) | f :: t => if f = kRule then (if lineE t = 0 then readG (j + 1) ((nlL s).drop (j + 1)) else (j + 1, lineE t)) else (j + 1, 2)) := rfl
      have hstep2 : readL [x] = (match wordsL x with | [] => [] | _ :: t => [t]) := by
        simp only [readL]
        cases wordsL x <;> rfl
      rw [hstep] at hG
      have hL2 : (readL ((nlL s).take (j + 1))).map lineS = rs.map RuV.strip ++ (readL [x]).map lineS := by rw [htk, readL_append, List.map_append, hL]
      rw [hstep2] at hL2
      obtain ⟨Aw, cw, rfl⟩ := owns_slice how
      have hRw := rd_of_owns how
      obtain ⟨W0, hW0⟩ : ∃ W0, W0 = wordsL x := ⟨_, rfl⟩
      rw [← hW0] at hwl hws hG hL2 hRw ⊢
      clear KW hb5 U3 hg hstep hstep2 htk hW0 hL how c0
      cases W0 with
      | nil =>
        dsimp only at hG hL2
        rw [List.map_nil, List.append_nil] at hL2
        have HH := Lib.hid (And.intro hG hL2)
        clear hG hL2 hRw
        go_wp2_with fail
        go_roundw
        case rel => exact ⟨j + 1, rs, by omega, by go_num, HH.out.1, HH.out.2.symm, U5, hg5⟩
        case measure => simp [intOf]; omega
      | cons f t =>
        dsimp only at hG hL2
        obtain ⟨bw, ow, rfl, hatw⟩ := Rd.pos hRw (by simp)
        have hcap := Rd.cap hRw
        simp only [List.length_cons] at hcap
        have c0 := hatw 0 (.string f) rfl
        rw [Nat.add_zero] at c0
        have d0 : (((t.length : Int) + 1) == 0) = false := by simp; omega
        have d1 : (0 : Int) < (t.length : Int) + 1 := by omega
        have d2 : (1 : Int) ≤ (t.length : Int) + 1 := by omega
        by_cases hf : f = kRule
        · have hE1 : (f == ⟨#[114, 117, 108, 101]⟩) = true := by rw [beqS]; simpa [kRule] using hf
          have hE2 : (f.toList == (⟨#[114, 117, 108, 101]⟩ : ByteArray).toList) = true := by rw [eqS_eq]; simpa [kRule] using hf
          have hE3 : (f.toList == [114, 117, 108, 101]) = true := by rw [← kRule_list]; exact hE2
          rw [if_pos hf] at hG
          clear hf
          have hzt : ∀ q ∈ t, q.size ≤ maxLen := fun q hq => by
            have h1 := hws q (.tail _ hq)
            unfold maxLen
            omega
          have hcut := Rd.cut1 (k := 1) hRw (by simp)
          rw [show (wsC (f :: t)).drop 1 = wsC t from rfl, show (f :: t).length - 1 = t.length from rfl] at hcut
          have KL := refLine _ t w5 hcut hzt
          have HLS := Lib.hid (fun q => strip_lineR t q)
          clear hcut hzt hatw hRw
          obtain ⟨le, hle⟩ : ∃ e, e = lineE t := ⟨_, rfl⟩
          rw [← hle] at KL hG
          clear hle
          have key : ∀ Q : Prop, (cw = 1 → Q) → (¬ cw = 1 → Q) → Q := fun Q a b => if h : cw = 1 then a h else b h
          refine key _ (fun hc1 => ?_) (fun hc1 => ?_)
          all_goals
            first
            | (rw [if_pos hc1] at KL; subst hc1; obtain rfl : t = [] := List.eq_nil_of_length_eq_zero (by omega); rw [List.length_nil, Nat.sub_self] at KL)
            | rw [if_neg hc1] at KL
            clear key
            go_wp2_with fail
            (with_reducible refine KL.mono ?_)
            rintro e w6 ⟨r, rfl, hrq, hgd, hb6⟩
            have U6 := U5.grow hb6
            have hg6 : ∀ r ∈ rs, r.good w6 w.heap.size := fun r hr => (hg5 r hr).below hb6
            have hgd6 := hgd.mono (Nat.le_trans hb1.size U5.below.size)
            have HS := fun h => HLS.out r (hrq h)
            clear hgd HLS KL hb6 U5 hg5 hE1 hE2 hE3 hrq
            obtain ⟨nm, me, iv, ps1, k, lim, tk, fo, ke, pr, wv, ps2⟩ := r
            obtain ⟨A1, q1, e1⟩ := owns_slice hgd6.io
            obtain ⟨A2, q2, e2⟩ := owns_slice hgd6.wo
            dsimp only at e1 e2
            subst e1 e2
            simp only [RuV.ref]
            by_cases hle0 : le = 0
            · subst hle0
              rw [if_pos rfl] at hG
              have HH := Lib.hid (And.intro hG (And.intro hL2 (HS rfl)))
              clear hG hL2 HS
              have UA0 := (U6.alloc #[.string nm, .string me, .slice A1 ps1.length q1, .slice A2 ps2.length q2, .int .i64 k, .int .i64 lim, .int .u64 tk, .int .u64 fo, .int .u64 ke, .int .u8 pr] 77).alloc #[.string nm, .string me, .slice A1 ps1.length q1, .slice A2 ps2.length q2, .int .i64 k, .int .i64 lim, .int .u64 tk, .int .u64 fo, .int .u64 ke, .int .u8 pr] 77
              go_wp2_with (at_builtin; refine wpl_stop fun W hW => ?_)
              refine Stopped.mk ?_
              have UA := UA0.same hW
              have hba : Below w6.heap.size w6 W := by rw [hW]; exact ((Below.refl _ _).alloc (Nat.le_refl _) _).alloc (by rw [allocSzC]; omega) _
              have hgA : ∀ q ∈ rs ++ [(RuV.mk nm me (.slice A1 ps1.length q1) ps1 k lim tk fo ke pr (.slice A2 ps2.length q2) ps2)], q.good W w.heap.size := fun q hq => by
                rcases List.mem_append.1 hq with h | h
                · exact (hg6 q h).below hba
                · rw [List.mem_singleton.1 h]; exact hgd6.below hba
              rw [allocSzC] at UA
              try rw [allocSzC]
              clear UA0 hW hba U6 hg6
              refine wpl_append_rd rfl (.tmp 47) (.tmp 49) 93 rfl 0 77 i0 _ 10 128 Tryz.underlying93 hi hz0 hz1 hz2 rfl (by decide) _ rs.length _ rfl (UA.row 2 rfl) _ 1 _ rfl (rd_one (UA.blk 0 rfl) (n := 10) rfl) (by intro u hu; simp at hu; rcases hu with rfl | rfl | rfl | rfl | rfl | rfl | rfl | rfl | rfl | rfl <;> rfl) (by unfold maxLen; omega) (by omega) (Nat.zero_le _) fun v7 w7 hown7 hgr7 hv7 => ?_
              have U7 := UA.app 2 rfl hown7 hgr7 hv7
              simp only [List.eraseIdx_cons_succ, List.eraseIdx_cons_zero] at U7
              have hg7 : ∀ q ∈ rs ++ [(RuV.mk nm me (.slice A1 ps1.length q1) ps1 k lim tk fo ke pr (.slice A2 ps2.length q2) ps2)], q.good w7 w.heap.size := fun q hq => (hgA q hq).grown13 (UA.row 2 rfl) hgr7
              obtain ⟨A7, c7, rfl⟩ := owns_slice hown7
              clear hown7 hgr7 hv7 UA hgA hgd6
              go_wp2_with fail
              go_roundw
              case rel => exact ⟨j + 1, rs ++ [(RuV.mk nm me (.slice A1 ps1.length q1) ps1 k lim tk fo ke pr (.slice A2 ps2.length q2) ps2)], by omega, by go_num, HH.out.1, by rw [HH.out.2.1, List.map_append, List.map_singleton, HH.out.2.2]; rfl, by rw [List.length_append, List.flatMap_append]; exact (U7.drop 1).drop 1, hg7⟩
              case measure => simp [intOf]; omega
            · have zf : ((le : Int) == 0) = false := by simp; omega
              rw [if_neg hle0] at hG
              have E2 := Lib.hid (show parseE s = (j + 1, le) by rw [E.out, hG]; exact if_pos hle0)
              have Z := Lib.hid hle0
              clear hG hL2 HS hle0
              go_wp2_with fail
              go_ret3
              exact ⟨none, 0, [], by rw [E2.out]; rfl, (fun h => by rw [E2.out] at h; exact absurd h Z.out), World.ownsRow_nil _ _ _ _, (fun r hr => by cases hr), (hb1.trans (U6.below.mono hb1.size)).alloc (Nat.le_trans hb1.size U6.below.size) _⟩
        · have hE1 : (f == ⟨#[114, 117, 108, 101]⟩) = false := by rw [beqS]; simpa [kRule] using hf
          have hE2 : (f.toList == (⟨#[114, 117, 108, 101]⟩ : ByteArray).toList) = false := by rw [eqS_eq]; simpa [kRule] using hf
          have hE3 : (f.toList == [114, 117, 108, 101]) = false := by rw [← kRule_list]; exact hE2
          rw [if_neg hf] at hG
          have E2 := Lib.hid (show parseE s = (j + 1, 2) by rw [E.out, hG]; rfl)
          clear hf hG hL2 hatw hRw
          go_wp2_with fail
          go_ret3
          exact ⟨none, 0, [], by rw [E2.out]; rfl, (fun h => by rw [E2.out] at h; cases h), World.ownsRow_nil _ _ _ _, (fun r hr => by cases hr), hb1.trans (U5.below.mono hb1.size)⟩
    · obtain rfl : j = (nlL s).length := by omega
      rw [List.drop_length] at hG
      rw [List.take_length] at hL
      have hG0 : (readG 0 (nlL s)).2 = 0 := by rw [hG]; rfl
      have K := refRules (.slice Av rs.length cv) rs wr (rd_of_owns (U3.row 0 rfl)) (fun r hr => (hg r hr).ok)
      have hE : parseE s = (0, chkRs rs) := by rw [E.out, if_neg (by rw [hG0]; simp), ← hL, chkRs_strip]
      obtain ⟨er, her⟩ : ∃ e, e = chkRs rs := ⟨_, rfl⟩
      rw [← her] at K hE
      have E2 := Lib.hid hE
      have HL := Lib.hid hL
      clear hG hG0 her hE hL
      go_wp2_with fail
      (with_reducible refine K.mono ?_)
      rintro e w9 ⟨rfl, hb9⟩
      have U9 := U3.grow hb9
      have hg9 : ∀ r ∈ rs, r.good w9 w.heap.size := fun r hr => (hg r hr).below hb9
      clear K hb9 U3 hg
      go_wp2_with fail
      go_ret3
      exact ⟨Av, cv, rs, by rw [E2.out]; rfl, (fun h => by unfold parseR; rw [if_pos h]; exact HL.out), owns_mono (U9.rowBase 0 rfl) hb1.size, hg9, hb1.trans (U9.below.mono hb1.size)⟩
end Go.Proofs.YtebnbbbiobaneaaGreatDoor
