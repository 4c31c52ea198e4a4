/-
  rules.Parse: a text as rules.
-/
import Derived.Test.YtgpojkofegajeaaGreatDoorRuY
import Derived.Test.YtgpojkofegajeaaGreatDoorShf
import Derived.Lib.SmallJoins
import Derived.OwnWalk
namespace Go.Proofs.YtgpojkofegajeaaGreatDoor
open Go.RowKit
set_option maxRecDepth 100000

theorem owns_grownZ {w w' : World} {base base' : Nat} {e e' : TypeId} {size size' : Nat} {v v' : Value} {n n' : Nat} {xs xs' : List Value} (h : w.ownsRow base e size v n xs) (hv : w.ownsRow base' e' size' v' n' xs') (hne : e ≠ e') (hg : w.grownBy w' v'.ownBlock) : w'.ownsRow base e size v n xs := by
  refine h.kept hg ?_
  rcases h.2 with ⟨rfl, _⟩ | ⟨g, cap, cur, rfl, _, hh, _⟩
  · exact .inl rfl
  · exact .inr (fun he => owns_ne hv (g := g) hh (Ne.symm hne) he)
theorem RuV.good.grown {r : RuV} {w w' : World} {base base' n : Nat} {v : Value} {xs : List Value} (h : r.good w base) (hv : w.ownsRow base' 32 10 v n xs) (hg : w.grownBy w' v.ownBlock) : r.good w' base :=
  ⟨h.nm, h.me, h.iz, h.wz, h.k, h.pr, owns_grownZ h.io hv (by decide) hg, owns_grownZ h.wo hv (by decide) hg⟩
theorem kRule_list : (⟨#[114, 117, 108, 101]⟩ : ByteArray).toList = [114, 117, 108, 101] := by decide +kernel
theorem infoRuleZ : (Tryz.prog.info? 32).map (fun i => (i.zero, i.size, i.bytes)) = some (some (.agg #[.string ⟨#[]⟩, .string ⟨#[]⟩, .slice none 0 0, .int .u8 0, .int .i64 0, .int .u64 0, .int .u64 0, .int .u64 0, .int .u8 0, .slice none 0 0]), 10, 128) := by kernel_rfl
theorem splitN (s : ByteArray) (mx : Int) (w : World) (hs : s.size < 4294967281) (hm : w.cell? ⟨2, 0, none⟩ = some (.int .i64 mx)) :
    Calls Tryz.prog 41 #[.string s, .string ⟨#[10]⟩] w fun e w' => e = .returned (.slice (some ⟨w.heap.size, 0, none⟩) (Lib.countB s ⟨#[10]⟩ + 1) (Lib.countB s ⟨#[10]⟩ + 1)) ∧ w' = w.alloc (.cells ((nlL s).map Value.string).toArray 9) :=
  Tryz.strings_Split s ⟨#[10]⟩ mx w hs hm (by decide)
theorem cutC (x : ByteArray) (mx : Int) (w : World) (hs : x.size < 4294967281) (hm : w.cell? ⟨2, 0, none⟩ = some (.int .i64 mx)) :
    Calls Tryz.prog 42 #[.string x, .string ⟨#[35]⟩] w fun e w' => ∃ y b, e = .returned (.tuple #[.string (cutH x), .string y, .bool b]) ∧ Below w.heap.size w w' :=
  (Tryz.strings_Cut x ⟨#[35]⟩ mx w hs hm).mono fun _ _ ⟨h, n, hw⟩ => ⟨_, _, h, by rw [hw]; exact ⟨rfl, rfl, rfl, Nat.le_refl _, fun _ _ => rfl⟩⟩
theorem fieldsC (x : ByteArray) (w : World) (hs : x.size < 4294967281) (ha : asc x) (hT : Lib.TabIs Tryz.prog w "strings.asciiSpace" .u8 Lib.asciiSpaceTab) :
    Calls Tryz.prog 43 #[.string (cutH x)] w fun e w' => e = .returned (.slice (some ⟨w.heap.size, 0, none⟩) (wordsL x).length (wordsL x).length) ∧ w' = w.alloc (.cells ((wordsL x).map Value.string).toArray 9) := by
  have h := Tryz.strings_Fields (cutH x) w (Nat.lt_of_le_of_lt (cutH_small x) hs) (fun j b hb => cutH_asc ha b (List.mem_of_getElem? hb)) hT
  refine h.mono fun e w' ⟨h1, h2⟩ => ⟨?_, ?_⟩
  · rw [h1, show (wordsL x).length = (Lib.fields (cutH x).data.toList).length by simp [wordsL]]
  · rw [h2, show (wordsL x).map Value.string = (Lib.fields (cutH x).data.toList).map fun l => Value.string ⟨l.toArray⟩ by simp [wordsL]]
set_option maxHeartbeats 16000000 in
theorem ruParse (s : ByteArray) (mx : Int) (w : World) (hs : s.size ≤ maxLen) (ha : asc s) (hm : w.cell? ⟨2, 0, none⟩ = some (.int .i64 mx)) (hT : Lib.TabIs Tryz.prog w "strings.asciiSpace" .u8 Lib.asciiSpaceTab) :
    Calls Tryz.prog 16 #[.string s] w fun e w' => ∃ (v : Value) (rs : List RuV), e = .returned (.tuple #[v, .int .i64 ((parseE s).1 : Nat), .int .i64 ((parseE s).2 : Nat)]) ∧ rs.map RuV.strip = parseR s ∧ w'.ownsRow w.heap.size 32 10 v rs.length (rs.flatMap RuV.cells) ∧ (∀ r ∈ rs, r.good w' w.heap.size) ∧ Below w.heap.size w w' := by
  unfold maxLen at hs
  by_cases h6 : 65536 < s.size
  · have d : decide ((65536 : Int) < (s.size : Int)) = true := by simp; omega
    have E := Lib.hid (show parseE s = (0, 4) by unfold parseE; rw [if_pos h6])
    clear hm hT ha
    go_enter Tryz.func16, Tryz.ntmps16
    go_wp2_with fail
    go_ret3
    exact ⟨_, [], by rw [E.out]; rfl, by unfold parseR; rw [E.out]; rfl, World.ownsRow_nil _ _ _ _, (fun r hr => by cases hr), Below.refl _ _⟩
  have d : decide ((65536 : Int) < (s.size : Int)) = false := by simp; omega
  have E := Lib.hid (show parseE s = if (readG 0 (nlL s)).2 ≠ 0 then readG 0 (nlL s) else (0, chkRs ((readL (nlL s)).map lineS)) by unfold parseE; rw [if_neg h6])
  have hcl := countN_le s
  have K0 := splitN s mx w (by omega) hm
  have hlen := nlL_length s
  rw [← hlen] at K0
  have HM := Lib.hid hm
  have HT := Lib.hid hT
  have HA := Lib.hid ha
  have htab : Tryz.prog.globalNamed "strings.asciiSpace" = some 0 := by kernel_rfl
  have HG := Lib.hid htab
  obtain ⟨i0, hi, hz0, hz1, hz2⟩ := info_parts infoRuleZ
  clear hm hT ha htab
  go_enter Tryz.func16, Tryz.ntmps16
  go_wp2_with fail
  (with_reducible refine K0.mono ?_)
  rintro e w1 ⟨rfl, hw1⟩
  have U1 := ((Upd.nil [] w).alloc ((nlL s).map Value.string).toArray 9).same hw1
  have U2 := U1.nilRow 32 10
  clear U1 K0 hw1
  go_wp2_with fail
  go_loopw [5, 18] (fun v i wr => ∃ (j : Nat) (rs : List RuV), j ≤ (nlL s).length ∧ i = .int .i64 j ∧ readG 0 (nlL s) = readG j ((nlL s).drop j) ∧ rs.map RuV.strip = (readL ((nlL s).take j)).map lineS ∧ Upd [] w [chRow 32 10 v rs.length (rs.flatMap RuV.cells), chBlk w.heap.size ((nlL s).map Value.string).toArray 9] wr ∧ ∀ r ∈ rs, r.good wr w.heap.size) (fun _ i _ => (nlL s).length - (intOf i).toNat)
  case atStart => exact ⟨0, [], Nat.zero_le _, rfl, rfl, rfl, U2, (fun r hr => by cases hr)⟩
  case round =>
    obtain ⟨j, rs, hj, rfl, hG, hL, U3, hg⟩ := hrel
    obtain ⟨Av, cv, rfl⟩ := owns_slice (U3.row 0 rfl)
    by_cases hlt : j < (nlL s).length
    · obtain ⟨x, hx⟩ : ∃ x, (nlL s)[j]? = some x := ⟨_, List.getElem?_eq_getElem hlt⟩
      have hxs := nlL_small (List.mem_of_getElem? hx)
      have hxa := nlL_asc HA.out (List.mem_of_getElem? hx)
      rw [drop_consK hx] at hG
      have htk := take_snocK hx
      have hrl : rs.length ≤ j := by
        have h1 := congrArg List.length hL
        rw [List.length_map, List.length_map] at h1
        have h2 := readL_len ((nlL s).take j)
        rw [List.length_take] at h2
        omega
      have c0 := (U3.blk 1 rfl).cell (j := j) (v := .string x) (by simp [hx])
      have i1 : (j : Int) < ((nlL s).length : Int) := by omega
      have KC := cutC x mx wr (by omega) (cell_upd U3 (by simp) HM.out)
      have hjn : j ≤ 65536 := by omega
      have wj : IntKind.i64.wrap ((j : Int) + 1) = ((j + 1 : Nat) : Int) := by simp only [IntKind.wrap, IntKind.bits, IntKind.signed]; simp; omega
      clear hx
      go_wp2_with fail
      (with_reducible refine KC.mono ?_)
      rintro e w4 ⟨y4, b4, rfl, hb4⟩
      have U4 := U3.grow hb4
      have hg4 : ∀ r ∈ rs, r.good w4 w.heap.size := fun r hr => (hg r hr).below hb4
      have KF := fieldsC x w4 (by omega) hxa (Joins.tab_stays HG.out HT.out U4.below (Nat.le_refl _))
      clear KC hb4 U3 hg c0
      go_wp2_with fail
      (with_reducible refine KF.mono ?_)
      rintro e w5 ⟨rfl, hw5⟩
      have hb5 : Below w4.heap.size w4 w5 := by rw [hw5]; exact (Below.refl _ _).alloc (Nat.le_refl _) _
      have U5 := (U4.alloc ((wordsL x).map Value.string).toArray 9).same hw5
      have hg5 : ∀ r ∈ rs, r.good w5 w.heap.size := fun r hr => (hg4 r hr).below hb5
      have hwl := wordsL_length x
      have hws := wordsL_small x
      have hstep : readG j (x :: (nlL s).drop (j + 1)) = (match wordsL x with | [] => readG (j + 1) ((nlL s).drop (j + 1)) | f :: t => if f = kRule then (if lineE t = 0 then readG (j + 1) ((nlL s).drop (j + 1)) else (j + 1, lineE t)) else (j + 1, 2)) := rfl
      have hstep2 : readL [x] = (match wordsL x with | [] => [] | _ :: t => [t]) := by
        simp only [readL]
        cases wordsL x <;> rfl
      rw [hstep] at hG
      have hL2 : (readL ((nlL s).take (j + 1))).map lineS = rs.map RuV.strip ++ (readL [x]).map lineS := by rw [htk, readL_append, List.map_append, hL]
      rw [hstep2] at hL2
      obtain ⟨fb, hfb⟩ : ∃ b, b = w4.heap.size := ⟨_, rfl⟩
      rw [← hfb] at U5 ⊢
      obtain ⟨W0, hW0⟩ : ∃ W0, W0 = wordsL x := ⟨_, rfl⟩
      rw [← hW0] at U5 hwl hws hG hL2 ⊢
      clear KF hb5 U4 hg4 hw5 hstep hstep2 htk hW0 hfb hL
      cases W0 with
      | nil =>
        dsimp only at hG hL2
        rw [List.map_nil, List.append_nil] at hL2
        have HH := Lib.hid (And.intro hG hL2)
        clear hG hL2
        go_wp2_with fail
        go_roundw
        case rel => exact ⟨j + 1, rs, by omega, by go_num, HH.out.1, HH.out.2.symm, U5.drop 0, hg5⟩
        case measure => simp [intOf]; omega
      | cons f t =>
        dsimp only at hG hL2
        have c0 := (U5.blk 0 rfl).cell (j := 0) (v := .string f) (by simp)
        have d0 : (((t.length : Int) + 1) == 0) = false := by simp; omega
        have d1 : (0 : Int) < (t.length : Int) + 1 := by omega
        have d2 : (1 : Int) ≤ (t.length : Int) + 1 := by omega
        by_cases hf : f = kRule
        · have hE1 : (f == ⟨#[114, 117, 108, 101]⟩) = true := by rw [beqS]; simpa [kRule] using hf
          have hE2 : (f.toList == (⟨#[114, 117, 108, 101]⟩ : ByteArray).toList) = true := by rw [eqS_eq]; simpa [kRule] using hf
          have hE3 : (f.toList == [114, 117, 108, 101]) = true := by rw [← kRule_list]; exact hE2
          rw [if_pos hf] at hG
          clear hf
          have hzt : ∀ q ∈ t, q.size ≤ maxLen := fun q hq => by
            have h1 := hws q (.tail _ hq)
            unfold maxLen
            omega
          have hlt2 : t.length ≤ 1099511627776 := by
            simp only [List.length_cons] at hwl
            omega
          have hRd : Rd w5 1 (.slice (some ⟨fb, 0, none⟩) (t.length + 1) (t.length + 1)) (t.length + 1) (wsC (f :: t)) := ⟨_, _, rfl, by simp [wsC], Nat.le_refl _, by unfold maxLen; omega, fun _ => ⟨fb, 0, rfl, fun q u hq => by
            rw [Nat.zero_add]
            exact (U5.blk 0 rfl).cell (j := q) (v := u) (by simpa [wsC] using hq)⟩⟩
          have hcut := Rd.cut1 (k := 1) hRd (by omega)
          rw [show (wsC (f :: t)).drop 1 = wsC t from rfl, Nat.add_sub_cancel] at hcut
          have KL := ruLine _ t mx w5 hcut hzt hlt2 (cell_upd U5 (by simp) HM.out)
          have HLS := Lib.hid (show ∀ iv wv, lineE t = 0 → (lineO t iv wv).strip = lineS t from fun iv wv h => by rw [lineO_ok h]; exact strip_line t iv wv)
          clear hRd hcut hzt
          obtain ⟨le, hle⟩ : ∃ e, e = lineE t := ⟨_, rfl⟩
          rw [← hle] at KL hG HLS
          by_cases ht : t.length = 0
          · obtain rfl : t = [] := List.eq_nil_of_length_eq_zero ht
            rw [if_pos (by simp), List.length_nil] at KL
            go_wp2_with fail
            (with_reducible refine KL.mono ?_)
            rintro e w6 ⟨iv, wv, rfl, hgd, hb6⟩
            have U6 := U5.grow hb6
            have hg6 : ∀ r ∈ rs, r.good w6 w.heap.size := fun r hr => (hg5 r hr).below hb6
            have hgd6 := hgd.mono U5.size
            obtain ⟨r, hr⟩ : ∃ r, r = lineO [] iv wv := ⟨_, rfl⟩
            have HS := HLS.out iv wv
            rw [← hr] at hgd6 HS ⊢
            clear hgd hr HLS KL hb6 U5 hg5 hE1 hE2 hE3
            obtain ⟨nm, me, iv, ps1, k, lim, tk, fo, ke, pr, wv, ps2⟩ := r
            obtain ⟨A1, q1, e1⟩ := owns_slice hgd6.io
            obtain ⟨A2, q2, e2⟩ := owns_slice hgd6.wo
            dsimp only at e1 e2
            subst e1 e2
            simp only [RuV.agg]
            by_cases hle0 : le = 0
            · subst hle0
              rw [if_pos rfl] at hG
              have HH := Lib.hid (And.intro hG (And.intro hL2 (HS rfl)))
              clear hG hL2 HS hle
              have UA0 := ((U6.drop 0).alloc #[.string nm, .string me, .slice A1 ps1.length q1, .int .u8 k, .int .i64 lim, .int .u64 tk, .int .u64 fo, .int .u64 ke, .int .u8 pr, .slice A2 ps2.length q2] 32).alloc #[.string nm, .string me, .slice A1 ps1.length q1, .int .u8 k, .int .i64 lim, .int .u64 tk, .int .u64 fo, .int .u64 ke, .int .u8 pr, .slice A2 ps2.length q2] 32
              rw [allocSzC] at UA0
              simp only [List.eraseIdx_cons_zero] at UA0
              go_wp2_with (at_builtin; refine wpl_stop fun W hW => ?_)
              refine Stopped.mk ?_
              try rw [← hW]
              have UA := UA0.same hW
              have hba : Below w6.heap.size w6 W := by rw [hW]; exact ((Below.refl _ _).alloc (Nat.le_refl _) _).alloc (by rw [allocSzC]; omega) _
              have hgA : ∀ q ∈ rs ++ [(RuV.mk nm me (.slice A1 ps1.length q1) ps1 k lim tk fo ke pr (.slice A2 ps2.length q2) ps2)], q.good W w.heap.size := fun q hq => by
                rcases List.mem_append.1 hq with h | h
                · exact (hg6 q h).below hba
                · rw [List.mem_singleton.1 h]; exact hgd6.below hba
              clear UA0 hW hba U6 hg6
              refine wpl_append_rd rfl (.tmp 51) (.tmp 53) 43 rfl 0 32 i0 _ 10 128 Tryz.underlying43 hi hz0 hz1 hz2 rfl (by decide) _ rs.length _ rfl (UA.row 2 rfl) _ 1 _ rfl (rd_one (UA.blk 0 rfl) (n := 10) rfl) (by intro u hu; simp at hu; rcases hu with rfl | rfl | rfl | rfl | rfl | rfl | rfl | rfl | rfl | rfl <;> rfl) (by unfold maxLen; omega) (by omega) (Nat.zero_le _) fun v7 w7 hown7 hgr7 hv7 => ?_
              have U7 := UA.app 2 rfl hown7 hgr7 hv7
              simp only [List.eraseIdx_cons_succ, List.eraseIdx_cons_zero] at U7
              have hg7 : ∀ q ∈ rs ++ [(RuV.mk nm me (.slice A1 ps1.length q1) ps1 k lim tk fo ke pr (.slice A2 ps2.length q2) ps2)], q.good w7 w.heap.size := fun q hq => (hgA q hq).grown (UA.row 2 rfl) hgr7
              obtain ⟨A7, c7, rfl⟩ := owns_slice hown7
              clear hown7 hgr7 hv7 UA hgA hgd6
              go_wp2_with fail
              go_roundw
              case rel => exact ⟨j + 1, rs ++ [(RuV.mk nm me (.slice A1 ps1.length q1) ps1 k lim tk fo ke pr (.slice A2 ps2.length q2) ps2)], by omega, by go_num, HH.out.1, by rw [HH.out.2.1, List.map_append, List.map_singleton, HH.out.2.2]; rfl, by rw [List.length_append, List.flatMap_append]; exact (U7.drop 1).drop 1, hg7⟩
              case measure => simp [intOf]; omega
            · have zf : ((le : Int) == 0) = false := by simp; omega
              rw [if_neg hle0] at hG
              have E2 := Lib.hid (show parseE s = (j + 1, le) by rw [E.out, hG]; exact if_pos hle0)
              have Z := Lib.hid hle0
              clear hG hL2 HS hle0 hle
              go_wp2_with fail
              go_ret3
              exact ⟨_, [], by rw [E2.out]; rfl, by unfold parseR; rw [E2.out, if_neg Z.out]; rfl, World.ownsRow_nil _ _ _ _, (fun r hr => by cases hr), U6.below.alloc U6.size _⟩
          · have ht1 : ¬ 1 = t.length + 1 := by omega
            have ht2 : ¬ t.length + 1 = 1 := by omega
            rw [if_neg ht2, Nat.zero_add] at KL
            go_wp2_with fail
            (with_reducible refine KL.mono ?_)
            rintro e w6 ⟨iv, wv, rfl, hgd, hb6⟩
            have U6 := U5.grow hb6
            have hg6 : ∀ r ∈ rs, r.good w6 w.heap.size := fun r hr => (hg5 r hr).below hb6
            have hgd6 := hgd.mono U5.size
            obtain ⟨r, hr⟩ : ∃ r, r = lineO t iv wv := ⟨_, rfl⟩
            have HS := HLS.out iv wv
            rw [← hr] at hgd6 HS ⊢
            clear hgd hr HLS KL hb6 U5 hg5 hE1 hE2 hE3
            obtain ⟨nm, me, iv, ps1, k, lim, tk, fo, ke, pr, wv, ps2⟩ := r
            obtain ⟨A1, q1, e1⟩ := owns_slice hgd6.io
            obtain ⟨A2, q2, e2⟩ := owns_slice hgd6.wo
            dsimp only at e1 e2
            subst e1 e2
            simp only [RuV.agg]
            by_cases hle0 : le = 0
            · subst hle0
              rw [if_pos rfl] at hG
              have HH := Lib.hid (And.intro hG (And.intro hL2 (HS rfl)))
              clear hG hL2 HS hle
              have UA0 := ((U6.drop 0).alloc #[.string nm, .string me, .slice A1 ps1.length q1, .int .u8 k, .int .i64 lim, .int .u64 tk, .int .u64 fo, .int .u64 ke, .int .u8 pr, .slice A2 ps2.length q2] 32).alloc #[.string nm, .string me, .slice A1 ps1.length q1, .int .u8 k, .int .i64 lim, .int .u64 tk, .int .u64 fo, .int .u64 ke, .int .u8 pr, .slice A2 ps2.length q2] 32
              rw [allocSzC] at UA0
              simp only [List.eraseIdx_cons_zero] at UA0
              go_wp2_with (at_builtin; refine wpl_stop fun W hW => ?_)
              refine Stopped.mk ?_
              try rw [← hW]
              have UA := UA0.same hW
              have hba : Below w6.heap.size w6 W := by rw [hW]; exact ((Below.refl _ _).alloc (Nat.le_refl _) _).alloc (by rw [allocSzC]; omega) _
              have hgA : ∀ q ∈ rs ++ [(RuV.mk nm me (.slice A1 ps1.length q1) ps1 k lim tk fo ke pr (.slice A2 ps2.length q2) ps2)], q.good W w.heap.size := fun q hq => by
                rcases List.mem_append.1 hq with h | h
                · exact (hg6 q h).below hba
                · rw [List.mem_singleton.1 h]; exact hgd6.below hba
              clear UA0 hW hba U6 hg6
              refine wpl_append_rd rfl (.tmp 51) (.tmp 53) 43 rfl 0 32 i0 _ 10 128 Tryz.underlying43 hi hz0 hz1 hz2 rfl (by decide) _ rs.length _ rfl (UA.row 2 rfl) _ 1 _ rfl (rd_one (UA.blk 0 rfl) (n := 10) rfl) (by intro u hu; simp at hu; rcases hu with rfl | rfl | rfl | rfl | rfl | rfl | rfl | rfl | rfl | rfl <;> rfl) (by unfold maxLen; omega) (by omega) (Nat.zero_le _) fun v7 w7 hown7 hgr7 hv7 => ?_
              have U7 := UA.app 2 rfl hown7 hgr7 hv7
              simp only [List.eraseIdx_cons_succ, List.eraseIdx_cons_zero] at U7
              have hg7 : ∀ q ∈ rs ++ [(RuV.mk nm me (.slice A1 ps1.length q1) ps1 k lim tk fo ke pr (.slice A2 ps2.length q2) ps2)], q.good w7 w.heap.size := fun q hq => (hgA q hq).grown (UA.row 2 rfl) hgr7
              obtain ⟨A7, c7, rfl⟩ := owns_slice hown7
              clear hown7 hgr7 hv7 UA hgA hgd6
              go_wp2_with fail
              go_roundw
              case rel => exact ⟨j + 1, rs ++ [(RuV.mk nm me (.slice A1 ps1.length q1) ps1 k lim tk fo ke pr (.slice A2 ps2.length q2) ps2)], by omega, by go_num, HH.out.1, by rw [HH.out.2.1, List.map_append, List.map_singleton, HH.out.2.2]; rfl, by rw [List.length_append, List.flatMap_append]; exact (U7.drop 1).drop 1, hg7⟩
              case measure => simp [intOf]; omega
            · have zf : ((le : Int) == 0) = false := by simp; omega
              rw [if_neg hle0] at hG
              have E2 := Lib.hid (show parseE s = (j + 1, le) by rw [E.out, hG]; exact if_pos hle0)
              have Z := Lib.hid hle0
              clear hG hL2 HS hle0 hle
              go_wp2_with fail
              go_ret3
              exact ⟨_, [], by rw [E2.out]; rfl, by unfold parseR; rw [E2.out, if_neg Z.out]; rfl, World.ownsRow_nil _ _ _ _, (fun r hr => by cases hr), U6.below.alloc U6.size _⟩
        · have hE1 : (f == ⟨#[114, 117, 108, 101]⟩) = false := by rw [beqS]; simpa [kRule] using hf
          have hE2 : (f.toList == (⟨#[114, 117, 108, 101]⟩ : ByteArray).toList) = false := by rw [eqS_eq]; simpa [kRule] using hf
          have hE3 : (f.toList == [114, 117, 108, 101]) = false := by rw [← kRule_list]; exact hE2
          rw [if_neg hf] at hG
          have E2 := Lib.hid (show parseE s = (j + 1, 2) by rw [E.out, hG]; rfl)
          clear hf hG hL2
          go_wp2_with fail
          go_ret3
          exact ⟨_, [], by rw [E2.out]; rfl, by unfold parseR; rw [E2.out]; rfl, World.ownsRow_nil _ _ _ _, (fun r hr => by cases hr), U5.below⟩
    · obtain rfl : j = (nlL s).length := by omega
      rw [List.drop_length] at hG
      rw [List.take_length] at hL
      have hG0 : (readG 0 (nlL s)).2 = 0 := by rw [hG]; rfl
      have K := ruList (.slice Av rs.length cv) rs wr (rd_of_owns (U3.row 0 rfl)) (fun r hr => (hg r hr).ok)
      have hE : parseE s = (0, chkRs rs) := by rw [E.out, if_neg (by rw [hG0]; simp), ← hL, chkRs_strip]
      obtain ⟨er, her⟩ : ∃ e, e = chkRs rs := ⟨_, rfl⟩
      rw [← her] at K hE
      have E2 := Lib.hid hE
      clear hG hG0 her hE
      by_cases hr0 : er = 0
      · subst hr0
        have HL := Lib.hid hL
        clear hL
        go_wp2_with fail
        (with_reducible refine K.mono ?_)
        rintro e w9 ⟨rfl, hb9⟩
        have U9 := U3.grow hb9
        have hg9 : ∀ r ∈ rs, r.good w9 w.heap.size := fun r hr => (hg r hr).below hb9
        clear K hb9 U3 hg
        go_wp2_with fail
        go_ret3
        exact ⟨_, rs, by rw [E2.out]; rfl, by unfold parseR; rw [E2.out, if_pos rfl]; exact HL.out, U9.rowBase 0 rfl, hg9, U9.below⟩
      · have zf : ((er : Int) == 0) = false := by simp; omega
        have Z := Lib.hid hr0
        clear hr0
        go_wp2_with fail
        (with_reducible refine K.mono ?_)
        rintro e w9 ⟨rfl, hb9⟩
        have U9 := U3.grow hb9
        clear K hb9 U3 hg
        go_wp2_with fail
        go_ret3
        exact ⟨_, [], by rw [E2.out]; rfl, by unfold parseR; rw [E2.out, if_neg Z.out]; rfl, World.ownsRow_nil _ _ _ _, (fun r hr => by cases hr), U9.below⟩
end Go.Proofs.YtgpojkofegajeaaGreatDoor
