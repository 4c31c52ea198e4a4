/-
  (*Watch).Tick of one rule that asks of one series whether its last number is above a limit.
-/
import Derived.Test.YtgpojkofegajeaaGreatDoorWa7
import Derived.BigFrame
import Derived.Test.YtgpojkofegajeaaGreatDoorRuE
namespace Go.Proofs.YtgpojkofegajeaaGreatDoor
open Go.RowKit FreeSl
set_option maxRecDepth 100000
attribute [local go_sem] out

theorem row_some {w : World} {base : Nat} {e : TypeId} {size : Nat} {v : Value} {n : Nat} {xs : List Value} (h : w.ownsRow base e size v n xs) (hn : 0 < n) : ∃ g c, v = .slice (some ⟨g, 0, none⟩) n c := by
  rcases h.2 with ⟨_, h0⟩ | ⟨g, cap, cur, rfl, _⟩
  · omega
  · exact ⟨g, cap, rfl⟩
theorem row_cell {w : World} {base : Nat} {e : TypeId} {size g n c : Nat} {xs : List Value} (h : w.ownsRow base e size (.slice (some ⟨g, 0, none⟩) n c) n xs) (hn : 0 < n) (j : Nat) (u : Value) (hu : xs[j]? = some u) : w.cell? ⟨g, j, none⟩ = some u := by
  obtain ⟨A, c', he, _, _, _, h4⟩ := rd_of_owns h
  cases he
  obtain ⟨b, o, ha, hr⟩ := h4 hn
  cases ha
  have := hr j u hu
  rwa [Nat.zero_add] at this
theorem rd_zeroW {w w' : World} {size : Nat} {v : Value} (h : Rd w size v 0 []) : Rd w' size v 0 [] := by
  obtain ⟨A, c, he, h1, h2, h3, _⟩ := h
  exact ⟨A, c, he, h1, h2, h3, fun h => absurd h (by omega)⟩
theorem rd_nilW (w : World) (size : Nat) (A : Option Addr) (c : Nat) (hc : c ≤ maxLen) : Rd w size (.slice A 0 c) 0 [] := ⟨A, c, rfl, by simp, Nat.zero_le _, hc, fun h => absurd h (by omega)⟩
theorem zeroSeen (w : World) : (zeroValue 112).run Tryz.prog w = .ok (.agg #[.bool false, .int .i64 0]) w := by simp
theorem zeroPhW (w : World) : (zeroValue 58).run Tryz.prog w = .ok (.agg #[.int .u8 0, .int .u64 0, .int .u64 0, .int .i64 0]) w := by simp
theorem zeroLabW (w : World) : (zeroValue 24).run Tryz.prog w = .ok (.slice none 0 0) w := by simp
theorem infoWant : (Tryz.prog.info? 50).map (fun i => (i.zero, i.size, i.bytes)) = some (some (.agg #[.string ⟨#[]⟩, .slice none 0 0, .bool false, .int .u8 0, .int .i64 0]), 5, 56) := by kernel_rfl
def keyN (me : ByteArray) : ByteArray × ByteArray := (me, ⟨#[]⟩)
def alN : Int × ByteArray := (0, ⟨#[]⟩)
theorem alN_ok : alertE.ok alN := by
  refine ⟨by decide, ?_⟩
  unfold alN maxLen
  decide
theorem mergeNil : makeL (mergeIn [] []) = [] := by decide +kernel
theorem chkNil : chkL (sortL (mergeIn [] [])) = 0 := by decide +kernel
set_option maxHeartbeats 16000000 in
theorem wTick1 (nm me : ByteArray) (A1 : Option Addr) (q1 : Nat) (lim : Int) (tk fo ke pr : Nat) (A2 : Option Addr) (q2 b : Nat) (rv : Value) (ms : Nat) (A3 : Option Addr) (c3 : Nat) (pv : Value) (pts : List (Nat × Int)) (kk : Nat) (pt : Nat × Int) (ov : Value) (mp : Nat) (ph : List ((Int × ByteArray) × Value)) (mk : Nat) (kn : List ((Int × ByteArray) × Value)) (P0 : PhV) (now : Nat) (w : World)
    (hP : (chGrp (wParts b rv [⟨nm, me, .slice A1 0 q1, [], 1, lim, tk, fo, ke, pr, .slice A2 0 q2, []⟩] ms [(keyN me, .agg #[.slice A3 0 c3, pv])] ov [keyN me] mp ph mk kn ++ [chRow 140 2 pv pts.length (pts.flatMap ptC)])).P w) (hme : me.size ≤ maxLen) (hq1 : q1 ≤ maxLen) (hq2 : q2 ≤ maxLen) (hc3 : c3 ≤ maxLen) (hk : pts.length = kk + 1) (hp : pts[kk]? = some pt) (hkk : kk < 1048576)
    (hp0 : (findK ph alN).getD (.agg #[.int .u8 0, .int .u64 0, .int .u64 0, .int .i64 0]) = P0.agg) (hp1 : ∀ v, putK ph alN v = [(alN, v)]) (hk1 : ∀ v, putK kn alN v = [(alN, v)]) (hnow : now < 18446744073709551616) :
    Calls Tryz.prog 10 #[.pointer (some ⟨b, 0, none⟩), .int .u64 now] w fun e w' => ∃ v v2 kv, e = .returned v ∧ Upd (chGrp (wParts b rv [⟨nm, me, .slice A1 0 q1, [], 1, lim, tk, fo, ke, pr, .slice A2 0 q2, []⟩] ms [(keyN me, .agg #[.slice A3 0 c3, pv])] ov [keyN me] mp ph mk kn ++ [chRow 140 2 pv pts.length (pts.flatMap ptC)])).fp w [chGrp (wParts b rv [⟨nm, me, .slice A1 0 q1, [], 1, lim, tk, fo, ke, pr, .slice A2 0 q2, []⟩] ms [(keyN me, .agg #[.slice A3 0 c3, pv])] ov [keyN me] mp [(alN, (stepP fo ke now (decide (lim < pt.2)) pt.2 P0).agg)] mk [(alN, kv)] ++ [chRow 140 2 pv pts.length (pts.flatMap ptC)]),
      chRow 50 5 v 1 [.string nm, v2, .bool (decide ((stepP fo ke now (decide (lim < pt.2)) pt.2 P0).st = 2)), .int .u8 pr, .int .i64 (stepP fo ke now (decide (lim < pt.2)) pt.2 P0).val]] w' := by
  have hmm := @run_makeMap Tryz.prog
  have G0 := grp_open hP
  generalize (chGrp (wParts b rv [⟨nm, me, .slice A1 0 q1, [], 1, lim, tk, fo, ke, pr, .slice A2 0 q2, []⟩] ms [(keyN me, .agg #[.slice A3 0 c3, pv])] ov [keyN me] mp ph mk kn ++ [chRow 140 2 pv pts.length (pts.flatMap ptC)])).fp = S at G0 ⊢
  unfold wParts at G0
  simp only [List.cons_append, List.nil_append, List.length_cons, List.length_nil, Nat.zero_add] at G0
  obtain ⟨rg, rc, rfl⟩ := row_some (G0.row 1 rfl) (by decide)
  obtain ⟨og, oc, rfl⟩ := row_some (G0.row 3 rfl) (by decide)
  obtain ⟨pg, pc, rfl⟩ := row_some (G0.row 6 rfl) (by omega)
  have HKL := Lib.hid hk
  have HP0 := Lib.hid hp0
  clear hk hp0
  have U1 := G0.allocMap alertE
  have c0 := (U1.blk 1 rfl).cell (j := 0) rfl
  clear hP
  go_enter Tryz.func10, Tryz.ntmps10
  go_wp2_with fail
  refine wp_gen fun w1 hw1 => ?_
  have U2 := U1.same hw1
  clear hw1 U1 G0 hmm c0
  refine wp_loop_rounds 2 ?_
  rw [rounds_succ]
  have y0 := row_cell (U2.row 2 rfl) (by decide) 0 (.string nm) rfl
  have y1 := row_cell (U2.row 2 rfl) (by decide) 1 (.string me) rfl
  have y2 := row_cell (U2.row 2 rfl) (by decide) 2 (.slice A1 0 q1) rfl
  have y3 := row_cell (U2.row 2 rfl) (by decide) 3 (.int .u8 1) rfl
  have y4 := row_cell (U2.row 2 rfl) (by decide) 4 (.int .i64 lim) rfl
  have y5 := row_cell (U2.row 2 rfl) (by decide) 5 (.int .u64 tk) rfl
  have y6 := row_cell (U2.row 2 rfl) (by decide) 6 (.int .u64 fo) rfl
  have y7 := row_cell (U2.row 2 rfl) (by decide) 7 (.int .u64 ke) rfl
  have y8 := row_cell (U2.row 2 rfl) (by decide) 8 (.int .u8 pr) rfl
  have y9 := row_cell (U2.row 2 rfl) (by decide) 9 (.slice A2 0 q2) rfl
  go_upto_region 7 with fail
  refine wp_gen fun w3 hw3 => ?_
  have U3 := (U2.alloc #[.string nm, .string me, .slice A1 0 q1, .int .u8 1, .int .i64 lim, .int .u64 (tk : Nat), .int .u64 (fo : Nat), .int .u64 (ke : Nat), .int .u8 (pr : Nat), .slice A2 0 q2] 32).same hw3
  clear hw3 U2 y0 y1 y2 y3 y4 y5 y6 y7 y8 y9
  have c2 := (U3.blk 2 rfl).cell (j := 2) rfl
  go_wp2_with fail
  refine wp_loop_rounds 2 ?_
  rw [rounds_succ]
  have k0 := row_cell (U3.row 5 rfl) (by decide) 0 (.string me) rfl
  have k1 := row_cell (U3.row 5 rfl) (by decide) 1 (.string ⟨#[]⟩) rfl
  go_upto_region 10 with fail
  refine wp_gen fun w4 hw4 => ?_
  have U4 := (U3.alloc #[.string me, .string ⟨#[]⟩] 96).same hw4
  clear hw4 U3 k0 k1 c2
  have hkok : keyE.ok (keyN me) := ⟨hme, by show (⟨#[]⟩ : ByteArray).size ≤ maxLen; unfold maxLen; decide⟩
  have F : ∀ w', Below w4.heap.size w4 w' → w'.cell? ⟨w3.heap.size, 0, none⟩ = some (.string me) ∧ w'.cell? ⟨w3.heap.size, 1, none⟩ = some (.string ⟨#[]⟩) ∧ w'.cell? ⟨b, 1, none⟩ = some (.map (some ms)) ∧ (Instr.lookup 76 (.map (some ms)) (.agg #[.string me, .string ⟨#[]⟩]) false).run Tryz.prog w' = .ok (.agg #[.slice A3 0 c3, .slice (some ⟨pg, 0, none⟩) pts.length pc]) w' := fun w' h => ⟨((U4.grow h).blk 0 rfl).cell (j := 0) rfl, ((U4.grow h).blk 0 rfl).cell (j := 1) rfl, ((U4.grow h).blk 3 rfl).cell (j := 1) rfl, map_look1 (t := 76) Tryz.underlying76 ((U4.grow h).map 5 rfl) (zeroSer _) (keyN me) hkok _ (by simp [findK])⟩
  refine region_free (fun w' => Below w4.heap.size w4 w') [6] [7] [0, 1, 2, 3, 4, 5, 6] (by kernel_rfl) (by kernel_rfl) (by kernel_rfl) (Below.refl _ _).drew ?_
  repeat (first
    | (refine RelSeq.pure_ (c := ?_) rfl rfl ?_ ?_; rotate_left; (focus (intro x w'; dsimp only; go_simp; (repeat' apply And.intro) <;> first | with_reducible rfl | assumption)); simp only [Act.put, List.setIfInBounds_toArray, List.set_cons_zero, List.set_cons_succ])
    | (refine RelSeq.grow_ (c := ?_) rfl rfl ?_ ?_; rotate_left; (focus (intro x w' hw _; dsimp only; obtain ⟨c0, c1, c2, l⟩ := F w' hw; have hbr := Below.refl w'.heap.size w'; go_simp; (repeat' apply And.intro) <;> first | with_reducible rfl | assumption)); simp only [Act.put, List.setIfInBounds_toArray, List.set_cons_zero, List.set_cons_succ]))
  refine RelSeq.rel_ (NewPt w4.heap.size 0 #[.slice none 0 0, .slice none 0 0] 101) rfl rfl NewPt.stable ?_ ?_
  focus
    intro x w' hw _; dsimp only
    have hba : Below w'.heap.size w' (w'.alloc (.cells #[.slice none 0 0, .slice none 0 0] 101)) := (Below.refl _ _).alloc (Nat.le_refl _) _
    have hI := hw.trans (hba.mono hw.size)
    have hsz := hw.size
    go_simp
    (repeat' apply And.intro) <;> first | assumption | exact ⟨_, rfl, hsz, Blk.new _ _ _⟩ | exact fun _ => ⟨_, rfl, Nat.le_refl _, by simp⟩ | rfl
  simp only [Act.put, List.setIfInBounds_toArray, List.set_cons_zero, List.set_cons_succ, List.nil_append]
  refine RelSeq.nil_ fun xv w5 hw hf _ => ?_
  obtain ⟨sb, e1, hsb, hS⟩ := hf _ (.head _)
  simp only [e1]
  have U5 := U4.add hw (chBlk sb _ 101) hS (fun q hq => by rw [chBlk_fp.1 hq]; exact hsb)
  clear hf hw F U4 hS e1
  have z0 := (U5.blk 0 rfl).cell (j := 0) rfl
  have z1 := (U5.blk 0 rfl).cell (j := 1) rfl
  have zf := (U5.blk 0 rfl).frozen
  refine TailSeq.cons_ rfl ?_
  go_simp
  refine TailSeq.nil_gen fun w6 hw6 => ?_
  have U6 := ((U5.put 0 rfl 0 (.slice A3 0 c3)).put 0 rfl 1 (.slice (some ⟨pg, 0, none⟩) pts.length pc)).same hw6
  simp only [List.setIfInBounds_toArray, List.set_cons_succ, List.set_cons_zero, List.eraseIdx_cons_zero] at U6
  clear hw6 U5 z0 z1 zf
  have y0 := (U6.blk 2 rfl).cell (j := 0) (v := .string nm) rfl
  have y1 := (U6.blk 2 rfl).cell (j := 1) (v := .string me) rfl
  have y2 := (U6.blk 2 rfl).cell (j := 2) (v := .slice A1 0 q1) rfl
  have y3 := (U6.blk 2 rfl).cell (j := 3) (v := .int .u8 1) rfl
  have y4 := (U6.blk 2 rfl).cell (j := 4) (v := .int .i64 lim) rfl
  have y5 := (U6.blk 2 rfl).cell (j := 5) (v := .int .u64 tk) rfl
  have y6 := (U6.blk 2 rfl).cell (j := 6) (v := .int .u64 fo) rfl
  have y7 := (U6.blk 2 rfl).cell (j := 7) (v := .int .u64 ke) rfl
  have y8 := (U6.blk 2 rfl).cell (j := 8) (v := .int .u8 pr) rfl
  have y9 := (U6.blk 2 rfl).cell (j := 9) (v := .slice A2 0 q2) rfl
  have k0 := (U6.blk 1 rfl).cell (j := 0) (v := .string me) rfl
  have s0 := (U6.blk 0 rfl).cell (j := 0) (v := .slice A3 0 c3) rfl
  have hask : (decide (me = me) && hasL [] []) = true := by simp [hasL]
  have KAs : ∀ w', Calls Tryz.prog 29 #[.agg #[.string nm, .string me, .slice A1 0 q1, .int .u8 1, .int .i64 lim, .int .u64 (tk : Nat), .int .u64 (fo : Nat), .int .u64 (ke : Nat), .int .u8 (pr : Nat), .slice A2 0 q2], .string me, .slice A3 0 c3] w' fun e w'' => e = .returned (.bool true) ∧ Below w'.heap.size w' w'' := fun w' => by
    have h := ruAsks nm me A1 q1 [] 1 lim tk fo ke pr A2 q2 [] me (.slice A3 0 c3) [] w' (rd_nilW w' 2 A1 q1 hq1) (rd_nilW w' 2 A3 c3 hc3)
    rw [hask] at h
    exact h
  have KLb : ∀ w', Calls Tryz.prog 30 #[.agg #[.string nm, .string me, .slice A1 0 q1, .int .u8 1, .int .i64 lim, .int .u64 (tk : Nat), .int .u64 (fo : Nat), .int .u64 (ke : Nat), .int .u8 (pr : Nat), .slice A2 0 q2], .slice A3 0 c3] w' fun e w'' => ∃ v', e = .returned (.tuple #[v', .int .i64 0]) ∧ w''.ownsRow w'.heap.size 92 2 v' 0 [] ∧ Below w'.heap.size w' w'' := fun w' => by
    have h := ruLabels nm me A1 q1 [] 1 lim tk fo ke pr A2 q2 [] (.slice A3 0 c3) [] w' (rd_nilW w' 2 A2 q2 hq2) (rd_nilW w' 2 A3 c3 hc3) (fun _ h => nomatch h) (fun _ h => nomatch h) (by decide)
    rw [mergeNil, chkNil] at h
    exact h
  clear hask
  go_wp2_with fail
  (with_reducible refine (KAs _).mono ?_)
  rintro e w7 ⟨rfl, hb7⟩
  have U7 := U6.grow hb7
  clear hb7 U6 KAs y0 y1 y2 y3 y4 y5 y6 y7 y8 y9 k0 s0
  have y0 := (U7.blk 2 rfl).cell (j := 0) (v := .string nm) rfl
  have y1 := (U7.blk 2 rfl).cell (j := 1) (v := .string me) rfl
  have y2 := (U7.blk 2 rfl).cell (j := 2) (v := .slice A1 0 q1) rfl
  have y3 := (U7.blk 2 rfl).cell (j := 3) (v := .int .u8 1) rfl
  have y4 := (U7.blk 2 rfl).cell (j := 4) (v := .int .i64 lim) rfl
  have y5 := (U7.blk 2 rfl).cell (j := 5) (v := .int .u64 tk) rfl
  have y6 := (U7.blk 2 rfl).cell (j := 6) (v := .int .u64 fo) rfl
  have y7 := (U7.blk 2 rfl).cell (j := 7) (v := .int .u64 ke) rfl
  have y8 := (U7.blk 2 rfl).cell (j := 8) (v := .int .u8 pr) rfl
  have y9 := (U7.blk 2 rfl).cell (j := 9) (v := .slice A2 0 q2) rfl
  have s0 := (U7.blk 0 rfl).cell (j := 0) (v := .slice A3 0 c3) rfl
  go_wp2_with fail
  (with_reducible refine (KLb _).mono ?_)
  rintro e w8 ⟨lv, rfl, hlv, hb8⟩
  obtain ⟨A8, c8, rfl⟩ := owns_slice hlv
  have hrl := rd_of_owns hlv
  have KT : ∀ w', Calls Tryz.prog 23 #[.slice A8 0 c8] w' fun e w'' => e = .returned (.string ⟨#[]⟩) ∧ Below w'.heap.size w' w'' := fun w' => labText (.slice A8 0 c8) [] w' (rd_zeroW hrl) (by decide)
  have U8 := U7.addRow hb8 hlv (Nat.le_refl _)
  clear hb8 hlv U7 KLb y0 y1 y2 y3 y4 y5 y6 y7 y8 y9 s0
  go_wp2_with fail
  (with_reducible refine (KT _).mono ?_)
  rintro e w9 ⟨rfl, hb9⟩
  have U9 := U8.grow hb9
  clear hb9 U8 KT
  go_upto_region 15 with fail
  refine wp_gen fun w10 hw10 => ?_
  have U10 := (U9.alloc #[.int .i64 0, .string ⟨#[]⟩] 88).same hw10
  clear hw10 U9
  have y0 := (U10.blk 4 rfl).cell (j := 0) (v := .string nm) rfl
  have y1 := (U10.blk 4 rfl).cell (j := 1) (v := .string me) rfl
  have y2 := (U10.blk 4 rfl).cell (j := 2) (v := .slice A1 0 q1) rfl
  have y3 := (U10.blk 4 rfl).cell (j := 3) (v := .int .u8 1) rfl
  have y4 := (U10.blk 4 rfl).cell (j := 4) (v := .int .i64 lim) rfl
  have y5 := (U10.blk 4 rfl).cell (j := 5) (v := .int .u64 tk) rfl
  have y6 := (U10.blk 4 rfl).cell (j := 6) (v := .int .u64 fo) rfl
  have y7 := (U10.blk 4 rfl).cell (j := 7) (v := .int .u64 ke) rfl
  have y8 := (U10.blk 4 rfl).cell (j := 8) (v := .int .u8 pr) rfl
  have y9 := (U10.blk 4 rfl).cell (j := 9) (v := .slice A2 0 q2) rfl
  have KH := condAbove lim tk now sb 1 (.slice (some ⟨pg, 0, none⟩) pts.length pc) pts kk pt w10 ((U10.blk 2 rfl).cell (j := 1) rfl) (rd_of_owns (U10.row 12 rfl)) HKL.out hp hkk
  go_wp2_with fail
  (with_reducible refine KH.mono ?_)
  rintro e w11 ⟨rfl, hb11⟩
  have U11 := U10.grow hb11
  clear hb11 U10 KH y0 y1 y2 y3 y4 y5 y6 y7 y8 y9
  obtain ⟨hh, hhh⟩ : ∃ h, h = decide (lim < pt.2) := ⟨_, rfl⟩
  rw [← hhh]
  have HH := Lib.hid hhh
  clear hhh
  have a0 := (U11.blk 0 rfl).cell (j := 0) (v := .int .i64 0) rfl
  have a1 := (U11.blk 0 rfl).cell (j := 1) (v := .string ⟨#[]⟩) rfl
  have LK : (Instr.lookup 104 (.map (some w.heap.size)) (.agg #[.int .i64 0, .string ⟨#[]⟩]) true).run Tryz.prog w11 = .ok (.tuple #[.agg #[.bool false, .int .i64 0], .bool false]) w11 := map_look (t := 104) Tryz.underlying104 (U11.map 5 rfl) (zeroSeen _) alN alN_ok false _ rfl rfl
  go_upto_region 17 with fail
  refine wp_gen fun w12 hw12 => ?_
  have U12 := (U11.alloc #[.bool false, .int .i64 0] 112).same hw12
  clear hw12 U11 LK a0 a1
  have a0 := (U12.blk 1 rfl).cell (j := 0) (v := .int .i64 0) rfl
  have a1 := (U12.blk 1 rfl).cell (j := 1) (v := .string ⟨#[]⟩) rfl
  have e0 := (U12.blk 0 rfl).cell (j := 0) (v := .bool false) rfl
  have e1 := (U12.blk 0 rfl).cell (j := 1) (v := .int .i64 0) rfl
  obtain ⟨w13, hput, hm13, hg13, hz13⟩ := map_put (t := 104) Tryz.underlying104 (U12.map 6 rfl) alN alN_ok (.agg #[.bool hh, .int .i64 pt.2])
  have hput : (Instr.mapUpdate 104 (.map (some w.heap.size)) (.agg #[.int .i64 0, .string ⟨#[]⟩]) (.agg #[.bool hh, .int .i64 pt.2])).run Tryz.prog w12 = .ok () w13 := hput
  have U13 := U12.putMap 6 rfl hm13 hg13
  simp only [List.eraseIdx_cons_succ, List.eraseIdx_cons_zero, putK] at U13
  clear hm13 hg13 hz13 U12
  go_upto_region 19 with fail
  clear hput a0 a1 e0 e1
  have F : ∀ w', Below w13.heap.size w13 w' → w'.cell? ⟨w9.heap.size, 0, none⟩ = some (.int .i64 0) ∧ w'.cell? ⟨w9.heap.size, 1, none⟩ = some (.string ⟨#[]⟩) ∧ w'.cell? ⟨b, 4, none⟩ = some (.map (some mk)) := fun w' h => ⟨((U13.grow h).blk 2 rfl).cell (j := 0) rfl, ((U13.grow h).blk 2 rfl).cell (j := 1) rfl, ((U13.grow h).blk 7 rfl).cell (j := 4) rfl⟩
  refine region_free (fun w' => Below w13.heap.size w13 w') [] [6] [0, 1, 2, 3, 4, 5] (by kernel_rfl) (by kernel_rfl) (by kernel_rfl) (Below.refl _ _).drew ?_
  repeat (first
    | (refine RelSeq.pure_ (c := ?_) rfl rfl ?_ ?_; rotate_left; (focus (intro x w'; dsimp only; go_simp; (repeat' apply And.intro) <;> first | with_reducible rfl | assumption)); simp only [Act.put, List.setIfInBounds_toArray, List.set_cons_zero, List.set_cons_succ])
    | (refine RelSeq.grow_ (c := ?_) rfl rfl ?_ ?_; rotate_left; (focus (intro x w' hw _; dsimp only; obtain ⟨c0, c1, c2⟩ := F w' hw; have hbr := Below.refl w'.heap.size w'; go_simp; (repeat' apply And.intro) <;> first | with_reducible rfl | assumption)); simp only [Act.put, List.setIfInBounds_toArray, List.set_cons_zero, List.set_cons_succ]))
  refine RelSeq.nil_ fun xv w14 hw _ _ => ?_
  have U14 := U13.grow hw
  obtain ⟨w15, hput, hm15, hg15, hz15⟩ := map_put (t := 78) Tryz.underlying78 (U14.map 12 rfl) alN alN_ok (.slice A8 0 c8)
  have hput : (Instr.mapUpdate 78 (.map (some mk)) (.agg #[.int .i64 0, .string ⟨#[]⟩]) (.slice A8 0 c8)).run Tryz.prog w14 = .ok () w15 := hput
  have U15 := U14.putMap 12 rfl hm15 hg15
  simp only [List.eraseIdx_cons_succ, List.eraseIdx_cons_zero] at U15
  rw [hk1] at U15
  clear hw F U13 U14 hm15 hg15 hz15
  refine TailSeq.cons_ rfl ?_
  go_simp
  refine TailSeq.nil_gen fun w16 hw16 => ?_
  have U16 := U15.same hw16
  clear hput hw16 U15
  go_wp2_with fail
  rw [rounds_succ]
  go_wp2_with fail
  rw [rounds_succ]
  have KAl := wAlerts b _ _ ms mp mk _ w16 (U16.blk 8 rfl) (U16.map 0 rfl) (Nat.le_refl 1)
  go_wp2_with fail
  (with_reducible refine KAl.mono ?_)
  rintro e w17 ⟨v17, rfl, hv17, hb17⟩
  have hv17 : w17.ownsRow w16.heap.size 88 2 v17 1 [.int .i64 0, .string ⟨#[]⟩] := hv17
  have U17 := U16.addRow hb17 hv17 (Nat.le_refl _)
  obtain ⟨ag, ac, rfl⟩ := row_some hv17 (by decide)
  clear KAl hb17 hv17 U16
  go_wp2_with fail
  refine wp_loop_rounds 2 ?_
  rw [rounds_succ]
  have k0 := row_cell (U17.row 0 rfl) (by decide) 0 (.int .i64 0) rfl
  have k1 := row_cell (U17.row 0 rfl) (by decide) 1 (.string ⟨#[]⟩) rfl
  go_upto_region 26 with fail
  refine wp_gen fun w18 hw18 => ?_
  have U18 := (U17.alloc #[.int .i64 0, .string ⟨#[]⟩] 88).same hw18
  clear hw18 U17 k0 k1
  have hrr := fun w' (h : Below w18.heap.size w18 w') => (U18.grow h).row 11 rfl
  have F : ∀ w', Below w18.heap.size w18 w' → w'.cell? ⟨w17.heap.size, 0, none⟩ = some (.int .i64 0) ∧ w'.cell? ⟨b, 0, none⟩ = some (.slice (some ⟨rg, 0, none⟩) 1 rc) ∧ w'.cell? ⟨rg, 0, none⟩ = some (.string nm) ∧ w'.cell? ⟨rg, 1, none⟩ = some (.string me) ∧ w'.cell? ⟨rg, 2, none⟩ = some (.slice A1 0 q1) ∧ w'.cell? ⟨rg, 3, none⟩ = some (.int .u8 1) ∧ w'.cell? ⟨rg, 4, none⟩ = some (.int .i64 lim) ∧ w'.cell? ⟨rg, 5, none⟩ = some (.int .u64 tk) ∧ w'.cell? ⟨rg, 6, none⟩ = some (.int .u64 fo) ∧ w'.cell? ⟨rg, 7, none⟩ = some (.int .u64 ke) ∧ w'.cell? ⟨rg, 8, none⟩ = some (.int .u8 pr) ∧ w'.cell? ⟨rg, 9, none⟩ = some (.slice A2 0 q2) := fun w' h => ⟨((U18.grow h).blk 0 rfl).cell (j := 0) rfl, ((U18.grow h).blk 10 rfl).cell (j := 0) rfl, row_cell (hrr w' h) (by decide) 0 (.string nm) rfl, row_cell (hrr w' h) (by decide) 1 (.string me) rfl, row_cell (hrr w' h) (by decide) 2 (.slice A1 0 q1) rfl, row_cell (hrr w' h) (by decide) 3 (.int .u8 1) rfl, row_cell (hrr w' h) (by decide) 4 (.int .i64 lim) rfl, row_cell (hrr w' h) (by decide) 5 (.int .u64 tk) rfl, row_cell (hrr w' h) (by decide) 6 (.int .u64 fo) rfl, row_cell (hrr w' h) (by decide) 7 (.int .u64 ke) rfl, row_cell (hrr w' h) (by decide) 8 (.int .u8 pr) rfl, row_cell (hrr w' h) (by decide) 9 (.slice A2 0 q2) rfl⟩
  refine region_free (fun w' => Below w18.heap.size w18 w') [8] [9] [0, 1, 2, 3, 4, 5, 6, 7, 8] (by kernel_rfl) (by kernel_rfl) (by kernel_rfl) (Below.refl _ _).drew ?_
  repeat (first
    | (refine RelSeq.pure_ (c := ?_) rfl rfl ?_ ?_; rotate_left; (focus (intro x w'; dsimp only; go_simp; (repeat' apply And.intro) <;> first | with_reducible rfl | assumption)); simp only [Act.put, List.setIfInBounds_toArray, List.set_cons_zero, List.set_cons_succ])
    | (refine RelSeq.grow_ (c := ?_) rfl rfl ?_ ?_; rotate_left; (focus (intro x w' hw _; dsimp only; obtain ⟨c0, c1, d0, d1, d2, d3, d4, d5, d6, d7, d8, d9⟩ := F w' hw; have hbr := Below.refl w'.heap.size w'; go_simp; (repeat' apply And.intro) <;> first | with_reducible rfl | assumption)); simp only [Act.put, List.setIfInBounds_toArray, List.set_cons_zero, List.set_cons_succ]))
  refine RelSeq.rel_ (NewPt w18.heap.size 0 #[.string ⟨#[]⟩, .string ⟨#[]⟩, .slice none 0 0, .int .u8 0, .int .i64 0, .int .u64 0, .int .u64 0, .int .u64 0, .int .u8 0, .slice none 0 0] 32) rfl rfl NewPt.stable ?_ ?_
  focus
    intro x w' hw _; dsimp only
    have hba : Below w'.heap.size w' (w'.alloc (.cells #[.string ⟨#[]⟩, .string ⟨#[]⟩, .slice none 0 0, .int .u8 0, .int .i64 0, .int .u64 0, .int .u64 0, .int .u64 0, .int .u8 0, .slice none 0 0] 32)) := (Below.refl _ _).alloc (Nat.le_refl _) _
    have hI := hw.trans (hba.mono hw.size)
    have hsz := hw.size
    go_simp
    (repeat' apply And.intro) <;> first | assumption | exact ⟨_, rfl, hsz, Blk.new _ _ _⟩ | exact fun _ => ⟨_, rfl, Nat.le_refl _, by simp⟩ | rfl
  simp only [Act.put, List.setIfInBounds_toArray, List.set_cons_zero, List.set_cons_succ, List.nil_append]
  refine RelSeq.nil_ fun xv w19 hw hf _ => ?_
  obtain ⟨rb, e1, hrb, hR⟩ := hf _ (.head _)
  simp only [e1]
  have U19 := U18.add hw (chBlk rb _ 32) hR (fun q hq => by rw [chBlk_fp.1 hq]; exact hrb)
  clear hf hw F U18 hR e1 hrr
  have z0 := (U19.blk 0 rfl).cell (j := 0) rfl
  have z1 := (U19.blk 0 rfl).cell (j := 1) rfl
  have z2 := (U19.blk 0 rfl).cell (j := 2) rfl
  have z3 := (U19.blk 0 rfl).cell (j := 3) rfl
  have z4 := (U19.blk 0 rfl).cell (j := 4) rfl
  have z5 := (U19.blk 0 rfl).cell (j := 5) rfl
  have z6 := (U19.blk 0 rfl).cell (j := 6) rfl
  have z7 := (U19.blk 0 rfl).cell (j := 7) rfl
  have z8 := (U19.blk 0 rfl).cell (j := 8) rfl
  have z9 := (U19.blk 0 rfl).cell (j := 9) rfl
  have zf := (U19.blk 0 rfl).frozen
  refine TailSeq.cons_ rfl ?_
  go_simp
  refine TailSeq.nil_gen fun w20 hw20 => ?_
  have U20 := ((((((((((U19.put 0 rfl 0 (.string nm)).put 0 rfl 1 (.string me)).put 0 rfl 2 (.slice A1 0 q1)).put 0 rfl 3 (.int .u8 1)).put 0 rfl 4 (.int .i64 lim)).put 0 rfl 5 (.int .u64 (tk : Nat))).put 0 rfl 6 (.int .u64 (fo : Nat))).put 0 rfl 7 (.int .u64 (ke : Nat))).put 0 rfl 8 (.int .u8 (pr : Nat))).put 0 rfl 9 (.slice A2 0 q2)).same hw20
  simp only [List.setIfInBounds_toArray, List.set_cons_succ, List.set_cons_zero, List.eraseIdx_cons_zero] at U20
  clear hw20 U19 zf z0 z1 z2 z3 z4 z5 z6 z7 z8 z9
  have a0 := (U20.blk 1 rfl).cell (j := 0) (v := .int .i64 0) rfl
  have a1 := (U20.blk 1 rfl).cell (j := 1) (v := .string ⟨#[]⟩) rfl
  have LK : (Instr.lookup 104 (.map (some w.heap.size)) (.agg #[.int .i64 0, .string ⟨#[]⟩]) false).run Tryz.prog w20 = .ok (.agg #[.bool hh, .int .i64 pt.2]) w20 := map_look1 (t := 104) Tryz.underlying104 (U20.map 4 rfl) (zeroSeen _) alN alN_ok _ (by simp [findK])
  go_upto_region 28 with fail
  refine wp_gen fun w21 hw21 => ?_
  have U21 := (U20.alloc #[.bool hh, .int .i64 pt.2] 112).same hw21
  clear hw21 U20 LK a0 a1
  obtain ⟨P1, hP1⟩ : ∃ P, P = stepP fo ke now hh pt.2 P0 := ⟨_, rfl⟩
  have KS : ∀ w', Calls Tryz.prog 33 #[.agg #[.int .u8 (P0.st : Nat), .int .u64 (P0.since : Nat), .int .u64 (P0.held : Nat), .int .i64 P0.val], .agg #[.int .u64 fo, .int .u64 ke], .int .u64 now, .bool hh, .int .i64 pt.2] w' fun e w'' => e = .returned (.agg #[.int .u8 (P1.st : Nat), .int .u64 (P1.since : Nat), .int .u64 (P1.held : Nat), .int .i64 P1.val]) ∧ Below w'.heap.size w' w'' := fun w' => by
    rw [hP1]
    exact phStep fo ke now hh pt.2 P0 w' hnow
  have KF : ∀ w', Calls Tryz.prog 34 #[.agg #[.int .u8 (P1.st : Nat), .int .u64 (P1.since : Nat), .int .u64 (P1.held : Nat), .int .i64 P1.val]] w' fun e w'' => e = .returned (.bool (decide (P1.st = 2))) ∧ Below w'.heap.size w' w'' := fun w' => phFires P1 w'
  have LP : ∀ w', Below w21.heap.size w21 w' → (Instr.lookup 77 (.map (some mp)) (.agg #[.int .i64 0, .string ⟨#[]⟩]) false).run Tryz.prog w' = .ok (.agg #[.int .u8 (P0.st : Nat), .int .u64 (P0.since : Nat), .int .u64 (P0.held : Nat), .int .i64 P0.val]) w' := fun w' h => map_look1 (t := 77) Tryz.underlying77 ((U21.grow h).map 16 rfl) (zeroPhW _) alN alN_ok _ HP0.out
  rw [HH.out] at hP1
  have HP1 := Lib.hid hP1
  clear hP1
  have F : ∀ w', Below w21.heap.size w21 w' → w'.cell? ⟨w17.heap.size, 0, none⟩ = some (.int .i64 0) ∧ w'.cell? ⟨w17.heap.size, 1, none⟩ = some (.string ⟨#[]⟩) ∧ w'.cell? ⟨b, 3, none⟩ = some (.map (some mp)) ∧ w'.cell? ⟨rb, 6, none⟩ = some (.int .u64 fo) ∧ w'.cell? ⟨rb, 7, none⟩ = some (.int .u64 ke) ∧ w'.cell? ⟨w20.heap.size, 0, none⟩ = some (.bool hh) ∧ w'.cell? ⟨w20.heap.size, 1, none⟩ = some (.int .i64 pt.2) ∧ (Instr.lookup 77 (.map (some mp)) (.agg #[.int .i64 0, .string ⟨#[]⟩]) false).run Tryz.prog w' = .ok (.agg #[.int .u8 (P0.st : Nat), .int .u64 (P0.since : Nat), .int .u64 (P0.held : Nat), .int .i64 P0.val]) w' := fun w' h => ⟨((U21.grow h).blk 2 rfl).cell (j := 0) rfl, ((U21.grow h).blk 2 rfl).cell (j := 1) rfl, ((U21.grow h).blk 12 rfl).cell (j := 3) rfl, ((U21.grow h).blk 1 rfl).cell (j := 6) (v := .int .u64 fo) rfl, ((U21.grow h).blk 1 rfl).cell (j := 7) (v := .int .u64 ke) rfl, ((U21.grow h).blk 0 rfl).cell (j := 0) rfl, ((U21.grow h).blk 0 rfl).cell (j := 1) rfl, LP w' h⟩
  refine region_free (fun w' => Below w21.heap.size w21 w') [14] [15] [0, 1, 2, 3, 4, 5, 6, 7, 8, 9, 10, 11, 12, 13, 14] (by kernel_rfl) (by kernel_rfl) (by kernel_rfl) (Below.refl _ _).drew ?_
  repeat (first
    | (refine RelSeq.pure_ (c := ?_) rfl rfl ?_ ?_; rotate_left; (focus (intro x w'; dsimp only; go_simp; (repeat' apply And.intro) <;> first | with_reducible rfl | assumption)); simp only [Act.put, List.setIfInBounds_toArray, List.set_cons_zero, List.set_cons_succ])
    | (refine RelSeq.grow_ (c := ?_) rfl rfl ?_ ?_; rotate_left; (focus (intro x w' hw _; dsimp only; obtain ⟨c0, c1, c2, d6, d7, s0, s1, l⟩ := F w' hw; have hbr := Below.refl w'.heap.size w'; go_simp; (repeat' apply And.intro) <;> first | with_reducible rfl | assumption)); simp only [Act.put, List.setIfInBounds_toArray, List.set_cons_zero, List.set_cons_succ]))
  refine RelSeq.grow_ (c := .agg #[.int .u8 (P1.st : Nat), .int .u64 (P1.since : Nat), .int .u64 (P1.held : Nat), .int .i64 P1.val]) rfl rfl ?_ ?_
  focus
    intro x w' hw _; dsimp only
    go_simp
    (with_reducible refine (KS w').mono ?_)
    rintro e w2 ⟨rfl, hb2⟩
    exact ⟨rfl, hw.trans (hb2.mono hw.size), hb2⟩
  simp only [Act.put, List.setIfInBounds_toArray, List.set_cons_zero, List.set_cons_succ]
  repeat (first
    | (refine RelSeq.pure_ (c := ?_) rfl rfl ?_ ?_; rotate_left; (focus (intro x w'; dsimp only; go_simp; (repeat' apply And.intro) <;> first | with_reducible rfl | assumption)); simp only [Act.put, List.setIfInBounds_toArray, List.set_cons_zero, List.set_cons_succ, List.nil_append, List.cons_append])
    | (refine RelSeq.grow_ (c := ?_) rfl rfl ?_ ?_; rotate_left; (focus (intro x w' hw _; dsimp only; obtain ⟨c0, c1, c2, d6, d7, s0, s1, l⟩ := F w' hw; have hbr := Below.refl w'.heap.size w'; go_simp; (repeat' apply And.intro) <;> first | with_reducible rfl | assumption)); simp only [Act.put, List.setIfInBounds_toArray, List.set_cons_zero, List.set_cons_succ, List.nil_append, List.cons_append]))
  refine RelSeq.rel_ (NewPt w21.heap.size 0 #[.int .u8 0, .int .u64 0, .int .u64 0, .int .i64 0] 58) rfl rfl NewPt.stable ?_ ?_
  focus
    intro x w' hw _; dsimp only
    have hba : Below w'.heap.size w' (w'.alloc (.cells #[.int .u8 0, .int .u64 0, .int .u64 0, .int .i64 0] 58)) := (Below.refl _ _).alloc (Nat.le_refl _) _
    have hI := hw.trans (hba.mono hw.size)
    have hsz := hw.size
    go_simp
    (repeat' apply And.intro) <;> first | assumption | exact ⟨_, rfl, hsz, Blk.new _ _ _⟩ | exact fun _ => ⟨_, rfl, Nat.le_refl _, by simp⟩ | rfl
  simp only [Act.put, List.setIfInBounds_toArray, List.set_cons_zero, List.set_cons_succ, List.nil_append]
  refine RelSeq.nil_ fun xv w22 hw hf _ => ?_
  obtain ⟨fb, e1, hfb, hR⟩ := hf _ (.head _)
  simp only [e1]
  have U22 := U21.add hw (chBlk fb _ 58) hR (fun q hq => by rw [chBlk_fp.1 hq]; exact hfb)
  clear hf hw F U21 hR e1 LP KS
  have z0 := (U22.blk 0 rfl).cell (j := 0) rfl
  have z1 := (U22.blk 0 rfl).cell (j := 1) rfl
  have z2 := (U22.blk 0 rfl).cell (j := 2) rfl
  have z3 := (U22.blk 0 rfl).cell (j := 3) rfl
  have zf := (U22.blk 0 rfl).frozen
  refine TailSeq.cons_ rfl ?_
  go_simp
  refine TailSeq.nil_gen fun w23 hw23 => ?_
  have U23 := ((((U22.put 0 rfl 0 (.int .u8 (P1.st : Nat))).put 0 rfl 1 (.int .u64 (P1.since : Nat))).put 0 rfl 2 (.int .u64 (P1.held : Nat))).put 0 rfl 3 (.int .i64 P1.val)).same hw23
  simp only [List.setIfInBounds_toArray, List.set_cons_succ, List.set_cons_zero, List.eraseIdx_cons_zero] at U23
  clear hw23 U22 zf z0 z1 z2 z3
  go_upto_region 29 with fail
  have F : ∀ w', Below w23.heap.size w23 w' → w'.cell? ⟨w17.heap.size, 0, none⟩ = some (.int .i64 0) ∧ w'.cell? ⟨w17.heap.size, 1, none⟩ = some (.string ⟨#[]⟩) ∧ w'.cell? ⟨b, 3, none⟩ = some (.map (some mp)) ∧ w'.cell? ⟨fb, 0, none⟩ = some (.int .u8 (P1.st : Nat)) ∧ w'.cell? ⟨fb, 1, none⟩ = some (.int .u64 (P1.since : Nat)) ∧ w'.cell? ⟨fb, 2, none⟩ = some (.int .u64 (P1.held : Nat)) ∧ w'.cell? ⟨fb, 3, none⟩ = some (.int .i64 P1.val) := fun w' h => ⟨((U23.grow h).blk 3 rfl).cell (j := 0) rfl, ((U23.grow h).blk 3 rfl).cell (j := 1) rfl, ((U23.grow h).blk 13 rfl).cell (j := 3) rfl, ((U23.grow h).blk 0 rfl).cell (j := 0) rfl, ((U23.grow h).blk 0 rfl).cell (j := 1) rfl, ((U23.grow h).blk 0 rfl).cell (j := 2) rfl, ((U23.grow h).blk 0 rfl).cell (j := 3) rfl⟩
  refine region_free (fun w' => Below w23.heap.size w23 w') [] [6] [0, 1, 2, 3, 4, 5] (by kernel_rfl) (by kernel_rfl) (by kernel_rfl) (Below.refl _ _).drew ?_
  repeat (first
    | (refine RelSeq.pure_ (c := ?_) rfl rfl ?_ ?_; rotate_left; (focus (intro x w'; dsimp only; go_simp; (repeat' apply And.intro) <;> first | with_reducible rfl | assumption)); simp only [Act.put, List.setIfInBounds_toArray, List.set_cons_zero, List.set_cons_succ])
    | (refine RelSeq.grow_ (c := ?_) rfl rfl ?_ ?_; rotate_left; (focus (intro x w' hw _; dsimp only; obtain ⟨c0, c1, c2, p0, p1, p2, p3⟩ := F w' hw; have hbr := Below.refl w'.heap.size w'; go_simp; (repeat' apply And.intro) <;> first | with_reducible rfl | assumption)); simp only [Act.put, List.setIfInBounds_toArray, List.set_cons_zero, List.set_cons_succ]))
  refine RelSeq.nil_ fun xv w24 hw _ _ => ?_
  have U24 := U23.grow hw
  obtain ⟨w25, hput, hm25, hg25, hz25⟩ := map_put (t := 77) Tryz.underlying77 (U24.map 17 rfl) alN alN_ok (.agg #[.int .u8 (P1.st : Nat), .int .u64 (P1.since : Nat), .int .u64 (P1.held : Nat), .int .i64 P1.val])
  have hput : (Instr.mapUpdate 77 (.map (some mp)) (.agg #[.int .i64 0, .string ⟨#[]⟩]) (.agg #[.int .u8 (P1.st : Nat), .int .u64 (P1.since : Nat), .int .u64 (P1.held : Nat), .int .i64 P1.val])).run Tryz.prog w24 = .ok () w25 := hput
  have U25 := U24.putMap 17 rfl hm25 hg25
  simp only [List.eraseIdx_cons_succ, List.eraseIdx_cons_zero] at U25
  rw [hp1] at U25
  clear hw F U23 U24 hm25 hg25 hz25
  refine TailSeq.cons_ rfl ?_
  go_simp
  refine TailSeq.nil_gen fun w26 hw26 => ?_
  have U26 := U25.same hw26
  clear hput hw26 U25
  go_upto_region 30 with fail
  have KC : ∀ w', Calls Tryz.prog 25 #[.slice A8 0 c8] w' fun e w'' => ∃ v', e = .returned v' ∧ w''.ownsRow w'.heap.size 92 2 v' 0 [] ∧ Below w'.heap.size w' w'' := fun w' => clonePairs (.slice A8 0 c8) [] w' (rd_zeroW hrl) (by decide)
  have LN : ∀ w', Below w26.heap.size w26 w' → (Instr.lookup 78 (.map (some mk)) (.agg #[.int .i64 0, .string ⟨#[]⟩]) false).run Tryz.prog w' = .ok (.slice A8 0 c8) w' := fun w' h => map_look1 (t := 78) Tryz.underlying78 ((U26.grow h).map 6 rfl) (zeroLabW _) alN alN_ok _ (by simp [findK])
  have F : ∀ w', Below w26.heap.size w26 w' → w'.cell? ⟨w17.heap.size, 0, none⟩ = some (.int .i64 0) ∧ w'.cell? ⟨w17.heap.size, 1, none⟩ = some (.string ⟨#[]⟩) ∧ w'.cell? ⟨b, 4, none⟩ = some (.map (some mk)) ∧ w'.cell? ⟨rb, 0, none⟩ = some (.string nm) ∧ w'.cell? ⟨rb, 8, none⟩ = some (.int .u8 pr) ∧ w'.cell? ⟨fb, 0, none⟩ = some (.int .u8 (P1.st : Nat)) ∧ w'.cell? ⟨fb, 1, none⟩ = some (.int .u64 (P1.since : Nat)) ∧ w'.cell? ⟨fb, 2, none⟩ = some (.int .u64 (P1.held : Nat)) ∧ w'.cell? ⟨fb, 3, none⟩ = some (.int .i64 P1.val) ∧ (Instr.lookup 78 (.map (some mk)) (.agg #[.int .i64 0, .string ⟨#[]⟩]) false).run Tryz.prog w' = .ok (.slice A8 0 c8) w' := fun w' h => ⟨((U26.grow h).blk 4 rfl).cell (j := 0) rfl, ((U26.grow h).blk 4 rfl).cell (j := 1) rfl, ((U26.grow h).blk 14 rfl).cell (j := 4) rfl, ((U26.grow h).blk 3 rfl).cell (j := 0) rfl, ((U26.grow h).blk 3 rfl).cell (j := 8) (v := .int .u8 pr) rfl, ((U26.grow h).blk 1 rfl).cell (j := 0) rfl, ((U26.grow h).blk 1 rfl).cell (j := 1) rfl, ((U26.grow h).blk 1 rfl).cell (j := 2) rfl, ((U26.grow h).blk 1 rfl).cell (j := 3) rfl, LN w' h⟩
  refine region_free (fun w' => Below w26.heap.size w26 w') [9, 16, 17] [18, 19] [0, 1, 2, 3, 4, 5, 6, 7, 8, 9, 10, 11, 12, 13, 14, 15, 16, 17] (by kernel_rfl) (by kernel_rfl) (by kernel_rfl) (Below.refl _ _).drew ?_
  repeat (first
    | (refine RelSeq.pure_ (c := ?_) rfl rfl ?_ ?_; rotate_left; (focus (intro x w'; dsimp only; go_simp; (repeat' apply And.intro) <;> first | with_reducible rfl | assumption)); simp only [Act.put, List.setIfInBounds_toArray, List.set_cons_zero, List.set_cons_succ])
    | (refine RelSeq.grow_ (c := ?_) rfl rfl ?_ ?_; rotate_left; (focus (intro x w' hw _; dsimp only; obtain ⟨c0, c1, c2, d0, d8, p0, p1, p2, p3, l⟩ := F w' hw; have hbr := Below.refl w'.heap.size w'; go_simp; (repeat' apply And.intro) <;> first | with_reducible rfl | assumption)); simp only [Act.put, List.setIfInBounds_toArray, List.set_cons_zero, List.set_cons_succ]))
  refine RelSeq.rel_ (fun v _ => ∃ A c, v = .slice A 0 c) rfl rfl (fun _ _ _ h _ => h) ?_ ?_
  focus
    intro x w' hw _; dsimp only
    go_simp
    (with_reducible refine (KC w').mono ?_)
    rintro e w2 ⟨v2, rfl, hv2, hb2⟩
    exact ⟨⟨owns_slice hv2, fun h => absurd h (by decide)⟩, hw.trans (hb2.mono hw.size), hb2⟩
  simp only [Act.put, List.setIfInBounds_toArray, List.set_cons_zero, List.set_cons_succ, List.nil_append]
  repeat (first
    | (refine RelSeq.pure_ (c := ?_) rfl rfl ?_ ?_; rotate_left; (focus (intro x w'; dsimp only; go_simp; (repeat' apply And.intro) <;> first | with_reducible rfl | assumption)); simp only [Act.put, List.setIfInBounds_toArray, List.set_cons_zero, List.set_cons_succ, List.nil_append, List.cons_append])
    | (refine RelSeq.grow_ (c := ?_) rfl rfl ?_ ?_; rotate_left; (focus (intro x w' hw _; dsimp only; obtain ⟨c0, c1, c2, d0, d8, p0, p1, p2, p3, l⟩ := F w' hw; have hbr := Below.refl w'.heap.size w'; go_simp; (repeat' apply And.intro) <;> first | with_reducible rfl | assumption)); simp only [Act.put, List.setIfInBounds_toArray, List.set_cons_zero, List.set_cons_succ]))
  refine RelSeq.grow_ (c := .bool (decide (P1.st = 2))) rfl rfl ?_ ?_
  focus
    intro x w' hw _; dsimp only
    go_simp
    (with_reducible refine (KF w').mono ?_)
    rintro e w2 ⟨rfl, hb2⟩
    exact ⟨rfl, hw.trans (hb2.mono hw.size), hb2⟩
  simp only [Act.put, List.setIfInBounds_toArray, List.set_cons_zero, List.set_cons_succ]
  repeat (first
    | (refine RelSeq.pure_ (c := ?_) rfl rfl ?_ ?_; rotate_left; (focus (intro x w'; dsimp only; go_simp; (repeat' apply And.intro) <;> first | with_reducible rfl | assumption)); simp only [Act.put, List.setIfInBounds_toArray, List.set_cons_zero, List.set_cons_succ])
    | (refine RelSeq.grow_ (c := ?_) rfl rfl ?_ ?_; rotate_left; (focus (intro x w' hw _; dsimp only; obtain ⟨c0, c1, c2, d0, d8, p0, p1, p2, p3, l⟩ := F w' hw; have hbr := Below.refl w'.heap.size w'; go_simp; (repeat' apply And.intro) <;> first | with_reducible rfl | assumption)); simp only [Act.put, List.setIfInBounds_toArray, List.set_cons_zero, List.set_cons_succ]))
  refine RelSeq.rel_ (fun v _ => ∃ A C, v = .agg #[.string nm, .slice A 0 C, .bool (decide (P1.st = 2)), .int .u8 (pr : Nat), .int .i64 P1.val]) rfl rfl (fun _ _ _ h _ => h) ?_ ?_
  focus
    intro x w' hw hf; dsimp only
    obtain ⟨A, C, e9⟩ := hf _ (.head _) (by kernel_rfl)
    have hbr := Below.refl w'.heap.size w'
    simp only [e9]
    go_simp
    rfl
  simp only [Act.put, List.setIfInBounds_toArray, List.set_cons_zero, List.set_cons_succ, List.nil_append, List.cons_append]
  refine RelSeq.rel_ (fun v u => ∃ tb A C, v = .slice (some ⟨tb, 0, none⟩) 1 1 ∧ w26.heap.size ≤ tb ∧ Blk u tb #[.string nm, .slice A 0 C, .bool (decide (P1.st = 2)), .int .u8 (pr : Nat), .int .i64 P1.val] 50) rfl rfl (fun _ _ _ ⟨tb, A, C, h1, h2, h3⟩ hb => ⟨tb, A, C, h1, h2, h3.below hb h3.lt⟩) ?_ ?_
  focus
    intro x w' hw hf; dsimp only
    obtain ⟨A, C, e16⟩ := hf _ (.tail _ (.head _)) (by kernel_rfl)
    have hba : Below w'.heap.size w' (w'.alloc (.cells #[.string nm, .slice A 0 C, .bool (decide (P1.st = 2)), .int .u8 (pr : Nat), .int .i64 P1.val] 50)) := (Below.refl _ _).alloc (Nat.le_refl _) _
    have hI := hw.trans (hba.mono hw.size)
    have hsz := hw.size
    simp only [e16]
    go_simp
    (repeat' apply And.intro) <;> first | assumption | exact ⟨_, A, C, rfl, hsz, Blk.new _ _ _⟩ | exact ⟨A, C, Blk.new _ _ _⟩ | exact ⟨hsz, A, C, Blk.new _ _ _⟩ | rfl
  simp only [Act.put, List.setIfInBounds_toArray, List.set_cons_zero, List.set_cons_succ, List.nil_append, List.cons_append]
  refine RelSeq.nil_ fun xv w27 hw hf _ => ?_
  obtain ⟨tb, Aw, Cw, e9, htb, hTb⟩ := hf _ (.tail _ (.tail _ (.head _)))
  have U27 := (U26.nilRow 50 5).add hw (chBlk tb _ 50) hTb (fun q hq => by rw [chBlk_fp.1 hq]; exact htb)
  clear hf hw F U26 hTb LN KC KF
  obtain ⟨i0, hi, hz0, hz1, hz2⟩ := info_parts infoWant
  refine TailSeq.cons_ rfl ?_
  refine wp_append_rd (.tmp 147) (.tmp 164) 47 rfl 0 50 i0 _ 5 56 Tryz.underlying47 hi hz0 hz1 hz2 rfl (by decide) (.slice none 0 0) 0 _ rfl (U27.row 1 rfl) (.slice (some ⟨tb, 0, none⟩) 1 1) 1 _ (by exact e9) (rd_oneW (U27.blk 0 rfl) (n := 5) rfl) (by intro u hu; simp at hu; rcases hu with rfl | rfl | rfl | rfl | rfl <;> rfl) (by unfold maxLen; omega) (by omega) (Nat.zero_le _) fun v28 w28 hown28 hgr28 hv28 => ?_
  refine ⟨rfl, ?_⟩
  have U28 := U27.app 1 rfl hown28 hgr28 hv28
  simp only [List.eraseIdx_cons_succ, List.eraseIdx_cons_zero] at U28
  obtain ⟨A28, c28, rfl⟩ := owns_slice hown28
  clear U27 hown28 hgr28 hv28 e9
  simp only [out, Act.put, List.setIfInBounds_toArray, List.set_cons_zero, List.set_cons_succ]
  refine TailSeq.cons_ rfl ?_
  go_simp
  refine TailSeq.nil_gen fun w29 hw29 => ?_
  have U29 := U28.same hw29
  clear hw29 U28
  go_wp2_with fail
  rw [rounds_succ]
  go_wp2_with fail
  go_ret
  refine ⟨.slice A28 (0 + 1) c28, .slice Aw 0 Cw, .slice A8 0 c8, rfl, ?_⟩
  rw [← HP1.out]
  have U30 := U29.pick [16, 17, 18, 19, 2, 8, 20, 0] (by decide)
  simp only [List.filterMap_cons, List.filterMap_nil, List.getElem?_cons_zero, List.getElem?_cons_succ] at U30
  exact Upd.grp (l := wParts b (.slice (some ⟨rg, 0, none⟩) 1 rc) [⟨nm, me, .slice A1 0 q1, [], 1, lim, tk, fo, ke, pr, .slice A2 0 q2, []⟩] ms [(keyN me, .agg #[.slice A3 0 c3, .slice (some ⟨pg, 0, none⟩) pts.length pc])] (.slice (some ⟨og, 0, none⟩) 1 oc) [keyN me] mp [(alN, P1.agg)] mk [(alN, .slice A8 0 c8)] ++ [chRow 140 2 (.slice (some ⟨pg, 0, none⟩) pts.length pc) pts.length (pts.flatMap ptC)]) U30
end Go.Proofs.YtgpojkofegajeaaGreatDoor
