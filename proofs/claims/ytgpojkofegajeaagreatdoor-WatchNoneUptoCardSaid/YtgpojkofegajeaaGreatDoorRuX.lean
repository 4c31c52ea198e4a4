/-
  rules.Line: a line's words as a rule.
-/
import Derived.Test.YtgpojkofegajeaaGreatDoorRuL
import Derived.RegionTactic
import Derived.BigRegion
import Derived.OwnWalk
import Derived.Deep.CutRange
namespace Go.Proofs.YtgpojkofegajeaaGreatDoor
open Go.RowKit
set_option maxRecDepth 100000

theorem rd_nil0 (w : World) (size : Nat) : Rd w size (.slice none 0 0) 0 [] := ⟨none, 0, rfl, by simp, Nat.le_refl _, by simp [maxLen], fun hn => by omega⟩
def lineO (ws : List ByteArray) (iv wv : Value) : RuV := if lineE ws = 0 then lineR ws iv wv else zeroR
theorem lineO_ok {ws : List ByteArray} {iv wv : Value} (h : lineE ws = 0) : lineO ws iv wv = lineR ws iv wv := if_pos h
theorem lineO_bad {ws : List ByteArray} {iv wv : Value} (h : lineE ws ≠ 0) : lineO ws iv wv = zeroR := if_neg h
/-- A rule whose labels are own memory. -/
structure RuV.good (r : RuV) (w : World) (base : Nat) : Prop where
  nm : r.nm.size ≤ maxLen
  me : r.me.size ≤ maxLen
  iz : ∀ p ∈ r.ips, p.1.size ≤ maxLen ∧ p.2.size ≤ maxLen
  wz : ∀ p ∈ r.wps, p.1.size ≤ maxLen ∧ p.2.size ≤ maxLen
  k : r.k < 256
  pr : r.pr < 256
  io : w.ownsRow base 92 2 r.iv r.ips.length (pairCells r.ips)
  wo : w.ownsRow base 92 2 r.wv r.wps.length (pairCells r.wps)
theorem RuV.good.ok {r : RuV} {w : World} {base : Nat} (h : r.good w base) : r.ok w := ⟨h.nm, h.me, rd_of_owns h.io, h.iz, rd_of_owns h.wo, h.wz, h.k, h.pr⟩
theorem RuV.good.below {r : RuV} {w w' : World} {base : Nat} (h : r.good w base) (hb : Below w.heap.size w w') : r.good w' base := ⟨h.nm, h.me, h.iz, h.wz, h.k, h.pr, owns_below h.io hb, owns_below h.wo hb⟩
theorem RuV.good.mono {r : RuV} {w : World} {base base' : Nat} (h : r.good w base) (hb : base' ≤ base) : r.good w base' := ⟨h.nm, h.me, h.iz, h.wz, h.k, h.pr, owns_mono h.io hb, owns_mono h.wo hb⟩
theorem Upd.rowBase {w0 w : World} {C : List Chunk} (h : Upd [] w0 C w) (i : Nat) {e : TypeId} {size : Nat} {v : Value} {n : Nat} {xs : List Value} (hi : C[i]? = some (chRow e size v n xs)) : w.ownsRow w0.heap.size e size v n xs :=
  owns_base (h.row i hi) fun g hg => by
    rcases h.own _ (List.mem_of_getElem? hi) g (by simp [chRow, hg]) with h1 | h1
    · cases h1
    · exact h1
theorem zero_good (w : World) (base : Nat) : zeroR.good w base := ⟨by decide, by decide, (fun p hp => by cases hp), (fun p hp => by cases hp), by decide, by decide, World.ownsRow_nil _ _ _ _, World.ownsRow_nil _ _ _ _⟩
theorem failE_pos {e x : Nat} (hx : x ≠ 0) : failE e x ≠ 0 := by
  unfold failE
  split
  · exact hx
  · assumption
theorem infoStrX : ∃ i, Tryz.prog.info? 9 = some i ∧ i.zero = some (.string ⟨#[]⟩) ∧ i.size = 1 ∧ i.bytes = 16 := by
  refine ⟨_, rfl, ?_, ?_, ?_⟩ <;> kernel_rfl
theorem wd_join {S : List Nat} {w0 w : World} {C : List Chunk} {g : Nat} {v : Value} {ws : List ByteArray} (h : Upd S w0 (chBlk g #[v, .int .i64 0] 159 :: chRow 9 1 v ws.length (wsC ws) :: C) w) :
    Upd S w0 (chWd (rdFp v ws.length) g ws 0 :: C) w := by
  have hsub : ∀ q ∈ rdFp v ws.length, q ∈ (chRow 9 1 v ws.length (wsC ws)).fp := fun q hq => by
    unfold rdFp at hq
    split at hq
    · cases hq
    · exact hq
  have hro := h.row 1 rfl
  refine h.join _ ⟨v, h.blk 0 rfl, rd_of_owns hro, fun hg => ?_, fun q hq => hq, fun q hq => ?_⟩ fun b hb => ?_
  · exact (List.pairwise_cons.1 h.apart).1 _ (.head _) g (.head _) (hsub g hg)
  · exact h.lt (.tail _ (.head _)) (hsub q hq)
  · rcases List.mem_cons.1 hb with rfl | hb
    · exact .inl (.head _)
    · exact .inr (hsub b hb)
set_option maxHeartbeats 16000000 in
theorem ruLine (v : Value) (ws : List ByteArray) (mx : Int) (w : World) (hr : Rd w 1 v ws.length (wsC ws)) (hz : ∀ s ∈ ws, s.size ≤ maxLen) (hlen : ws.length ≤ 1099511627776) (hm : w.cell? ⟨2, 0, none⟩ = some (.int .i64 mx)) :
    Calls Tryz.prog 44 #[v] w fun en w' => ∃ iv wv, en = .returned (.tuple #[(lineO ws iv wv).agg, .int .i64 (lineE ws : Nat)]) ∧ (lineO ws iv wv).good w' w.heap.size ∧ Below w.heap.size w w' := by
  obtain ⟨i0, hi, hz0, hz1, hz2⟩ := infoStrX
  obtain ⟨A, k, rfl, _⟩ := id hr
  have S0 := ((Upd.nil [] w).alloc #[.string ⟨#[]⟩, .string ⟨#[]⟩, .slice none 0 0, .int .u8 0, .int .i64 0, .int .u64 0, .int .u64 0, .int .u64 0, .int .u8 0, .slice none 0 0] 32).alloc #[] 9
  rw [allocSzC] at S0
  have HM := Lib.hid hm
  have HZ := Lib.hid hz
  obtain ⟨nm, h_nm⟩ : ∃ x, x = ws.headD ⟨#[]⟩ := ⟨_, rfl⟩
  obtain ⟨me, h_me⟩ : ∃ x, x = ws.tail.headD ⟨#[]⟩ := ⟨_, rfl⟩
  obtain ⟨kc, h_kc⟩ : ∃ x, x = condK (lnC ws) := ⟨_, rfl⟩
  obtain ⟨lc, h_lc⟩ : ∃ x, x = condL (lnC ws) := ⟨_, rfl⟩
  obtain ⟨tc, h_tc⟩ : ∃ x, x = condT (lnC ws) := ⟨_, rfl⟩
  obtain ⟨fo, h_fo⟩ : ∃ x, x = lnFo ws := ⟨_, rfl⟩
  obtain ⟨ke, h_ke⟩ : ∃ x, x = lnKe ws := ⟨_, rfl⟩
  obtain ⟨pr, h_pr⟩ : ∃ x, x = lnPr ws := ⟨_, rfl⟩
  obtain ⟨ps1, h_ps1⟩ : ∃ x, x = lnP ws := ⟨_, rfl⟩
  obtain ⟨ps2, h_ps2⟩ : ∃ x, x = lnQ ws := ⟨_, rfl⟩
  obtain ⟨n13, h_n13⟩ : ∃ x, x = (lnW13 ws).length := ⟨_, rfl⟩
  obtain ⟨e13, h_e13⟩ : ∃ x, x = lnE13 ws := ⟨_, rfl⟩
  have HLE := Lib.hid (show lineE ws = if (if n13 = 0 then e13 else failE e13 2) = 0 then lnChk ws else (if n13 = 0 then e13 else failE e13 2) by rw [h_n13, h_e13]; rfl)
  have s1 : nm.size ≤ maxLen := by rw [h_nm]; exact headD_small hz
  have s2 : me.size ≤ maxLen := by rw [h_me]; exact headD_small (small_tail hz)
  have s3 : ∀ p ∈ ps1, p.1.size ≤ maxLen ∧ p.2.size ≤ maxLen := by rw [h_ps1]; exact lnP_small hz
  have s4 : ∀ p ∈ ps2, p.1.size ≤ maxLen ∧ p.2.size ≤ maxLen := by rw [h_ps2]; exact lnQ_small hz
  have s5 : kc < 256 := by rw [h_kc]; exact condK_lt _
  have s6 : pr ≤ 7 := by rw [h_pr]; exact nmV_le _ _
  have HS := Lib.hid (And.intro s1 (And.intro s2 (And.intro s3 (And.intro s4 (And.intro s5 s6)))))
  have wpr : IntKind.u8.wrap (pr : Int) = (pr : Int) := by simp only [IntKind.wrap, IntKind.bits, IntKind.signed]; simp; omega
  have hcd : cdA kFor (lnW4 ws) = .agg #[.int .u8 (kc : Nat), .int .i64 lc, .int .u64 (tc : Nat)] := by rw [h_kc, h_lc, h_tc]; rfl
  have HC := Lib.hid (show lnChk ws = chkR (nameB nm) (nameB me) (ownName nm) (chkL ps1) (chkL ps2) (chkC kc lc tc) (chkW fo ke) pr by rw [h_nm, h_me, h_ps1, h_ps2, h_kc, h_lc, h_tc, h_fo, h_ke, h_pr]; rfl)
  have HLR := Lib.hid (show ∀ iv wv, lineR ws iv wv = ⟨nm, me, iv, ps1, kc, lc, tc, fo, ke, pr, wv, ps2⟩ from fun iv wv => by rw [h_nm, h_me, h_ps1, h_ps2, h_kc, h_lc, h_tc, h_fo, h_ke, h_pr]; rfl)
  have H_nm := Lib.hid h_nm
  have H_me := Lib.hid h_me
  have H_kc := Lib.hid h_kc
  have H_lc := Lib.hid h_lc
  have H_tc := Lib.hid h_tc
  have H_fo := Lib.hid h_fo
  have H_ke := Lib.hid h_ke
  have H_pr := Lib.hid h_pr
  have H_ps1 := Lib.hid h_ps1
  have H_ps2 := Lib.hid h_ps2
  have H_n13 := Lib.hid h_n13
  have H_e13 := Lib.hid h_e13
  have HCD := Lib.hid hcd
  have HR := Lib.hid hr
  clear hr hz hm hcd s1 s2 s3 s4 s5 s6 h_nm h_me h_kc h_lc h_tc h_fo h_ke h_pr h_ps1 h_ps2 h_n13 h_e13
  go_enter Tryz.func44, Tryz.ntmps44
  go_wp2_with (at_builtin; refine wpl_stop fun W hW => ?_)
  refine Stopped.mk ?_
  try rw [← hW]
  have S1 := S0.same hW
  have hbW : Below w.heap.size w W := S1.below
  have hown := owns_of_blk (S1.blk 0 rfl) (Nat.zero_le _) (by simp [maxLen])
  have S2 := S1.say (chRow 9 1 (.slice (some ⟨w.heap.size + 1, 0, none⟩) 0 0) 0 []) hown (fun b hb => by simpa [chRow, chBlk, Value.ownBlock] using hb)
  have HRW := HR.out.below hbW
  clear hW S0 S1 hown
  refine wpl_append_rd rfl (.tmp 6) (.tmp 7) 70 rfl 0 9 i0 _ 1 16 Tryz.underlying70 hi hz0 hz1 hz2 rfl (by decide) _ 0 _ rfl (S2.row 0 rfl) _ ws.length _ rfl HRW (by intro u hu; simp [wsC] at hu; obtain ⟨_, _, rfl⟩ := hu; rfl) (by unfold maxLen; omega) (by omega) (Nat.zero_le _) fun v4 w4 hown4 hgr4 hv4 => ?_
  have S4 := S2.app 0 rfl hown4 hgr4 hv4
  rw [Nat.zero_add, List.nil_append] at S4 hown4
  simp only [List.eraseIdx_cons_zero] at S4
  obtain ⟨A4, c4, rfl⟩ := owns_slice hown4
  clear hown4 hgr4 hv4 S2 HRW hbW hi hz0 hz1 hz2
  obtain ⟨g, hg⟩ : ∃ g, g = w4.heap.size := ⟨_, rfl⟩
  have hgl : w.heap.size < g := by rw [hg]; exact (S4.blk 1 rfl).lt
  have n1 : ¬ g = w.heap.size := by omega
  have n2 : ¬ w.heap.size = g := by omega
  have n3 : ¬ g + 1 = w.heap.size := by omega
  have n4 : ¬ w.heap.size = g + 1 := by omega
  have S5 := (S4.alloc #[.slice A4 ws.length c4, .int .i64 0] 159).alloc #[.string ⟨#[]⟩, .string ⟨#[]⟩, .slice none 0 0, .int .u8 0, .int .i64 0, .int .u64 0, .int .u64 0, .int .u64 0, .int .u8 0, .slice none 0 0] 32
  rw [allocSzC, ← hg] at S5
  clear S4
  go_wp2_with fail
  rw [← hg]
  refine calls_genP fun W1 hW1 => ?_
  have S6 := S5.same hW1
  have S7 := (S6.front 2 rfl).front 2 rfl
  simp only [List.eraseIdx_cons_zero, List.eraseIdx_cons_succ] at S7
  have U1 := wd_join S7
  obtain ⟨T, hT⟩ : ∃ T, T = rdFp (.slice A4 ws.length c4) ws.length := ⟨_, rfl⟩
  rw [← hT] at U1
  have hn : 2 ∉ g :: T := fun h => by
    have h1 := U1.own _ (.head _) _ h
    have h2 := World.block_lt_of_cell? w _ HM.out
    rcases h1 with h1 | h1
    · cases h1
    · exact absurd h2 (by simp; omega)
  have HN := Lib.hid hn
  clear S5 S6 S7 hW1 hn hT hg
  have K := wNext T g ws 0 W1 (U1.get 0 rfl)
  rw [← H_nm.out] at K
  (with_reducible refine K.mono ?_)
  rintro en w51 ⟨rfl, hU⟩
  have U2 : Upd [] w [chWd T g (ws.tail) (nxE ws 0), chBlk (g + 1) #[.string ⟨#[]⟩, .string ⟨#[]⟩, .slice none 0 0, .int .u8 0, .int .i64 0, .int .u64 0, .int .u64 0, .int .u64 0, .int .u8 0, .slice none 0 0] 32, chBlk w.heap.size #[.string ⟨#[]⟩, .string ⟨#[]⟩, .slice none 0 0, .int .u8 0, .int .i64 0, .int .u64 0, .int .u64 0, .int .u64 0, .int .u8 0, .slice none 0 0] 32] w51 := U1.turn 0 rfl hU
  clear hU K U1
  have d0 := (U2.blk 1 rfl).cell (j := 0) (v := .string ⟨#[]⟩) rfl
  have f0 := (U2.blk 1 rfl).frozen 0
  go_wp2_with fail
  refine calls_genP fun W3 hW => ?_
  have U3 := (U2.put 1 rfl 0 (.string nm)).same hW
  simp only [List.setIfInBounds_toArray, List.set_cons_zero, List.eraseIdx_cons_zero, List.eraseIdx_cons_succ] at U3
  clear hW U2 d0 f0
  have K := wNext T g ws.tail (nxE ws 0) W3 (U3.get 1 rfl)
  rw [← H_me.out] at K
  (with_reducible refine K.mono ?_)
  rintro en w53 ⟨rfl, hU⟩
  have U4 : Upd [] w [chWd T g (lnW2 ws) (lnE2 ws), chBlk (g + 1) #[.string nm, .string ⟨#[]⟩, .slice none 0 0, .int .u8 0, .int .i64 0, .int .u64 0, .int .u64 0, .int .u64 0, .int .u8 0, .slice none 0 0] 32, chBlk w.heap.size #[.string ⟨#[]⟩, .string ⟨#[]⟩, .slice none 0 0, .int .u8 0, .int .i64 0, .int .u64 0, .int .u64 0, .int .u64 0, .int .u8 0, .slice none 0 0] 32] w53 := U3.turn 1 rfl hU
  clear hU K U3
  have d1 := (U4.blk 1 rfl).cell (j := 1) (v := .string ⟨#[]⟩) rfl
  have f1 := (U4.blk 1 rfl).frozen 1
  go_wp2_with fail
  refine calls_genP fun W5 hW => ?_
  have U5 := (U4.put 1 rfl 1 (.string me)).same hW
  simp only [List.setIfInBounds_toArray, List.set_cons_zero, List.set_cons_succ, List.eraseIdx_cons_zero, List.eraseIdx_cons_succ] at U5
  clear hW U4 d1 f1
  cases hI : lnI ws with
  | true =>
    have K := wIs T g ⟨#[105, 102]⟩ (lnW2 ws) (lnE2 ws) W5 (U5.get 1 rfl)
    rw [show isW ⟨#[105, 102]⟩ (lnW2 ws) = true from hI] at K
    (with_reducible refine K.mono ?_)
    rintro en w55 ⟨rfl, hU⟩
    have U6 : Upd [] w [chWd T g (lnW3 ws) (lnE2 ws), chBlk (g + 1) #[.string nm, .string me, .slice none 0 0, .int .u8 0, .int .i64 0, .int .u64 0, .int .u64 0, .int .u64 0, .int .u8 0, .slice none 0 0] 32, chBlk w.heap.size #[.string ⟨#[]⟩, .string ⟨#[]⟩, .slice none 0 0, .int .u8 0, .int .i64 0, .int .u64 0, .int .u64 0, .int .u64 0, .int .u8 0, .slice none 0 0] 32] w55 := U5.turn 1 rfl hU
    clear hU K U5
    go_wp2_with fail
    have K := wLabels T g (lnW3 ws) (lnE2 ws) mx w55 (U6.get 0 rfl) (small3 HZ.out) (cell_upd U6 (by simp) HM.out) HN.out
    rw [show lbL (lnW3 ws) = ps1 by rw [H_ps1.out]; unfold lnP; rw [hI]; rfl] at K
    (with_reducible refine K.mono ?_)
    rintro en w56 ⟨vv, rfl, hU⟩
    obtain ⟨A5, c5, rfl⟩ := owns_slice (hU.row 1 rfl)
    rw [show (lnW3 ws).tail = lnW4 ws by unfold lnW4; rw [hI]; rfl, show lbE (lnW3 ws) (lnE2 ws) = lnE4 ws by unfold lnE4; rw [hI]; rfl] at hU
    have U7 : Upd [] w [chWd T g (lnW4 ws) (lnE4 ws), chRow 92 2 (.slice A5 ps1.length c5) ps1.length (pairCells ps1), chBlk (g + 1) #[.string nm, .string me, .slice none 0 0, .int .u8 0, .int .i64 0, .int .u64 0, .int .u64 0, .int .u64 0, .int .u8 0, .slice none 0 0] 32, chBlk w.heap.size #[.string ⟨#[]⟩, .string ⟨#[]⟩, .slice none 0 0, .int .u8 0, .int .i64 0, .int .u64 0, .int .u64 0, .int .u64 0, .int .u8 0, .slice none 0 0] 32] w56 := U6.turn 0 rfl hU
    clear hU K U6
    have d2 := (U7.blk 2 rfl).cell (j := 2) (v := .slice none 0 0) rfl
    have f2 := (U7.blk 2 rfl).frozen 2
    go_wp2_with fail
    refine calls_genP fun W8 hW => ?_
    have U8 := (U7.put 2 rfl 2 (.slice A5 ps1.length c5)).same hW
    simp only [List.setIfInBounds_toArray, List.set_cons_zero, List.set_cons_succ, List.eraseIdx_cons_zero, List.eraseIdx_cons_succ] at U8
    clear hW U7 d2 f2
    have K := wCond T g ⟨#[102, 111, 114]⟩ (lnW4 ws) (lnE4 ws) W8 (U8.get 1 rfl) (small4 HZ.out)
    rw [show cdA ⟨#[102, 111, 114]⟩ (lnW4 ws) = _ from HCD.out] at K
    (with_reducible refine K.mono ?_)
    rintro en w58 ⟨rfl, hU⟩
    have U9 : Upd [] w [chWd T g (lnW5 ws) (lnE5 ws), chBlk (g + 1) #[.string nm, .string me, .slice A5 ps1.length c5, .int .u8 0, .int .i64 0, .int .u64 0, .int .u64 0, .int .u64 0, .int .u8 0, .slice none 0 0] 32, chRow 92 2 (.slice A5 ps1.length c5) ps1.length (pairCells ps1), chBlk w.heap.size #[.string ⟨#[]⟩, .string ⟨#[]⟩, .slice none 0 0, .int .u8 0, .int .i64 0, .int .u64 0, .int .u64 0, .int .u64 0, .int .u8 0, .slice none 0 0] 32] w58 := U8.turn 1 rfl hU
    clear hU K U8
    have d3 := (U9.blk 1 rfl).cell (j := 3) (v := .int .u8 0) rfl
    have f3 := (U9.blk 1 rfl).frozen 3
    have d4 := (U9.blk 1 rfl).cell (j := 4) (v := .int .i64 0) rfl
    have f4 := (U9.blk 1 rfl).frozen 4
    have d5 := (U9.blk 1 rfl).cell (j := 5) (v := .int .u64 0) rfl
    have f5 := (U9.blk 1 rfl).frozen 5
    go_wp2_with fail
    refine calls_genP fun W10 hW => ?_
    have U10 := (((U9.put 1 rfl 3 (.int .u8 (kc : Nat))).put 0 rfl 4 (.int .i64 lc)).put 0 rfl 5 (.int .u64 (tc : Nat))).same hW
    simp only [List.setIfInBounds_toArray, List.set_cons_zero, List.set_cons_succ, List.eraseIdx_cons_zero, List.eraseIdx_cons_succ] at U10
    clear hW U9 d3 f3 d4 f4 d5 f5
    have K := wWant T g ⟨#[102, 111, 114]⟩ (lnW5 ws) (lnE5 ws) W10 (U10.get 1 rfl)
    (with_reducible refine K.mono ?_)
    rintro en w60 ⟨rfl, hU⟩
    have U11 : Upd [] w [chWd T g (lnW6 ws) (lnE6 ws), chBlk (g + 1) #[.string nm, .string me, .slice A5 ps1.length c5, .int .u8 (kc : Nat), .int .i64 lc, .int .u64 (tc : Nat), .int .u64 0, .int .u64 0, .int .u8 0, .slice none 0 0] 32, chRow 92 2 (.slice A5 ps1.length c5) ps1.length (pairCells ps1), chBlk w.heap.size #[.string ⟨#[]⟩, .string ⟨#[]⟩, .slice none 0 0, .int .u8 0, .int .i64 0, .int .u64 0, .int .u64 0, .int .u64 0, .int .u8 0, .slice none 0 0] 32] w60 := U10.turn 1 rfl hU
    clear hU K U10
    go_wp2_with fail
    have K := wNumber T g (lnW6 ws) (lnE6 ws) 1048576 1048576 rfl w60 (U11.get 0 rfl) (small6 HZ.out)
    rw [show nmV (lnW6 ws) 1048576 = _ from H_fo.out.symm] at K
    (with_reducible refine K.mono ?_)
    rintro en w61 ⟨rfl, hU⟩
    have U12 : Upd [] w [chWd T g ((lnW6 ws).tail) (lnE7 ws), chBlk (g + 1) #[.string nm, .string me, .slice A5 ps1.length c5, .int .u8 (kc : Nat), .int .i64 lc, .int .u64 (tc : Nat), .int .u64 0, .int .u64 0, .int .u8 0, .slice none 0 0] 32, chRow 92 2 (.slice A5 ps1.length c5) ps1.length (pairCells ps1), chBlk w.heap.size #[.string ⟨#[]⟩, .string ⟨#[]⟩, .slice none 0 0, .int .u8 0, .int .i64 0, .int .u64 0, .int .u64 0, .int .u64 0, .int .u8 0, .slice none 0 0] 32] w61 := U11.turn 0 rfl hU
    clear hU K U11
    have d6 := (U12.blk 1 rfl).cell (j := 6) (v := .int .u64 0) rfl
    have f6 := (U12.blk 1 rfl).frozen 6
    go_wp2_with fail
    refine calls_genP fun W13 hW => ?_
    have U13 := (U12.put 1 rfl 6 (.int .u64 (fo : Nat))).same hW
    simp only [List.setIfInBounds_toArray, List.set_cons_zero, List.set_cons_succ, List.eraseIdx_cons_zero, List.eraseIdx_cons_succ] at U13
    clear hW U12 d6 f6
    have K := wWant T g ⟨#[107, 101, 101, 112]⟩ ((lnW6 ws).tail) (lnE7 ws) W13 (U13.get 1 rfl)
    (with_reducible refine K.mono ?_)
    rintro en w63 ⟨rfl, hU⟩
    have U14 : Upd [] w [chWd T g (lnW8 ws) (lnE8 ws), chBlk (g + 1) #[.string nm, .string me, .slice A5 ps1.length c5, .int .u8 (kc : Nat), .int .i64 lc, .int .u64 (tc : Nat), .int .u64 (fo : Nat), .int .u64 0, .int .u8 0, .slice none 0 0] 32, chRow 92 2 (.slice A5 ps1.length c5) ps1.length (pairCells ps1), chBlk w.heap.size #[.string ⟨#[]⟩, .string ⟨#[]⟩, .slice none 0 0, .int .u8 0, .int .i64 0, .int .u64 0, .int .u64 0, .int .u64 0, .int .u8 0, .slice none 0 0] 32] w63 := U13.turn 1 rfl hU
    clear hU K U13
    go_wp2_with fail
    have K := wNumber T g (lnW8 ws) (lnE8 ws) 1048576 1048576 rfl w63 (U14.get 0 rfl) (small8 HZ.out)
    rw [show nmV (lnW8 ws) 1048576 = _ from H_ke.out.symm] at K
    (with_reducible refine K.mono ?_)
    rintro en w64 ⟨rfl, hU⟩
    have U15 : Upd [] w [chWd T g ((lnW8 ws).tail) (lnE9 ws), chBlk (g + 1) #[.string nm, .string me, .slice A5 ps1.length c5, .int .u8 (kc : Nat), .int .i64 lc, .int .u64 (tc : Nat), .int .u64 (fo : Nat), .int .u64 0, .int .u8 0, .slice none 0 0] 32, chRow 92 2 (.slice A5 ps1.length c5) ps1.length (pairCells ps1), chBlk w.heap.size #[.string ⟨#[]⟩, .string ⟨#[]⟩, .slice none 0 0, .int .u8 0, .int .i64 0, .int .u64 0, .int .u64 0, .int .u64 0, .int .u8 0, .slice none 0 0] 32] w64 := U14.turn 0 rfl hU
    clear hU K U14
    have d7 := (U15.blk 1 rfl).cell (j := 7) (v := .int .u64 0) rfl
    have f7 := (U15.blk 1 rfl).frozen 7
    go_wp2_with fail
    refine calls_genP fun W16 hW => ?_
    have U16 := (U15.put 1 rfl 7 (.int .u64 (ke : Nat))).same hW
    simp only [List.setIfInBounds_toArray, List.set_cons_zero, List.set_cons_succ, List.eraseIdx_cons_zero, List.eraseIdx_cons_succ] at U16
    clear hW U15 d7 f7
    have K := wWant T g ⟨#[112, 114, 105, 111]⟩ ((lnW8 ws).tail) (lnE9 ws) W16 (U16.get 1 rfl)
    (with_reducible refine K.mono ?_)
    rintro en w66 ⟨rfl, hU⟩
    have U17 : Upd [] w [chWd T g (lnW10 ws) (lnE10 ws), chBlk (g + 1) #[.string nm, .string me, .slice A5 ps1.length c5, .int .u8 (kc : Nat), .int .i64 lc, .int .u64 (tc : Nat), .int .u64 (fo : Nat), .int .u64 (ke : Nat), .int .u8 0, .slice none 0 0] 32, chRow 92 2 (.slice A5 ps1.length c5) ps1.length (pairCells ps1), chBlk w.heap.size #[.string ⟨#[]⟩, .string ⟨#[]⟩, .slice none 0 0, .int .u8 0, .int .i64 0, .int .u64 0, .int .u64 0, .int .u64 0, .int .u8 0, .slice none 0 0] 32] w66 := U16.turn 1 rfl hU
    clear hU K U16
    go_wp2_with fail
    have K := wNumber T g (lnW10 ws) (lnE10 ws) 7 7 rfl w66 (U17.get 0 rfl) (small10 HZ.out)
    rw [show nmV (lnW10 ws) 7 = _ from H_pr.out.symm] at K
    (with_reducible refine K.mono ?_)
    rintro en w67 ⟨rfl, hU⟩
    have U18 : Upd [] w [chWd T g ((lnW10 ws).tail) (lnE11 ws), chBlk (g + 1) #[.string nm, .string me, .slice A5 ps1.length c5, .int .u8 (kc : Nat), .int .i64 lc, .int .u64 (tc : Nat), .int .u64 (fo : Nat), .int .u64 (ke : Nat), .int .u8 0, .slice none 0 0] 32, chRow 92 2 (.slice A5 ps1.length c5) ps1.length (pairCells ps1), chBlk w.heap.size #[.string ⟨#[]⟩, .string ⟨#[]⟩, .slice none 0 0, .int .u8 0, .int .i64 0, .int .u64 0, .int .u64 0, .int .u64 0, .int .u8 0, .slice none 0 0] 32] w67 := U17.turn 0 rfl hU
    clear hU K U17
    have d8 := (U18.blk 1 rfl).cell (j := 8) (v := .int .u8 0) rfl
    have f8 := (U18.blk 1 rfl).frozen 8
    go_wp2_with fail
    refine calls_genP fun W19 hW => ?_
    have U19 := (U18.put 1 rfl 8 (.int .u8 (pr : Nat))).same hW
    simp only [List.setIfInBounds_toArray, List.set_cons_zero, List.set_cons_succ, List.eraseIdx_cons_zero, List.eraseIdx_cons_succ] at U19
    clear hW U18 d8 f8
    cases hH : lnH ws with
    | true =>
      have K := wIs T g ⟨#[119, 105, 116, 104]⟩ ((lnW10 ws).tail) (lnE11 ws) W19 (U19.get 1 rfl)
      rw [show isW ⟨#[119, 105, 116, 104]⟩ (lnW10 ws).tail = true from hH] at K
      (with_reducible refine K.mono ?_)
      rintro en w69 ⟨rfl, hU⟩
      have U20 : Upd [] w [chWd T g (lnW12 ws) (lnE11 ws), chBlk (g + 1) #[.string nm, .string me, .slice A5 ps1.length c5, .int .u8 (kc : Nat), .int .i64 lc, .int .u64 (tc : Nat), .int .u64 (fo : Nat), .int .u64 (ke : Nat), .int .u8 (pr : Nat), .slice none 0 0] 32, chRow 92 2 (.slice A5 ps1.length c5) ps1.length (pairCells ps1), chBlk w.heap.size #[.string ⟨#[]⟩, .string ⟨#[]⟩, .slice none 0 0, .int .u8 0, .int .i64 0, .int .u64 0, .int .u64 0, .int .u64 0, .int .u8 0, .slice none 0 0] 32] w69 := U19.turn 1 rfl hU
      clear hU K U19
      go_wp2_with fail
      have K := wLabels T g (lnW12 ws) (lnE11 ws) mx w69 (U20.get 0 rfl) (small12 HZ.out) (cell_upd U20 (by simp) HM.out) HN.out
      rw [show lbL (lnW12 ws) = ps2 by rw [H_ps2.out]; unfold lnQ; rw [hH]; rfl] at K
      (with_reducible refine K.mono ?_)
      rintro en w70 ⟨vv, rfl, hU⟩
      obtain ⟨A6, c6, rfl⟩ := owns_slice (hU.row 1 rfl)
      rw [show (lnW12 ws).tail = lnW13 ws by unfold lnW13; rw [hH]; rfl, show lbE (lnW12 ws) (lnE11 ws) = lnE13 ws by unfold lnE13; rw [hH]; rfl] at hU
      have U21 : Upd [] w [chWd T g (lnW13 ws) (lnE13 ws), chRow 92 2 (.slice A6 ps2.length c6) ps2.length (pairCells ps2), chBlk (g + 1) #[.string nm, .string me, .slice A5 ps1.length c5, .int .u8 (kc : Nat), .int .i64 lc, .int .u64 (tc : Nat), .int .u64 (fo : Nat), .int .u64 (ke : Nat), .int .u8 (pr : Nat), .slice none 0 0] 32, chRow 92 2 (.slice A5 ps1.length c5) ps1.length (pairCells ps1), chBlk w.heap.size #[.string ⟨#[]⟩, .string ⟨#[]⟩, .slice none 0 0, .int .u8 0, .int .i64 0, .int .u64 0, .int .u64 0, .int .u64 0, .int .u8 0, .slice none 0 0] 32] w70 := U20.turn 0 rfl hU
      clear hU K U20
      have d9 := (U21.blk 2 rfl).cell (j := 9) (v := .slice none 0 0) rfl
      have f9 := (U21.blk 2 rfl).frozen 9
      go_upto_region 16 with fail
      refine wp_gen fun W22 hW => ?_
      have U22 := (U21.put 2 rfl 9 (.slice A6 ps2.length c6)).same hW
      simp only [List.setIfInBounds_toArray, List.set_cons_zero, List.set_cons_succ, List.eraseIdx_cons_zero, List.eraseIdx_cons_succ] at U22
      clear hW U21 d9 f9
      by_cases hn0 : n13 = 0
      · skip
        subst hn0
        obtain ⟨vx, hBx, hrx, _⟩ := U22.get 1 rfl
        obtain ⟨Ax, cx, rfl, _⟩ := hrx
        have y0 := hBx.cell (j := 0) (v := .slice Ax (lnW13 ws).length cx) rfl
        have y1 := hBx.cell (j := 1) (v := .int .i64 (lnE13 ws : Nat)) rfl
        rw [← H_n13.out] at y0
        clear hBx
        rw [← H_e13.out] at y1
        by_cases he0 : e13 = 0
        · skip
          subst he0
          have d0 := (U22.blk 0 rfl).cell (j := 0) (v := .string nm) rfl
          have d1 := (U22.blk 0 rfl).cell (j := 1) (v := .string me) rfl
          have d2 := (U22.blk 0 rfl).cell (j := 2) (v := .slice A5 ps1.length c5) rfl
          have d3 := (U22.blk 0 rfl).cell (j := 3) (v := .int .u8 (kc : Nat)) rfl
          have d4 := (U22.blk 0 rfl).cell (j := 4) (v := .int .i64 lc) rfl
          have d5 := (U22.blk 0 rfl).cell (j := 5) (v := .int .u64 (tc : Nat)) rfl
          have d6 := (U22.blk 0 rfl).cell (j := 6) (v := .int .u64 (fo : Nat)) rfl
          have d7 := (U22.blk 0 rfl).cell (j := 7) (v := .int .u64 (ke : Nat)) rfl
          have d8 := (U22.blk 0 rfl).cell (j := 8) (v := .int .u8 (pr : Nat)) rfl
          have d9 := (U22.blk 0 rfl).cell (j := 9) (v := .slice A6 ps2.length c6) rfl
          obtain ⟨er, her⟩ : ∃ x, x = lnChk ws := ⟨_, rfl⟩
          have HX1 := Lib.hid (show lineE ws = er by rw [HLE.out, her]; rfl)
          have K := ruCheckA nm me A5 ps1.length c5 ps1 kc lc tc fo ke pr A6 ps2.length c6 ps2 W22 HS.out.1 HS.out.2.1 (rd_of_owns (U22.row 3 rfl)) HS.out.2.2.1 (rd_of_owns (U22.row 2 rfl)) HS.out.2.2.2.1 HS.out.2.2.2.2.1
          rw [← HC.out, ← her] at K
          clear her
          go_wp2_with fail
          (with_reducible refine K.mono ?_)
          rintro en w99 ⟨rfl, hb99⟩
          have U23 := U22.grow hb99
          clear hb99 K U22 y0 y1 d0 d1 d2 d3 d4 d5 d6 d7 d8 d9
          rw [← H_e13.out] at U23
          have K := wFailI T g (lnW13 ws) 0 er er rfl w99 (U23.get 1 rfl)
          rw [failE_0] at K
          go_wp2_with fail
          (with_reducible refine K.mono ?_)
          rintro en w98 ⟨rfl, hU⟩
          have U24 : Upd [] w [chWd T g (lnW13 ws) (er), chBlk (g + 1) #[.string nm, .string me, .slice A5 ps1.length c5, .int .u8 (kc : Nat), .int .i64 lc, .int .u64 (tc : Nat), .int .u64 (fo : Nat), .int .u64 (ke : Nat), .int .u8 (pr : Nat), .slice A6 ps2.length c6] 32, chRow 92 2 (.slice A6 ps2.length c6) ps2.length (pairCells ps2), chRow 92 2 (.slice A5 ps1.length c5) ps1.length (pairCells ps1), chBlk w.heap.size #[.string ⟨#[]⟩, .string ⟨#[]⟩, .slice none 0 0, .int .u8 0, .int .i64 0, .int .u64 0, .int .u64 0, .int .u64 0, .int .u8 0, .slice none 0 0] 32] w98 := U23.turn 1 rfl hU
          clear hU K U23
          obtain ⟨vx, hBx, hrx, _⟩ := U24.get 0 rfl
          obtain ⟨Ax2, cx2, rfl, _⟩ := hrx
          have y1 := hBx.cell (j := 1) (v := .int .i64 (er : Nat)) rfl
          clear hBx
          by_cases hr0 : er = 0
          · skip
            subst hr0
            have d0 := (U24.blk 1 rfl).cell (j := 0) (v := .string nm) rfl
            have d1 := (U24.blk 1 rfl).cell (j := 1) (v := .string me) rfl
            have d2 := (U24.blk 1 rfl).cell (j := 2) (v := .slice A5 ps1.length c5) rfl
            have d3 := (U24.blk 1 rfl).cell (j := 3) (v := .int .u8 (kc : Nat)) rfl
            have d4 := (U24.blk 1 rfl).cell (j := 4) (v := .int .i64 lc) rfl
            have d5 := (U24.blk 1 rfl).cell (j := 5) (v := .int .u64 (tc : Nat)) rfl
            have d6 := (U24.blk 1 rfl).cell (j := 6) (v := .int .u64 (fo : Nat)) rfl
            have d7 := (U24.blk 1 rfl).cell (j := 7) (v := .int .u64 (ke : Nat)) rfl
            have d8 := (U24.blk 1 rfl).cell (j := 8) (v := .int .u8 (pr : Nat)) rfl
            have d9 := (U24.blk 1 rfl).cell (j := 9) (v := .slice A6 ps2.length c6) rfl
            have r0 := (U24.blk 4 rfl).cell (j := 0) (v := .string ⟨#[]⟩) rfl
            have q0 := (U24.blk 4 rfl).frozen 0
            have r1 := (U24.blk 4 rfl).cell (j := 1) (v := .string ⟨#[]⟩) rfl
            have q1 := (U24.blk 4 rfl).frozen 1
            have r2 := (U24.blk 4 rfl).cell (j := 2) (v := .slice none 0 0) rfl
            have q2 := (U24.blk 4 rfl).frozen 2
            have r3 := (U24.blk 4 rfl).cell (j := 3) (v := .int .u8 0) rfl
            have q3 := (U24.blk 4 rfl).frozen 3
            have r4 := (U24.blk 4 rfl).cell (j := 4) (v := .int .i64 0) rfl
            have q4 := (U24.blk 4 rfl).frozen 4
            have r5 := (U24.blk 4 rfl).cell (j := 5) (v := .int .u64 0) rfl
            have q5 := (U24.blk 4 rfl).frozen 5
            have r6 := (U24.blk 4 rfl).cell (j := 6) (v := .int .u64 0) rfl
            have q6 := (U24.blk 4 rfl).frozen 6
            have r7 := (U24.blk 4 rfl).cell (j := 7) (v := .int .u64 0) rfl
            have q7 := (U24.blk 4 rfl).frozen 7
            have r8 := (U24.blk 4 rfl).cell (j := 8) (v := .int .u8 0) rfl
            have q8 := (U24.blk 4 rfl).frozen 8
            have r9 := (U24.blk 4 rfl).cell (j := 9) (v := .slice none 0 0) rfl
            have q9 := (U24.blk 4 rfl).frozen 9
            go_wp2_with fail
            refine bodyPost_gen fun wz hwz => ?_
            have UZ := ((((((((((U24.put 4 rfl 0 (.string nm)).put 0 rfl 1 (.string me)).put 0 rfl 2 (.slice A5 ps1.length c5)).put 0 rfl 3 (.int .u8 (kc : Nat))).put 0 rfl 4 (.int .i64 lc)).put 0 rfl 5 (.int .u64 (tc : Nat))).put 0 rfl 6 (.int .u64 (fo : Nat))).put 0 rfl 7 (.int .u64 (ke : Nat))).put 0 rfl 8 (.int .u8 (pr : Nat))).put 0 rfl 9 (.slice A6 ps2.length c6)).same hwz
            simp only [List.setIfInBounds_toArray, List.set_cons_zero, List.set_cons_succ, List.eraseIdx_cons_zero, List.eraseIdx_cons_succ] at UZ
            clear hwz
            have a0 := (UZ.blk 0 rfl).cell (j := 0) (v := .string nm) rfl
            have a1 := (UZ.blk 0 rfl).cell (j := 1) (v := .string me) rfl
            have a2 := (UZ.blk 0 rfl).cell (j := 2) (v := .slice A5 ps1.length c5) rfl
            have a3 := (UZ.blk 0 rfl).cell (j := 3) (v := .int .u8 (kc : Nat)) rfl
            have a4 := (UZ.blk 0 rfl).cell (j := 4) (v := .int .i64 lc) rfl
            have a5 := (UZ.blk 0 rfl).cell (j := 5) (v := .int .u64 (tc : Nat)) rfl
            have a6 := (UZ.blk 0 rfl).cell (j := 6) (v := .int .u64 (fo : Nat)) rfl
            have a7 := (UZ.blk 0 rfl).cell (j := 7) (v := .int .u64 (ke : Nat)) rfl
            have a8 := (UZ.blk 0 rfl).cell (j := 8) (v := .int .u8 (pr : Nat)) rfl
            have a9 := (UZ.blk 0 rfl).cell (j := 9) (v := .slice A6 ps2.length c6) rfl
            refine bodyPost_ret (v := .tuple #[.agg #[.string nm, .string me, .slice A5 ps1.length c5, .int .u8 (kc : Nat), .int .i64 lc, .int .u64 (tc : Nat), .int .u64 (fo : Nat), .int .u64 (ke : Nat), .int .u8 (pr : Nat), .slice A6 ps2.length c6], .int .i64 (0 : Nat)]) ?_ rfl ⟨.slice A5 ps1.length c5, .slice A6 ps2.length c6, ?_, ?_, UZ.below⟩
            · simp [results, Tryz.results44, go_sem, a0, a1, a2, a3, a4, a5, a6, a7, a8, a9]
            · rw [lineO_ok HX1.out, HX1.out, HLR.out]; rfl
            · rw [lineO_ok HX1.out, HLR.out]; exact ⟨HS.out.1, HS.out.2.1, HS.out.2.2.1, HS.out.2.2.2.1, HS.out.2.2.2.2.1, Nat.lt_of_le_of_lt HS.out.2.2.2.2.2 (by decide), UZ.rowBase 4 rfl, UZ.rowBase 3 rfl⟩
          · skip
            have HX0 := Lib.hid hr0
            have zf : ((er : Int) == 0) = false := by simp; omega
            have HX := HX1
            clear hr0 HX1
            have r0 := (U24.blk 4 rfl).cell (j := 0) (v := .string ⟨#[]⟩) rfl
            have q0 := (U24.blk 4 rfl).frozen 0
            have r1 := (U24.blk 4 rfl).cell (j := 1) (v := .string ⟨#[]⟩) rfl
            have q1 := (U24.blk 4 rfl).frozen 1
            have r2 := (U24.blk 4 rfl).cell (j := 2) (v := .slice none 0 0) rfl
            have q2 := (U24.blk 4 rfl).frozen 2
            have r3 := (U24.blk 4 rfl).cell (j := 3) (v := .int .u8 0) rfl
            have q3 := (U24.blk 4 rfl).frozen 3
            have r4 := (U24.blk 4 rfl).cell (j := 4) (v := .int .i64 0) rfl
            have q4 := (U24.blk 4 rfl).frozen 4
            have r5 := (U24.blk 4 rfl).cell (j := 5) (v := .int .u64 0) rfl
            have q5 := (U24.blk 4 rfl).frozen 5
            have r6 := (U24.blk 4 rfl).cell (j := 6) (v := .int .u64 0) rfl
            have q6 := (U24.blk 4 rfl).frozen 6
            have r7 := (U24.blk 4 rfl).cell (j := 7) (v := .int .u64 0) rfl
            have q7 := (U24.blk 4 rfl).frozen 7
            have r8 := (U24.blk 4 rfl).cell (j := 8) (v := .int .u8 0) rfl
            have q8 := (U24.blk 4 rfl).frozen 8
            have r9 := (U24.blk 4 rfl).cell (j := 9) (v := .slice none 0 0) rfl
            have q9 := (U24.blk 4 rfl).frozen 9
            go_wp2_with fail
            go_region
            go_wp2_with fail
            refine bodyPost_gen fun wz hwz => ?_
            have UZ := ((((((((((U24.put 4 rfl 0 (.string ⟨#[]⟩)).put 0 rfl 1 (.string ⟨#[]⟩)).put 0 rfl 2 (.slice none 0 0)).put 0 rfl 3 (.int .u8 0)).put 0 rfl 4 (.int .i64 0)).put 0 rfl 5 (.int .u64 0)).put 0 rfl 6 (.int .u64 0)).put 0 rfl 7 (.int .u64 0)).put 0 rfl 8 (.int .u8 0)).put 0 rfl 9 (.slice none 0 0)).drew.same hwz
            simp only [List.setIfInBounds_toArray, List.set_cons_zero, List.set_cons_succ, List.eraseIdx_cons_zero, List.eraseIdx_cons_succ] at UZ
            clear hwz
            have a0 := (UZ.blk 0 rfl).cell (j := 0) (v := .string ⟨#[]⟩) rfl
            have a1 := (UZ.blk 0 rfl).cell (j := 1) (v := .string ⟨#[]⟩) rfl
            have a2 := (UZ.blk 0 rfl).cell (j := 2) (v := .slice none 0 0) rfl
            have a3 := (UZ.blk 0 rfl).cell (j := 3) (v := .int .u8 0) rfl
            have a4 := (UZ.blk 0 rfl).cell (j := 4) (v := .int .i64 0) rfl
            have a5 := (UZ.blk 0 rfl).cell (j := 5) (v := .int .u64 0) rfl
            have a6 := (UZ.blk 0 rfl).cell (j := 6) (v := .int .u64 0) rfl
            have a7 := (UZ.blk 0 rfl).cell (j := 7) (v := .int .u64 0) rfl
            have a8 := (UZ.blk 0 rfl).cell (j := 8) (v := .int .u8 0) rfl
            have a9 := (UZ.blk 0 rfl).cell (j := 9) (v := .slice none 0 0) rfl
            refine bodyPost_ret (v := .tuple #[.agg #[.string ⟨#[]⟩, .string ⟨#[]⟩, .slice none 0 0, .int .u8 0, .int .i64 0, .int .u64 0, .int .u64 0, .int .u64 0, .int .u8 0, .slice none 0 0], .int .i64 (er : Nat)]) ?_ rfl ⟨.slice none 0 0, .slice none 0 0, ?_, ?_, UZ.below⟩
            · simp [results, Tryz.results44, go_sem, a0, a1, a2, a3, a4, a5, a6, a7, a8, a9]
            · rw [lineO_bad (by rw [HX.out]; exact HX0.out), HX.out]; rfl
            · rw [lineO_bad (by rw [HX.out]; exact HX0.out)]; exact zero_good _ _
        · skip
          have HX := Lib.hid (show lineE ws = e13 by rw [HLE.out]; exact if_neg he0)
          have HX0 := Lib.hid he0
          have zf : ((e13 : Int) == 0) = false := by simp; omega
          clear he0
          have r0 := (U22.blk 4 rfl).cell (j := 0) (v := .string ⟨#[]⟩) rfl
          have q0 := (U22.blk 4 rfl).frozen 0
          have r1 := (U22.blk 4 rfl).cell (j := 1) (v := .string ⟨#[]⟩) rfl
          have q1 := (U22.blk 4 rfl).frozen 1
          have r2 := (U22.blk 4 rfl).cell (j := 2) (v := .slice none 0 0) rfl
          have q2 := (U22.blk 4 rfl).frozen 2
          have r3 := (U22.blk 4 rfl).cell (j := 3) (v := .int .u8 0) rfl
          have q3 := (U22.blk 4 rfl).frozen 3
          have r4 := (U22.blk 4 rfl).cell (j := 4) (v := .int .i64 0) rfl
          have q4 := (U22.blk 4 rfl).frozen 4
          have r5 := (U22.blk 4 rfl).cell (j := 5) (v := .int .u64 0) rfl
          have q5 := (U22.blk 4 rfl).frozen 5
          have r6 := (U22.blk 4 rfl).cell (j := 6) (v := .int .u64 0) rfl
          have q6 := (U22.blk 4 rfl).frozen 6
          have r7 := (U22.blk 4 rfl).cell (j := 7) (v := .int .u64 0) rfl
          have q7 := (U22.blk 4 rfl).frozen 7
          have r8 := (U22.blk 4 rfl).cell (j := 8) (v := .int .u8 0) rfl
          have q8 := (U22.blk 4 rfl).frozen 8
          have r9 := (U22.blk 4 rfl).cell (j := 9) (v := .slice none 0 0) rfl
          have q9 := (U22.blk 4 rfl).frozen 9
          go_wp2_with fail
          go_region
          go_wp2_with fail
          refine bodyPost_gen fun wz hwz => ?_
          have UZ := ((((((((((U22.put 4 rfl 0 (.string ⟨#[]⟩)).put 0 rfl 1 (.string ⟨#[]⟩)).put 0 rfl 2 (.slice none 0 0)).put 0 rfl 3 (.int .u8 0)).put 0 rfl 4 (.int .i64 0)).put 0 rfl 5 (.int .u64 0)).put 0 rfl 6 (.int .u64 0)).put 0 rfl 7 (.int .u64 0)).put 0 rfl 8 (.int .u8 0)).put 0 rfl 9 (.slice none 0 0)).drew.same hwz
          simp only [List.setIfInBounds_toArray, List.set_cons_zero, List.set_cons_succ, List.eraseIdx_cons_zero, List.eraseIdx_cons_succ] at UZ
          clear hwz
          have a0 := (UZ.blk 0 rfl).cell (j := 0) (v := .string ⟨#[]⟩) rfl
          have a1 := (UZ.blk 0 rfl).cell (j := 1) (v := .string ⟨#[]⟩) rfl
          have a2 := (UZ.blk 0 rfl).cell (j := 2) (v := .slice none 0 0) rfl
          have a3 := (UZ.blk 0 rfl).cell (j := 3) (v := .int .u8 0) rfl
          have a4 := (UZ.blk 0 rfl).cell (j := 4) (v := .int .i64 0) rfl
          have a5 := (UZ.blk 0 rfl).cell (j := 5) (v := .int .u64 0) rfl
          have a6 := (UZ.blk 0 rfl).cell (j := 6) (v := .int .u64 0) rfl
          have a7 := (UZ.blk 0 rfl).cell (j := 7) (v := .int .u64 0) rfl
          have a8 := (UZ.blk 0 rfl).cell (j := 8) (v := .int .u8 0) rfl
          have a9 := (UZ.blk 0 rfl).cell (j := 9) (v := .slice none 0 0) rfl
          refine bodyPost_ret (v := .tuple #[.agg #[.string ⟨#[]⟩, .string ⟨#[]⟩, .slice none 0 0, .int .u8 0, .int .i64 0, .int .u64 0, .int .u64 0, .int .u64 0, .int .u8 0, .slice none 0 0], .int .i64 (e13 : Nat)]) ?_ rfl ⟨.slice none 0 0, .slice none 0 0, ?_, ?_, UZ.below⟩
          · simp [results, Tryz.results44, go_sem, a0, a1, a2, a3, a4, a5, a6, a7, a8, a9]
          · rw [lineO_bad (by rw [HX.out]; exact HX0.out), HX.out]; rfl
          · rw [lineO_bad (by rw [HX.out]; exact HX0.out)]; exact zero_good _ _
      · skip
        have ln0 : (0 : Int) < (n13 : Int) := by omega
        have ln1 : 0 < n13 := by omega
        obtain ⟨vx, hBx, hrx, _⟩ := U22.get 1 rfl
        obtain ⟨Ax, cx, rfl, _⟩ := hrx
        have y0 := hBx.cell (j := 0) (v := .slice Ax (lnW13 ws).length cx) rfl
        have y1 := hBx.cell (j := 1) (v := .int .i64 (lnE13 ws : Nat)) rfl
        rw [← H_n13.out] at y0
        clear hBx
        clear y1
        have K := wFailI T g (lnW13 ws) (lnE13 ws) 2 2 rfl W22 (U22.get 1 rfl)
        rw [← H_e13.out] at K
        obtain ⟨E, hE⟩ : ∃ x, x = failE e13 2 := ⟨_, rfl⟩
        rw [← hE] at K
        have he0 : E ≠ 0 := by rw [hE]; exact failE_pos (by decide)
        have HX := Lib.hid (show lineE ws = E by rw [HLE.out, if_neg hn0, ← hE]; exact if_neg he0)
        have HX0 := Lib.hid he0
        have zf : ((E : Int) == 0) = false := by simp; omega
        clear he0 hn0 hE
        go_wp2_with fail
        (with_reducible refine K.mono ?_)
        rintro en w98 ⟨rfl, hU⟩
        have U23 : Upd [] w [chWd T g (lnW13 ws) (E), chBlk (g + 1) #[.string nm, .string me, .slice A5 ps1.length c5, .int .u8 (kc : Nat), .int .i64 lc, .int .u64 (tc : Nat), .int .u64 (fo : Nat), .int .u64 (ke : Nat), .int .u8 (pr : Nat), .slice A6 ps2.length c6] 32, chRow 92 2 (.slice A6 ps2.length c6) ps2.length (pairCells ps2), chRow 92 2 (.slice A5 ps1.length c5) ps1.length (pairCells ps1), chBlk w.heap.size #[.string ⟨#[]⟩, .string ⟨#[]⟩, .slice none 0 0, .int .u8 0, .int .i64 0, .int .u64 0, .int .u64 0, .int .u64 0, .int .u8 0, .slice none 0 0] 32] w98 := U22.turn 1 rfl hU
        clear hU K U22 y0
        obtain ⟨vx, hBx, hrx, _⟩ := U23.get 0 rfl
        obtain ⟨Ax2, cx2, rfl, _⟩ := hrx
        have y1 := hBx.cell (j := 1) (v := .int .i64 (E : Nat)) rfl
        clear hBx
        have r0 := (U23.blk 4 rfl).cell (j := 0) (v := .string ⟨#[]⟩) rfl
        have q0 := (U23.blk 4 rfl).frozen 0
        have r1 := (U23.blk 4 rfl).cell (j := 1) (v := .string ⟨#[]⟩) rfl
        have q1 := (U23.blk 4 rfl).frozen 1
        have r2 := (U23.blk 4 rfl).cell (j := 2) (v := .slice none 0 0) rfl
        have q2 := (U23.blk 4 rfl).frozen 2
        have r3 := (U23.blk 4 rfl).cell (j := 3) (v := .int .u8 0) rfl
        have q3 := (U23.blk 4 rfl).frozen 3
        have r4 := (U23.blk 4 rfl).cell (j := 4) (v := .int .i64 0) rfl
        have q4 := (U23.blk 4 rfl).frozen 4
        have r5 := (U23.blk 4 rfl).cell (j := 5) (v := .int .u64 0) rfl
        have q5 := (U23.blk 4 rfl).frozen 5
        have r6 := (U23.blk 4 rfl).cell (j := 6) (v := .int .u64 0) rfl
        have q6 := (U23.blk 4 rfl).frozen 6
        have r7 := (U23.blk 4 rfl).cell (j := 7) (v := .int .u64 0) rfl
        have q7 := (U23.blk 4 rfl).frozen 7
        have r8 := (U23.blk 4 rfl).cell (j := 8) (v := .int .u8 0) rfl
        have q8 := (U23.blk 4 rfl).frozen 8
        have r9 := (U23.blk 4 rfl).cell (j := 9) (v := .slice none 0 0) rfl
        have q9 := (U23.blk 4 rfl).frozen 9
        go_wp2_with fail
        go_region
        go_wp2_with fail
        refine bodyPost_gen fun wz hwz => ?_
        have UZ := ((((((((((U23.put 4 rfl 0 (.string ⟨#[]⟩)).put 0 rfl 1 (.string ⟨#[]⟩)).put 0 rfl 2 (.slice none 0 0)).put 0 rfl 3 (.int .u8 0)).put 0 rfl 4 (.int .i64 0)).put 0 rfl 5 (.int .u64 0)).put 0 rfl 6 (.int .u64 0)).put 0 rfl 7 (.int .u64 0)).put 0 rfl 8 (.int .u8 0)).put 0 rfl 9 (.slice none 0 0)).drew.same hwz
        simp only [List.setIfInBounds_toArray, List.set_cons_zero, List.set_cons_succ, List.eraseIdx_cons_zero, List.eraseIdx_cons_succ] at UZ
        clear hwz
        have a0 := (UZ.blk 0 rfl).cell (j := 0) (v := .string ⟨#[]⟩) rfl
        have a1 := (UZ.blk 0 rfl).cell (j := 1) (v := .string ⟨#[]⟩) rfl
        have a2 := (UZ.blk 0 rfl).cell (j := 2) (v := .slice none 0 0) rfl
        have a3 := (UZ.blk 0 rfl).cell (j := 3) (v := .int .u8 0) rfl
        have a4 := (UZ.blk 0 rfl).cell (j := 4) (v := .int .i64 0) rfl
        have a5 := (UZ.blk 0 rfl).cell (j := 5) (v := .int .u64 0) rfl
        have a6 := (UZ.blk 0 rfl).cell (j := 6) (v := .int .u64 0) rfl
        have a7 := (UZ.blk 0 rfl).cell (j := 7) (v := .int .u64 0) rfl
        have a8 := (UZ.blk 0 rfl).cell (j := 8) (v := .int .u8 0) rfl
        have a9 := (UZ.blk 0 rfl).cell (j := 9) (v := .slice none 0 0) rfl
        refine bodyPost_ret (v := .tuple #[.agg #[.string ⟨#[]⟩, .string ⟨#[]⟩, .slice none 0 0, .int .u8 0, .int .i64 0, .int .u64 0, .int .u64 0, .int .u64 0, .int .u8 0, .slice none 0 0], .int .i64 (E : Nat)]) ?_ rfl ⟨.slice none 0 0, .slice none 0 0, ?_, ?_, UZ.below⟩
        · simp [results, Tryz.results44, go_sem, a0, a1, a2, a3, a4, a5, a6, a7, a8, a9]
        · rw [lineO_bad (by rw [HX.out]; exact HX0.out), HX.out]; rfl
        · rw [lineO_bad (by rw [HX.out]; exact HX0.out)]; exact zero_good _ _
    | false =>
      have K := wIs T g ⟨#[119, 105, 116, 104]⟩ ((lnW10 ws).tail) (lnE11 ws) W19 (U19.get 1 rfl)
      rw [show isW ⟨#[119, 105, 116, 104]⟩ (lnW10 ws).tail = false from hH] at K
      (with_reducible refine K.mono ?_)
      rintro en w69 ⟨rfl, hU⟩
      have U20 : Upd [] w [chWd T g (lnW12 ws) (lnE11 ws), chBlk (g + 1) #[.string nm, .string me, .slice A5 ps1.length c5, .int .u8 (kc : Nat), .int .i64 lc, .int .u64 (tc : Nat), .int .u64 (fo : Nat), .int .u64 (ke : Nat), .int .u8 (pr : Nat), .slice none 0 0] 32, chRow 92 2 (.slice A5 ps1.length c5) ps1.length (pairCells ps1), chBlk w.heap.size #[.string ⟨#[]⟩, .string ⟨#[]⟩, .slice none 0 0, .int .u8 0, .int .i64 0, .int .u64 0, .int .u64 0, .int .u64 0, .int .u8 0, .slice none 0 0] 32] w69 := U19.turn 1 rfl hU
      clear hU K U19
      have hq : ps2 = [] := by rw [H_ps2.out]; unfold lnQ; rw [hH]; rfl
      have e13 : lnW13 ws = lnW12 ws := by unfold lnW13; rw [hH]; rfl
      have f13 : lnE13 ws = lnE11 ws := by unfold lnE13; rw [hH]; rfl
      rw [← e13, ← f13] at U20
      subst hq
      have U21 := U20.nilRow 92 2
      clear U20 e13 f13
      go_upto_region 16 with fail
      refine wp_gen fun W22 hW => ?_
      have U22 := U21.same hW
      clear hW U21
      by_cases hn0 : n13 = 0
      · skip
        subst hn0
        obtain ⟨vx, hBx, hrx, _⟩ := U22.get 1 rfl
        obtain ⟨Ax, cx, rfl, _⟩ := hrx
        have y0 := hBx.cell (j := 0) (v := .slice Ax (lnW13 ws).length cx) rfl
        have y1 := hBx.cell (j := 1) (v := .int .i64 (lnE13 ws : Nat)) rfl
        rw [← H_n13.out] at y0
        clear hBx
        rw [← H_e13.out] at y1
        by_cases he0 : e13 = 0
        · skip
          subst he0
          have d0 := (U22.blk 2 rfl).cell (j := 0) (v := .string nm) rfl
          have d1 := (U22.blk 2 rfl).cell (j := 1) (v := .string me) rfl
          have d2 := (U22.blk 2 rfl).cell (j := 2) (v := .slice A5 ps1.length c5) rfl
          have d3 := (U22.blk 2 rfl).cell (j := 3) (v := .int .u8 (kc : Nat)) rfl
          have d4 := (U22.blk 2 rfl).cell (j := 4) (v := .int .i64 lc) rfl
          have d5 := (U22.blk 2 rfl).cell (j := 5) (v := .int .u64 (tc : Nat)) rfl
          have d6 := (U22.blk 2 rfl).cell (j := 6) (v := .int .u64 (fo : Nat)) rfl
          have d7 := (U22.blk 2 rfl).cell (j := 7) (v := .int .u64 (ke : Nat)) rfl
          have d8 := (U22.blk 2 rfl).cell (j := 8) (v := .int .u8 (pr : Nat)) rfl
          have d9 := (U22.blk 2 rfl).cell (j := 9) (v := .slice none 0 0) rfl
          obtain ⟨er, her⟩ : ∃ x, x = lnChk ws := ⟨_, rfl⟩
          have HX1 := Lib.hid (show lineE ws = er by rw [HLE.out, her]; rfl)
          have K := ruCheckA nm me A5 ps1.length c5 ps1 kc lc tc fo ke pr none 0 0 [] W22 HS.out.1 HS.out.2.1 (rd_of_owns (U22.row 3 rfl)) HS.out.2.2.1 (rd_nil0 _ 2) HS.out.2.2.2.1 HS.out.2.2.2.2.1
          rw [← HC.out, ← her] at K
          clear her
          go_wp2_with fail
          (with_reducible refine K.mono ?_)
          rintro en w99 ⟨rfl, hb99⟩
          have U23 := U22.grow hb99
          clear hb99 K U22 y0 y1 d0 d1 d2 d3 d4 d5 d6 d7 d8 d9
          rw [← H_e13.out] at U23
          have K := wFailI T g (lnW13 ws) 0 er er rfl w99 (U23.get 1 rfl)
          rw [failE_0] at K
          go_wp2_with fail
          (with_reducible refine K.mono ?_)
          rintro en w98 ⟨rfl, hU⟩
          have U24 : Upd [] w [chWd T g (lnW13 ws) (er), chRow 92 2 (.slice none 0 0) ([] : List Pr).length (pairCells []), chBlk (g + 1) #[.string nm, .string me, .slice A5 ps1.length c5, .int .u8 (kc : Nat), .int .i64 lc, .int .u64 (tc : Nat), .int .u64 (fo : Nat), .int .u64 (ke : Nat), .int .u8 (pr : Nat), .slice none 0 0] 32, chRow 92 2 (.slice A5 ps1.length c5) ps1.length (pairCells ps1), chBlk w.heap.size #[.string ⟨#[]⟩, .string ⟨#[]⟩, .slice none 0 0, .int .u8 0, .int .i64 0, .int .u64 0, .int .u64 0, .int .u64 0, .int .u8 0, .slice none 0 0] 32] w98 := U23.turn 1 rfl hU
          clear hU K U23
          obtain ⟨vx, hBx, hrx, _⟩ := U24.get 0 rfl
          obtain ⟨Ax2, cx2, rfl, _⟩ := hrx
          have y1 := hBx.cell (j := 1) (v := .int .i64 (er : Nat)) rfl
          clear hBx
          by_cases hr0 : er = 0
          · skip
            subst hr0
            have d0 := (U24.blk 2 rfl).cell (j := 0) (v := .string nm) rfl
            have d1 := (U24.blk 2 rfl).cell (j := 1) (v := .string me) rfl
            have d2 := (U24.blk 2 rfl).cell (j := 2) (v := .slice A5 ps1.length c5) rfl
            have d3 := (U24.blk 2 rfl).cell (j := 3) (v := .int .u8 (kc : Nat)) rfl
            have d4 := (U24.blk 2 rfl).cell (j := 4) (v := .int .i64 lc) rfl
            have d5 := (U24.blk 2 rfl).cell (j := 5) (v := .int .u64 (tc : Nat)) rfl
            have d6 := (U24.blk 2 rfl).cell (j := 6) (v := .int .u64 (fo : Nat)) rfl
            have d7 := (U24.blk 2 rfl).cell (j := 7) (v := .int .u64 (ke : Nat)) rfl
            have d8 := (U24.blk 2 rfl).cell (j := 8) (v := .int .u8 (pr : Nat)) rfl
            have d9 := (U24.blk 2 rfl).cell (j := 9) (v := .slice none 0 0) rfl
            have r0 := (U24.blk 4 rfl).cell (j := 0) (v := .string ⟨#[]⟩) rfl
            have q0 := (U24.blk 4 rfl).frozen 0
            have r1 := (U24.blk 4 rfl).cell (j := 1) (v := .string ⟨#[]⟩) rfl
            have q1 := (U24.blk 4 rfl).frozen 1
            have r2 := (U24.blk 4 rfl).cell (j := 2) (v := .slice none 0 0) rfl
            have q2 := (U24.blk 4 rfl).frozen 2
            have r3 := (U24.blk 4 rfl).cell (j := 3) (v := .int .u8 0) rfl
            have q3 := (U24.blk 4 rfl).frozen 3
            have r4 := (U24.blk 4 rfl).cell (j := 4) (v := .int .i64 0) rfl
            have q4 := (U24.blk 4 rfl).frozen 4
            have r5 := (U24.blk 4 rfl).cell (j := 5) (v := .int .u64 0) rfl
            have q5 := (U24.blk 4 rfl).frozen 5
            have r6 := (U24.blk 4 rfl).cell (j := 6) (v := .int .u64 0) rfl
            have q6 := (U24.blk 4 rfl).frozen 6
            have r7 := (U24.blk 4 rfl).cell (j := 7) (v := .int .u64 0) rfl
            have q7 := (U24.blk 4 rfl).frozen 7
            have r8 := (U24.blk 4 rfl).cell (j := 8) (v := .int .u8 0) rfl
            have q8 := (U24.blk 4 rfl).frozen 8
            have r9 := (U24.blk 4 rfl).cell (j := 9) (v := .slice none 0 0) rfl
            have q9 := (U24.blk 4 rfl).frozen 9
            go_wp2_with fail
            refine bodyPost_gen fun wz hwz => ?_
            have UZ := ((((((((((U24.put 4 rfl 0 (.string nm)).put 0 rfl 1 (.string me)).put 0 rfl 2 (.slice A5 ps1.length c5)).put 0 rfl 3 (.int .u8 (kc : Nat))).put 0 rfl 4 (.int .i64 lc)).put 0 rfl 5 (.int .u64 (tc : Nat))).put 0 rfl 6 (.int .u64 (fo : Nat))).put 0 rfl 7 (.int .u64 (ke : Nat))).put 0 rfl 8 (.int .u8 (pr : Nat))).put 0 rfl 9 (.slice none 0 0)).same hwz
            simp only [List.setIfInBounds_toArray, List.set_cons_zero, List.set_cons_succ, List.eraseIdx_cons_zero, List.eraseIdx_cons_succ] at UZ
            clear hwz
            have a0 := (UZ.blk 0 rfl).cell (j := 0) (v := .string nm) rfl
            have a1 := (UZ.blk 0 rfl).cell (j := 1) (v := .string me) rfl
            have a2 := (UZ.blk 0 rfl).cell (j := 2) (v := .slice A5 ps1.length c5) rfl
            have a3 := (UZ.blk 0 rfl).cell (j := 3) (v := .int .u8 (kc : Nat)) rfl
            have a4 := (UZ.blk 0 rfl).cell (j := 4) (v := .int .i64 lc) rfl
            have a5 := (UZ.blk 0 rfl).cell (j := 5) (v := .int .u64 (tc : Nat)) rfl
            have a6 := (UZ.blk 0 rfl).cell (j := 6) (v := .int .u64 (fo : Nat)) rfl
            have a7 := (UZ.blk 0 rfl).cell (j := 7) (v := .int .u64 (ke : Nat)) rfl
            have a8 := (UZ.blk 0 rfl).cell (j := 8) (v := .int .u8 (pr : Nat)) rfl
            have a9 := (UZ.blk 0 rfl).cell (j := 9) (v := .slice none 0 0) rfl
            refine bodyPost_ret (v := .tuple #[.agg #[.string nm, .string me, .slice A5 ps1.length c5, .int .u8 (kc : Nat), .int .i64 lc, .int .u64 (tc : Nat), .int .u64 (fo : Nat), .int .u64 (ke : Nat), .int .u8 (pr : Nat), .slice none 0 0], .int .i64 (0 : Nat)]) ?_ rfl ⟨.slice A5 ps1.length c5, .slice none 0 0, ?_, ?_, UZ.below⟩
            · simp [results, Tryz.results44, go_sem, a0, a1, a2, a3, a4, a5, a6, a7, a8, a9]
            · rw [lineO_ok HX1.out, HX1.out, HLR.out]; rfl
            · rw [lineO_ok HX1.out, HLR.out]; exact ⟨HS.out.1, HS.out.2.1, HS.out.2.2.1, HS.out.2.2.2.1, HS.out.2.2.2.2.1, Nat.lt_of_le_of_lt HS.out.2.2.2.2.2 (by decide), UZ.rowBase 4 rfl, UZ.rowBase 2 rfl⟩
          · skip
            have HX0 := Lib.hid hr0
            have zf : ((er : Int) == 0) = false := by simp; omega
            have HX := HX1
            clear hr0 HX1
            have r0 := (U24.blk 4 rfl).cell (j := 0) (v := .string ⟨#[]⟩) rfl
            have q0 := (U24.blk 4 rfl).frozen 0
            have r1 := (U24.blk 4 rfl).cell (j := 1) (v := .string ⟨#[]⟩) rfl
            have q1 := (U24.blk 4 rfl).frozen 1
            have r2 := (U24.blk 4 rfl).cell (j := 2) (v := .slice none 0 0) rfl
            have q2 := (U24.blk 4 rfl).frozen 2
            have r3 := (U24.blk 4 rfl).cell (j := 3) (v := .int .u8 0) rfl
            have q3 := (U24.blk 4 rfl).frozen 3
            have r4 := (U24.blk 4 rfl).cell (j := 4) (v := .int .i64 0) rfl
            have q4 := (U24.blk 4 rfl).frozen 4
            have r5 := (U24.blk 4 rfl).cell (j := 5) (v := .int .u64 0) rfl
            have q5 := (U24.blk 4 rfl).frozen 5
            have r6 := (U24.blk 4 rfl).cell (j := 6) (v := .int .u64 0) rfl
            have q6 := (U24.blk 4 rfl).frozen 6
            have r7 := (U24.blk 4 rfl).cell (j := 7) (v := .int .u64 0) rfl
            have q7 := (U24.blk 4 rfl).frozen 7
            have r8 := (U24.blk 4 rfl).cell (j := 8) (v := .int .u8 0) rfl
            have q8 := (U24.blk 4 rfl).frozen 8
            have r9 := (U24.blk 4 rfl).cell (j := 9) (v := .slice none 0 0) rfl
            have q9 := (U24.blk 4 rfl).frozen 9
            go_wp2_with fail
            go_region
            go_wp2_with fail
            refine bodyPost_gen fun wz hwz => ?_
            have UZ := ((((((((((U24.put 4 rfl 0 (.string ⟨#[]⟩)).put 0 rfl 1 (.string ⟨#[]⟩)).put 0 rfl 2 (.slice none 0 0)).put 0 rfl 3 (.int .u8 0)).put 0 rfl 4 (.int .i64 0)).put 0 rfl 5 (.int .u64 0)).put 0 rfl 6 (.int .u64 0)).put 0 rfl 7 (.int .u64 0)).put 0 rfl 8 (.int .u8 0)).put 0 rfl 9 (.slice none 0 0)).drew.same hwz
            simp only [List.setIfInBounds_toArray, List.set_cons_zero, List.set_cons_succ, List.eraseIdx_cons_zero, List.eraseIdx_cons_succ] at UZ
            clear hwz
            have a0 := (UZ.blk 0 rfl).cell (j := 0) (v := .string ⟨#[]⟩) rfl
            have a1 := (UZ.blk 0 rfl).cell (j := 1) (v := .string ⟨#[]⟩) rfl
            have a2 := (UZ.blk 0 rfl).cell (j := 2) (v := .slice none 0 0) rfl
            have a3 := (UZ.blk 0 rfl).cell (j := 3) (v := .int .u8 0) rfl
            have a4 := (UZ.blk 0 rfl).cell (j := 4) (v := .int .i64 0) rfl
            have a5 := (UZ.blk 0 rfl).cell (j := 5) (v := .int .u64 0) rfl
            have a6 := (UZ.blk 0 rfl).cell (j := 6) (v := .int .u64 0) rfl
            have a7 := (UZ.blk 0 rfl).cell (j := 7) (v := .int .u64 0) rfl
            have a8 := (UZ.blk 0 rfl).cell (j := 8) (v := .int .u8 0) rfl
            have a9 := (UZ.blk 0 rfl).cell (j := 9) (v := .slice none 0 0) rfl
            refine bodyPost_ret (v := .tuple #[.agg #[.string ⟨#[]⟩, .string ⟨#[]⟩, .slice none 0 0, .int .u8 0, .int .i64 0, .int .u64 0, .int .u64 0, .int .u64 0, .int .u8 0, .slice none 0 0], .int .i64 (er : Nat)]) ?_ rfl ⟨.slice none 0 0, .slice none 0 0, ?_, ?_, UZ.below⟩
            · simp [results, Tryz.results44, go_sem, a0, a1, a2, a3, a4, a5, a6, a7, a8, a9]
            · rw [lineO_bad (by rw [HX.out]; exact HX0.out), HX.out]; rfl
            · rw [lineO_bad (by rw [HX.out]; exact HX0.out)]; exact zero_good _ _
        · skip
          have HX := Lib.hid (show lineE ws = e13 by rw [HLE.out]; exact if_neg he0)
          have HX0 := Lib.hid he0
          have zf : ((e13 : Int) == 0) = false := by simp; omega
          clear he0
          have r0 := (U22.blk 4 rfl).cell (j := 0) (v := .string ⟨#[]⟩) rfl
          have q0 := (U22.blk 4 rfl).frozen 0
          have r1 := (U22.blk 4 rfl).cell (j := 1) (v := .string ⟨#[]⟩) rfl
          have q1 := (U22.blk 4 rfl).frozen 1
          have r2 := (U22.blk 4 rfl).cell (j := 2) (v := .slice none 0 0) rfl
          have q2 := (U22.blk 4 rfl).frozen 2
          have r3 := (U22.blk 4 rfl).cell (j := 3) (v := .int .u8 0) rfl
          have q3 := (U22.blk 4 rfl).frozen 3
          have r4 := (U22.blk 4 rfl).cell (j := 4) (v := .int .i64 0) rfl
          have q4 := (U22.blk 4 rfl).frozen 4
          have r5 := (U22.blk 4 rfl).cell (j := 5) (v := .int .u64 0) rfl
          have q5 := (U22.blk 4 rfl).frozen 5
          have r6 := (U22.blk 4 rfl).cell (j := 6) (v := .int .u64 0) rfl
          have q6 := (U22.blk 4 rfl).frozen 6
          have r7 := (U22.blk 4 rfl).cell (j := 7) (v := .int .u64 0) rfl
          have q7 := (U22.blk 4 rfl).frozen 7
          have r8 := (U22.blk 4 rfl).cell (j := 8) (v := .int .u8 0) rfl
          have q8 := (U22.blk 4 rfl).frozen 8
          have r9 := (U22.blk 4 rfl).cell (j := 9) (v := .slice none 0 0) rfl
          have q9 := (U22.blk 4 rfl).frozen 9
          go_wp2_with fail
          go_region
          go_wp2_with fail
          refine bodyPost_gen fun wz hwz => ?_
          have UZ := ((((((((((U22.put 4 rfl 0 (.string ⟨#[]⟩)).put 0 rfl 1 (.string ⟨#[]⟩)).put 0 rfl 2 (.slice none 0 0)).put 0 rfl 3 (.int .u8 0)).put 0 rfl 4 (.int .i64 0)).put 0 rfl 5 (.int .u64 0)).put 0 rfl 6 (.int .u64 0)).put 0 rfl 7 (.int .u64 0)).put 0 rfl 8 (.int .u8 0)).put 0 rfl 9 (.slice none 0 0)).drew.same hwz
          simp only [List.setIfInBounds_toArray, List.set_cons_zero, List.set_cons_succ, List.eraseIdx_cons_zero, List.eraseIdx_cons_succ] at UZ
          clear hwz
          have a0 := (UZ.blk 0 rfl).cell (j := 0) (v := .string ⟨#[]⟩) rfl
          have a1 := (UZ.blk 0 rfl).cell (j := 1) (v := .string ⟨#[]⟩) rfl
          have a2 := (UZ.blk 0 rfl).cell (j := 2) (v := .slice none 0 0) rfl
          have a3 := (UZ.blk 0 rfl).cell (j := 3) (v := .int .u8 0) rfl
          have a4 := (UZ.blk 0 rfl).cell (j := 4) (v := .int .i64 0) rfl
          have a5 := (UZ.blk 0 rfl).cell (j := 5) (v := .int .u64 0) rfl
          have a6 := (UZ.blk 0 rfl).cell (j := 6) (v := .int .u64 0) rfl
          have a7 := (UZ.blk 0 rfl).cell (j := 7) (v := .int .u64 0) rfl
          have a8 := (UZ.blk 0 rfl).cell (j := 8) (v := .int .u8 0) rfl
          have a9 := (UZ.blk 0 rfl).cell (j := 9) (v := .slice none 0 0) rfl
          refine bodyPost_ret (v := .tuple #[.agg #[.string ⟨#[]⟩, .string ⟨#[]⟩, .slice none 0 0, .int .u8 0, .int .i64 0, .int .u64 0, .int .u64 0, .int .u64 0, .int .u8 0, .slice none 0 0], .int .i64 (e13 : Nat)]) ?_ rfl ⟨.slice none 0 0, .slice none 0 0, ?_, ?_, UZ.below⟩
          · simp [results, Tryz.results44, go_sem, a0, a1, a2, a3, a4, a5, a6, a7, a8, a9]
          · rw [lineO_bad (by rw [HX.out]; exact HX0.out), HX.out]; rfl
          · rw [lineO_bad (by rw [HX.out]; exact HX0.out)]; exact zero_good _ _
      · skip
        have ln0 : (0 : Int) < (n13 : Int) := by omega
        have ln1 : 0 < n13 := by omega
        obtain ⟨vx, hBx, hrx, _⟩ := U22.get 1 rfl
        obtain ⟨Ax, cx, rfl, _⟩ := hrx
        have y0 := hBx.cell (j := 0) (v := .slice Ax (lnW13 ws).length cx) rfl
        have y1 := hBx.cell (j := 1) (v := .int .i64 (lnE13 ws : Nat)) rfl
        rw [← H_n13.out] at y0
        clear hBx
        clear y1
        have K := wFailI T g (lnW13 ws) (lnE13 ws) 2 2 rfl W22 (U22.get 1 rfl)
        rw [← H_e13.out] at K
        obtain ⟨E, hE⟩ : ∃ x, x = failE e13 2 := ⟨_, rfl⟩
        rw [← hE] at K
        have he0 : E ≠ 0 := by rw [hE]; exact failE_pos (by decide)
        have HX := Lib.hid (show lineE ws = E by rw [HLE.out, if_neg hn0, ← hE]; exact if_neg he0)
        have HX0 := Lib.hid he0
        have zf : ((E : Int) == 0) = false := by simp; omega
        clear he0 hn0 hE
        go_wp2_with fail
        (with_reducible refine K.mono ?_)
        rintro en w98 ⟨rfl, hU⟩
        have U23 : Upd [] w [chWd T g (lnW13 ws) (E), chRow 92 2 (.slice none 0 0) ([] : List Pr).length (pairCells []), chBlk (g + 1) #[.string nm, .string me, .slice A5 ps1.length c5, .int .u8 (kc : Nat), .int .i64 lc, .int .u64 (tc : Nat), .int .u64 (fo : Nat), .int .u64 (ke : Nat), .int .u8 (pr : Nat), .slice none 0 0] 32, chRow 92 2 (.slice A5 ps1.length c5) ps1.length (pairCells ps1), chBlk w.heap.size #[.string ⟨#[]⟩, .string ⟨#[]⟩, .slice none 0 0, .int .u8 0, .int .i64 0, .int .u64 0, .int .u64 0, .int .u64 0, .int .u8 0, .slice none 0 0] 32] w98 := U22.turn 1 rfl hU
        clear hU K U22 y0
        obtain ⟨vx, hBx, hrx, _⟩ := U23.get 0 rfl
        obtain ⟨Ax2, cx2, rfl, _⟩ := hrx
        have y1 := hBx.cell (j := 1) (v := .int .i64 (E : Nat)) rfl
        clear hBx
        have r0 := (U23.blk 4 rfl).cell (j := 0) (v := .string ⟨#[]⟩) rfl
        have q0 := (U23.blk 4 rfl).frozen 0
        have r1 := (U23.blk 4 rfl).cell (j := 1) (v := .string ⟨#[]⟩) rfl
        have q1 := (U23.blk 4 rfl).frozen 1
        have r2 := (U23.blk 4 rfl).cell (j := 2) (v := .slice none 0 0) rfl
        have q2 := (U23.blk 4 rfl).frozen 2
        have r3 := (U23.blk 4 rfl).cell (j := 3) (v := .int .u8 0) rfl
        have q3 := (U23.blk 4 rfl).frozen 3
        have r4 := (U23.blk 4 rfl).cell (j := 4) (v := .int .i64 0) rfl
        have q4 := (U23.blk 4 rfl).frozen 4
        have r5 := (U23.blk 4 rfl).cell (j := 5) (v := .int .u64 0) rfl
        have q5 := (U23.blk 4 rfl).frozen 5
        have r6 := (U23.blk 4 rfl).cell (j := 6) (v := .int .u64 0) rfl
        have q6 := (U23.blk 4 rfl).frozen 6
        have r7 := (U23.blk 4 rfl).cell (j := 7) (v := .int .u64 0) rfl
        have q7 := (U23.blk 4 rfl).frozen 7
        have r8 := (U23.blk 4 rfl).cell (j := 8) (v := .int .u8 0) rfl
        have q8 := (U23.blk 4 rfl).frozen 8
        have r9 := (U23.blk 4 rfl).cell (j := 9) (v := .slice none 0 0) rfl
        have q9 := (U23.blk 4 rfl).frozen 9
        go_wp2_with fail
        go_region
        go_wp2_with fail
        refine bodyPost_gen fun wz hwz => ?_
        have UZ := ((((((((((U23.put 4 rfl 0 (.string ⟨#[]⟩)).put 0 rfl 1 (.string ⟨#[]⟩)).put 0 rfl 2 (.slice none 0 0)).put 0 rfl 3 (.int .u8 0)).put 0 rfl 4 (.int .i64 0)).put 0 rfl 5 (.int .u64 0)).put 0 rfl 6 (.int .u64 0)).put 0 rfl 7 (.int .u64 0)).put 0 rfl 8 (.int .u8 0)).put 0 rfl 9 (.slice none 0 0)).drew.same hwz
        simp only [List.setIfInBounds_toArray, List.set_cons_zero, List.set_cons_succ, List.eraseIdx_cons_zero, List.eraseIdx_cons_succ] at UZ
        clear hwz
        have a0 := (UZ.blk 0 rfl).cell (j := 0) (v := .string ⟨#[]⟩) rfl
        have a1 := (UZ.blk 0 rfl).cell (j := 1) (v := .string ⟨#[]⟩) rfl
        have a2 := (UZ.blk 0 rfl).cell (j := 2) (v := .slice none 0 0) rfl
        have a3 := (UZ.blk 0 rfl).cell (j := 3) (v := .int .u8 0) rfl
        have a4 := (UZ.blk 0 rfl).cell (j := 4) (v := .int .i64 0) rfl
        have a5 := (UZ.blk 0 rfl).cell (j := 5) (v := .int .u64 0) rfl
        have a6 := (UZ.blk 0 rfl).cell (j := 6) (v := .int .u64 0) rfl
        have a7 := (UZ.blk 0 rfl).cell (j := 7) (v := .int .u64 0) rfl
        have a8 := (UZ.blk 0 rfl).cell (j := 8) (v := .int .u8 0) rfl
        have a9 := (UZ.blk 0 rfl).cell (j := 9) (v := .slice none 0 0) rfl
        refine bodyPost_ret (v := .tuple #[.agg #[.string ⟨#[]⟩, .string ⟨#[]⟩, .slice none 0 0, .int .u8 0, .int .i64 0, .int .u64 0, .int .u64 0, .int .u64 0, .int .u8 0, .slice none 0 0], .int .i64 (E : Nat)]) ?_ rfl ⟨.slice none 0 0, .slice none 0 0, ?_, ?_, UZ.below⟩
        · simp [results, Tryz.results44, go_sem, a0, a1, a2, a3, a4, a5, a6, a7, a8, a9]
        · rw [lineO_bad (by rw [HX.out]; exact HX0.out), HX.out]; rfl
        · rw [lineO_bad (by rw [HX.out]; exact HX0.out)]; exact zero_good _ _
  | false =>
    have K := wIs T g ⟨#[105, 102]⟩ (lnW2 ws) (lnE2 ws) W5 (U5.get 1 rfl)
    rw [show isW ⟨#[105, 102]⟩ (lnW2 ws) = false from hI] at K
    (with_reducible refine K.mono ?_)
    rintro en w55 ⟨rfl, hU⟩
    have U6 : Upd [] w [chWd T g (lnW3 ws) (lnE2 ws), chBlk (g + 1) #[.string nm, .string me, .slice none 0 0, .int .u8 0, .int .i64 0, .int .u64 0, .int .u64 0, .int .u64 0, .int .u8 0, .slice none 0 0] 32, chBlk w.heap.size #[.string ⟨#[]⟩, .string ⟨#[]⟩, .slice none 0 0, .int .u8 0, .int .i64 0, .int .u64 0, .int .u64 0, .int .u64 0, .int .u8 0, .slice none 0 0] 32] w55 := U5.turn 1 rfl hU
    clear hU K U5
    have hp : ps1 = [] := by rw [H_ps1.out]; unfold lnP; rw [hI]; rfl
    have e4 : lnW4 ws = lnW3 ws := by unfold lnW4; rw [hI]; rfl
    have f4 : lnE4 ws = lnE2 ws := by unfold lnE4; rw [hI]; rfl
    rw [← e4, ← f4] at U6
    subst hp
    have U7 : Upd [] w [chRow 92 2 (.slice none 0 0) ([] : List Pr).length (pairCells []), chWd T g (lnW4 ws) (lnE4 ws), chBlk (g + 1) #[.string nm, .string me, .slice none 0 0, .int .u8 0, .int .i64 0, .int .u64 0, .int .u64 0, .int .u64 0, .int .u8 0, .slice none 0 0] 32, chBlk w.heap.size #[.string ⟨#[]⟩, .string ⟨#[]⟩, .slice none 0 0, .int .u8 0, .int .i64 0, .int .u64 0, .int .u64 0, .int .u64 0, .int .u8 0, .slice none 0 0] 32] w55 := U6.nilRow 92 2
    clear U6 e4 f4
    go_wp2_with fail
    have K := wCond T g ⟨#[102, 111, 114]⟩ (lnW4 ws) (lnE4 ws) w55 (U7.get 1 rfl) (small4 HZ.out)
    rw [show cdA ⟨#[102, 111, 114]⟩ (lnW4 ws) = _ from HCD.out] at K
    (with_reducible refine K.mono ?_)
    rintro en w57 ⟨rfl, hU⟩
    have U8 : Upd [] w [chWd T g (lnW5 ws) (lnE5 ws), chRow 92 2 (.slice none 0 0) ([] : List Pr).length (pairCells []), chBlk (g + 1) #[.string nm, .string me, .slice none 0 0, .int .u8 0, .int .i64 0, .int .u64 0, .int .u64 0, .int .u64 0, .int .u8 0, .slice none 0 0] 32, chBlk w.heap.size #[.string ⟨#[]⟩, .string ⟨#[]⟩, .slice none 0 0, .int .u8 0, .int .i64 0, .int .u64 0, .int .u64 0, .int .u64 0, .int .u8 0, .slice none 0 0] 32] w57 := U7.turn 1 rfl hU
    clear hU K U7
    have d3 := (U8.blk 2 rfl).cell (j := 3) (v := .int .u8 0) rfl
    have f3 := (U8.blk 2 rfl).frozen 3
    have d4 := (U8.blk 2 rfl).cell (j := 4) (v := .int .i64 0) rfl
    have f4 := (U8.blk 2 rfl).frozen 4
    have d5 := (U8.blk 2 rfl).cell (j := 5) (v := .int .u64 0) rfl
    have f5 := (U8.blk 2 rfl).frozen 5
    go_wp2_with fail
    refine calls_genP fun W9 hW => ?_
    have U9 := (((U8.put 2 rfl 3 (.int .u8 (kc : Nat))).put 0 rfl 4 (.int .i64 lc)).put 0 rfl 5 (.int .u64 (tc : Nat))).same hW
    simp only [List.setIfInBounds_toArray, List.set_cons_zero, List.set_cons_succ, List.eraseIdx_cons_zero, List.eraseIdx_cons_succ] at U9
    clear hW U8 d3 f3 d4 f4 d5 f5
    have K := wWant T g ⟨#[102, 111, 114]⟩ (lnW5 ws) (lnE5 ws) W9 (U9.get 1 rfl)
    (with_reducible refine K.mono ?_)
    rintro en w59 ⟨rfl, hU⟩
    have U10 : Upd [] w [chWd T g (lnW6 ws) (lnE6 ws), chBlk (g + 1) #[.string nm, .string me, .slice none 0 0, .int .u8 (kc : Nat), .int .i64 lc, .int .u64 (tc : Nat), .int .u64 0, .int .u64 0, .int .u8 0, .slice none 0 0] 32, chRow 92 2 (.slice none 0 0) ([] : List Pr).length (pairCells []), chBlk w.heap.size #[.string ⟨#[]⟩, .string ⟨#[]⟩, .slice none 0 0, .int .u8 0, .int .i64 0, .int .u64 0, .int .u64 0, .int .u64 0, .int .u8 0, .slice none 0 0] 32] w59 := U9.turn 1 rfl hU
    clear hU K U9
    go_wp2_with fail
    have K := wNumber T g (lnW6 ws) (lnE6 ws) 1048576 1048576 rfl w59 (U10.get 0 rfl) (small6 HZ.out)
    rw [show nmV (lnW6 ws) 1048576 = _ from H_fo.out.symm] at K
    (with_reducible refine K.mono ?_)
    rintro en w60 ⟨rfl, hU⟩
    have U11 : Upd [] w [chWd T g ((lnW6 ws).tail) (lnE7 ws), chBlk (g + 1) #[.string nm, .string me, .slice none 0 0, .int .u8 (kc : Nat), .int .i64 lc, .int .u64 (tc : Nat), .int .u64 0, .int .u64 0, .int .u8 0, .slice none 0 0] 32, chRow 92 2 (.slice none 0 0) ([] : List Pr).length (pairCells []), chBlk w.heap.size #[.string ⟨#[]⟩, .string ⟨#[]⟩, .slice none 0 0, .int .u8 0, .int .i64 0, .int .u64 0, .int .u64 0, .int .u64 0, .int .u8 0, .slice none 0 0] 32] w60 := U10.turn 0 rfl hU
    clear hU K U10
    have d6 := (U11.blk 1 rfl).cell (j := 6) (v := .int .u64 0) rfl
    have f6 := (U11.blk 1 rfl).frozen 6
    go_wp2_with fail
    refine calls_genP fun W12 hW => ?_
    have U12 := (U11.put 1 rfl 6 (.int .u64 (fo : Nat))).same hW
    simp only [List.setIfInBounds_toArray, List.set_cons_zero, List.set_cons_succ, List.eraseIdx_cons_zero, List.eraseIdx_cons_succ] at U12
    clear hW U11 d6 f6
    have K := wWant T g ⟨#[107, 101, 101, 112]⟩ ((lnW6 ws).tail) (lnE7 ws) W12 (U12.get 1 rfl)
    (with_reducible refine K.mono ?_)
    rintro en w62 ⟨rfl, hU⟩
    have U13 : Upd [] w [chWd T g (lnW8 ws) (lnE8 ws), chBlk (g + 1) #[.string nm, .string me, .slice none 0 0, .int .u8 (kc : Nat), .int .i64 lc, .int .u64 (tc : Nat), .int .u64 (fo : Nat), .int .u64 0, .int .u8 0, .slice none 0 0] 32, chRow 92 2 (.slice none 0 0) ([] : List Pr).length (pairCells []), chBlk w.heap.size #[.string ⟨#[]⟩, .string ⟨#[]⟩, .slice none 0 0, .int .u8 0, .int .i64 0, .int .u64 0, .int .u64 0, .int .u64 0, .int .u8 0, .slice none 0 0] 32] w62 := U12.turn 1 rfl hU
    clear hU K U12
    go_wp2_with fail
    have K := wNumber T g (lnW8 ws) (lnE8 ws) 1048576 1048576 rfl w62 (U13.get 0 rfl) (small8 HZ.out)
    rw [show nmV (lnW8 ws) 1048576 = _ from H_ke.out.symm] at K
    (with_reducible refine K.mono ?_)
    rintro en w63 ⟨rfl, hU⟩
    have U14 : Upd [] w [chWd T g ((lnW8 ws).tail) (lnE9 ws), chBlk (g + 1) #[.string nm, .string me, .slice none 0 0, .int .u8 (kc : Nat), .int .i64 lc, .int .u64 (tc : Nat), .int .u64 (fo : Nat), .int .u64 0, .int .u8 0, .slice none 0 0] 32, chRow 92 2 (.slice none 0 0) ([] : List Pr).length (pairCells []), chBlk w.heap.size #[.string ⟨#[]⟩, .string ⟨#[]⟩, .slice none 0 0, .int .u8 0, .int .i64 0, .int .u64 0, .int .u64 0, .int .u64 0, .int .u8 0, .slice none 0 0] 32] w63 := U13.turn 0 rfl hU
    clear hU K U13
    have d7 := (U14.blk 1 rfl).cell (j := 7) (v := .int .u64 0) rfl
    have f7 := (U14.blk 1 rfl).frozen 7
    go_wp2_with fail
    refine calls_genP fun W15 hW => ?_
    have U15 := (U14.put 1 rfl 7 (.int .u64 (ke : Nat))).same hW
    simp only [List.setIfInBounds_toArray, List.set_cons_zero, List.set_cons_succ, List.eraseIdx_cons_zero, List.eraseIdx_cons_succ] at U15
    clear hW U14 d7 f7
    have K := wWant T g ⟨#[112, 114, 105, 111]⟩ ((lnW8 ws).tail) (lnE9 ws) W15 (U15.get 1 rfl)
    (with_reducible refine K.mono ?_)
    rintro en w65 ⟨rfl, hU⟩
    have U16 : Upd [] w [chWd T g (lnW10 ws) (lnE10 ws), chBlk (g + 1) #[.string nm, .string me, .slice none 0 0, .int .u8 (kc : Nat), .int .i64 lc, .int .u64 (tc : Nat), .int .u64 (fo : Nat), .int .u64 (ke : Nat), .int .u8 0, .slice none 0 0] 32, chRow 92 2 (.slice none 0 0) ([] : List Pr).length (pairCells []), chBlk w.heap.size #[.string ⟨#[]⟩, .string ⟨#[]⟩, .slice none 0 0, .int .u8 0, .int .i64 0, .int .u64 0, .int .u64 0, .int .u64 0, .int .u8 0, .slice none 0 0] 32] w65 := U15.turn 1 rfl hU
    clear hU K U15
    go_wp2_with fail
    have K := wNumber T g (lnW10 ws) (lnE10 ws) 7 7 rfl w65 (U16.get 0 rfl) (small10 HZ.out)
    rw [show nmV (lnW10 ws) 7 = _ from H_pr.out.symm] at K
    (with_reducible refine K.mono ?_)
    rintro en w66 ⟨rfl, hU⟩
    have U17 : Upd [] w [chWd T g ((lnW10 ws).tail) (lnE11 ws), chBlk (g + 1) #[.string nm, .string me, .slice none 0 0, .int .u8 (kc : Nat), .int .i64 lc, .int .u64 (tc : Nat), .int .u64 (fo : Nat), .int .u64 (ke : Nat), .int .u8 0, .slice none 0 0] 32, chRow 92 2 (.slice none 0 0) ([] : List Pr).length (pairCells []), chBlk w.heap.size #[.string ⟨#[]⟩, .string ⟨#[]⟩, .slice none 0 0, .int .u8 0, .int .i64 0, .int .u64 0, .int .u64 0, .int .u64 0, .int .u8 0, .slice none 0 0] 32] w66 := U16.turn 0 rfl hU
    clear hU K U16
    have d8 := (U17.blk 1 rfl).cell (j := 8) (v := .int .u8 0) rfl
    have f8 := (U17.blk 1 rfl).frozen 8
    go_wp2_with fail
    refine calls_genP fun W18 hW => ?_
    have U18 := (U17.put 1 rfl 8 (.int .u8 (pr : Nat))).same hW
    simp only [List.setIfInBounds_toArray, List.set_cons_zero, List.set_cons_succ, List.eraseIdx_cons_zero, List.eraseIdx_cons_succ] at U18
    clear hW U17 d8 f8
    cases hH : lnH ws with
    | true =>
      have K := wIs T g ⟨#[119, 105, 116, 104]⟩ ((lnW10 ws).tail) (lnE11 ws) W18 (U18.get 1 rfl)
      rw [show isW ⟨#[119, 105, 116, 104]⟩ (lnW10 ws).tail = true from hH] at K
      (with_reducible refine K.mono ?_)
      rintro en w68 ⟨rfl, hU⟩
      have U19 : Upd [] w [chWd T g (lnW12 ws) (lnE11 ws), chBlk (g + 1) #[.string nm, .string me, .slice none 0 0, .int .u8 (kc : Nat), .int .i64 lc, .int .u64 (tc : Nat), .int .u64 (fo : Nat), .int .u64 (ke : Nat), .int .u8 (pr : Nat), .slice none 0 0] 32, chRow 92 2 (.slice none 0 0) ([] : List Pr).length (pairCells []), chBlk w.heap.size #[.string ⟨#[]⟩, .string ⟨#[]⟩, .slice none 0 0, .int .u8 0, .int .i64 0, .int .u64 0, .int .u64 0, .int .u64 0, .int .u8 0, .slice none 0 0] 32] w68 := U18.turn 1 rfl hU
      clear hU K U18
      go_wp2_with fail
      have K := wLabels T g (lnW12 ws) (lnE11 ws) mx w68 (U19.get 0 rfl) (small12 HZ.out) (cell_upd U19 (by simp) HM.out) HN.out
      rw [show lbL (lnW12 ws) = ps2 by rw [H_ps2.out]; unfold lnQ; rw [hH]; rfl] at K
      (with_reducible refine K.mono ?_)
      rintro en w69 ⟨vv, rfl, hU⟩
      obtain ⟨A6, c6, rfl⟩ := owns_slice (hU.row 1 rfl)
      rw [show (lnW12 ws).tail = lnW13 ws by unfold lnW13; rw [hH]; rfl, show lbE (lnW12 ws) (lnE11 ws) = lnE13 ws by unfold lnE13; rw [hH]; rfl] at hU
      have U20 : Upd [] w [chWd T g (lnW13 ws) (lnE13 ws), chRow 92 2 (.slice A6 ps2.length c6) ps2.length (pairCells ps2), chBlk (g + 1) #[.string nm, .string me, .slice none 0 0, .int .u8 (kc : Nat), .int .i64 lc, .int .u64 (tc : Nat), .int .u64 (fo : Nat), .int .u64 (ke : Nat), .int .u8 (pr : Nat), .slice none 0 0] 32, chRow 92 2 (.slice none 0 0) ([] : List Pr).length (pairCells []), chBlk w.heap.size #[.string ⟨#[]⟩, .string ⟨#[]⟩, .slice none 0 0, .int .u8 0, .int .i64 0, .int .u64 0, .int .u64 0, .int .u64 0, .int .u8 0, .slice none 0 0] 32] w69 := U19.turn 0 rfl hU
      clear hU K U19
      have d9 := (U20.blk 2 rfl).cell (j := 9) (v := .slice none 0 0) rfl
      have f9 := (U20.blk 2 rfl).frozen 9
      go_upto_region 16 with fail
      refine wp_gen fun W21 hW => ?_
      have U21 := (U20.put 2 rfl 9 (.slice A6 ps2.length c6)).same hW
      simp only [List.setIfInBounds_toArray, List.set_cons_zero, List.set_cons_succ, List.eraseIdx_cons_zero, List.eraseIdx_cons_succ] at U21
      clear hW U20 d9 f9
      by_cases hn0 : n13 = 0
      · skip
        subst hn0
        obtain ⟨vx, hBx, hrx, _⟩ := U21.get 1 rfl
        obtain ⟨Ax, cx, rfl, _⟩ := hrx
        have y0 := hBx.cell (j := 0) (v := .slice Ax (lnW13 ws).length cx) rfl
        have y1 := hBx.cell (j := 1) (v := .int .i64 (lnE13 ws : Nat)) rfl
        rw [← H_n13.out] at y0
        clear hBx
        rw [← H_e13.out] at y1
        by_cases he0 : e13 = 0
        · skip
          subst he0
          have d0 := (U21.blk 0 rfl).cell (j := 0) (v := .string nm) rfl
          have d1 := (U21.blk 0 rfl).cell (j := 1) (v := .string me) rfl
          have d2 := (U21.blk 0 rfl).cell (j := 2) (v := .slice none 0 0) rfl
          have d3 := (U21.blk 0 rfl).cell (j := 3) (v := .int .u8 (kc : Nat)) rfl
          have d4 := (U21.blk 0 rfl).cell (j := 4) (v := .int .i64 lc) rfl
          have d5 := (U21.blk 0 rfl).cell (j := 5) (v := .int .u64 (tc : Nat)) rfl
          have d6 := (U21.blk 0 rfl).cell (j := 6) (v := .int .u64 (fo : Nat)) rfl
          have d7 := (U21.blk 0 rfl).cell (j := 7) (v := .int .u64 (ke : Nat)) rfl
          have d8 := (U21.blk 0 rfl).cell (j := 8) (v := .int .u8 (pr : Nat)) rfl
          have d9 := (U21.blk 0 rfl).cell (j := 9) (v := .slice A6 ps2.length c6) rfl
          obtain ⟨er, her⟩ : ∃ x, x = lnChk ws := ⟨_, rfl⟩
          have HX1 := Lib.hid (show lineE ws = er by rw [HLE.out, her]; rfl)
          have K := ruCheckA nm me none 0 0 [] kc lc tc fo ke pr A6 ps2.length c6 ps2 W21 HS.out.1 HS.out.2.1 (rd_nil0 _ 2) HS.out.2.2.1 (rd_of_owns (U21.row 2 rfl)) HS.out.2.2.2.1 HS.out.2.2.2.2.1
          rw [← HC.out, ← her] at K
          clear her
          go_wp2_with fail
          (with_reducible refine K.mono ?_)
          rintro en w99 ⟨rfl, hb99⟩
          have U22 := U21.grow hb99
          clear hb99 K U21 y0 y1 d0 d1 d2 d3 d4 d5 d6 d7 d8 d9
          rw [← H_e13.out] at U22
          have K := wFailI T g (lnW13 ws) 0 er er rfl w99 (U22.get 1 rfl)
          rw [failE_0] at K
          go_wp2_with fail
          (with_reducible refine K.mono ?_)
          rintro en w98 ⟨rfl, hU⟩
          have U23 : Upd [] w [chWd T g (lnW13 ws) (er), chBlk (g + 1) #[.string nm, .string me, .slice none 0 0, .int .u8 (kc : Nat), .int .i64 lc, .int .u64 (tc : Nat), .int .u64 (fo : Nat), .int .u64 (ke : Nat), .int .u8 (pr : Nat), .slice A6 ps2.length c6] 32, chRow 92 2 (.slice A6 ps2.length c6) ps2.length (pairCells ps2), chRow 92 2 (.slice none 0 0) ([] : List Pr).length (pairCells []), chBlk w.heap.size #[.string ⟨#[]⟩, .string ⟨#[]⟩, .slice none 0 0, .int .u8 0, .int .i64 0, .int .u64 0, .int .u64 0, .int .u64 0, .int .u8 0, .slice none 0 0] 32] w98 := U22.turn 1 rfl hU
          clear hU K U22
          obtain ⟨vx, hBx, hrx, _⟩ := U23.get 0 rfl
          obtain ⟨Ax2, cx2, rfl, _⟩ := hrx
          have y1 := hBx.cell (j := 1) (v := .int .i64 (er : Nat)) rfl
          clear hBx
          by_cases hr0 : er = 0
          · skip
            subst hr0
            have d0 := (U23.blk 1 rfl).cell (j := 0) (v := .string nm) rfl
            have d1 := (U23.blk 1 rfl).cell (j := 1) (v := .string me) rfl
            have d2 := (U23.blk 1 rfl).cell (j := 2) (v := .slice none 0 0) rfl
            have d3 := (U23.blk 1 rfl).cell (j := 3) (v := .int .u8 (kc : Nat)) rfl
            have d4 := (U23.blk 1 rfl).cell (j := 4) (v := .int .i64 lc) rfl
            have d5 := (U23.blk 1 rfl).cell (j := 5) (v := .int .u64 (tc : Nat)) rfl
            have d6 := (U23.blk 1 rfl).cell (j := 6) (v := .int .u64 (fo : Nat)) rfl
            have d7 := (U23.blk 1 rfl).cell (j := 7) (v := .int .u64 (ke : Nat)) rfl
            have d8 := (U23.blk 1 rfl).cell (j := 8) (v := .int .u8 (pr : Nat)) rfl
            have d9 := (U23.blk 1 rfl).cell (j := 9) (v := .slice A6 ps2.length c6) rfl
            have r0 := (U23.blk 4 rfl).cell (j := 0) (v := .string ⟨#[]⟩) rfl
            have q0 := (U23.blk 4 rfl).frozen 0
            have r1 := (U23.blk 4 rfl).cell (j := 1) (v := .string ⟨#[]⟩) rfl
            have q1 := (U23.blk 4 rfl).frozen 1
            have r2 := (U23.blk 4 rfl).cell (j := 2) (v := .slice none 0 0) rfl
            have q2 := (U23.blk 4 rfl).frozen 2
            have r3 := (U23.blk 4 rfl).cell (j := 3) (v := .int .u8 0) rfl
            have q3 := (U23.blk 4 rfl).frozen 3
            have r4 := (U23.blk 4 rfl).cell (j := 4) (v := .int .i64 0) rfl
            have q4 := (U23.blk 4 rfl).frozen 4
            have r5 := (U23.blk 4 rfl).cell (j := 5) (v := .int .u64 0) rfl
            have q5 := (U23.blk 4 rfl).frozen 5
            have r6 := (U23.blk 4 rfl).cell (j := 6) (v := .int .u64 0) rfl
            have q6 := (U23.blk 4 rfl).frozen 6
            have r7 := (U23.blk 4 rfl).cell (j := 7) (v := .int .u64 0) rfl
            have q7 := (U23.blk 4 rfl).frozen 7
            have r8 := (U23.blk 4 rfl).cell (j := 8) (v := .int .u8 0) rfl
            have q8 := (U23.blk 4 rfl).frozen 8
            have r9 := (U23.blk 4 rfl).cell (j := 9) (v := .slice none 0 0) rfl
            have q9 := (U23.blk 4 rfl).frozen 9
            go_wp2_with fail
            refine bodyPost_gen fun wz hwz => ?_
            have UZ := ((((((((((U23.put 4 rfl 0 (.string nm)).put 0 rfl 1 (.string me)).put 0 rfl 2 (.slice none 0 0)).put 0 rfl 3 (.int .u8 (kc : Nat))).put 0 rfl 4 (.int .i64 lc)).put 0 rfl 5 (.int .u64 (tc : Nat))).put 0 rfl 6 (.int .u64 (fo : Nat))).put 0 rfl 7 (.int .u64 (ke : Nat))).put 0 rfl 8 (.int .u8 (pr : Nat))).put 0 rfl 9 (.slice A6 ps2.length c6)).same hwz
            simp only [List.setIfInBounds_toArray, List.set_cons_zero, List.set_cons_succ, List.eraseIdx_cons_zero, List.eraseIdx_cons_succ] at UZ
            clear hwz
            have a0 := (UZ.blk 0 rfl).cell (j := 0) (v := .string nm) rfl
            have a1 := (UZ.blk 0 rfl).cell (j := 1) (v := .string me) rfl
            have a2 := (UZ.blk 0 rfl).cell (j := 2) (v := .slice none 0 0) rfl
            have a3 := (UZ.blk 0 rfl).cell (j := 3) (v := .int .u8 (kc : Nat)) rfl
            have a4 := (UZ.blk 0 rfl).cell (j := 4) (v := .int .i64 lc) rfl
            have a5 := (UZ.blk 0 rfl).cell (j := 5) (v := .int .u64 (tc : Nat)) rfl
            have a6 := (UZ.blk 0 rfl).cell (j := 6) (v := .int .u64 (fo : Nat)) rfl
            have a7 := (UZ.blk 0 rfl).cell (j := 7) (v := .int .u64 (ke : Nat)) rfl
            have a8 := (UZ.blk 0 rfl).cell (j := 8) (v := .int .u8 (pr : Nat)) rfl
            have a9 := (UZ.blk 0 rfl).cell (j := 9) (v := .slice A6 ps2.length c6) rfl
            refine bodyPost_ret (v := .tuple #[.agg #[.string nm, .string me, .slice none 0 0, .int .u8 (kc : Nat), .int .i64 lc, .int .u64 (tc : Nat), .int .u64 (fo : Nat), .int .u64 (ke : Nat), .int .u8 (pr : Nat), .slice A6 ps2.length c6], .int .i64 (0 : Nat)]) ?_ rfl ⟨.slice none 0 0, .slice A6 ps2.length c6, ?_, ?_, UZ.below⟩
            · simp [results, Tryz.results44, go_sem, a0, a1, a2, a3, a4, a5, a6, a7, a8, a9]
            · rw [lineO_ok HX1.out, HX1.out, HLR.out]; rfl
            · rw [lineO_ok HX1.out, HLR.out]; exact ⟨HS.out.1, HS.out.2.1, HS.out.2.2.1, HS.out.2.2.2.1, HS.out.2.2.2.2.1, Nat.lt_of_le_of_lt HS.out.2.2.2.2.2 (by decide), UZ.rowBase 4 rfl, UZ.rowBase 3 rfl⟩
          · skip
            have HX0 := Lib.hid hr0
            have zf : ((er : Int) == 0) = false := by simp; omega
            have HX := HX1
            clear hr0 HX1
            have r0 := (U23.blk 4 rfl).cell (j := 0) (v := .string ⟨#[]⟩) rfl
            have q0 := (U23.blk 4 rfl).frozen 0
            have r1 := (U23.blk 4 rfl).cell (j := 1) (v := .string ⟨#[]⟩) rfl
            have q1 := (U23.blk 4 rfl).frozen 1
            have r2 := (U23.blk 4 rfl).cell (j := 2) (v := .slice none 0 0) rfl
            have q2 := (U23.blk 4 rfl).frozen 2
            have r3 := (U23.blk 4 rfl).cell (j := 3) (v := .int .u8 0) rfl
            have q3 := (U23.blk 4 rfl).frozen 3
            have r4 := (U23.blk 4 rfl).cell (j := 4) (v := .int .i64 0) rfl
            have q4 := (U23.blk 4 rfl).frozen 4
            have r5 := (U23.blk 4 rfl).cell (j := 5) (v := .int .u64 0) rfl
            have q5 := (U23.blk 4 rfl).frozen 5
            have r6 := (U23.blk 4 rfl).cell (j := 6) (v := .int .u64 0) rfl
            have q6 := (U23.blk 4 rfl).frozen 6
            have r7 := (U23.blk 4 rfl).cell (j := 7) (v := .int .u64 0) rfl
            have q7 := (U23.blk 4 rfl).frozen 7
            have r8 := (U23.blk 4 rfl).cell (j := 8) (v := .int .u8 0) rfl
            have q8 := (U23.blk 4 rfl).frozen 8
            have r9 := (U23.blk 4 rfl).cell (j := 9) (v := .slice none 0 0) rfl
            have q9 := (U23.blk 4 rfl).frozen 9
            go_wp2_with fail
            go_region
            go_wp2_with fail
            refine bodyPost_gen fun wz hwz => ?_
            have UZ := ((((((((((U23.put 4 rfl 0 (.string ⟨#[]⟩)).put 0 rfl 1 (.string ⟨#[]⟩)).put 0 rfl 2 (.slice none 0 0)).put 0 rfl 3 (.int .u8 0)).put 0 rfl 4 (.int .i64 0)).put 0 rfl 5 (.int .u64 0)).put 0 rfl 6 (.int .u64 0)).put 0 rfl 7 (.int .u64 0)).put 0 rfl 8 (.int .u8 0)).put 0 rfl 9 (.slice none 0 0)).drew.same hwz
            simp only [List.setIfInBounds_toArray, List.set_cons_zero, List.set_cons_succ, List.eraseIdx_cons_zero, List.eraseIdx_cons_succ] at UZ
            clear hwz
            have a0 := (UZ.blk 0 rfl).cell (j := 0) (v := .string ⟨#[]⟩) rfl
            have a1 := (UZ.blk 0 rfl).cell (j := 1) (v := .string ⟨#[]⟩) rfl
            have a2 := (UZ.blk 0 rfl).cell (j := 2) (v := .slice none 0 0) rfl
            have a3 := (UZ.blk 0 rfl).cell (j := 3) (v := .int .u8 0) rfl
            have a4 := (UZ.blk 0 rfl).cell (j := 4) (v := .int .i64 0) rfl
            have a5 := (UZ.blk 0 rfl).cell (j := 5) (v := .int .u64 0) rfl
            have a6 := (UZ.blk 0 rfl).cell (j := 6) (v := .int .u64 0) rfl
            have a7 := (UZ.blk 0 rfl).cell (j := 7) (v := .int .u64 0) rfl
            have a8 := (UZ.blk 0 rfl).cell (j := 8) (v := .int .u8 0) rfl
            have a9 := (UZ.blk 0 rfl).cell (j := 9) (v := .slice none 0 0) rfl
            refine bodyPost_ret (v := .tuple #[.agg #[.string ⟨#[]⟩, .string ⟨#[]⟩, .slice none 0 0, .int .u8 0, .int .i64 0, .int .u64 0, .int .u64 0, .int .u64 0, .int .u8 0, .slice none 0 0], .int .i64 (er : Nat)]) ?_ rfl ⟨.slice none 0 0, .slice none 0 0, ?_, ?_, UZ.below⟩
            · simp [results, Tryz.results44, go_sem, a0, a1, a2, a3, a4, a5, a6, a7, a8, a9]
            · rw [lineO_bad (by rw [HX.out]; exact HX0.out), HX.out]; rfl
            · rw [lineO_bad (by rw [HX.out]; exact HX0.out)]; exact zero_good _ _
        · skip
          have HX := Lib.hid (show lineE ws = e13 by rw [HLE.out]; exact if_neg he0)
          have HX0 := Lib.hid he0
          have zf : ((e13 : Int) == 0) = false := by simp; omega
          clear he0
          have r0 := (U21.blk 4 rfl).cell (j := 0) (v := .string ⟨#[]⟩) rfl
          have q0 := (U21.blk 4 rfl).frozen 0
          have r1 := (U21.blk 4 rfl).cell (j := 1) (v := .string ⟨#[]⟩) rfl
          have q1 := (U21.blk 4 rfl).frozen 1
          have r2 := (U21.blk 4 rfl).cell (j := 2) (v := .slice none 0 0) rfl
          have q2 := (U21.blk 4 rfl).frozen 2
          have r3 := (U21.blk 4 rfl).cell (j := 3) (v := .int .u8 0) rfl
          have q3 := (U21.blk 4 rfl).frozen 3
          have r4 := (U21.blk 4 rfl).cell (j := 4) (v := .int .i64 0) rfl
          have q4 := (U21.blk 4 rfl).frozen 4
          have r5 := (U21.blk 4 rfl).cell (j := 5) (v := .int .u64 0) rfl
          have q5 := (U21.blk 4 rfl).frozen 5
          have r6 := (U21.blk 4 rfl).cell (j := 6) (v := .int .u64 0) rfl
          have q6 := (U21.blk 4 rfl).frozen 6
          have r7 := (U21.blk 4 rfl).cell (j := 7) (v := .int .u64 0) rfl
          have q7 := (U21.blk 4 rfl).frozen 7
          have r8 := (U21.blk 4 rfl).cell (j := 8) (v := .int .u8 0) rfl
          have q8 := (U21.blk 4 rfl).frozen 8
          have r9 := (U21.blk 4 rfl).cell (j := 9) (v := .slice none 0 0) rfl
          have q9 := (U21.blk 4 rfl).frozen 9
          go_wp2_with fail
          go_region
          go_wp2_with fail
          refine bodyPost_gen fun wz hwz => ?_
          have UZ := ((((((((((U21.put 4 rfl 0 (.string ⟨#[]⟩)).put 0 rfl 1 (.string ⟨#[]⟩)).put 0 rfl 2 (.slice none 0 0)).put 0 rfl 3 (.int .u8 0)).put 0 rfl 4 (.int .i64 0)).put 0 rfl 5 (.int .u64 0)).put 0 rfl 6 (.int .u64 0)).put 0 rfl 7 (.int .u64 0)).put 0 rfl 8 (.int .u8 0)).put 0 rfl 9 (.slice none 0 0)).drew.same hwz
          simp only [List.setIfInBounds_toArray, List.set_cons_zero, List.set_cons_succ, List.eraseIdx_cons_zero, List.eraseIdx_cons_succ] at UZ
          clear hwz
          have a0 := (UZ.blk 0 rfl).cell (j := 0) (v := .string ⟨#[]⟩) rfl
          have a1 := (UZ.blk 0 rfl).cell (j := 1) (v := .string ⟨#[]⟩) rfl
          have a2 := (UZ.blk 0 rfl).cell (j := 2) (v := .slice none 0 0) rfl
          have a3 := (UZ.blk 0 rfl).cell (j := 3) (v := .int .u8 0) rfl
          have a4 := (UZ.blk 0 rfl).cell (j := 4) (v := .int .i64 0) rfl
          have a5 := (UZ.blk 0 rfl).cell (j := 5) (v := .int .u64 0) rfl
          have a6 := (UZ.blk 0 rfl).cell (j := 6) (v := .int .u64 0) rfl
          have a7 := (UZ.blk 0 rfl).cell (j := 7) (v := .int .u64 0) rfl
          have a8 := (UZ.blk 0 rfl).cell (j := 8) (v := .int .u8 0) rfl
          have a9 := (UZ.blk 0 rfl).cell (j := 9) (v := .slice none 0 0) rfl
          refine bodyPost_ret (v := .tuple #[.agg #[.string ⟨#[]⟩, .string ⟨#[]⟩, .slice none 0 0, .int .u8 0, .int .i64 0, .int .u64 0, .int .u64 0, .int .u64 0, .int .u8 0, .slice none 0 0], .int .i64 (e13 : Nat)]) ?_ rfl ⟨.slice none 0 0, .slice none 0 0, ?_, ?_, UZ.below⟩
          · simp [results, Tryz.results44, go_sem, a0, a1, a2, a3, a4, a5, a6, a7, a8, a9]
          · rw [lineO_bad (by rw [HX.out]; exact HX0.out), HX.out]; rfl
          · rw [lineO_bad (by rw [HX.out]; exact HX0.out)]; exact zero_good _ _
      · skip
        have ln0 : (0 : Int) < (n13 : Int) := by omega
        have ln1 : 0 < n13 := by omega
        obtain ⟨vx, hBx, hrx, _⟩ := U21.get 1 rfl
        obtain ⟨Ax, cx, rfl, _⟩ := hrx
        have y0 := hBx.cell (j := 0) (v := .slice Ax (lnW13 ws).length cx) rfl
        have y1 := hBx.cell (j := 1) (v := .int .i64 (lnE13 ws : Nat)) rfl
        rw [← H_n13.out] at y0
        clear hBx
        clear y1
        have K := wFailI T g (lnW13 ws) (lnE13 ws) 2 2 rfl W21 (U21.get 1 rfl)
        rw [← H_e13.out] at K
        obtain ⟨E, hE⟩ : ∃ x, x = failE e13 2 := ⟨_, rfl⟩
        rw [← hE] at K
        have he0 : E ≠ 0 := by rw [hE]; exact failE_pos (by decide)
        have HX := Lib.hid (show lineE ws = E by rw [HLE.out, if_neg hn0, ← hE]; exact if_neg he0)
        have HX0 := Lib.hid he0
        have zf : ((E : Int) == 0) = false := by simp; omega
        clear he0 hn0 hE
        go_wp2_with fail
        (with_reducible refine K.mono ?_)
        rintro en w98 ⟨rfl, hU⟩
        have U22 : Upd [] w [chWd T g (lnW13 ws) (E), chBlk (g + 1) #[.string nm, .string me, .slice none 0 0, .int .u8 (kc : Nat), .int .i64 lc, .int .u64 (tc : Nat), .int .u64 (fo : Nat), .int .u64 (ke : Nat), .int .u8 (pr : Nat), .slice A6 ps2.length c6] 32, chRow 92 2 (.slice A6 ps2.length c6) ps2.length (pairCells ps2), chRow 92 2 (.slice none 0 0) ([] : List Pr).length (pairCells []), chBlk w.heap.size #[.string ⟨#[]⟩, .string ⟨#[]⟩, .slice none 0 0, .int .u8 0, .int .i64 0, .int .u64 0, .int .u64 0, .int .u64 0, .int .u8 0, .slice none 0 0] 32] w98 := U21.turn 1 rfl hU
        clear hU K U21 y0
        obtain ⟨vx, hBx, hrx, _⟩ := U22.get 0 rfl
        obtain ⟨Ax2, cx2, rfl, _⟩ := hrx
        have y1 := hBx.cell (j := 1) (v := .int .i64 (E : Nat)) rfl
        clear hBx
        have r0 := (U22.blk 4 rfl).cell (j := 0) (v := .string ⟨#[]⟩) rfl
        have q0 := (U22.blk 4 rfl).frozen 0
        have r1 := (U22.blk 4 rfl).cell (j := 1) (v := .string ⟨#[]⟩) rfl
        have q1 := (U22.blk 4 rfl).frozen 1
        have r2 := (U22.blk 4 rfl).cell (j := 2) (v := .slice none 0 0) rfl
        have q2 := (U22.blk 4 rfl).frozen 2
        have r3 := (U22.blk 4 rfl).cell (j := 3) (v := .int .u8 0) rfl
        have q3 := (U22.blk 4 rfl).frozen 3
        have r4 := (U22.blk 4 rfl).cell (j := 4) (v := .int .i64 0) rfl
        have q4 := (U22.blk 4 rfl).frozen 4
        have r5 := (U22.blk 4 rfl).cell (j := 5) (v := .int .u64 0) rfl
        have q5 := (U22.blk 4 rfl).frozen 5
        have r6 := (U22.blk 4 rfl).cell (j := 6) (v := .int .u64 0) rfl
        have q6 := (U22.blk 4 rfl).frozen 6
        have r7 := (U22.blk 4 rfl).cell (j := 7) (v := .int .u64 0) rfl
        have q7 := (U22.blk 4 rfl).frozen 7
        have r8 := (U22.blk 4 rfl).cell (j := 8) (v := .int .u8 0) rfl
        have q8 := (U22.blk 4 rfl).frozen 8
        have r9 := (U22.blk 4 rfl).cell (j := 9) (v := .slice none 0 0) rfl
        have q9 := (U22.blk 4 rfl).frozen 9
        go_wp2_with fail
        go_region
        go_wp2_with fail
        refine bodyPost_gen fun wz hwz => ?_
        have UZ := ((((((((((U22.put 4 rfl 0 (.string ⟨#[]⟩)).put 0 rfl 1 (.string ⟨#[]⟩)).put 0 rfl 2 (.slice none 0 0)).put 0 rfl 3 (.int .u8 0)).put 0 rfl 4 (.int .i64 0)).put 0 rfl 5 (.int .u64 0)).put 0 rfl 6 (.int .u64 0)).put 0 rfl 7 (.int .u64 0)).put 0 rfl 8 (.int .u8 0)).put 0 rfl 9 (.slice none 0 0)).drew.same hwz
        simp only [List.setIfInBounds_toArray, List.set_cons_zero, List.set_cons_succ, List.eraseIdx_cons_zero, List.eraseIdx_cons_succ] at UZ
        clear hwz
        have a0 := (UZ.blk 0 rfl).cell (j := 0) (v := .string ⟨#[]⟩) rfl
        have a1 := (UZ.blk 0 rfl).cell (j := 1) (v := .string ⟨#[]⟩) rfl
        have a2 := (UZ.blk 0 rfl).cell (j := 2) (v := .slice none 0 0) rfl
        have a3 := (UZ.blk 0 rfl).cell (j := 3) (v := .int .u8 0) rfl
        have a4 := (UZ.blk 0 rfl).cell (j := 4) (v := .int .i64 0) rfl
        have a5 := (UZ.blk 0 rfl).cell (j := 5) (v := .int .u64 0) rfl
        have a6 := (UZ.blk 0 rfl).cell (j := 6) (v := .int .u64 0) rfl
        have a7 := (UZ.blk 0 rfl).cell (j := 7) (v := .int .u64 0) rfl
        have a8 := (UZ.blk 0 rfl).cell (j := 8) (v := .int .u8 0) rfl
        have a9 := (UZ.blk 0 rfl).cell (j := 9) (v := .slice none 0 0) rfl
        refine bodyPost_ret (v := .tuple #[.agg #[.string ⟨#[]⟩, .string ⟨#[]⟩, .slice none 0 0, .int .u8 0, .int .i64 0, .int .u64 0, .int .u64 0, .int .u64 0, .int .u8 0, .slice none 0 0], .int .i64 (E : Nat)]) ?_ rfl ⟨.slice none 0 0, .slice none 0 0, ?_, ?_, UZ.below⟩
        · simp [results, Tryz.results44, go_sem, a0, a1, a2, a3, a4, a5, a6, a7, a8, a9]
        · rw [lineO_bad (by rw [HX.out]; exact HX0.out), HX.out]; rfl
        · rw [lineO_bad (by rw [HX.out]; exact HX0.out)]; exact zero_good _ _
    | false =>
      have K := wIs T g ⟨#[119, 105, 116, 104]⟩ ((lnW10 ws).tail) (lnE11 ws) W18 (U18.get 1 rfl)
      rw [show isW ⟨#[119, 105, 116, 104]⟩ (lnW10 ws).tail = false from hH] at K
      (with_reducible refine K.mono ?_)
      rintro en w68 ⟨rfl, hU⟩
      have U19 : Upd [] w [chWd T g (lnW12 ws) (lnE11 ws), chBlk (g + 1) #[.string nm, .string me, .slice none 0 0, .int .u8 (kc : Nat), .int .i64 lc, .int .u64 (tc : Nat), .int .u64 (fo : Nat), .int .u64 (ke : Nat), .int .u8 (pr : Nat), .slice none 0 0] 32, chRow 92 2 (.slice none 0 0) ([] : List Pr).length (pairCells []), chBlk w.heap.size #[.string ⟨#[]⟩, .string ⟨#[]⟩, .slice none 0 0, .int .u8 0, .int .i64 0, .int .u64 0, .int .u64 0, .int .u64 0, .int .u8 0, .slice none 0 0] 32] w68 := U18.turn 1 rfl hU
      clear hU K U18
      have hq : ps2 = [] := by rw [H_ps2.out]; unfold lnQ; rw [hH]; rfl
      have e13 : lnW13 ws = lnW12 ws := by unfold lnW13; rw [hH]; rfl
      have f13 : lnE13 ws = lnE11 ws := by unfold lnE13; rw [hH]; rfl
      rw [← e13, ← f13] at U19
      subst hq
      have U20 := U19.nilRow 92 2
      clear U19 e13 f13
      go_upto_region 16 with fail
      refine wp_gen fun W21 hW => ?_
      have U21 := U20.same hW
      clear hW U20
      by_cases hn0 : n13 = 0
      · skip
        subst hn0
        obtain ⟨vx, hBx, hrx, _⟩ := U21.get 1 rfl
        obtain ⟨Ax, cx, rfl, _⟩ := hrx
        have y0 := hBx.cell (j := 0) (v := .slice Ax (lnW13 ws).length cx) rfl
        have y1 := hBx.cell (j := 1) (v := .int .i64 (lnE13 ws : Nat)) rfl
        rw [← H_n13.out] at y0
        clear hBx
        rw [← H_e13.out] at y1
        by_cases he0 : e13 = 0
        · skip
          subst he0
          have d0 := (U21.blk 2 rfl).cell (j := 0) (v := .string nm) rfl
          have d1 := (U21.blk 2 rfl).cell (j := 1) (v := .string me) rfl
          have d2 := (U21.blk 2 rfl).cell (j := 2) (v := .slice none 0 0) rfl
          have d3 := (U21.blk 2 rfl).cell (j := 3) (v := .int .u8 (kc : Nat)) rfl
          have d4 := (U21.blk 2 rfl).cell (j := 4) (v := .int .i64 lc) rfl
          have d5 := (U21.blk 2 rfl).cell (j := 5) (v := .int .u64 (tc : Nat)) rfl
          have d6 := (U21.blk 2 rfl).cell (j := 6) (v := .int .u64 (fo : Nat)) rfl
          have d7 := (U21.blk 2 rfl).cell (j := 7) (v := .int .u64 (ke : Nat)) rfl
          have d8 := (U21.blk 2 rfl).cell (j := 8) (v := .int .u8 (pr : Nat)) rfl
          have d9 := (U21.blk 2 rfl).cell (j := 9) (v := .slice none 0 0) rfl
          obtain ⟨er, her⟩ : ∃ x, x = lnChk ws := ⟨_, rfl⟩
          have HX1 := Lib.hid (show lineE ws = er by rw [HLE.out, her]; rfl)
          have K := ruCheckA nm me none 0 0 [] kc lc tc fo ke pr none 0 0 [] W21 HS.out.1 HS.out.2.1 (rd_nil0 _ 2) HS.out.2.2.1 (rd_nil0 _ 2) HS.out.2.2.2.1 HS.out.2.2.2.2.1
          rw [← HC.out, ← her] at K
          clear her
          go_wp2_with fail
          (with_reducible refine K.mono ?_)
          rintro en w99 ⟨rfl, hb99⟩
          have U22 := U21.grow hb99
          clear hb99 K U21 y0 y1 d0 d1 d2 d3 d4 d5 d6 d7 d8 d9
          rw [← H_e13.out] at U22
          have K := wFailI T g (lnW13 ws) 0 er er rfl w99 (U22.get 1 rfl)
          rw [failE_0] at K
          go_wp2_with fail
          (with_reducible refine K.mono ?_)
          rintro en w98 ⟨rfl, hU⟩
          have U23 : Upd [] w [chWd T g (lnW13 ws) (er), chRow 92 2 (.slice none 0 0) ([] : List Pr).length (pairCells []), chBlk (g + 1) #[.string nm, .string me, .slice none 0 0, .int .u8 (kc : Nat), .int .i64 lc, .int .u64 (tc : Nat), .int .u64 (fo : Nat), .int .u64 (ke : Nat), .int .u8 (pr : Nat), .slice none 0 0] 32, chRow 92 2 (.slice none 0 0) ([] : List Pr).length (pairCells []), chBlk w.heap.size #[.string ⟨#[]⟩, .string ⟨#[]⟩, .slice none 0 0, .int .u8 0, .int .i64 0, .int .u64 0, .int .u64 0, .int .u64 0, .int .u8 0, .slice none 0 0] 32] w98 := U22.turn 1 rfl hU
          clear hU K U22
          obtain ⟨vx, hBx, hrx, _⟩ := U23.get 0 rfl
          obtain ⟨Ax2, cx2, rfl, _⟩ := hrx
          have y1 := hBx.cell (j := 1) (v := .int .i64 (er : Nat)) rfl
          clear hBx
          by_cases hr0 : er = 0
          · skip
            subst hr0
            have d0 := (U23.blk 2 rfl).cell (j := 0) (v := .string nm) rfl
            have d1 := (U23.blk 2 rfl).cell (j := 1) (v := .string me) rfl
            have d2 := (U23.blk 2 rfl).cell (j := 2) (v := .slice none 0 0) rfl
            have d3 := (U23.blk 2 rfl).cell (j := 3) (v := .int .u8 (kc : Nat)) rfl
            have d4 := (U23.blk 2 rfl).cell (j := 4) (v := .int .i64 lc) rfl
            have d5 := (U23.blk 2 rfl).cell (j := 5) (v := .int .u64 (tc : Nat)) rfl
            have d6 := (U23.blk 2 rfl).cell (j := 6) (v := .int .u64 (fo : Nat)) rfl
            have d7 := (U23.blk 2 rfl).cell (j := 7) (v := .int .u64 (ke : Nat)) rfl
            have d8 := (U23.blk 2 rfl).cell (j := 8) (v := .int .u8 (pr : Nat)) rfl
            have d9 := (U23.blk 2 rfl).cell (j := 9) (v := .slice none 0 0) rfl
            have r0 := (U23.blk 4 rfl).cell (j := 0) (v := .string ⟨#[]⟩) rfl
            have q0 := (U23.blk 4 rfl).frozen 0
            have r1 := (U23.blk 4 rfl).cell (j := 1) (v := .string ⟨#[]⟩) rfl
            have q1 := (U23.blk 4 rfl).frozen 1
            have r2 := (U23.blk 4 rfl).cell (j := 2) (v := .slice none 0 0) rfl
            have q2 := (U23.blk 4 rfl).frozen 2
            have r3 := (U23.blk 4 rfl).cell (j := 3) (v := .int .u8 0) rfl
            have q3 := (U23.blk 4 rfl).frozen 3
            have r4 := (U23.blk 4 rfl).cell (j := 4) (v := .int .i64 0) rfl
            have q4 := (U23.blk 4 rfl).frozen 4
            have r5 := (U23.blk 4 rfl).cell (j := 5) (v := .int .u64 0) rfl
            have q5 := (U23.blk 4 rfl).frozen 5
            have r6 := (U23.blk 4 rfl).cell (j := 6) (v := .int .u64 0) rfl
            have q6 := (U23.blk 4 rfl).frozen 6
            have r7 := (U23.blk 4 rfl).cell (j := 7) (v := .int .u64 0) rfl
            have q7 := (U23.blk 4 rfl).frozen 7
            have r8 := (U23.blk 4 rfl).cell (j := 8) (v := .int .u8 0) rfl
            have q8 := (U23.blk 4 rfl).frozen 8
            have r9 := (U23.blk 4 rfl).cell (j := 9) (v := .slice none 0 0) rfl
            have q9 := (U23.blk 4 rfl).frozen 9
            go_wp2_with fail
            refine bodyPost_gen fun wz hwz => ?_
            have UZ := ((((((((((U23.put 4 rfl 0 (.string nm)).put 0 rfl 1 (.string me)).put 0 rfl 2 (.slice none 0 0)).put 0 rfl 3 (.int .u8 (kc : Nat))).put 0 rfl 4 (.int .i64 lc)).put 0 rfl 5 (.int .u64 (tc : Nat))).put 0 rfl 6 (.int .u64 (fo : Nat))).put 0 rfl 7 (.int .u64 (ke : Nat))).put 0 rfl 8 (.int .u8 (pr : Nat))).put 0 rfl 9 (.slice none 0 0)).same hwz
            simp only [List.setIfInBounds_toArray, List.set_cons_zero, List.set_cons_succ, List.eraseIdx_cons_zero, List.eraseIdx_cons_succ] at UZ
            clear hwz
            have a0 := (UZ.blk 0 rfl).cell (j := 0) (v := .string nm) rfl
            have a1 := (UZ.blk 0 rfl).cell (j := 1) (v := .string me) rfl
            have a2 := (UZ.blk 0 rfl).cell (j := 2) (v := .slice none 0 0) rfl
            have a3 := (UZ.blk 0 rfl).cell (j := 3) (v := .int .u8 (kc : Nat)) rfl
            have a4 := (UZ.blk 0 rfl).cell (j := 4) (v := .int .i64 lc) rfl
            have a5 := (UZ.blk 0 rfl).cell (j := 5) (v := .int .u64 (tc : Nat)) rfl
            have a6 := (UZ.blk 0 rfl).cell (j := 6) (v := .int .u64 (fo : Nat)) rfl
            have a7 := (UZ.blk 0 rfl).cell (j := 7) (v := .int .u64 (ke : Nat)) rfl
            have a8 := (UZ.blk 0 rfl).cell (j := 8) (v := .int .u8 (pr : Nat)) rfl
            have a9 := (UZ.blk 0 rfl).cell (j := 9) (v := .slice none 0 0) rfl
            refine bodyPost_ret (v := .tuple #[.agg #[.string nm, .string me, .slice none 0 0, .int .u8 (kc : Nat), .int .i64 lc, .int .u64 (tc : Nat), .int .u64 (fo : Nat), .int .u64 (ke : Nat), .int .u8 (pr : Nat), .slice none 0 0], .int .i64 (0 : Nat)]) ?_ rfl ⟨.slice none 0 0, .slice none 0 0, ?_, ?_, UZ.below⟩
            · simp [results, Tryz.results44, go_sem, a0, a1, a2, a3, a4, a5, a6, a7, a8, a9]
            · rw [lineO_ok HX1.out, HX1.out, HLR.out]; rfl
            · rw [lineO_ok HX1.out, HLR.out]; exact ⟨HS.out.1, HS.out.2.1, HS.out.2.2.1, HS.out.2.2.2.1, HS.out.2.2.2.2.1, Nat.lt_of_le_of_lt HS.out.2.2.2.2.2 (by decide), UZ.rowBase 4 rfl, UZ.rowBase 2 rfl⟩
          · skip
            have HX0 := Lib.hid hr0
            have zf : ((er : Int) == 0) = false := by simp; omega
            have HX := HX1
            clear hr0 HX1
            have r0 := (U23.blk 4 rfl).cell (j := 0) (v := .string ⟨#[]⟩) rfl
            have q0 := (U23.blk 4 rfl).frozen 0
            have r1 := (U23.blk 4 rfl).cell (j := 1) (v := .string ⟨#[]⟩) rfl
            have q1 := (U23.blk 4 rfl).frozen 1
            have r2 := (U23.blk 4 rfl).cell (j := 2) (v := .slice none 0 0) rfl
            have q2 := (U23.blk 4 rfl).frozen 2
            have r3 := (U23.blk 4 rfl).cell (j := 3) (v := .int .u8 0) rfl
            have q3 := (U23.blk 4 rfl).frozen 3
            have r4 := (U23.blk 4 rfl).cell (j := 4) (v := .int .i64 0) rfl
            have q4 := (U23.blk 4 rfl).frozen 4
            have r5 := (U23.blk 4 rfl).cell (j := 5) (v := .int .u64 0) rfl
            have q5 := (U23.blk 4 rfl).frozen 5
            have r6 := (U23.blk 4 rfl).cell (j := 6) (v := .int .u64 0) rfl
            have q6 := (U23.blk 4 rfl).frozen 6
            have r7 := (U23.blk 4 rfl).cell (j := 7) (v := .int .u64 0) rfl
            have q7 := (U23.blk 4 rfl).frozen 7
            have r8 := (U23.blk 4 rfl).cell (j := 8) (v := .int .u8 0) rfl
            have q8 := (U23.blk 4 rfl).frozen 8
            have r9 := (U23.blk 4 rfl).cell (j := 9) (v := .slice none 0 0) rfl
            have q9 := (U23.blk 4 rfl).frozen 9
            go_wp2_with fail
            go_region
            go_wp2_with fail
            refine bodyPost_gen fun wz hwz => ?_
            have UZ := ((((((((((U23.put 4 rfl 0 (.string ⟨#[]⟩)).put 0 rfl 1 (.string ⟨#[]⟩)).put 0 rfl 2 (.slice none 0 0)).put 0 rfl 3 (.int .u8 0)).put 0 rfl 4 (.int .i64 0)).put 0 rfl 5 (.int .u64 0)).put 0 rfl 6 (.int .u64 0)).put 0 rfl 7 (.int .u64 0)).put 0 rfl 8 (.int .u8 0)).put 0 rfl 9 (.slice none 0 0)).drew.same hwz
            simp only [List.setIfInBounds_toArray, List.set_cons_zero, List.set_cons_succ, List.eraseIdx_cons_zero, List.eraseIdx_cons_succ] at UZ
            clear hwz
            have a0 := (UZ.blk 0 rfl).cell (j := 0) (v := .string ⟨#[]⟩) rfl
            have a1 := (UZ.blk 0 rfl).cell (j := 1) (v := .string ⟨#[]⟩) rfl
            have a2 := (UZ.blk 0 rfl).cell (j := 2) (v := .slice none 0 0) rfl
            have a3 := (UZ.blk 0 rfl).cell (j := 3) (v := .int .u8 0) rfl
            have a4 := (UZ.blk 0 rfl).cell (j := 4) (v := .int .i64 0) rfl
            have a5 := (UZ.blk 0 rfl).cell (j := 5) (v := .int .u64 0) rfl
            have a6 := (UZ.blk 0 rfl).cell (j := 6) (v := .int .u64 0) rfl
            have a7 := (UZ.blk 0 rfl).cell (j := 7) (v := .int .u64 0) rfl
            have a8 := (UZ.blk 0 rfl).cell (j := 8) (v := .int .u8 0) rfl
            have a9 := (UZ.blk 0 rfl).cell (j := 9) (v := .slice none 0 0) rfl
            refine bodyPost_ret (v := .tuple #[.agg #[.string ⟨#[]⟩, .string ⟨#[]⟩, .slice none 0 0, .int .u8 0, .int .i64 0, .int .u64 0, .int .u64 0, .int .u64 0, .int .u8 0, .slice none 0 0], .int .i64 (er : Nat)]) ?_ rfl ⟨.slice none 0 0, .slice none 0 0, ?_, ?_, UZ.below⟩
            · simp [results, Tryz.results44, go_sem, a0, a1, a2, a3, a4, a5, a6, a7, a8, a9]
            · rw [lineO_bad (by rw [HX.out]; exact HX0.out), HX.out]; rfl
            · rw [lineO_bad (by rw [HX.out]; exact HX0.out)]; exact zero_good _ _
        · skip
          have HX := Lib.hid (show lineE ws = e13 by rw [HLE.out]; exact if_neg he0)
          have HX0 := Lib.hid he0
          have zf : ((e13 : Int) == 0) = false := by simp; omega
          clear he0
          have r0 := (U21.blk 4 rfl).cell (j := 0) (v := .string ⟨#[]⟩) rfl
          have q0 := (U21.blk 4 rfl).frozen 0
          have r1 := (U21.blk 4 rfl).cell (j := 1) (v := .string ⟨#[]⟩) rfl
          have q1 := (U21.blk 4 rfl).frozen 1
          have r2 := (U21.blk 4 rfl).cell (j := 2) (v := .slice none 0 0) rfl
          have q2 := (U21.blk 4 rfl).frozen 2
          have r3 := (U21.blk 4 rfl).cell (j := 3) (v := .int .u8 0) rfl
          have q3 := (U21.blk 4 rfl).frozen 3
          have r4 := (U21.blk 4 rfl).cell (j := 4) (v := .int .i64 0) rfl
          have q4 := (U21.blk 4 rfl).frozen 4
          have r5 := (U21.blk 4 rfl).cell (j := 5) (v := .int .u64 0) rfl
          have q5 := (U21.blk 4 rfl).frozen 5
          have r6 := (U21.blk 4 rfl).cell (j := 6) (v := .int .u64 0) rfl
          have q6 := (U21.blk 4 rfl).frozen 6
          have r7 := (U21.blk 4 rfl).cell (j := 7) (v := .int .u64 0) rfl
          have q7 := (U21.blk 4 rfl).frozen 7
          have r8 := (U21.blk 4 rfl).cell (j := 8) (v := .int .u8 0) rfl
          have q8 := (U21.blk 4 rfl).frozen 8
          have r9 := (U21.blk 4 rfl).cell (j := 9) (v := .slice none 0 0) rfl
          have q9 := (U21.blk 4 rfl).frozen 9
          go_wp2_with fail
          go_region
          go_wp2_with fail
          refine bodyPost_gen fun wz hwz => ?_
          have UZ := ((((((((((U21.put 4 rfl 0 (.string ⟨#[]⟩)).put 0 rfl 1 (.string ⟨#[]⟩)).put 0 rfl 2 (.slice none 0 0)).put 0 rfl 3 (.int .u8 0)).put 0 rfl 4 (.int .i64 0)).put 0 rfl 5 (.int .u64 0)).put 0 rfl 6 (.int .u64 0)).put 0 rfl 7 (.int .u64 0)).put 0 rfl 8 (.int .u8 0)).put 0 rfl 9 (.slice none 0 0)).drew.same hwz
          simp only [List.setIfInBounds_toArray, List.set_cons_zero, List.set_cons_succ, List.eraseIdx_cons_zero, List.eraseIdx_cons_succ] at UZ
          clear hwz
          have a0 := (UZ.blk 0 rfl).cell (j := 0) (v := .string ⟨#[]⟩) rfl
          have a1 := (UZ.blk 0 rfl).cell (j := 1) (v := .string ⟨#[]⟩) rfl
          have a2 := (UZ.blk 0 rfl).cell (j := 2) (v := .slice none 0 0) rfl
          have a3 := (UZ.blk 0 rfl).cell (j := 3) (v := .int .u8 0) rfl
          have a4 := (UZ.blk 0 rfl).cell (j := 4) (v := .int .i64 0) rfl
          have a5 := (UZ.blk 0 rfl).cell (j := 5) (v := .int .u64 0) rfl
          have a6 := (UZ.blk 0 rfl).cell (j := 6) (v := .int .u64 0) rfl
          have a7 := (UZ.blk 0 rfl).cell (j := 7) (v := .int .u64 0) rfl
          have a8 := (UZ.blk 0 rfl).cell (j := 8) (v := .int .u8 0) rfl
          have a9 := (UZ.blk 0 rfl).cell (j := 9) (v := .slice none 0 0) rfl
          refine bodyPost_ret (v := .tuple #[.agg #[.string ⟨#[]⟩, .string ⟨#[]⟩, .slice none 0 0, .int .u8 0, .int .i64 0, .int .u64 0, .int .u64 0, .int .u64 0, .int .u8 0, .slice none 0 0], .int .i64 (e13 : Nat)]) ?_ rfl ⟨.slice none 0 0, .slice none 0 0, ?_, ?_, UZ.below⟩
          · simp [results, Tryz.results44, go_sem, a0, a1, a2, a3, a4, a5, a6, a7, a8, a9]
          · rw [lineO_bad (by rw [HX.out]; exact HX0.out), HX.out]; rfl
          · rw [lineO_bad (by rw [HX.out]; exact HX0.out)]; exact zero_good _ _
      · skip
        have ln0 : (0 : Int) < (n13 : Int) := by omega
        have ln1 : 0 < n13 := by omega
        obtain ⟨vx, hBx, hrx, _⟩ := U21.get 1 rfl
        obtain ⟨Ax, cx, rfl, _⟩ := hrx
        have y0 := hBx.cell (j := 0) (v := .slice Ax (lnW13 ws).length cx) rfl
        have y1 := hBx.cell (j := 1) (v := .int .i64 (lnE13 ws : Nat)) rfl
        rw [← H_n13.out] at y0
        clear hBx
        clear y1
        have K := wFailI T g (lnW13 ws) (lnE13 ws) 2 2 rfl W21 (U21.get 1 rfl)
        rw [← H_e13.out] at K
        obtain ⟨E, hE⟩ : ∃ x, x = failE e13 2 := ⟨_, rfl⟩
        rw [← hE] at K
        have he0 : E ≠ 0 := by rw [hE]; exact failE_pos (by decide)
        have HX := Lib.hid (show lineE ws = E by rw [HLE.out, if_neg hn0, ← hE]; exact if_neg he0)
        have HX0 := Lib.hid he0
        have zf : ((E : Int) == 0) = false := by simp; omega
        clear he0 hn0 hE
        go_wp2_with fail
        (with_reducible refine K.mono ?_)
        rintro en w98 ⟨rfl, hU⟩
        have U22 : Upd [] w [chWd T g (lnW13 ws) (E), chRow 92 2 (.slice none 0 0) ([] : List Pr).length (pairCells []), chBlk (g + 1) #[.string nm, .string me, .slice none 0 0, .int .u8 (kc : Nat), .int .i64 lc, .int .u64 (tc : Nat), .int .u64 (fo : Nat), .int .u64 (ke : Nat), .int .u8 (pr : Nat), .slice none 0 0] 32, chRow 92 2 (.slice none 0 0) ([] : List Pr).length (pairCells []), chBlk w.heap.size #[.string ⟨#[]⟩, .string ⟨#[]⟩, .slice none 0 0, .int .u8 0, .int .i64 0, .int .u64 0, .int .u64 0, .int .u64 0, .int .u8 0, .slice none 0 0] 32] w98 := U21.turn 1 rfl hU
        clear hU K U21 y0
        obtain ⟨vx, hBx, hrx, _⟩ := U22.get 0 rfl
        obtain ⟨Ax2, cx2, rfl, _⟩ := hrx
        have y1 := hBx.cell (j := 1) (v := .int .i64 (E : Nat)) rfl
        clear hBx
        have r0 := (U22.blk 4 rfl).cell (j := 0) (v := .string ⟨#[]⟩) rfl
        have q0 := (U22.blk 4 rfl).frozen 0
        have r1 := (U22.blk 4 rfl).cell (j := 1) (v := .string ⟨#[]⟩) rfl
        have q1 := (U22.blk 4 rfl).frozen 1
        have r2 := (U22.blk 4 rfl).cell (j := 2) (v := .slice none 0 0) rfl
        have q2 := (U22.blk 4 rfl).frozen 2
        have r3 := (U22.blk 4 rfl).cell (j := 3) (v := .int .u8 0) rfl
        have q3 := (U22.blk 4 rfl).frozen 3
        have r4 := (U22.blk 4 rfl).cell (j := 4) (v := .int .i64 0) rfl
        have q4 := (U22.blk 4 rfl).frozen 4
        have r5 := (U22.blk 4 rfl).cell (j := 5) (v := .int .u64 0) rfl
        have q5 := (U22.blk 4 rfl).frozen 5
        have r6 := (U22.blk 4 rfl).cell (j := 6) (v := .int .u64 0) rfl
        have q6 := (U22.blk 4 rfl).frozen 6
        have r7 := (U22.blk 4 rfl).cell (j := 7) (v := .int .u64 0) rfl
        have q7 := (U22.blk 4 rfl).frozen 7
        have r8 := (U22.blk 4 rfl).cell (j := 8) (v := .int .u8 0) rfl
        have q8 := (U22.blk 4 rfl).frozen 8
        have r9 := (U22.blk 4 rfl).cell (j := 9) (v := .slice none 0 0) rfl
        have q9 := (U22.blk 4 rfl).frozen 9
        go_wp2_with fail
        go_region
        go_wp2_with fail
        refine bodyPost_gen fun wz hwz => ?_
        have UZ := ((((((((((U22.put 4 rfl 0 (.string ⟨#[]⟩)).put 0 rfl 1 (.string ⟨#[]⟩)).put 0 rfl 2 (.slice none 0 0)).put 0 rfl 3 (.int .u8 0)).put 0 rfl 4 (.int .i64 0)).put 0 rfl 5 (.int .u64 0)).put 0 rfl 6 (.int .u64 0)).put 0 rfl 7 (.int .u64 0)).put 0 rfl 8 (.int .u8 0)).put 0 rfl 9 (.slice none 0 0)).drew.same hwz
        simp only [List.setIfInBounds_toArray, List.set_cons_zero, List.set_cons_succ, List.eraseIdx_cons_zero, List.eraseIdx_cons_succ] at UZ
        clear hwz
        have a0 := (UZ.blk 0 rfl).cell (j := 0) (v := .string ⟨#[]⟩) rfl
        have a1 := (UZ.blk 0 rfl).cell (j := 1) (v := .string ⟨#[]⟩) rfl
        have a2 := (UZ.blk 0 rfl).cell (j := 2) (v := .slice none 0 0) rfl
        have a3 := (UZ.blk 0 rfl).cell (j := 3) (v := .int .u8 0) rfl
        have a4 := (UZ.blk 0 rfl).cell (j := 4) (v := .int .i64 0) rfl
        have a5 := (UZ.blk 0 rfl).cell (j := 5) (v := .int .u64 0) rfl
        have a6 := (UZ.blk 0 rfl).cell (j := 6) (v := .int .u64 0) rfl
        have a7 := (UZ.blk 0 rfl).cell (j := 7) (v := .int .u64 0) rfl
        have a8 := (UZ.blk 0 rfl).cell (j := 8) (v := .int .u8 0) rfl
        have a9 := (UZ.blk 0 rfl).cell (j := 9) (v := .slice none 0 0) rfl
        refine bodyPost_ret (v := .tuple #[.agg #[.string ⟨#[]⟩, .string ⟨#[]⟩, .slice none 0 0, .int .u8 0, .int .i64 0, .int .u64 0, .int .u64 0, .int .u64 0, .int .u8 0, .slice none 0 0], .int .i64 (E : Nat)]) ?_ rfl ⟨.slice none 0 0, .slice none 0 0, ?_, ?_, UZ.below⟩
        · simp [results, Tryz.results44, go_sem, a0, a1, a2, a3, a4, a5, a6, a7, a8, a9]
        · rw [lineO_bad (by rw [HX.out]; exact HX0.out), HX.out]; rfl
        · rw [lineO_bad (by rw [HX.out]; exact HX0.out)]; exact zero_good _ _
end Go.Proofs.YtgpojkofegajeaaGreatDoor
