/-
  The law ViewItems, walked.
-/
import Derived.Test.YtdghpjkjhlankaaItemsL
import Derived.Test.YtdghpjkjhlankaaAlerts
import Derived.Test.YtdghpjkjhlankaaFreeS
namespace Go.Proofs.Ytdghpjkjhlankaa
open Go.RowKit
set_option maxRecDepth 100000
section
open FreeSl
attribute [local go_sem] out

def labCh (e : Nat × ItV) : Chunk := chRow 81 2 e.2.lv e.2.ps.length (pairCells e.2.ps)
set_option maxHeartbeats 16000000 in
theorem itemsWalk (s : SizeV) (lv : Value) (ls : List Sm11) (x : ItV) (now : Nat) (w : World)
    (hsz : s.ok w) (hl : Rd w 11 lv ls.length (ls.flatMap sm11)) (hls : ∀ q ∈ ls, q.ok) (hx : x.ps.length ≤ 12 → x.fit) (hxr : Rd w 2 x.lv x.ps.length (pairCells x.ps)) (hnow : now < 18446744073709551616) :
    Calls Try.prog 5 #[.agg #[s.hv, s.ev, s.qv, s.rv, .int .u8 s.wi, .int .u8 s.fi, .int .u8 s.mo, .int .u8 s.be, .int .u8 s.dn, s.tv, s.cv], lv, .agg #[.bool x.gap, .int .u8 x.o, .int .u64 x.sq, .int .u64 x.tm, .string x.ru, x.lv, .int .u8 x.st, .int .u8 x.pr, .int .i64 x.va, .int .u8 x.ow, .int .u8 x.go, .int .u64 x.gf, .int .u64 x.gt], .int .u64 now] w fun e w' => e = .returned (.bool true) ∧ Below w.heap.size w w' := by
  obtain ⟨i0, hi, hz0, hz1, hz2⟩ := info_parts infoEntry
  have hl0 := hl
  have hxr0 := hxr
  obtain ⟨Al, cl, rfl, _, pl, ml, hatL⟩ := hl0
  obtain ⟨Ax, cx, ex, _, px, mx, _⟩ := hxr0
  have HXR := Lib.hid hxr
  clear hxr
  unfold maxLen at ml mx
  obtain ⟨nl, hnl⟩ : ∃ n, n = ls.length := ⟨_, rfl⟩
  rw [← hnl] at pl hatL ⊢
  obtain ⟨nx, hnx⟩ : ∃ n, n = x.ps.length := ⟨_, rfl⟩
  rw [← hnx] at px ex
  rw [ex]
  have HLl := Lib.hid hnl
  have HNX := Lib.hid hnx
  have HEX := Lib.hid ex
  have HSZ := Lib.hid hsz
  have HLS := Lib.hid hls
  have HXF := Lib.hid hx
  clear hnl hnx ex hsz hls hx hl
  go_enter Try.func5, Try.ntmps5
  go_wp2_with fail
  have S0 := ((Upd.nil [] w).alloc #[s.hv, s.ev, s.qv, s.rv, .int .u8 s.wi, .int .u8 s.fi, .int .u8 s.mo, .int .u8 s.be, .int .u8 s.dn, s.tv, s.cv] 40).alloc #[.bool x.gap, .int .u8 x.o, .int .u64 x.sq, .int .u64 x.tm, .string x.ru, .slice Ax nx cx, .int .u8 x.st, .int .u8 x.pr, .int .i64 x.va, .int .u8 x.ow, .int .u8 x.go, .int .u64 x.gf, .int .u64 x.gt] 66
  simp only [World.size_alloc] at S0
  (with_reducible refine (awake _).mono ?_)
  rintro e w1 ⟨rfl, hb1⟩
  have S1 := S0.grow hb1
  clear S0 hb1
  have a6 := (S1.blk 0 rfl).cell (j := 5) (v := .slice Ax nx cx) rfl
  by_cases b1 : nl ≤ 20
  case neg =>
    have e1 : decide ((20 : Int) < (nl : Int)) = true := by simp; omega
    go_wp2_with fail
    go_ret
    exact ⟨rfl, S1.below⟩
  have e1 : decide ((20 : Int) < (nl : Int)) = false := by simp; omega
  by_cases b2 : nx ≤ 12
  case neg =>
    have e2 : decide ((12 : Int) < (nx : Int)) = true := by simp; omega
    go_wp2_with fail
    go_ret
    exact ⟨rfl, S1.below⟩
  have e2 : decide ((12 : Int) < (nx : Int)) = false := by simp; omega
  have hxf := HXF.out (by rw [← HNX.out]; exact b2)
  have HF := Lib.hid hxf
  have kT := fun w' (h : Below w.heap.size w w') => topoAny' s w' (HSZ.out.below h)
  have KT := Lib.hid kT
  have z0 := (S1.blk 1 rfl).cell (j := 0) (v := s.hv) rfl
  have z1 := (S1.blk 1 rfl).cell (j := 1) (v := s.ev) rfl
  have z2 := (S1.blk 1 rfl).cell (j := 2) (v := s.qv) rfl
  have z3 := (S1.blk 1 rfl).cell (j := 3) (v := s.rv) rfl
  have z4 := (S1.blk 1 rfl).cell (j := 4) (v := .int .u8 s.wi) rfl
  have z5 := (S1.blk 1 rfl).cell (j := 5) (v := .int .u8 s.fi) rfl
  have z6 := (S1.blk 1 rfl).cell (j := 6) (v := .int .u8 s.mo) rfl
  have z7 := (S1.blk 1 rfl).cell (j := 7) (v := .int .u8 s.be) rfl
  have z8 := (S1.blk 1 rfl).cell (j := 8) (v := .int .u8 s.dn) rfl
  have z9 := (S1.blk 1 rfl).cell (j := 9) (v := s.tv) rfl
  have z10 := (S1.blk 1 rfl).cell (j := 10) (v := s.cv) rfl
  clear hxf kT
  go_wp2_with fail
  (with_reducible refine (KT.out _ S1.below).mono ?_)
  rintro e w2 ⟨A0, n0, c0, t1, t2, t3, t4, t5, A1, n1, c1, A2, n2, c2, rfl, hnm, hfr, hb2⟩
  have hNZ := topoNames_size s.hubs s.edges
  generalize topoNames s.hubs s.edges = names at hnm hNZ
  have HNZ := Lib.hid hNZ
  obtain ⟨xs, hnr, hns⟩ := hnm
  have HNS := Lib.hid hns
  have S3 := S1.add hb2 (chRd 5 (.slice A0 n0 c0) names.length xs (by decide)) hnr (fun b hb => by
    simp only [chRd, rdFp] at hb
    split at hb
    · cases hb
    · exact hfr b (by simpa using hb))
  obtain ⟨gT, hgT⟩ : ∃ g, g = w2.heap.size := ⟨_, rfl⟩
  have S4 := S3.alloc #[.slice A0 n0 c0, .int .i64 t1, .int .u64 t2, .int .u64 t3, .int .u64 t4, .int .u64 t5, .slice A1 n1 c1, .slice A2 n2 c2] 33
  rw [← hgT] at S4
  clear S1 S3 hb2 hnr hns hfr hNZ KT z0 z1 z2 z3 z4 z5 z6 z7 z8 z9 z10 a6
  have x0 := (S4.blk 2 rfl).cell (j := 0) (v := .bool x.gap) rfl
  have x1 := (S4.blk 2 rfl).cell (j := 1) (v := .int .u8 x.o) rfl
  have x2 := (S4.blk 2 rfl).cell (j := 2) (v := .int .u64 x.sq) rfl
  have x3 := (S4.blk 2 rfl).cell (j := 3) (v := .int .u64 x.tm) rfl
  have x4 := (S4.blk 2 rfl).cell (j := 4) (v := .string x.ru) rfl
  have x5 := (S4.blk 2 rfl).cell (j := 5) (v := .slice Ax nx cx) rfl
  have x6 := (S4.blk 2 rfl).cell (j := 6) (v := .int .u8 x.st) rfl
  have x7 := (S4.blk 2 rfl).cell (j := 7) (v := .int .u8 x.pr) rfl
  have x8 := (S4.blk 2 rfl).cell (j := 8) (v := .int .i64 x.va) rfl
  have x9 := (S4.blk 2 rfl).cell (j := 9) (v := .int .u8 x.ow) rfl
  have x10 := (S4.blk 2 rfl).cell (j := 10) (v := .int .u8 x.go) rfl
  have x11 := (S4.blk 2 rfl).cell (j := 11) (v := .int .u64 x.gf) rfl
  have x12 := (S4.blk 2 rfl).cell (j := 12) (v := .int .u64 x.gt) rfl
  go_wp2_with fail
  have S5 := S4.alloc #[.int .u64 now, .bool x.gap, .int .u8 x.o, .int .u64 x.sq, .int .u64 x.tm, .string x.ru, .slice Ax nx cx, .int .u8 x.st, .int .u8 x.pr, .int .i64 x.va, .int .u8 x.ow, .int .u8 x.go, .int .u64 x.gf, .int .u64 x.gt] 68
  rw [World.size_alloc] at S5
  rw [← hgT] at S5 ⊢
  clear hgT
  have S6 := (S5.say (chRow 68 14 (.slice (some ⟨(gT + 1), 0, none⟩) 1 1) 1 [.int .u64 now, .bool x.gap, .int .u8 x.o, .int .u64 x.sq, .int .u64 x.tm, .string x.ru, .slice Ax nx cx, .int .u8 x.st, .int .u8 x.pr, .int .i64 x.va, .int .u8 x.ow, .int .u8 x.go, .int .u64 x.gf, .int .u64 x.gt]) (owns_blkN (S5.blk 0 rfl) (Nat.zero_le _) (by unfold maxLen; omega) rfl) (by simp [chRow, chBlk, Value.ownBlock])).allNil
  have S7 := S6.front 1 rfl
  simp only [List.eraseIdx_cons_succ, List.eraseIdx_cons_zero] at S7
  clear S4 S5 S6 x0 x1 x2 x3 x4 x5 x6 x7 x8 x9 x10 x11 x12
  go_wp2_with fail
  go_loopw [10, 41] (fun lvv i wr => ∃ (k n : Nat) (A : Option Addr) (c : Nat) (L : List (Nat × ItV)), k ≤ nl ∧ i = .int .i64 k ∧ n = k + 1 ∧ lvv = .slice A n c ∧ L.length = k ∧ (∀ e ∈ L, e.1 < 18446744073709551616 ∧ e.2.fit) ∧ Upd [] w [chRow 68 14 (.slice A n c) n (((now, x) :: L).flatMap en14), chAll (L.map labCh), chBlk gT #[.slice A0 n0 c0, .int .i64 t1, .int .u64 t2, .int .u64 t3, .int .u64 t4, .int .u64 t5, .slice A1 n1 c1, .slice A2 n2 c2] 33, chRd 5 (.slice A0 n0 c0) names.length xs (by decide), chBlk (w.heap.size + 1) #[.bool x.gap, .int .u8 x.o, .int .u64 x.sq, .int .u64 x.tm, .string x.ru, .slice Ax nx cx, .int .u8 x.st, .int .u8 x.pr, .int .i64 x.va, .int .u8 x.ow, .int .u8 x.go, .int .u64 x.gf, .int .u64 x.gt] 66, chBlk w.heap.size #[s.hv, s.ev, s.qv, s.rv, .int .u8 s.wi, .int .u8 s.fi, .int .u8 s.mo, .int .u8 s.be, .int .u8 s.dn, s.tv, s.cv] 40] wr) (fun _ i _ => nl - (intOf i).toNat)
  case atStart => exact ⟨0, 1, _, _, [], Nat.zero_le _, rfl, rfl, rfl, rfl, (fun _ h => nomatch h), by
    have e8 : en14 (now, x) = [.int .u64 now, .bool x.gap, .int .u8 x.o, .int .u64 x.sq, .int .u64 x.tm, .string x.ru, .slice Ax nx cx, .int .u8 x.st, .int .u8 x.pr, .int .i64 x.va, .int .u8 x.ow, .int .u8 x.go, .int .u64 x.gf, .int .u64 x.gt] := by simp only [en14, it13, HEX.out]
    rw [List.flatMap_singleton, e8]; exact S7⟩
  case round =>
    obtain ⟨k, n, A, c, L, hk, rfl, hn, rfl, hLk, hfit, S8⟩ := hrel
    clear S7
    have hn21 : n ≤ 21 := by omega
    have HN := Lib.hid hn
    have HLK := Lib.hid hLk
    have HFIT := Lib.hid hfit
    clear hn hLk hfit
    by_cases hkn : k < nl
    · obtain ⟨q, hq⟩ : ∃ q, ls[k]? = some q := ⟨_, List.getElem?_eq_getElem (by rw [← HLl.out]; exact hkn)⟩
      obtain ⟨b, o, rfl, hat⟩ := hatL (by omega)
      have e0 := fun j hj => flat_at sm11 11 (fun _ => rfl) ls k q hq j hj
      have hqo := HLS.out q (List.mem_of_getElem? hq)
      have hbe := S8.below
      have y0 := hat.nth0 hbe (k * 11) (.bool q.gap) (e0 0 (by omega))
      have y1 := hat.nth hbe (k * 11) 1 (.int .u8 q.o) (e0 1 (by omega))
      have y2 := hat.nth hbe (k * 11) 2 (.int .u8 q.p) (e0 2 (by omega))
      have y3 := hat.nth hbe (k * 11) 3 (.int .u8 q.ow) (e0 3 (by omega))
      have y4 := hat.nth hbe (k * 11) 4 (.int .u16 q.sq) (e0 4 (by omega))
      have y5 := hat.nth hbe (k * 11) 5 (.int .u16 q.mo) (e0 5 (by omega))
      have y6 := hat.nth hbe (k * 11) 6 (.int .u16 q.ti) (e0 6 (by omega))
      have y7 := hat.nth hbe (k * 11) 7 (.int .u8 q.ru) (e0 7 (by omega))
      have y8 := hat.nth hbe (k * 11) 8 (.int .u8 q.la) (e0 8 (by omega))
      have y9 := hat.nth hbe (k * 11) 9 (.int .u8 q.va) (e0 9 (by omega))
      have y10 := hat.nth hbe (k * 11) 10 (.bool q.stb) (e0 10 (by omega))
      have kS := fun w' => smallItem q w' hqo
      have KS := Lib.hid kS
      have u1 : IntKind.u64.wrap (k : Int) = (k : Int) := by rw [IntKind.wrap_u64]; omega
      clear hq hat hatL e0 hbe kS hqo
      go_wp2_with fail
      (with_reducible refine (KS.out _).mono ?_)
      rintro e w3 ⟨a, Ai, ci, rfl, hlv, hown, hfa, hb3⟩
      have S9 := (S8.alloc #[.bool q.gap, .int .u8 q.o, .int .u8 q.p, .int .u8 q.ow, .int .u16 q.sq, .int .u16 q.mo, .int .u16 q.ti, .int .u8 q.ru, .int .u8 q.la, .int .u8 q.va, .bool q.stb] 71).addRow hb3 hown (Nat.le_refl _)
      have HLV := Lib.hid hlv
      have HFA := Lib.hid hfa
      clear hlv hfa hown hb3 S8 y0 y1 y2 y3 y4 y5 y6 y7 y8 y9 y10 KS
      go_wp2_with (at_builtin; refine wpl_stop fun W hW => ?_)
      refine Stopped.mk ?_
      (try rw [← hW])
      have T1 := (S9.alloc #[.int .u64 k, .bool a.gap, .int .u8 a.o, .int .u64 a.sq, .int .u64 a.tm, .string a.ru, .slice Ai a.ps.length ci, .int .u8 a.st, .int .u8 a.pr, .int .i64 a.va, .int .u8 a.ow, .int .u8 a.go, .int .u64 a.gf, .int .u64 a.gt] 68).same hW
      clear hW S9
      refine wpl_append_rd rfl (.tmp 46) (.tmp 52) 69 rfl 0 68 i0 _ 14 128 Try.underlying69 hi hz0 hz1 hz2 rfl (by decide) (.slice A n c) n _ rfl (T1.row 3 rfl) (.slice (some ⟨w3.heap.size, 0, none⟩) 1 1) 1 _ rfl (rd_one (T1.blk 0 rfl) (n := 14) rfl) (by intro u hu; simp at hu; rcases hu with rfl | rfl | rfl | rfl | rfl | rfl | rfl | rfl | rfl | rfl | rfl | rfl | rfl | rfl <;> rfl) (by unfold maxLen; omega) (by omega) (Nat.zero_le _) fun v4 w4 hown4 hgr4 hv4 => ?_
      have T2 := (T1.app 3 rfl hown4 hgr4 hv4).pick [2, 4, 0, 5, 6, 7, 8] (by decide)
      simp only [List.filterMap_cons, List.filterMap_nil, List.getElem?_cons_succ, List.getElem?_cons_zero] at T2
      simp only [List.eraseIdx_cons_succ, List.eraseIdx_cons_zero] at T2
      have T3 := T2.intoAll.front 1 rfl
      simp only [List.eraseIdx_cons_succ, List.eraseIdx_cons_zero] at T3
      obtain ⟨A4, c4, rfl⟩ := owns_slice hown4
      clear hown4 hgr4 hv4 T1 T2
      go_wp2_with fail
      go_roundw
      case rel => exact ⟨k + 1, n + 1, A4, c4, L ++ [(k, a)], by omega, by go_num, by rw [HN.out], rfl, by rw [List.length_append, HLK.out]; rfl, (fun e he => by
        rcases List.mem_append.1 he with h | h
        · exact HFIT.out e h
        · rw [List.mem_singleton.1 h]; exact ⟨by dsimp only; omega, HFA.out⟩), by
        have e8 : en14 (k, a) = [.int .u64 k, .bool a.gap, .int .u8 a.o, .int .u64 a.sq, .int .u64 a.tm, .string a.ru, .slice Ai a.ps.length ci, .int .u8 a.st, .int .u8 a.pr, .int .i64 a.va, .int .u8 a.ow, .int .u8 a.go, .int .u64 a.gf, .int .u64 a.gt] := by simp only [en14, it13, HLV.out]
        have e9 : labCh (k, a) = chRow 81 2 (.slice Ai a.ps.length ci) a.ps.length (pairCells a.ps) := by simp only [labCh, HLV.out]
        rw [← List.cons_append, List.flatMap_append, List.flatMap_singleton, e8, List.map_append, List.map_singleton, e9]; exact T3⟩
      case measure => simp [intOf]; omega
    · obtain rfl : k = nl := by omega
      have hkk : decide ((k : Int) < (k : Int)) = false := by simp
      obtain ⟨wq, hwq⟩ : ∃ wq, wq = wr := ⟨_, rfl⟩
      subst hwq
      clear hatL hkn
      have hbw := S8.below
      have hrL := rd_of_owns (S8.row 0 rfl)
      have hokL : ∀ e ∈ (now, x) :: L, e.1 < 18446744073709551616 ∧ e.2.ok wq := fun e he => by
        rcases List.mem_cons.1 he with rfl | he
        · exact ⟨hnow, HF.out.ok (HXR.out.below hbw)⟩
        · exact ⟨(HFIT.out e he).1, (HFIT.out e he).2.ok (rd_of_owns (S8.all 1 rfl (labCh e) (List.mem_map.2 ⟨e, he, rfl⟩)))⟩
      have hnm : Named wq (.slice A0 n0 c0) names := ⟨xs, S8.get 3 rfl, HNS.out⟩
      have hLn : ((now, x) :: L).length = n := by rw [List.length_cons, HLK.out, HN.out]
      generalize (now, x) :: L = M at hrL hokL hLn S8
      have S9 := S8.pick [2] (by decide)
      simp only [List.filterMap_cons, List.filterMap_nil, List.getElem?_cons_succ, List.getElem?_cons_zero] at S9
      have hcn : n ≤ c ∧ c ≤ 9223372036854775807 := by
        obtain ⟨_, _, he, _, h2, h3, _⟩ := hrL
        cases he
        unfold maxLen at h3
        exact ⟨h2, h3⟩
      have HRL := Lib.hid hrL
      have HOK := Lib.hid hokL
      have HLM := Lib.hid hLn
      have HNM := Lib.hid hnm
      have hzL := ledgerB_size names M wq hokL HNZ.out
      have HZL := Lib.hid hzL
      have hst0 : ledgerB names (M.take 0) = ⟨#[]⟩ := rfl
      have HST := Lib.hid hst0
      clear hrL hokL hLn hnm S8 hzL hst0
      go_wp2_with fail
      go_loopw [13, 57] (fun tx i wv => ∃ p, p ≤ n ∧ i = .int .i64 p ∧ tx = .string (ledgerB names (M.take p)) ∧ Upd [] w [chBlk gT #[.slice A0 n0 c0, .int .i64 t1, .int .u64 t2, .int .u64 t3, .int .u64 t4, .int .u64 t5, .slice A1 n1 c1, .slice A2 n2 c2] 33] wv ∧ Below wq.heap.size wq wv) (fun _ i _ => n - (intOf i).toNat)
      case atStart => exact ⟨0, Nat.zero_le _, rfl, by rw [HST.out], S9, Below.refl _ _⟩
      case round =>
        obtain ⟨p, hp, rfl, rfl, U0, hbv⟩ := hrel
        clear S9
        have hzp := HZL.out p
        by_cases hpn : p < n
        · obtain ⟨e, hx⟩ : ∃ e, M[p]? = some e := ⟨_, List.getElem?_eq_getElem (by rw [HLM.out]; exact hpn)⟩
          obtain ⟨bl, ol, rfl, hat⟩ : ∃ b o, A = some ⟨b, o, none⟩ ∧ RdAt wq b o (M.flatMap en14) := by
            obtain ⟨_, _, he, _, _, _, h4⟩ := HRL.out
            cases he
            exact h4 (by omega)
          have e0 := fun j hj => flat_at en14 14 (fun _ => rfl) M p e hx j hj
          have hok := HOK.out e (List.mem_of_getElem? hx)
          have als := itemB_size names e.2 wq hok.2 HNZ.out
          have hnxt : ledgerB names (M.take (p + 1)) = ledgerB names (M.take p) ++ entryB names e := by rw [take_snocV hx, ledgerB_snoc]
          have HNXT := Lib.hid hnxt
          have kA := fun w' (h : Below wq.heap.size wq w') => viewItem (.slice A0 n0 c0) (.int .i64 t1) (.int .u64 t2) (.int .u64 t3) (.int .u64 t4) (.int .u64 t5) (.slice A1 n1 c1) (.slice A2 n2 c2) names e.2 w' (HNM.out.below h) HNZ.out (hok.2.below h)
          obtain ⟨ab, hab⟩ : ∃ ab, ab = itemB names e.2 := ⟨_, rfl⟩
          rw [← hab] at als kA
          have HAB := Lib.hid hab
          obtain ⟨Ai, ci, hlv, _⟩ := hok.2.rd
          have hti := hok.1
          have dz := decB_size e.1 hti
          have hfit := hok.2.fit
          have hrd := hok.2.rd
          clear hnxt hab hok
          obtain ⟨ti, gap, o, sq, tm, ru, lvi, aps, st, pr, va, ow, go, gf, gt⟩ := e
          simp only at hlv hti als kA dz hrd
          subst hlv
          have hfo := hfit.o; have hfs := hfit.sq; have hft := hfit.tm; have hfr := hfit.ru; have hfp := hfit.pz; have hfst := hfit.st; have hfpr := hfit.pr; have hfv := hfit.va; have hfg := hfit.go; have hff := hfit.gf; have hfgt := hfit.gt
          simp only at hfo hfs hft hfr hfp hfst hfpr hfv hfg hff hfgt
          obtain ⟨ni, hni⟩ : ∃ n, n = aps.length := ⟨_, rfl⟩
          have HRD := Lib.hid hrd
          rw [← hni] at kA
          have hx6 : (en14 (ti, ⟨gap, o, sq, tm, ru, .slice Ai aps.length ci, aps, st, pr, va, ow, go, gf, gt⟩))[6]? = some (.slice Ai ni ci) := by rw [hni]; rfl
          clear hfit hrd hx
          cases gap
          · have x0 := hat.nth0 hbv (p * 14) (.int .u64 ti) (e0 0 (by omega))
            have x1 := hat.nth hbv (p * 14) 1 (.bool false) (e0 1 (by omega))
            have x2 := hat.nth hbv (p * 14) 2 (.int .u8 o) (e0 2 (by omega))
            have x3 := hat.nth hbv (p * 14) 3 (.int .u64 sq) (e0 3 (by omega))
            have x4 := hat.nth hbv (p * 14) 4 (.int .u64 tm) (e0 4 (by omega))
            have x5 := hat.nth hbv (p * 14) 5 (.string ru) (e0 5 (by omega))
            have x6 := hat.nth hbv (p * 14) 6 (.slice Ai ni ci) ((e0 6 (by omega)).trans hx6)
            have x7 := hat.nth hbv (p * 14) 7 (.int .u8 st) (e0 7 (by omega))
            have x8 := hat.nth hbv (p * 14) 8 (.int .u8 pr) (e0 8 (by omega))
            have x9 := hat.nth hbv (p * 14) 9 (.int .i64 va) (e0 9 (by omega))
            have x10 := hat.nth hbv (p * 14) 10 (.int .u8 ow) (e0 10 (by omega))
            have x11 := hat.nth hbv (p * 14) 11 (.int .u8 go) (e0 11 (by omega))
            have x12 := hat.nth hbv (p * 14) 12 (.int .u64 gf) (e0 12 (by omega))
            have x13 := hat.nth hbv (p * 14) 13 (.int .u64 gt) (e0 13 (by omega))
            have kO := originB_size names o hfo HNZ.out
            have KA := Lib.hid kA
            have hgt : eventB names o sq tm ru aps st pr va = ab := by rw [HAB.out]; unfold itemB; rw [if_neg Bool.false_ne_true]
            have z1 := decB_size sq hfs
            have z2 := decB_size tm hft
            have hpr64 : pr < 18446744073709551616 := by omega
            have z3 := decB_size pr hpr64
            have z4 := sdecB_size va hfv.1 hfv.2
            have z5 := stateB_size st
            have upr : IntKind.u64.wrap (pr : Int) = (pr : Int) := by rw [IntKind.wrap_u64]; omega
            have kX := fun w' (h : Below wq.heap.size wq w') => refText (.slice Ai aps.length ci) aps w' (HRD.out.below h) (by omega)
            rw [← hni] at kX
            have KX := Lib.hid kX
            have hpz2 : (⟨(textL aps).toArray⟩ : ByteArray).size ≤ 100000000 := by simpa [ByteArray.size] using hfp
            clear kX
            have HGT := Lib.hid hgt
            clear hat e0 kA hx6 hgt hni
            go_wp2_with fail
            have U1 := U0.alloc #[.int .u64 ti, .bool false, .int .u8 o, .int .u64 sq, .int .u64 tm, .string ru, .slice Ai ni ci, .int .u8 st, .int .u8 pr, .int .i64 va, .int .u8 ow, .int .u8 go, .int .u64 gf, .int .u64 gt] 68
            have B1 := hbv.alloc hbv.size (.cells #[.int .u64 ti, .bool false, .int .u8 o, .int .u64 sq, .int .u64 tm, .string ru, .slice Ai ni ci, .int .u8 st, .int .u8 pr, .int .i64 va, .int .u8 ow, .int .u8 go, .int .u64 gf, .int .u64 gt] 68)
            clear U0 x0 x1 x2 x3 x4 x5 x6 x7 x8 x9 x10 x11 x12 x13
            (with_reducible refine (refSpan_false _ _ _ _ _ _ _ _ _ _ _ _ _ _ _).mono ?_)
            rintro e wa2 ⟨rfl, hb2⟩
            have U2 := U1.grow hb2
            have B2 := B1.trans (hb2.mono B1.size)
            clear hb2 U1 B1
            have tc0 := (U2.blk 1 rfl).cell (j := 0) (v := .slice A0 n0 c0) rfl
            have tc1 := (U2.blk 1 rfl).cell (j := 1) (v := .int .i64 t1) rfl
            have tc2 := (U2.blk 1 rfl).cell (j := 2) (v := .int .u64 t2) rfl
            have tc3 := (U2.blk 1 rfl).cell (j := 3) (v := .int .u64 t3) rfl
            have tc4 := (U2.blk 1 rfl).cell (j := 4) (v := .int .u64 t4) rfl
            have tc5 := (U2.blk 1 rfl).cell (j := 5) (v := .int .u64 t5) rfl
            have tc6 := (U2.blk 1 rfl).cell (j := 6) (v := .slice A1 n1 c1) rfl
            have tc7 := (U2.blk 1 rfl).cell (j := 7) (v := .slice A2 n2 c2) rfl
            go_wp2_with fail
            (with_reducible refine (lawName (.slice A0 n0 c0) (.int .i64 t1) (.int .u64 t2) (.int .u64 t3) (.int .u64 t4) (.int .u64 t5) (.slice A1 n1 c1) (.slice A2 n2 c2) names o _ (HNM.out.below B2) hfo).mono ?_)
            rintro e wa3 ⟨rfl, hb3⟩
            have U3 := U2.grow hb3
            have B3 := B2.trans (hb3.mono B2.size)
            clear hb3 U2 B2 tc0 tc1 tc2 tc3 tc4 tc5 tc6 tc7
            go_wp2_with fail
            (with_reducible refine (refItoa sq _ hfs).mono ?_)
            rintro e wa4 ⟨rfl, hb4⟩
            have U4 := U3.grow hb4
            have B4 := B3.trans (hb4.mono B3.size)
            clear hb4 U3 B3
            have f1 := (U4.blk 0 rfl).cell (j := 1) (v := .bool false) rfl
            have f2 := (U4.blk 0 rfl).cell (j := 2) (v := .int .u8 o) rfl
            have f3 := (U4.blk 0 rfl).cell (j := 3) (v := .int .u64 sq) rfl
            have f4 := (U4.blk 0 rfl).cell (j := 4) (v := .int .u64 tm) rfl
            have f5 := (U4.blk 0 rfl).cell (j := 5) (v := .string ru) rfl
            have f6 := (U4.blk 0 rfl).cell (j := 6) (v := .slice Ai ni ci) rfl
            have f7 := (U4.blk 0 rfl).cell (j := 7) (v := .int .u8 st) rfl
            have f8 := (U4.blk 0 rfl).cell (j := 8) (v := .int .u8 pr) rfl
            have f9 := (U4.blk 0 rfl).cell (j := 9) (v := .int .i64 va) rfl
            have f10 := (U4.blk 0 rfl).cell (j := 10) (v := .int .u8 ow) rfl
            go_wp2_with fail
            refine wp_gen fun W hW => ?_
            have U5 := (U4.alloc #[.int .u8 o, .int .u64 sq, .int .u64 tm, .string ru, .slice Ai ni ci, .int .u8 st, .int .u8 pr, .int .i64 va, .int .u8 ow] 62).same hW
            have B5 : Below wq.heap.size wq W := by rw [hW]; exact B4.alloc B4.size _
            have hE := U5.blk 0 rfl
            have F : ∀ w', Below W.heap.size W w' → w'.cell? ⟨wa4.heap.size, 0, none⟩ = some (.int .u8 o) ∧ w'.cell? ⟨wa4.heap.size, 1, none⟩ = some (.int .u64 sq) ∧ w'.cell? ⟨wa4.heap.size, 2, none⟩ = some (.int .u64 tm) ∧ w'.cell? ⟨wa4.heap.size, 3, none⟩ = some (.string ru) ∧ w'.cell? ⟨wa4.heap.size, 4, none⟩ = some (.slice Ai ni ci) ∧ w'.cell? ⟨wa4.heap.size, 5, none⟩ = some (.int .u8 st) ∧ w'.cell? ⟨wa4.heap.size, 6, none⟩ = some (.int .u8 pr) ∧ w'.cell? ⟨wa4.heap.size, 7, none⟩ = some (.int .i64 va) ∧ w'.cell? ⟨wa4.heap.size, 8, none⟩ = some (.int .u8 ow) := fun w' h => by
              have q := hE.below h hE.lt
              exact ⟨q.cell rfl, q.cell rfl, q.cell rfl, q.cell rfl, q.cell rfl, q.cell rfl, q.cell rfl, q.cell rfl, q.cell rfl⟩
            clear hW U4 B4 hE f1 f2 f3 f4 f5 f6 f7 f8 f9 f10
            refine region_free (fun w' => Below W.heap.size W w') [] [] (List.range 32) (by kernel_rfl) (by kernel_rfl) (by kernel_rfl) (Below.refl _ _).drew ?_
            simp only [List.range, List.range.loop]
            repeat (first
              | (refine RelSeq.pure_ (c := ?_) rfl rfl ?_ ?_; rotate_left; (focus (intro x w'; dsimp only; go_simp; (try (split; (focus (exfalso; omega)); go_simp)); (repeat' apply And.intro) <;> first | with_reducible rfl | assumption)); simp only [Act.put, List.setIfInBounds_toArray, List.set_cons_zero, List.set_cons_succ])
              | (refine RelSeq.pureG_ (c := ?_) rfl (fun _ => rfl) rfl ?_ ?_; rotate_left; (focus (intro x w'; dsimp only; go_simp; (repeat' apply And.intro) <;> first | with_reducible rfl | assumption)); simp only [Act.put, List.setIfInBounds_toArray, List.set_cons_zero, List.set_cons_succ])
              | (refine RelSeq.grow_ (c := ?_) rfl rfl ?_ ?_; rotate_left; (focus (intro x w' hw _; dsimp only; obtain ⟨d0, d1, d2, d3, d4, d5, d6, d7, d8⟩ := F w' hw; have hbr := Below.refl w'.heap.size w'; go_simp; (repeat' apply And.intro) <;> first | with_reducible rfl | assumption)); simp only [Act.put, List.setIfInBounds_toArray, List.set_cons_zero, List.set_cons_succ])
              | (refine RelSeq.growG_ (c := ?_) rfl (fun _ => rfl) rfl ?_ ?_; rotate_left; (focus (intro x w' hw _; dsimp only; obtain ⟨d0, d1, d2, d3, d4, d5, d6, d7, d8⟩ := F w' hw; have hbr := Below.refl w'.heap.size w'; go_simp; (repeat' apply And.intro) <;> first | with_reducible rfl | assumption)); simp only [Act.put, List.setIfInBounds_toArray, List.set_cons_zero, List.set_cons_succ])
              | (refine RelSeq.grow_ (c := ?_) rfl rfl ?_ ?_; rotate_left; (focus (intro x w' hw _; dsimp only; have hbr := Below.refl w'.heap.size w'; go_simp; (first
                  | (go_at_call 11; (with_reducible refine (refItoa tm _ hft).mono ?_); rintro e w1 ⟨rfl, hb1⟩; have hI1 := hw.trans (hb1.mono hw.size); go_simp; (repeat' apply And.intro) <;> first | with_reducible rfl | assumption)
                  | (go_at_call 11; (with_reducible refine (refItoa pr _ hpr64).mono ?_); rintro e w1 ⟨rfl, hb1⟩; have hI1 := hw.trans (hb1.mono hw.size); go_simp; (repeat' apply And.intro) <;> first | with_reducible rfl | assumption)
                  | (go_at_call 12; (with_reducible refine (KX.out _ (B5.trans (hw.mono B5.size))).mono ?_); rintro e w1 ⟨rfl, hb1⟩; have hI1 := hw.trans (hb1.mono hw.size); go_simp; (repeat' apply And.intro) <;> first | with_reducible rfl | assumption)
                  | (go_at_call 17; (with_reducible refine (lawWord _ hfst _).mono ?_); rintro e w1 ⟨rfl, hb1⟩; have hI1 := hw.trans (hb1.mono hw.size); go_simp; (repeat' apply And.intro) <;> first | with_reducible rfl | assumption)
                  | (go_at_call 22; (with_reducible refine (refSigned _ _ hfv.1 hfv.2).mono ?_); rintro e w1 ⟨rfl, hb1⟩; have hI1 := hw.trans (hb1.mono hw.size); go_simp; (repeat' apply And.intro) <;> first | with_reducible rfl | assumption)))); simp only [Act.put, List.setIfInBounds_toArray, List.set_cons_zero, List.set_cons_succ])
              | (refine RelSeq.growG_ (c := ?_) rfl (fun _ => rfl) rfl ?_ ?_; rotate_left; (focus (intro x w' hw _; dsimp only; have hbr := Below.refl w'.heap.size w'; go_simp; (first
                  | (go_at_call 11; (with_reducible refine (refItoa tm _ hft).mono ?_); rintro e w1 ⟨rfl, hb1⟩; have hI1 := hw.trans (hb1.mono hw.size); go_simp; (repeat' apply And.intro) <;> first | with_reducible rfl | assumption)
                  | (go_at_call 11; (with_reducible refine (refItoa pr _ hpr64).mono ?_); rintro e w1 ⟨rfl, hb1⟩; have hI1 := hw.trans (hb1.mono hw.size); go_simp; (repeat' apply And.intro) <;> first | with_reducible rfl | assumption)
                  | (go_at_call 12; (with_reducible refine (KX.out _ (B5.trans (hw.mono B5.size))).mono ?_); rintro e w1 ⟨rfl, hb1⟩; have hI1 := hw.trans (hb1.mono hw.size); go_simp; (repeat' apply And.intro) <;> first | with_reducible rfl | assumption)
                  | (go_at_call 17; (with_reducible refine (lawWord _ hfst _).mono ?_); rintro e w1 ⟨rfl, hb1⟩; have hI1 := hw.trans (hb1.mono hw.size); go_simp; (repeat' apply And.intro) <;> first | with_reducible rfl | assumption)
                  | (go_at_call 22; (with_reducible refine (refSigned _ _ hfv.1 hfv.2).mono ?_); rintro e w1 ⟨rfl, hb1⟩; have hI1 := hw.trans (hb1.mono hw.size); go_simp; (repeat' apply And.intro) <;> first | with_reducible rfl | assumption)))); simp only [Act.put, List.setIfInBounds_toArray, List.set_cons_zero, List.set_cons_succ]))
            refine RelSeq.nil_ fun x_ w6 hw6 _ _ => TailSeq.nil_ ?_
            have U6 := U5.grow hw6
            have B6 := B5.trans (hw6.mono B5.size)
            clear F hw6 U5 B5
            rw [event_text, HGT.out]
            have tc0 := (U6.blk 2 rfl).cell (j := 0) (v := .slice A0 n0 c0) rfl
            have tc1 := (U6.blk 2 rfl).cell (j := 1) (v := .int .i64 t1) rfl
            have tc2 := (U6.blk 2 rfl).cell (j := 2) (v := .int .u64 t2) rfl
            have tc3 := (U6.blk 2 rfl).cell (j := 3) (v := .int .u64 t3) rfl
            have tc4 := (U6.blk 2 rfl).cell (j := 4) (v := .int .u64 t4) rfl
            have tc5 := (U6.blk 2 rfl).cell (j := 5) (v := .int .u64 t5) rfl
            have tc6 := (U6.blk 2 rfl).cell (j := 6) (v := .slice A1 n1 c1) rfl
            have tc7 := (U6.blk 2 rfl).cell (j := 7) (v := .slice A2 n2 c2) rfl
            have f1 := (U6.blk 1 rfl).cell (j := 1) (v := .bool false) rfl
            have f2 := (U6.blk 1 rfl).cell (j := 2) (v := .int .u8 o) rfl
            have f3 := (U6.blk 1 rfl).cell (j := 3) (v := .int .u64 sq) rfl
            have f4 := (U6.blk 1 rfl).cell (j := 4) (v := .int .u64 tm) rfl
            have f5 := (U6.blk 1 rfl).cell (j := 5) (v := .string ru) rfl
            have f6 := (U6.blk 1 rfl).cell (j := 6) (v := .slice Ai ni ci) rfl
            have f7 := (U6.blk 1 rfl).cell (j := 7) (v := .int .u8 st) rfl
            have f8 := (U6.blk 1 rfl).cell (j := 8) (v := .int .u8 pr) rfl
            have f9 := (U6.blk 1 rfl).cell (j := 9) (v := .int .i64 va) rfl
            have f10 := (U6.blk 1 rfl).cell (j := 10) (v := .int .u8 ow) rfl
            have f11 := (U6.blk 1 rfl).cell (j := 11) (v := .int .u8 go) rfl
            have f12 := (U6.blk 1 rfl).cell (j := 12) (v := .int .u64 gf) rfl
            have f13 := (U6.blk 1 rfl).cell (j := 13) (v := .int .u64 gt) rfl
            go_wp2_with fail
            (with_reducible refine (KA.out _ B6).mono ?_)
            rintro e wa7 ⟨rfl, hb7⟩
            have U7 := U6.grow hb7
            have B7 := B6.trans (hb7.mono B6.size)
            clear hb7 U6 B6 tc0 tc1 tc2 tc3 tc4 tc5 tc6 tc7 f1 f2 f3 f4 f5 f6 f7 f8 f9 f10 f11 f12 f13
            have f0 := (U7.blk 1 rfl).cell (j := 0) (v := .int .u64 ti) rfl
            go_wp2_with fail
            (with_reducible refine (refItoa ti _ hti).mono ?_)
            rintro e wa8 ⟨rfl, hb8⟩
            have U8 := U7.grow hb8
            have B8 := B7.trans (hb8.mono B7.size)
            clear hb8 U7 B7 f0
            have U9 := U8.pick [2] (by decide)
            simp only [List.filterMap_cons, List.filterMap_nil, List.getElem?_cons_succ, List.getElem?_cons_zero] at U9
            clear U8
            go_wp2_with fail
            go_roundw
            case rel => exact ⟨p + 1, by omega, by go_num, by rw [HNXT.out]; unfold entryB; rw [← HAB.out], U9, B8⟩
            case measure => simp [intOf]; omega
          · have x0 := hat.nth0 hbv (p * 14) (.int .u64 ti) (e0 0 (by omega))
            have x1 := hat.nth hbv (p * 14) 1 (.bool true) (e0 1 (by omega))
            have x2 := hat.nth hbv (p * 14) 2 (.int .u8 o) (e0 2 (by omega))
            have x3 := hat.nth hbv (p * 14) 3 (.int .u64 sq) (e0 3 (by omega))
            have x4 := hat.nth hbv (p * 14) 4 (.int .u64 tm) (e0 4 (by omega))
            have x5 := hat.nth hbv (p * 14) 5 (.string ru) (e0 5 (by omega))
            have x6 := hat.nth hbv (p * 14) 6 (.slice Ai ni ci) ((e0 6 (by omega)).trans hx6)
            have x7 := hat.nth hbv (p * 14) 7 (.int .u8 st) (e0 7 (by omega))
            have x8 := hat.nth hbv (p * 14) 8 (.int .u8 pr) (e0 8 (by omega))
            have x9 := hat.nth hbv (p * 14) 9 (.int .i64 va) (e0 9 (by omega))
            have x10 := hat.nth hbv (p * 14) 10 (.int .u8 ow) (e0 10 (by omega))
            have x11 := hat.nth hbv (p * 14) 11 (.int .u8 go) (e0 11 (by omega))
            have x12 := hat.nth hbv (p * 14) 12 (.int .u64 gf) (e0 12 (by omega))
            have x13 := hat.nth hbv (p * 14) 13 (.int .u64 gt) (e0 13 (by omega))
            have kO := originB_size names go hfg HNZ.out
            have KA := Lib.hid kA
            have hgt : gapB names go gf gt = ab := by rw [HAB.out]; unfold itemB; rw [if_pos rfl]
            have z1 := decB_size gf hff
            have z2 := decB_size gt hfgt
            have HGT := Lib.hid hgt
            clear hat e0 kA hx6 hgt hni
            go_wp2_with fail
            have U1 := U0.alloc #[.int .u64 ti, .bool true, .int .u8 o, .int .u64 sq, .int .u64 tm, .string ru, .slice Ai ni ci, .int .u8 st, .int .u8 pr, .int .i64 va, .int .u8 ow, .int .u8 go, .int .u64 gf, .int .u64 gt] 68
            have B1 := hbv.alloc hbv.size (.cells #[.int .u64 ti, .bool true, .int .u8 o, .int .u64 sq, .int .u64 tm, .string ru, .slice Ai ni ci, .int .u8 st, .int .u8 pr, .int .i64 va, .int .u8 ow, .int .u8 go, .int .u64 gf, .int .u64 gt] 68)
            clear U0 x0 x1 x2 x3 x4 x5 x6 x7 x8 x9 x10 x11 x12 x13
            (with_reducible refine (refSpan_true _ _ _ _ _ _ _ _ _ _ _ _ _ _ _).mono ?_)
            rintro e wa2 ⟨rfl, hb2⟩
            have U2 := U1.grow hb2
            have B2 := B1.trans (hb2.mono B1.size)
            clear hb2 U1 B1
            have tc0 := (U2.blk 1 rfl).cell (j := 0) (v := .slice A0 n0 c0) rfl
            have tc1 := (U2.blk 1 rfl).cell (j := 1) (v := .int .i64 t1) rfl
            have tc2 := (U2.blk 1 rfl).cell (j := 2) (v := .int .u64 t2) rfl
            have tc3 := (U2.blk 1 rfl).cell (j := 3) (v := .int .u64 t3) rfl
            have tc4 := (U2.blk 1 rfl).cell (j := 4) (v := .int .u64 t4) rfl
            have tc5 := (U2.blk 1 rfl).cell (j := 5) (v := .int .u64 t5) rfl
            have tc6 := (U2.blk 1 rfl).cell (j := 6) (v := .slice A1 n1 c1) rfl
            have tc7 := (U2.blk 1 rfl).cell (j := 7) (v := .slice A2 n2 c2) rfl
            go_wp2_with fail
            (with_reducible refine (lawName (.slice A0 n0 c0) (.int .i64 t1) (.int .u64 t2) (.int .u64 t3) (.int .u64 t4) (.int .u64 t5) (.slice A1 n1 c1) (.slice A2 n2 c2) names go _ (HNM.out.below B2) hfg).mono ?_)
            rintro e wa3 ⟨rfl, hb3⟩
            have U3 := U2.grow hb3
            have B3 := B2.trans (hb3.mono B2.size)
            clear hb3 U2 B2 tc0 tc1 tc2 tc3 tc4 tc5 tc6 tc7
            go_wp2_with fail
            (with_reducible refine (refItoa gf _ hff).mono ?_)
            rintro e wa4 ⟨rfl, hb4⟩
            have U4 := U3.grow hb4
            have B4 := B3.trans (hb4.mono B3.size)
            clear hb4 U3 B3
            have f1 := (U4.blk 0 rfl).cell (j := 1) (v := .bool true) rfl
            go_wp2_with fail
            (with_reducible refine (refItoa gt _ hfgt).mono ?_)
            rintro e wa5 ⟨rfl, hb5⟩
            have U5 := U4.grow hb5
            have B5 := B4.trans (hb5.mono B4.size)
            clear hb5 U4 B4 f1
            have tc0 := (U5.blk 1 rfl).cell (j := 0) (v := .slice A0 n0 c0) rfl
            have tc1 := (U5.blk 1 rfl).cell (j := 1) (v := .int .i64 t1) rfl
            have tc2 := (U5.blk 1 rfl).cell (j := 2) (v := .int .u64 t2) rfl
            have tc3 := (U5.blk 1 rfl).cell (j := 3) (v := .int .u64 t3) rfl
            have tc4 := (U5.blk 1 rfl).cell (j := 4) (v := .int .u64 t4) rfl
            have tc5 := (U5.blk 1 rfl).cell (j := 5) (v := .int .u64 t5) rfl
            have tc6 := (U5.blk 1 rfl).cell (j := 6) (v := .slice A1 n1 c1) rfl
            have tc7 := (U5.blk 1 rfl).cell (j := 7) (v := .slice A2 n2 c2) rfl
            have f1 := (U5.blk 0 rfl).cell (j := 1) (v := .bool true) rfl
            have f2 := (U5.blk 0 rfl).cell (j := 2) (v := .int .u8 o) rfl
            have f3 := (U5.blk 0 rfl).cell (j := 3) (v := .int .u64 sq) rfl
            have f4 := (U5.blk 0 rfl).cell (j := 4) (v := .int .u64 tm) rfl
            have f5 := (U5.blk 0 rfl).cell (j := 5) (v := .string ru) rfl
            have f6 := (U5.blk 0 rfl).cell (j := 6) (v := .slice Ai ni ci) rfl
            have f7 := (U5.blk 0 rfl).cell (j := 7) (v := .int .u8 st) rfl
            have f8 := (U5.blk 0 rfl).cell (j := 8) (v := .int .u8 pr) rfl
            have f9 := (U5.blk 0 rfl).cell (j := 9) (v := .int .i64 va) rfl
            have f10 := (U5.blk 0 rfl).cell (j := 10) (v := .int .u8 ow) rfl
            have f11 := (U5.blk 0 rfl).cell (j := 11) (v := .int .u8 go) rfl
            have f12 := (U5.blk 0 rfl).cell (j := 12) (v := .int .u64 gf) rfl
            have f13 := (U5.blk 0 rfl).cell (j := 13) (v := .int .u64 gt) rfl
            go_wp2_with fail
            (with_reducible refine (KA.out _ B5).mono ?_)
            rintro e wa6 ⟨rfl, hb6⟩
            have U6 := U5.grow hb6
            have B6 := B5.trans (hb6.mono B5.size)
            clear hb6 U5 B5 tc0 tc1 tc2 tc3 tc4 tc5 tc6 tc7 f1 f2 f3 f4 f5 f6 f7 f8 f9 f10 f11 f12 f13
            rw [gap_text, HGT.out]
            have f0 := (U6.blk 0 rfl).cell (j := 0) (v := .int .u64 ti) rfl
            go_wp2_with fail
            (with_reducible refine (refItoa ti _ hti).mono ?_)
            rintro e wa7 ⟨rfl, hb7⟩
            have U7 := U6.grow hb7
            have B7 := B6.trans (hb7.mono B6.size)
            clear hb7 U6 B6 f0
            have U9 := U7.pick [1] (by decide)
            simp only [List.filterMap_cons, List.filterMap_nil, List.getElem?_cons_succ, List.getElem?_cons_zero] at U9
            clear U7
            go_wp2_with fail
            go_roundw
            case rel => exact ⟨p + 1, by omega, by go_num, by rw [HNXT.out]; unfold entryB; rw [← HAB.out], U9, B7⟩
            case measure => simp [intOf]; omega
        · obtain rfl : p = n := by omega
          have hpp : decide ((p : Int) < (p : Int)) = false := by simp
          have htk : M.take p = M := by rw [← HLM.out, List.take_length]
          rw [htk] at hzp ⊢
          have kL := fun w' (h : Below wq.heap.size wq w') => viewLedger (.slice A0 n0 c0) (.int .i64 t1) (.int .u64 t2) (.int .u64 t3) (.int .u64 t4) (.int .u64 t5) (.slice A1 n1 c1) (.slice A2 n2 c2) names (.slice A p c) M w' (HNM.out.below h) HNZ.out (by rw [HLM.out]; exact HRL.out.below h) (fun a ha => ⟨(HOK.out a ha).1, (HOK.out a ha).2.below h⟩) (by rw [HLM.out]; omega)
          generalize ledgerB names M = al at kL hzp
          have kE : ∀ w', Below wq.heap.size wq w' → Calls Try.prog 24 #[.agg #[.slice A0 n0 c0, .int .i64 t1, .int .u64 t2, .int .u64 t3, .int .u64 t4, .int .u64 t5, .slice A1 n1 c1, .slice A2 n2 c2], .slice none 0 0] w' fun e w'' => e = .returned (.string ⟨#[]⟩) ∧ Below w'.heap.size w' w'' := fun w' h => viewLedger (.slice A0 n0 c0) (.int .i64 t1) (.int .u64 t2) (.int .u64 t3) (.int .u64 t4) (.int .u64 t5) (.slice A1 n1 c1) (.slice A2 n2 c2) names (.slice none 0 0) [] w' (HNM.out.below h) HNZ.out ⟨none, 0, rfl, rfl, Nat.le_refl _, by unfold maxLen; omega, fun h => absurd h (by simp)⟩ (fun a ha => nomatch ha) (by simp)
          have KL := Lib.hid kL
          have KE := Lib.hid kE
          have tc0 := (U0.blk 0 rfl).cell (j := 0) (v := .slice A0 n0 c0) rfl
          have tc1 := (U0.blk 0 rfl).cell (j := 1) (v := .int .i64 t1) rfl
          have tc2 := (U0.blk 0 rfl).cell (j := 2) (v := .int .u64 t2) rfl
          have tc3 := (U0.blk 0 rfl).cell (j := 3) (v := .int .u64 t3) rfl
          have tc4 := (U0.blk 0 rfl).cell (j := 4) (v := .int .u64 t4) rfl
          have tc5 := (U0.blk 0 rfl).cell (j := 5) (v := .int .u64 t5) rfl
          have tc6 := (U0.blk 0 rfl).cell (j := 6) (v := .slice A1 n1 c1) rfl
          have tc7 := (U0.blk 0 rfl).cell (j := 7) (v := .slice A2 n2 c2) rfl
          clear htk kL kE
          go_wp2_with fail
          (with_reducible refine (KL.out _ hbv).mono ?_)
          rintro e wa1 ⟨rfl, hb1⟩
          have U1 := U0.grow hb1
          have B1 := hbv.trans (hb1.mono hbv.size)
          clear tc0 tc1 tc2 tc3 tc4 tc5 tc6 tc7 U0 hb1 hbv KL
          have tc0 := (U1.blk 0 rfl).cell (j := 0) (v := .slice A0 n0 c0) rfl
          have tc1 := (U1.blk 0 rfl).cell (j := 1) (v := .int .i64 t1) rfl
          have tc2 := (U1.blk 0 rfl).cell (j := 2) (v := .int .u64 t2) rfl
          have tc3 := (U1.blk 0 rfl).cell (j := 3) (v := .int .u64 t3) rfl
          have tc4 := (U1.blk 0 rfl).cell (j := 4) (v := .int .u64 t4) rfl
          have tc5 := (U1.blk 0 rfl).cell (j := 5) (v := .int .u64 t5) rfl
          have tc6 := (U1.blk 0 rfl).cell (j := 6) (v := .slice A1 n1 c1) rfl
          have tc7 := (U1.blk 0 rfl).cell (j := 7) (v := .slice A2 n2 c2) rfl
          go_wp2_with fail
          (with_reducible refine (KE.out _ B1).mono ?_)
          rintro e wa2 ⟨rfl, hb2⟩
          have U2 := U1.grow hb2
          clear tc0 tc1 tc2 tc3 tc4 tc5 tc6 tc7 U1 hb2 B1 KE
          go_wp2_with fail
          go_ret
          exact ⟨rfl, U2.below⟩
end
end Go.Proofs.Ytdghpjkjhlankaa
