/-
  The law ViewAlerts, walked.
-/
import Derived.Test.YtdghpjkjhlankaaAlertsL
import Derived.Test.YtdghpjkjhlankaaFreeS
namespace Go.Proofs.Ytdghpjkjhlankaa
open Go.RowKit
set_option maxRecDepth 100000
section
open FreeSl
attribute [local go_sem] out

theorem sameAlertSelf' (a : AlV) (w : World) (h : Rd w 2 a.lv a.ps.length (pairCells a.ps)) :
    Calls Try.prog 18 #[.agg #[.int .u8 a.o, .string a.rule, a.lv, .int .u8 a.st, .int .u64 a.since, .int .u8 a.prio, .int .i64 a.val], .agg #[.int .u8 a.o, .string a.rule, a.lv, .int .u8 a.st, .int .u64 a.since, .int .u8 a.prio, .int .i64 a.val]] w fun e w' => e = .returned (.bool true) ∧ Below w.heap.size w w' := sameAlertSelf a w h
theorem topoAny' (s : SizeV) (w : World) (hok : s.ok w) :
    Calls Try.prog 7 #[.agg #[s.hv, s.ev, s.qv, s.rv, .int .u8 s.wi, .int .u8 s.fi, .int .u8 s.mo, .int .u8 s.be, .int .u8 s.dn, s.tv, s.cv]] w fun e w' => ∃ (A0 : Option Addr) (n0 c0 : Nat) (t1 t2 t3 t4 t5 : Int) (A1 : Option Addr) (n1 c1 : Nat) (A2 : Option Addr) (n2 c2 : Nat), e = .returned (.agg #[.slice A0 n0 c0, .int .i64 t1, .int .u64 t2, .int .u64 t3, .int .u64 t4, .int .u64 t5, .slice A1 n1 c1, .slice A2 n2 c2]) ∧ Named w' (.slice A0 n0 c0) (topoNames s.hubs s.edges) ∧ (∀ g, (Value.slice A0 n0 c0).ownBlock = some g → w.heap.size ≤ g) ∧ Below w.heap.size w w' := topoAny s w hok
set_option maxHeartbeats 16000000 in
theorem alertsWalk (s : SizeV) (nt : Nat) (to : ByteArray) (gv : Value) (gp : List (ByteArray × ByteArray)) (nv : Value) (L : List AlV) (a : AlV) (lv : Value) (ls : List Al6) (st : Nat) (w : World)
    (hsz : s.ok w) (hnt : nt < 18446744073709551616) (hto : to.size ≤ 1048576) (hg : Rd w 2 gv gp.length (pairCells gp)) (hgp : ∀ p ∈ gp, p.1.size ≤ 1048576 ∧ p.2.size ≤ 1048576)
    (hn : Rd w 7 nv L.length (L.flatMap al7)) (hL : ∀ x ∈ L, (x.ps.length ≤ 12 → x.fit) ∧ Rd w 2 x.lv x.ps.length (pairCells x.ps))
    (ha : a.ps.length ≤ 12 → a.fit) (har : Rd w 2 a.lv a.ps.length (pairCells a.ps)) (hl : Rd w 6 lv ls.length (ls.flatMap al6)) (hls : ∀ x ∈ ls, x.ok) (hst : st < 256) :
    Calls Try.prog 4 #[.agg #[s.hv, s.ev, s.qv, s.rv, .int .u8 s.wi, .int .u8 s.fi, .int .u8 s.mo, .int .u8 s.be, .int .u8 s.dn, s.tv, s.cv], .agg #[.int .u64 nt, .string to, gv, nv], .agg #[.int .u8 a.o, .string a.rule, a.lv, .int .u8 a.st, .int .u64 a.since, .int .u8 a.prio, .int .i64 a.val], lv, .int .u8 st] w fun e w' => e = .returned (.bool true) ∧ Below w.heap.size w w' := by
  obtain ⟨i0, hi, hz0, hz1, hz2⟩ := info_parts infoAlert
  have hg0 := hg
  have hn0 := hn
  have har0 := har
  have hl0 := hl
  obtain ⟨Ag, cg, rfl, _, pg, mg, _⟩ := hg0
  obtain ⟨An, cn, rfl, _, pn, mn, hatN⟩ := hn0
  obtain ⟨Aa, ca, ea, _, pa, ma, _⟩ := har0
  obtain ⟨Al, cl, rfl, _, pl, ml, hatL⟩ := hl0
  rw [ea] at har ⊢
  unfold maxLen at mg mn ma ml
  obtain ⟨ng, hng⟩ : ∃ n, n = gp.length := ⟨_, rfl⟩
  rw [← hng] at pg ⊢
  have HLg := Lib.hid hng
  clear hng
  obtain ⟨nn, hnn⟩ : ∃ n, n = L.length := ⟨_, rfl⟩
  rw [← hnn] at pn hatN ⊢
  have HLn := Lib.hid hnn
  clear hnn
  obtain ⟨na, hna⟩ : ∃ n, n = a.ps.length := ⟨_, rfl⟩
  rw [← hna] at pa ⊢
  have HLa := Lib.hid hna
  clear hna
  obtain ⟨nl, hnl⟩ : ∃ n, n = ls.length := ⟨_, rfl⟩
  rw [← hnl] at pl hatL ⊢
  have HLl := Lib.hid hnl
  clear hnl
  have HG := Lib.hid hg
  have HNr := Lib.hid hn
  have HA := Lib.hid har
  have HLr := Lib.hid hl
  have HEA := Lib.hid ea
  have HSZ := Lib.hid hsz
  have HL := Lib.hid hL
  have HAF := Lib.hid ha
  have HGP := Lib.hid hgp
  have HLS := Lib.hid hls
  clear hg hn har hl ea hsz hL ha hgp hls
  go_enter Try.func4, Try.ntmps4
  go_wp2_with fail
  have S0 := (((Upd.nil [] w).alloc #[s.hv, s.ev, s.qv, s.rv, .int .u8 s.wi, .int .u8 s.fi, .int .u8 s.mo, .int .u8 s.be, .int .u8 s.dn, s.tv, s.cv] 40).alloc #[.int .u64 nt, .string to, .slice Ag ng cg, .slice An nn cn] 52).alloc #[.int .u8 a.o, .string a.rule, .slice Aa na ca, .int .u8 a.st, .int .u64 a.since, .int .u8 a.prio, .int .i64 a.val] 45
  simp only [World.size_alloc] at S0
  (with_reducible refine (awake _).mono ?_)
  rintro e w1 ⟨rfl, hb1⟩
  have S1 := S0.grow hb1
  clear S0 hb1
  have g2 := (S1.blk 1 rfl).cell (j := 2) (v := .slice Ag ng cg) rfl
  have g3 := (S1.blk 1 rfl).cell (j := 3) (v := .slice An nn cn) rfl
  have a2 := (S1.blk 0 rfl).cell (j := 2) (v := .slice Aa na ca) rfl
  by_cases b1 : ng ≤ 12
  case neg =>
    have e1 : decide ((12 : Int) < (ng : Int)) = true := by simp; omega
    go_wp2_with fail
    go_ret
    exact ⟨rfl, S1.below⟩
  have e1 : decide ((12 : Int) < (ng : Int)) = false := by simp; omega
  by_cases b2 : nn ≤ 8
  case neg =>
    have e2 : decide ((8 : Int) < (nn : Int)) = true := by simp; omega
    go_wp2_with fail
    go_ret
    exact ⟨rfl, S1.below⟩
  have e2 : decide ((8 : Int) < (nn : Int)) = false := by simp; omega
  by_cases b3 : na ≤ 12
  case neg =>
    have e3 : decide ((12 : Int) < (na : Int)) = true := by simp; omega
    go_wp2_with fail
    go_ret
    exact ⟨rfl, S1.below⟩
  have e3 : decide ((12 : Int) < (na : Int)) = false := by simp; omega
  by_cases b4 : nl ≤ 8
  case neg =>
    have e4 : decide ((8 : Int) < (nl : Int)) = true := by simp; omega
    go_wp2_with fail
    go_ret
    exact ⟨rfl, S1.below⟩
  have e4 : decide ((8 : Int) < (nl : Int)) = false := by simp; omega
  go_wp2_with fail
  go_loopw [48] (fun i wr => ∃ k, k ≤ nn ∧ i = .int .i64 k ∧ Upd [] w [chBlk (w.heap.size + 1 + 1) #[.int .u8 a.o, .string a.rule, .slice Aa na ca, .int .u8 a.st, .int .u64 a.since, .int .u8 a.prio, .int .i64 a.val] 45, chBlk (w.heap.size + 1) #[.int .u64 nt, .string to, .slice Ag ng cg, .slice An nn cn] 52, chBlk w.heap.size #[s.hv, s.ev, s.qv, s.rv, .int .u8 s.wi, .int .u8 s.fi, .int .u8 s.mo, .int .u8 s.be, .int .u8 s.dn, s.tv, s.cv] 40] wr ∧ ∀ j x, j < k → L[j]? = some x → x.ps.length ≤ 12) (fun i _ => nn - (intOf i).toNat)
  case atStart => exact ⟨0, Nat.zero_le _, rfl, S1, fun j x h => absurd h (Nat.not_lt_zero _)⟩
  case round =>
    obtain ⟨k, hk, rfl, S2, hpk⟩ := hrel
    clear S1 g2 g3 a2
    by_cases hkn : k < nn
    · obtain ⟨x, hx⟩ : ∃ x, L[k]? = some x := ⟨_, List.getElem?_eq_getElem (by rw [← HLn.out]; exact hkn)⟩
      obtain ⟨b, o, rfl, hat⟩ := hatN (by omega)
      have e0 := fun j hj => flat_at al7 7 (fun _ => rfl) L k x hx j hj
      obtain ⟨_, hxr⟩ := HL.out x (List.mem_of_getElem? hx)
      have HX := Lib.hid hx
      have hbe := S2.below
      obtain ⟨Ax, cx, ex, _⟩ := hxr
      obtain ⟨nx, hnx⟩ : ∃ n, n = x.ps.length := ⟨_, rfl⟩
      rw [← hnx] at ex
      have x0 := hat.nth0 hbe (k * 7) (.int .u8 x.o) (e0 0 (by omega))
      have x1 := hat.nth hbe (k * 7) 1 (.string x.rule) (e0 1 (by omega))
      have x2 := hat.nth hbe (k * 7) 2 (.slice Ax nx cx) (by rw [← ex]; exact e0 2 (by omega))
      have x3 := hat.nth hbe (k * 7) 3 (.int .u8 x.st) (e0 3 (by omega))
      have x4 := hat.nth hbe (k * 7) 4 (.int .u64 x.since) (e0 4 (by omega))
      have x5 := hat.nth hbe (k * 7) 5 (.int .u8 x.prio) (e0 5 (by omega))
      have x6 := hat.nth hbe (k * 7) 6 (.int .i64 x.val) (e0 6 (by omega))
      have HNX := Lib.hid hnx
      have HPK := Lib.hid hpk
      have S3 := S2.grow ((Below.refl wr.heap.size wr).alloc (Nat.le_refl _) (.cells #[.int .u8 x.o, .string x.rule, .slice Ax nx cx, .int .u8 x.st, .int .u64 x.since, .int .u8 x.prio, .int .i64 x.val] 45))
      clear hx hatN hat e0 ex hnx hpk hbe S2
      by_cases hx12 : nx ≤ 12
      · have ex : decide ((12 : Int) < (nx : Int)) = false := by simp; omega
        go_wp2_with fail
        go_roundw
        case rel => exact ⟨k + 1, by omega, by go_num, S3, fun j y hj hy => by
          by_cases hjk : j = k
          · subst hjk
            have := HX.out
            rw [hy] at this
            cases this
            rw [← HNX.out]; exact hx12
          · exact HPK.out j y (by omega) hy⟩
        case measure => simp [intOf]; omega
      · have ex : decide ((12 : Int) < (nx : Int)) = true := by simp; omega
        go_wp2_with fail
        go_ret
        exact ⟨rfl, S3.below⟩
    · obtain rfl : k = nn := by omega
      have hkk : decide ((k : Int) < (k : Int)) = false := by simp
      have hLf : ∀ x ∈ L, x.fit := fun x hx => by
        obtain ⟨j, hj, e⟩ := List.getElem_of_mem hx
        exact (HL.out x hx).1 (hpk j x (by rw [HLn.out]; exact hj) (by rw [List.getElem?_eq_getElem hj, e]))
      have HLF := Lib.hid hLf
      have haf := HAF.out (by rw [← HLa.out]; exact b3)
      have HF := Lib.hid haf
      have hgz : (textL gp).length ≤ 100000000 := by
        have h1 := textL_bound 1048576 gp HGP.out
        have h2 := HLg.out
        have : gp.length ≤ 12 := by omega
        calc (textL gp).length ≤ gp.length * (2 * 1048576 + 2) := h1
          _ ≤ 12 * (2 * 1048576 + 2) := Nat.mul_le_mul_right _ this
          _ ≤ 100000000 := by decide
      have HGZ := Lib.hid hgz
      have kT := fun w' (h : Below w.heap.size w w') => topoAny' s w' (HSZ.out.below h)
      have KT := Lib.hid kT
      have z0 := (S2.blk 2 rfl).cell (j := 0) (v := s.hv) rfl
      have z1 := (S2.blk 2 rfl).cell (j := 1) (v := s.ev) rfl
      have z2 := (S2.blk 2 rfl).cell (j := 2) (v := s.qv) rfl
      have z3 := (S2.blk 2 rfl).cell (j := 3) (v := s.rv) rfl
      have z4 := (S2.blk 2 rfl).cell (j := 4) (v := .int .u8 s.wi) rfl
      have z5 := (S2.blk 2 rfl).cell (j := 5) (v := .int .u8 s.fi) rfl
      have z6 := (S2.blk 2 rfl).cell (j := 6) (v := .int .u8 s.mo) rfl
      have z7 := (S2.blk 2 rfl).cell (j := 7) (v := .int .u8 s.be) rfl
      have z8 := (S2.blk 2 rfl).cell (j := 8) (v := .int .u8 s.dn) rfl
      have z9 := (S2.blk 2 rfl).cell (j := 9) (v := s.tv) rfl
      have z10 := (S2.blk 2 rfl).cell (j := 10) (v := s.cv) rfl
      clear hpk hLf haf hgz hatN kT
      go_wp2_with fail
      (with_reducible refine (KT.out _ S2.below).mono ?_)
      rintro e w2 ⟨A0, n0, c0, t1, t2, t3, t4, t5, A1, n1, c1, A2, n2, c2, rfl, hnm, hfr, hb2⟩
      have S3 := S2.grow hb2
      have hnb : w.heap.size + 1 < wr.heap.size := (S2.blk 1 rfl).lt
      have hR0 : RO (w.heap.size + 1) w2 (.slice A0 n0 c0) (topoNames s.hubs s.edges) (.slice An k cn) L := by
        refine ⟨?_, ?_, fun x hx => ?_⟩
        · obtain ⟨xs, h1, h2⟩ := hnm
          exact ⟨xs, FreeR.new h1 (fun b hb => by have := hfr b hb; omega), h2⟩
        · exact FreeR.old (by rw [HLn.out]; exact HNr.out) (by decide) S3.below (by omega)
        · exact FreeR.old (HL.out x hx).2 (by decide) S3.below (by omega)
      have hNZ := topoNames_size s.hubs s.edges
      generalize topoNames s.hubs s.edges = names at hR0 hNZ
      have HNZ := Lib.hid hNZ
      obtain ⟨gT, hgT⟩ : ∃ g, g = w2.heap.size := ⟨_, rfl⟩
      have S4 := S3.alloc #[.slice A0 n0 c0, .int .i64 t1, .int .u64 t2, .int .u64 t3, .int .u64 t4, .int .u64 t5, .slice A1 n1 c1, .slice A2 n2 c2] 33
      rw [← hgT] at S4
      have hR1 := hR0.below ((Below.refl w2.heap.size w2).alloc (Nat.le_refl _) (.cells #[.slice A0 n0 c0, .int .i64 t1, .int .u64 t2, .int .u64 t3, .int .u64 t4, .int .u64 t5, .slice A1 n1 c1, .slice A2 n2 c2] 33))
      clear S2 S3 hb2 hnm hfr hnb hR0 hNZ KT z0 z1 z2 z3 z4 z5 z6 z7 z8 z9 z10
      go_wp2_with fail
      rw [← hgT]
      clear hgT
      go_loopw [61] (fun i wr => ∃ (q nq : Nat) (Aq : Option Addr) (cq : Nat) (L' : List AlV), q ≤ nl ∧ i = .int .i64 q ∧ nq = k + q ∧ L'.length = nq ∧ (∀ x ∈ L', x.fit) ∧ RO (w.heap.size + 1) wr (.slice A0 n0 c0) names (.slice Aq nq cq) L' ∧ Upd [] w [chBlk gT #[.slice A0 n0 c0, .int .i64 t1, .int .u64 t2, .int .u64 t3, .int .u64 t4, .int .u64 t5, .slice A1 n1 c1, .slice A2 n2 c2] 33, chBlk (w.heap.size + 1 + 1) #[.int .u8 a.o, .string a.rule, .slice Aa na ca, .int .u8 a.st, .int .u64 a.since, .int .u8 a.prio, .int .i64 a.val] 45, chBlk (w.heap.size + 1) #[.int .u64 nt, .string to, .slice Ag ng cg, .slice Aq nq cq] 52, chBlk w.heap.size #[s.hv, s.ev, s.qv, s.rv, .int .u8 s.wi, .int .u8 s.fi, .int .u8 s.mo, .int .u8 s.be, .int .u8 s.dn, s.tv, s.cv] 40] wr) (fun i _ => nl - (intOf i).toNat)
      case atStart => exact ⟨0, k, An, cn, L, Nat.zero_le _, rfl, rfl, HLn.out.symm, HLF.out, hR1, S4⟩
      case round =>
        obtain ⟨q, nq, Aq, cq, L', hq, rfl, hnq, hLl, hfit, hR, S5⟩ := hrel
        clear S4 hR1
        have hcq : nq ≤ cq ∧ cq ≤ 9223372036854775807 := by
          obtain ⟨_, _, he, _, h2, h3, _⟩ := hR.row.1
          cases he
          unfold maxLen at h3
          exact ⟨by rw [← hLl]; exact h2, h3⟩
        have hq16 : nq ≤ 16 := by omega
        have HQN := Lib.hid hnq
        have HQL := Lib.hid hLl
        have HFIT := Lib.hid hfit
        clear hnq hLl hfit
        by_cases hqn : q < nl
        · obtain ⟨x, hx⟩ : ∃ x, ls[q]? = some x := ⟨_, List.getElem?_eq_getElem (by rw [← HLl.out]; exact hqn)⟩
          obtain ⟨b, o, rfl, hat⟩ := hatL (by omega)
          have e0 := fun j hj => flat_at al6 6 (fun _ => rfl) ls q x hx j hj
          have hxo := HLS.out x (List.mem_of_getElem? hx)
          have hbe := S5.below
          have y0 := hat.nth0 hbe (q * 6) (.int .u8 x.o) (e0 0 (by omega))
          have y1 := hat.nth hbe (q * 6) 1 (.int .u8 x.r) (e0 1 (by omega))
          have y2 := hat.nth hbe (q * 6) 2 (.int .u8 x.a) (e0 2 (by omega))
          have y3 := hat.nth hbe (q * 6) 3 (.int .u8 x.b) (e0 3 (by omega))
          have y4 := hat.nth hbe (q * 6) 4 (.int .u8 x.n) (e0 4 (by omega))
          have y5 := hat.nth hbe (q * 6) 5 (.int .u8 x.s) (e0 5 (by omega))
          have kS := fun w' => smallAlertO x.o x.r x.a x.b x.n x.s hxo.1 hxo.2.1 hxo.2.2.1 hxo.2.2.2.1 hxo.2.2.2.2.1 hxo.2.2.2.2.2 w'
          obtain ⟨o3, ho3⟩ : ∃ n, n = x.o % 3 := ⟨_, rfl⟩
          obtain ⟨q8, hq8⟩ : ∃ n, n = x.s / 4 % 8 := ⟨_, rfl⟩
          rw [← ho3, ← hq8] at kS
          have HO3 := Lib.hid ho3
          have HQ8 := Lib.hid hq8
          have KS := Lib.hid kS
          have HXO := Lib.hid hxo
          clear hx hat hatL e0 hbe kS hxo ho3 hq8
          go_wp2_with fail
          refine wp_gen fun W hW => ?_
          have SW := (S5.alloc #[.int .u8 x.o, .int .u8 x.r, .int .u8 x.a, .int .u8 x.b, .int .u8 x.n, .int .u8 x.s] 23).same hW
          have hRW := hR.below (show Below wr.heap.size wr W by rw [hW]; exact (Below.refl _ _).alloc (Nat.le_refl _) _)
          have hBX := SW.blk 0 rfl
          have hBN := SW.blk 3 rfl
          have F : ∀ w', Below W.heap.size W w' → w'.cell? ⟨w.heap.size + 1, 3, none⟩ = some (.slice Aq nq cq) ∧ w'.cell? ⟨wr.heap.size, 0, none⟩ = some (.int .u8 x.o) ∧ w'.cell? ⟨wr.heap.size, 1, none⟩ = some (.int .u8 x.r) ∧ w'.cell? ⟨wr.heap.size, 2, none⟩ = some (.int .u8 x.a) ∧ w'.cell? ⟨wr.heap.size, 3, none⟩ = some (.int .u8 x.b) ∧ w'.cell? ⟨wr.heap.size, 4, none⟩ = some (.int .u8 x.n) ∧ w'.cell? ⟨wr.heap.size, 5, none⟩ = some (.int .u8 x.s) := fun w' h => by
            have p := hBX.below h hBX.lt
            exact ⟨(hBN.below h hBN.lt).cell rfl, p.cell rfl, p.cell rfl, p.cell rfl, p.cell rfl, p.cell rfl, p.cell rfl⟩
          have hnb : w.heap.size + 1 < W.heap.size := hBN.lt
          clear hW S5 hR y0 y1 y2 y3 y4 y5
          refine region_free (fun w' => Below W.heap.size W w') [10, 11] [12, 14] [0, 1, 2, 3, 4, 5, 6, 7, 8, 9, 10, 11, 13] (by kernel_rfl) (by kernel_rfl) (by kernel_rfl) ((Below.refl _ _).drew) ?_
          repeat (first
            | (refine RelSeq.pure_ (c := ?_) rfl rfl ?_ ?_; rotate_left; (focus (intro x w'; dsimp only; go_simp; (repeat' apply And.intro) <;> first | with_reducible rfl | assumption)); simp only [Act.put, List.setIfInBounds_toArray, List.set_cons_zero, List.set_cons_succ])
            | (refine RelSeq.grow_ (c := ?_) rfl rfl ?_ ?_; rotate_left; (focus (intro x w' hw _; dsimp only; obtain ⟨d3, y0, y1, y2, y3, y4, y5⟩ := F w' hw; have hbr := Below.refl w'.heap.size w'; go_simp; (repeat' apply And.intro) <;> first | with_reducible rfl | assumption)); simp only [Act.put, List.setIfInBounds_toArray, List.set_cons_zero, List.set_cons_succ]))
          refine RelSeq.rel_ (fun v u => ∃ A7 c7, v = .agg #[.int .u8 o3, .string (ruleB x.r), .slice A7 (smallL [x.a, x.b, x.n]).length c7, .int .u8 (stOf x.s), .int .u64 0, .int .u8 q8, .int .i64 x.a] ∧ u.ownsRow W.heap.size 81 2 (.slice A7 (smallL [x.a, x.b, x.n]).length c7) (smallL [x.a, x.b, x.n]).length (pairCells (smallL [x.a, x.b, x.n]))) rfl rfl (fun v u u' h hb => let ⟨A7, c7, h1, h2⟩ := h; ⟨A7, c7, h1, owns_below h2 hb⟩) ?_ ?_
          focus
            intro x_ w' hw _; dsimp only
            have q := KS.out w'
            have hwz := hw.size
            clear F
            go_simp
            (with_reducible refine q.mono ?_)
            rintro e w9 ⟨lv9, rfl, hv9, hb9⟩
            have hv8 := owns_mono hv9 hwz
            obtain ⟨A7, c7, rfl⟩ := owns_slice hv8
            have hw9 := hw.trans (hb9.mono hw.size)
            clear hv9 q
            go_simp
            all_goals ((repeat' apply And.intro) <;> first | assumption | exact ⟨_, _, rfl, hv8⟩ | exact ⟨_, _, ⟨rfl, rfl⟩, hv8⟩ | with_reducible rfl | decide)
          simp only [Act.put, List.setIfInBounds_toArray, List.set_cons_zero, List.set_cons_succ, List.nil_append]
          repeat (first
            | (refine RelSeq.pure_ (c := ?_) rfl rfl ?_ ?_; rotate_left; (focus (intro x w'; dsimp only; go_simp; (repeat' apply And.intro) <;> first | with_reducible rfl | assumption)); simp only [Act.put, List.setIfInBounds_toArray, List.set_cons_zero, List.set_cons_succ])
            | (refine RelSeq.grow_ (c := ?_) rfl rfl ?_ ?_; rotate_left; (focus (intro x w' hw _; dsimp only; obtain ⟨d3, y0, y1, y2, y3, y4, y5⟩ := F w' hw; have hbr := Below.refl w'.heap.size w'; go_simp; (repeat' apply And.intro) <;> first | with_reducible rfl | assumption)); simp only [Act.put, List.setIfInBounds_toArray, List.set_cons_zero, List.set_cons_succ]))
          refine RelSeq.rel_ (fun v u => ∃ b A7 c7, v = .slice (some ⟨b, 0, none⟩) 1 1 ∧ W.heap.size ≤ b ∧ Blk u b #[.int .u8 o3, .string (ruleB x.r), .slice A7 (smallL [x.a, x.b, x.n]).length c7, .int .u8 (stOf x.s), .int .u64 0, .int .u8 q8, .int .i64 x.a] 45 ∧ u.ownsRow W.heap.size 81 2 (.slice A7 (smallL [x.a, x.b, x.n]).length c7) (smallL [x.a, x.b, x.n]).length (pairCells (smallL [x.a, x.b, x.n]))) rfl rfl (fun v u u' h hb => let ⟨b, A7, c7, h1, h2, h3, h4⟩ := h; ⟨b, A7, c7, h1, h2, h3.below hb h3.lt, owns_below h4 hb⟩) ?_ ?_
          focus
            intro x_ w' hw hfa; dsimp only
            obtain ⟨A7, c7, e9, h9⟩ := hfa _ (.head _) (by kernel_rfl)
            have hba : Below w'.heap.size w' (w'.alloc (.cells #[.int .u8 o3, .string (ruleB x.r), .slice A7 (smallL [x.a, x.b, x.n]).length c7, .int .u8 (stOf x.s), .int .u64 0, .int .u8 q8, .int .i64 x.a] 45)) := (Below.refl _ _).alloc (Nat.le_refl _) _
            have hI := hw.trans (hba.mono hw.size)
            have hsz := hw.size
            have h10 := owns_below h9 hba
            have hbn := Blk.new w' #[.int .u8 o3, .string (ruleB x.r), .slice A7 (smallL [x.a, x.b, x.n]).length c7, .int .u8 (stOf x.s), .int .u64 0, .int .u8 q8, .int .i64 x.a] 45
            clear F
            go_simp
            all_goals ((repeat' apply And.intro) <;> first | assumption | exact ⟨_, _, _, rfl, hsz, hbn, h10⟩ | exact ⟨_, _, hbn, h10⟩ | exact ⟨_, _, _, ⟨rfl, rfl⟩, hsz, hbn, h10⟩ | with_reducible rfl | decide)
          simp only [Act.put, List.setIfInBounds_toArray, List.set_cons_zero, List.set_cons_succ, List.nil_append, List.cons_append]
          repeat (first
            | (refine RelSeq.pure_ (c := ?_) rfl rfl ?_ ?_; rotate_left; (focus (intro x w'; dsimp only; go_simp; (repeat' apply And.intro) <;> first | with_reducible rfl | assumption)); simp only [Act.put, List.setIfInBounds_toArray, List.set_cons_zero, List.set_cons_succ])
            | (refine RelSeq.grow_ (c := ?_) rfl rfl ?_ ?_; rotate_left; (focus (intro x w' hw _; dsimp only; obtain ⟨d3, y0, y1, y2, y3, y4, y5⟩ := F w' hw; have hbr := Below.refl w'.heap.size w'; go_simp; (repeat' apply And.intro) <;> first | with_reducible rfl | assumption)); simp only [Act.put, List.setIfInBounds_toArray, List.set_cons_zero, List.set_cons_succ]))
          refine RelSeq.nil_ fun y_ w3 hw3 hf _ => ?_
          obtain ⟨bn, A7, c7, e11, hb0, hBb, hown⟩ := hf _ (.tail _ (.head _))
          clear hf F hBX hBN
          refine TailSeq.cons_ rfl ?_
          have hR3 := hRW.below hw3
          have hrd3 : Rd w3 7 (.slice Aq nq nq) nq (L'.flatMap al7) := by
            have := rd_grow (A := Aq) (c := cq) (n := L'.length) (size := 7) (w := w3) (xs := L'.flatMap al7) (by rw [HQL.out]; have h := hR3.row.1; rwa [HQL.out] at h)
            rwa [HQL.out] at this
          refine wp_append_fresh (.tmp 73) (.tmp 76) 50 rfl 45 i0 _ 7 80 Try.underlying50 hi hz0 hz1 hz2 rfl (by decide) Aq nq _ rfl hrd3 bn 1 1 [.int .u8 o3, .string (ruleB x.r), .slice A7 (smallL [x.a, x.b, x.n]).length c7, .int .u8 (stOf x.s), .int .u64 0, .int .u8 q8, .int .i64 x.a] (by exact e11) rfl (fun j u hu => by
            have := hBb.cell (j := j) (v := u) (by simpa using hu)
            exact this) (by decide) (by intro u hu; simp at hu; rcases hu with rfl | rfl | rfl | rfl | rfl | rfl | rfl <;> rfl) (by unfold maxLen; omega) (by omega) fun v4 w4 hown4 hgr4 => ⟨rfl, ?_⟩
          have hb34 := grown_none_below hgr4
          have hsz3 := hw3.size
          have S6 := (SW.grow hw3).grow hb34
          have hR4 := hR3.below hb34
          have hown5 := owns_below hown hb34
          obtain ⟨A4, c4, rfl⟩ := owns_slice hown4
          simp only [out, Act.put, List.setIfInBounds_toArray, List.set_cons_zero, List.set_cons_succ]
          refine TailSeq.cons_ rfl ?_
          have d3 := (S6.blk 3 rfl).cell (j := 3) (v := .slice Aq nq cq) rfl
          have f3 := (S6.blk 3 rfl).frozen 3
          go_simp
          refine TailSeq.nil_gen fun w5 hw5 => ?_
          have S7 := ((S6.put 3 rfl 3 (.slice A4 (nq + 1) c4)).same hw5).pick [2, 3, 0, 4] (by decide)
          simp only [List.setIfInBounds_toArray, List.set_cons_succ, List.set_cons_zero, List.eraseIdx_cons_succ, List.eraseIdx_cons_zero] at S7
          simp only [List.filterMap_cons, List.filterMap_nil, List.getElem?_cons_succ, List.getElem?_cons_zero] at S7
          have e7 : al7 (alOf x (.slice A7 (smallL [x.a, x.b, x.n]).length c7)) = [.int .u8 o3, .string (ruleB x.r), .slice A7 (smallL [x.a, x.b, x.n]).length c7, .int .u8 (stOf x.s), .int .u64 0, .int .u8 q8, .int .i64 x.a] := by rw [HO3.out, HQ8.out]; rfl
          have hR5 : RO (w.heap.size + 1) w5 (.slice A0 n0 c0) names (.slice A4 (nq + 1) c4) (L' ++ [alOf x (.slice A7 (smallL [x.a, x.b, x.n]).length c7)]) := by
            rw [hw5]
            refine RO.put ⟨hR4.named, ?_, fun y hy => ?_⟩ 3 _
            · rw [List.length_append, HQL.out, List.flatMap_append, List.flatMap_singleton, e7]
              exact FreeR.new (rd_of_owns hown4) (fun b hb => by have := owns_ge hown4 b hb; omega)
            · rcases List.mem_append.1 hy with hy | hy
              · exact hR4.labs y hy
              · rw [List.mem_singleton.1 hy]
                exact FreeR.new (rd_of_owns hown5) (fun b hb => by have := owns_ge hown5 b hb; omega)
          have hfit5 : ∀ y ∈ L' ++ [alOf x (.slice A7 (smallL [x.a, x.b, x.n]).length c7)], y.fit := fun y hy => by
            rcases List.mem_append.1 hy with hy | hy
            · exact HFIT.out y hy
            · rw [List.mem_singleton.1 hy]; exact alOf_fit x _ HXO.out
          have HF5 := Lib.hid hfit5
          have HR5 := Lib.hid hR5
          clear e7 hw5 d3 f3 S6 hR4 hown5 hown hown4 hgr4 hb34 hR3 hrd3 hBb e11 hw3 SW hRW hR5 hfit5
          go_wp2_with fail
          go_roundw
          case rel => exact ⟨q + 1, nq + 1, A4, c4, _, by omega, by go_num, by rw [HQN.out]; rfl, by rw [List.length_append, HQL.out]; rfl, HF5.out, HR5.out, S7⟩
          case measure => simp [intOf]; omega
        · obtain rfl : q = nl := by omega
          have hqq : decide ((q : Int) < (q : Int)) = false := by simp
          clear hatL
          obtain ⟨s5, hs5⟩ : ∃ n, n = st % 5 := ⟨_, rfl⟩
          have m5 : (st : Int).tmod 5 = (s5 : Int) := by rw [hs5]; rfl
          have ls5 : s5 < 5 := by omega
          have HS5 := Lib.hid hs5
          have dz := decB_size nt hnt
          have tz : (⟨(textL gp).toArray⟩ : ByteArray).size ≤ 100000000 := by rw [text_size]; exact HGZ.out
          have tz2 : (textL gp).length ≤ 100000000 := HGZ.out
          have hBN := S5.blk 2 rfl
          have F : ∀ w', Below wr.heap.size wr w' → w'.cell? ⟨w.heap.size + 1, 0, none⟩ = some (.int .u64 nt) ∧ w'.cell? ⟨w.heap.size + 1, 1, none⟩ = some (.string to) ∧ w'.cell? ⟨w.heap.size + 1, 2, none⟩ = some (.slice Ag ng cg) := fun w' h => by
            have p := hBN.below h hBN.lt
            exact ⟨p.cell rfl, p.cell rfl, p.cell rfl⟩
          clear hs5 hBN
          go_wp2_with fail
          refine region_free (fun w' => Below wr.heap.size wr w') [] [] (List.range 14) (by kernel_rfl) (by kernel_rfl) (by kernel_rfl) (Below.refl _ _).drew ?_
          simp only [List.range, List.range.loop]
          repeat (first
            | (refine RelSeq.pure_ (c := ?_) rfl rfl ?_ ?_; rotate_left; (focus (intro x w'; dsimp only; go_simp; (try (split; (focus (exfalso; omega)); go_simp)); (repeat' apply And.intro) <;> first | with_reducible rfl | assumption)); simp only [Act.put, List.setIfInBounds_toArray, List.set_cons_zero, List.set_cons_succ])
            | (refine RelSeq.grow_ (c := ?_) rfl rfl ?_ ?_; rotate_left; (focus (intro x w' hw _; dsimp only; obtain ⟨d0, d1, d2⟩ := F w' hw; have hbr := Below.refl w'.heap.size w'; go_simp; (repeat' apply And.intro) <;> first | with_reducible rfl | assumption)); simp only [Act.put, List.setIfInBounds_toArray, List.set_cons_zero, List.set_cons_succ])
            | (refine RelSeq.grow_ (c := ?_) rfl rfl ?_ ?_; rotate_left
               (focus (intro x w' hw _; dsimp only
                       have hbg := (HG.out.below S5.below).below hw
                       go_simp
                       first
                         | (go_at_call 12; refine (refText _ gp _ (by rw [HLg.out]; exact hbg) (by have := HGZ.out; omega)).mono ?_; rintro e w1 ⟨rfl, hb1⟩; have hI1 := hw.trans (hb1.mono hw.size); go_simp; (repeat' apply And.intro) <;> first | with_reducible rfl | assumption)
                         | (go_at_call 11; refine (refItoa _ _ hnt).mono ?_; rintro e w1 ⟨rfl, hb1⟩; have hI1 := hw.trans (hb1.mono hw.size); go_simp; (repeat' apply And.intro) <;> first | with_reducible rfl | assumption)))
               simp only [Act.put, List.setIfInBounds_toArray, List.set_cons_zero, List.set_cons_succ]))
          refine RelSeq.nil_ fun x_ w3 hw3 _ _ => TailSeq.nil_ ?_
          have S6 := S5.grow hw3
          have U0 := (Upd.nil [] w3).nilRow 45 7
          have hR6 := hR.below hw3
          clear S5 hR F hw3
          have g3 := (S6.blk 2 rfl).cell (j := 3) (v := .slice Aq nq cq) rfl
          go_wp2_with fail
          go_loopw [16, 17, 96] (fun sv tv i wr => ∃ (p : Nat) (want : ByteArray), p ≤ nq ∧ i = .int .i64 p ∧ sv = .string want ∧ want = noticeB names nt to gp (L'.take p) ∧ Upd [] w3 [chRow 45 7 tv ((L'.take p).filter fun y => decide (y.st = s5)).length (((L'.take p).filter fun y => decide (y.st = s5)).flatMap al7)] wr) (fun _ _ i _ => nq - (intOf i).toNat)
          case atStart => exact ⟨0, _, Nat.zero_le _, rfl, rfl, rfl, U0⟩
          case round =>
            obtain ⟨p, want, hp, rfl, rfl, hwant, U1⟩ := hrel
            clear U0 g3 dz tz tz2
            have hR7 := hR6.below U1.below
            have S7 := S6.call U1
            simp only [List.cons_append, List.nil_append] at S7
            obtain ⟨Av, cv, rfl⟩ := owns_slice (U1.row 0 rfl)
            have hwz : want.size ≤ 200000003 * (p + 1) := by
              rw [hwant]
              exact noticeB_size names nt to gp L' wr (fun y hy => (HFIT.out y hy).ok (hR7.labs y hy).1) HNZ.out hnt hto HGZ.out p
            have HW := Lib.hid hwant
            clear hwant
            by_cases hpn : p < nq
            · obtain ⟨x, hx⟩ : ∃ x, L'[p]? = some x := ⟨_, List.getElem?_eq_getElem (by rw [HQL.out]; exact hpn)⟩
              have e0 := fun j hj => flat_at al7 7 (fun _ => rfl) L' p x hx j hj
              have hxm := List.mem_of_getElem? hx
              have hxf := HFIT.out x hxm
              have hxr := (hR7.labs x hxm).1
              have hxok := hxf.ok hxr
              have als := alertB_size names x wr hxok HNZ.out
              have ht := take_snocV hx
              have hf : ((L'.take (p + 1)).filter fun y => decide (y.st = s5)) = ((L'.take p).filter fun y => decide (y.st = s5)) ++ if x.st = s5 then [x] else [] := by
                rw [ht, List.filter_append]
                by_cases h : x.st = s5 <;> simp [h]
              have hnx : noticeB names nt to gp (L'.take (p + 1)) = noticeB names nt to gp (L'.take p) ++ lineB names x := by rw [ht, noticeB_snoc]
              have hfl : ((L'.take p).filter fun y => decide (y.st = s5)).length ≤ 64 := by
                have := List.length_filter_le (fun y : AlV => decide (y.st = s5)) (L'.take p)
                rw [List.length_take] at this
                omega
              generalize ((L'.take p).filter fun y => decide (y.st = s5)) = fk at U1 S7 hf hfl ⊢
              obtain ⟨Ax, cx, ex, _⟩ := id hxr
              obtain ⟨nx, hnx2⟩ : ∃ n, n = x.ps.length := ⟨_, rfl⟩
              rw [← hnx2] at ex
              obtain ⟨bq, oq, hAq, hat⟩ : ∃ b o, Aq = some ⟨b, o, none⟩ ∧ RdAt wr b o (L'.flatMap al7) := by
                obtain ⟨_, _, he, _, _, _, h4⟩ := hR7.row.1
                cases he
                exact h4 (by rw [HQL.out]; omega)
              have hxr' : Rd wr 2 (.slice Ax nx cx) x.ps.length (pairCells x.ps) := by rw [← ex]; exact hxr
              have kA := fun w' (h : Below wr.heap.size wr w') => lawAlert (.slice A0 n0 c0) (.int .i64 t1) (.int .u64 t2) (.int .u64 t3) (.int .u64 t4) (.int .u64 t5) (.slice A1 n1 c1) (.slice A2 n2 c2) names x.o x.rule (.slice Ax nx cx) x.ps x.st x.since (.int .u8 x.prio) x.val w' (hR7.nm.below h) hxf.o (hxr'.below h) hxf.st hxf.since hxf.val.1 hxf.val.2 (fun s hs => Nat.le_trans (HNZ.out s hs) (by decide)) (by have := hxf.rule; omega) (by have := hxf.pz; omega)
              obtain ⟨ab, hab⟩ : ∃ ab, ab = alertB names x.o x.rule x.ps x.st x.since x.val := ⟨_, rfl⟩
              rw [← hab] at kA als
              have KA := Lib.hid kA
              have HAB := Lib.hid hab
              have HFK := Lib.hid hf
              have HNX := Lib.hid hnx
              have hbr0 := Below.refl wr.heap.size wr
              have x0 := hat.nth0 hbr0 (p * 7) (.int .u8 x.o) (e0 0 (by omega))
              have x1 := hat.nth hbr0 (p * 7) 1 (.string x.rule) (e0 1 (by omega))
              have x2 := hat.nth hbr0 (p * 7) 2 (.slice Ax nx cx) (by rw [← ex]; exact e0 2 (by omega))
              have x3 := hat.nth hbr0 (p * 7) 3 (.int .u8 x.st) (e0 3 (by omega))
              have x4 := hat.nth hbr0 (p * 7) 4 (.int .u64 x.since) (e0 4 (by omega))
              have x5 := hat.nth hbr0 (p * 7) 5 (.int .u8 x.prio) (e0 5 (by omega))
              have x6 := hat.nth hbr0 (p * 7) 6 (.int .i64 x.val) (e0 6 (by omega))
              have b0 := (S7.blk 1 rfl)
              have tb0 := b0.cell (j := 0) (v := .slice A0 n0 c0) rfl
              have tb1 := b0.cell (j := 1) (v := .int .i64 t1) rfl
              have tb2 := b0.cell (j := 2) (v := .int .u64 t2) rfl
              have tb3 := b0.cell (j := 3) (v := .int .u64 t3) rfl
              have tb4 := b0.cell (j := 4) (v := .int .u64 t4) rfl
              have tb5 := b0.cell (j := 5) (v := .int .u64 t5) rfl
              have tb6 := b0.cell (j := 6) (v := .slice A1 n1 c1) rfl
              have tb7 := b0.cell (j := 7) (v := .slice A2 n2 c2) rfl
              have hgl := b0.lt
              have U2 := U1.grow (hbr0.alloc (Nat.le_refl _) (.cells #[.int .u8 x.o, .string x.rule, .slice Ax nx cx, .int .u8 x.st, .int .u64 x.since, .int .u8 x.prio, .int .i64 x.val] 45))
              have XBx : Blk (wr.alloc (.cells #[.int .u8 x.o, .string x.rule, .slice Ax nx cx, .int .u8 x.st, .int .u64 x.since, .int .u8 x.prio, .int .i64 x.val] 45)) wr.heap.size #[.int .u8 x.o, .string x.rule, .slice Ax nx cx, .int .u8 x.st, .int .u64 x.since, .int .u8 x.prio, .int .i64 x.val] 45 := Blk.new _ _ _
              have EX := Lib.hid ex
              have EAq := Lib.hid hAq
              rw [hAq]
              clear hx e0 hxm hxr hxr' hxok ht hf hnx kA hab hnx2 hat ex hAq S7 hR7 b0 hxf U1
              go_wp2_with fail
              (with_reducible refine (KA.out _ (hbr0.alloc (Nat.le_refl _) _)).mono ?_)
              rintro e w8 ⟨rfl, hb8⟩
              have U3 := U2.grow hb8
              have XB9 := XBx.below hb8 XBx.lt
              clear U2 hb8 KA XBx hbr0 x0 x1 x2 x3 x4 x5 x6 tb0 tb1 tb2 tb3 tb4 tb5 tb6 tb7
              have xc0 := XB9.cell (j := 0) (v := .int .u8 x.o) rfl
              have xc1 := XB9.cell (j := 1) (v := .string x.rule) rfl
              have xc2 := XB9.cell (j := 2) (v := .slice Ax nx cx) rfl
              have xc3 := XB9.cell (j := 3) (v := .int .u8 x.st) rfl
              have xc4 := XB9.cell (j := 4) (v := .int .u64 x.since) rfl
              have xc5 := XB9.cell (j := 5) (v := .int .u8 x.prio) rfl
              have xc6 := XB9.cell (j := 6) (v := .int .i64 x.val) rfl
              have hw8 : wr.heap.size < w8.heap.size := XB9.lt
              by_cases hs : x.st = s5
              · have hs1 : ((x.st : Int) == (s5 : Int)) = true := by simp [hs]
                have HS := Lib.hid hs
                clear hs
                go_wp2_with (at_builtin; refine wpl_stop fun W hW => ?_)
                refine Stopped.mk ?_
                (try rw [← hW])
                have T2 := (U3.alloc #[.int .u8 x.o, .string x.rule, .slice Ax nx cx, .int .u8 x.st, .int .u64 x.since, .int .u8 x.prio, .int .i64 x.val] 45).same hW
                clear hW U3 XB9 xc0 xc1 xc2 xc3 xc4 xc5 xc6
                refine wpl_append_rd rfl (.tmp 112) (.tmp 114) 50 rfl 0 45 i0 _ 7 80 Try.underlying50 hi hz0 hz1 hz2 rfl (by decide) _ fk.length _ rfl (T2.row 1 rfl) _ 1 _ rfl (rd_one (T2.blk 0 rfl) (n := 7) rfl) (by intro u hu; simp at hu; rcases hu with rfl | rfl | rfl | rfl | rfl | rfl | rfl <;> rfl) (by unfold maxLen; omega) (by omega) (Nat.zero_le _) fun v4 w4 hown4 hgr4 hv4 => ?_
                have T3 := (T2.app 1 rfl hown4 hgr4 hv4).pick [0] (by decide)
                simp only [List.filterMap_cons, List.filterMap_nil, List.getElem?_cons_zero] at T3
                obtain ⟨A4, c4, rfl⟩ := owns_slice hown4
                clear hown4 hgr4 hv4 T2
                go_wp2_with fail
                go_roundw
                case rel =>
                  have e8 : al7 x = [.int .u8 x.o, .string x.rule, .slice Ax nx cx, .int .u8 x.st, .int .u64 x.since, .int .u8 x.prio, .int .i64 x.val] := by unfold al7; rw [EX.out]
                  refine ⟨p + 1, _, by omega, by go_num, rfl, by rw [HNX.out, ← HW.out]; unfold lineB; rw [← HAB.out], ?_⟩
                  rw [HFK.out, if_pos HS.out, List.length_append, List.flatMap_append, List.flatMap_singleton, e8]
                  exact T3
                case measure => simp [intOf]; omega
              · have hs1 : ((x.st : Int) == (s5 : Int)) = false := by simp; omega
                have HS := Lib.hid hs
                clear hs
                go_wp2_with fail
                go_roundw
                case rel =>
                  refine ⟨p + 1, _, by omega, by go_num, rfl, by rw [HNX.out, ← HW.out]; unfold lineB; rw [← HAB.out], ?_⟩
                  rw [HFK.out, if_neg HS.out, List.append_nil]
                  exact U3
                case measure => simp [intOf]; omega
            · obtain rfl : p = nq := by omega
              have hpp : decide ((p : Int) < (p : Int)) = false := by simp
              have htk : L'.take p = L' := by rw [← HQL.out, List.take_length]
              rw [htk] at U1 ⊢
              have hwt : want = noticeB names nt to gp L' := by rw [HW.out, htk]
              clear htk
              have HWT := Lib.hid hwt
              have HFITR := Lib.hid (show ∀ w', Below wr.heap.size wr w' → ∀ y ∈ L', y.ok w' from fun w' h y hy => (HFIT.out y hy).ok ((hR7.labs y hy).1.below h))
              have hshp : ∀ y ∈ L', ∃ A n c, y.lv = .slice A n c := fun y hy => by
                obtain ⟨A, c, e, _⟩ := (hR7.labs y hy).1
                exact ⟨A, _, c, e⟩
              have kT := fun w' (h : Below wr.heap.size wr w') => viewTold nt to Ag ng cg (.slice Aq p cq) L' s5 w' (hR7.row.1.below h) hshp (by rw [HQL.out]; omega)
              have hfl : (L'.filter fun y => decide (y.st = s5)).length ≤ 64 := by
                have := List.length_filter_le (fun y : AlV => decide (y.st = s5)) L'
                rw [HQL.out] at this
                omega
              have hfm : ∀ y ∈ (L'.filter fun y => decide (y.st = s5)), y ∈ L' := fun y hy => (List.mem_filter.1 hy).1
              generalize (L'.filter fun y => decide (y.st = s5)) = fl at U1 kT hfl hfm ⊢
              have KT := Lib.hid kT
              have HFM := Lib.hid hfm
              obtain ⟨nf, hnf⟩ : ∃ n, n = fl.length := ⟨_, rfl⟩
              have hnf64 : nf ≤ 64 := by omega
              have nb := S7.blk 3 rfl
              have nb0 := nb.cell (j := 0) (v := .int .u64 nt) rfl
              have nb1 := nb.cell (j := 1) (v := .string to) rfl
              have nb2 := nb.cell (j := 2) (v := .slice Ag ng cg) rfl
              have nb3 := nb.cell (j := 3) (v := .slice Aq p cq) rfl
              clear nb hshp kT hwt hfm hR7 S7
              go_wp2_with fail
              (with_reducible refine (KT.out _ (Below.refl _ _)).mono ?_)
              rintro e w4 ⟨vg, rfl, hvg, hb4⟩
              have U2 := U1.addRow hb4 hvg (Nat.le_refl _)
              obtain ⟨AG, cG, rfl⟩ := owns_slice hvg
              rw [← hnf] at U2 ⊢
              have HNF := Lib.hid hnf
              clear U1 hvg hb4 KT nb0 nb1 nb2 nb3 hnf
              have S8 := S6.call U2
              simp only [List.cons_append, List.nil_append] at S8
              have hR8 := hR6.below U2.below
              have hbN := S8.blk 4 rfl
              have hbT := S8.blk 2 rfl
              have hbA := S8.blk 3 rfl
              have F : ∀ w', Below w4.heap.size w4 w' → w'.cell? ⟨gT, 0, none⟩ = some (.slice A0 n0 c0) ∧ w'.cell? ⟨gT, 1, none⟩ = some (.int .i64 t1) ∧ w'.cell? ⟨gT, 2, none⟩ = some (.int .u64 t2) ∧ w'.cell? ⟨gT, 3, none⟩ = some (.int .u64 t3) ∧ w'.cell? ⟨gT, 4, none⟩ = some (.int .u64 t4) ∧ w'.cell? ⟨gT, 5, none⟩ = some (.int .u64 t5) ∧ w'.cell? ⟨gT, 6, none⟩ = some (.slice A1 n1 c1) ∧ w'.cell? ⟨gT, 7, none⟩ = some (.slice A2 n2 c2) ∧ w'.cell? ⟨w.heap.size + 1, 0, none⟩ = some (.int .u64 nt) ∧ w'.cell? ⟨w.heap.size + 1, 1, none⟩ = some (.string to) ∧ w'.cell? ⟨w.heap.size + 1, 2, none⟩ = some (.slice Ag ng cg) ∧ w'.cell? ⟨w.heap.size + 1, 3, none⟩ = some (.slice Aq p cq) ∧ w'.cell? ⟨w.heap.size + 1 + 1, 0, none⟩ = some (.int .u8 a.o) ∧ w'.cell? ⟨w.heap.size + 1 + 1, 1, none⟩ = some (.string a.rule) ∧ w'.cell? ⟨w.heap.size + 1 + 1, 2, none⟩ = some (.slice Aa na ca) ∧ w'.cell? ⟨w.heap.size + 1 + 1, 3, none⟩ = some (.int .u8 a.st) ∧ w'.cell? ⟨w.heap.size + 1 + 1, 4, none⟩ = some (.int .u64 a.since) ∧ w'.cell? ⟨w.heap.size + 1 + 1, 5, none⟩ = some (.int .u8 a.prio) ∧ w'.cell? ⟨w.heap.size + 1 + 1, 6, none⟩ = some (.int .i64 a.val) := fun w' h => by
                have p1 := hbN.below h hbN.lt
                have p2 := hbT.below h hbT.lt
                have p3 := hbA.below h hbA.lt
                exact ⟨p2.cell rfl, p2.cell rfl, p2.cell rfl, p2.cell rfl, p2.cell rfl, p2.cell rfl, p2.cell rfl, p2.cell rfl, p1.cell rfl, p1.cell rfl, p1.cell rfl, p1.cell rfl, p3.cell rfl, p3.cell rfl, p3.cell rfl, p3.cell rfl, p3.cell rfl, p3.cell rfl, p3.cell rfl⟩
              have hN := fun w' (h : Below w4.heap.size w4 w') => viewNotice (.slice A0 n0 c0) (.int .i64 t1) (.int .u64 t2) (.int .u64 t3) (.int .u64 t4) (.int .u64 t5) (.slice A1 n1 c1) (.slice A2 n2 c2) names nt to (.slice Ag ng cg) gp (.slice Aq p cq) L' w' ((hR8.below h).nm) HNZ.out (by rw [HLg.out]; exact (HG.out.below S8.below).below h) HGZ.out hto hnt (by have := (hR8.below h).row.1; exact this) (fun y hy => (HFIT.out y hy).ok ((hR8.below h).labs y hy).1) (by rw [HQL.out]; omega)
              rw [← HWT.out] at hN
              have hwz2 : want.size ≤ 200000003 * (p + 1) := hwz
              have hAl := fun w' (h : Below w4.heap.size w4 w') => viewAlert (.slice A0 n0 c0) (.int .i64 t1) (.int .u64 t2) (.int .u64 t3) (.int .u64 t4) (.int .u64 t5) (.slice A1 n1 c1) (.slice A2 n2 c2) names a.o a.rule (.slice Aa na ca) a.ps a.st a.since (.int .u8 a.prio) a.val w' (hR8.below h).nm HF.out.o (by rw [HLa.out]; exact (HA.out.below S8.below).below h) HF.out.since HF.out.val.1 HF.out.val.2 (fun s hs => Nat.le_trans (HNZ.out s hs) (by decide)) (by have := HF.out.rule; omega) (by have := HF.out.pz; omega)
              have hLa := fun w' (h : Below w4.heap.size w4 w') => lawAlert (.slice A0 n0 c0) (.int .i64 t1) (.int .u64 t2) (.int .u64 t3) (.int .u64 t4) (.int .u64 t5) (.slice A1 n1 c1) (.slice A2 n2 c2) names a.o a.rule (.slice Aa na ca) a.ps a.st a.since (.int .u8 a.prio) a.val w' (hR8.below h).nm HF.out.o (by rw [HLa.out]; exact (HA.out.below S8.below).below h) HF.out.st HF.out.since HF.out.val.1 HF.out.val.2 (fun s hs => Nat.le_trans (HNZ.out s hs) (by decide)) (by have := HF.out.rule; omega) (by have := HF.out.pz; omega)
              generalize alertB names a.o a.rule a.ps a.st a.since a.val = ab2 at hAl hLa
              have KN := Lib.hid hN
              have KAL := Lib.hid hAl
              have KLA := Lib.hid hLa
              clear hN hAl hLa hwz2 hbN hbT hbA
              go_wp2_with fail
              refine region_free (fun w' => Below w4.heap.size w4 w') [] [] (List.range 28) (by kernel_rfl) (by kernel_rfl) (by kernel_rfl) (Below.refl _ _).drew ?_
              simp only [List.range, List.range.loop]
              repeat (first
                | (refine RelSeq.pure_ (c := ?_) rfl rfl ?_ ?_; rotate_left; (focus (intro x w'; dsimp only; go_simp; (repeat' apply And.intro) <;> first | with_reducible rfl | assumption)); simp only [Act.put, List.setIfInBounds_toArray, List.set_cons_zero, List.set_cons_succ])
                | (refine RelSeq.pureG_ (c := ?_) rfl (fun _ => rfl) rfl ?_ ?_; rotate_left; (focus (intro x w'; dsimp only; go_simp; (repeat' apply And.intro) <;> first | with_reducible rfl | assumption)); simp only [Act.put, List.setIfInBounds_toArray, List.set_cons_zero, List.set_cons_succ])
                | (refine RelSeq.grow_ (c := ?_) rfl rfl ?_ ?_; rotate_left; (focus (intro x w' hw _; dsimp only; obtain ⟨d0, d1, d2, d3, d4, d5, d6, d7, d8, d9, d10, d11, d12, d13, d14, d15, d16, d17, d18⟩ := F w' hw; have hbr := Below.refl w'.heap.size w'; go_simp; (repeat' apply And.intro) <;> first | with_reducible rfl | assumption)); simp only [Act.put, List.setIfInBounds_toArray, List.set_cons_zero, List.set_cons_succ])
                | (refine RelSeq.growG_ (c := ?_) rfl (fun _ => rfl) rfl ?_ ?_; rotate_left; (focus (intro x w' hw _; dsimp only; obtain ⟨d0, d1, d2, d3, d4, d5, d6, d7, d8, d9, d10, d11, d12, d13, d14, d15, d16, d17, d18⟩ := F w' hw; have hbr := Below.refl w'.heap.size w'; go_simp; (repeat' apply And.intro) <;> first | with_reducible rfl | assumption)); simp only [Act.put, List.setIfInBounds_toArray, List.set_cons_zero, List.set_cons_succ])
                | (refine RelSeq.grow_ (c := ?_) rfl rfl ?_ ?_; rotate_left; (focus (intro x w' hw _; dsimp only; have hbr := Below.refl w'.heap.size w'; go_simp; (first
                    | (go_at_call 15; refine (KN.out _ hw).mono ?_; rintro e w1 ⟨rfl, hb1⟩; have hI1 := hw.trans (hb1.mono hw.size); go_simp; (repeat' apply And.intro) <;> first | with_reducible rfl | assumption)
                    | (go_at_call 10; refine (KAL.out _ hw).mono ?_; rintro e w1 ⟨rfl, hb1⟩; have hI1 := hw.trans (hb1.mono hw.size); go_simp; (repeat' apply And.intro) <;> first | with_reducible rfl | assumption)
                    | (go_at_call 13; refine (KLA.out _ hw).mono ?_; rintro e w1 ⟨rfl, hb1⟩; have hI1 := hw.trans (hb1.mono hw.size); go_simp; (repeat' apply And.intro) <;> first | with_reducible rfl | assumption)
                    | (go_at_call 16; refine (viewState _ _).mono ?_; rintro e w1 ⟨rfl, rfl⟩; have hI1 := hw; go_simp; (repeat' apply And.intro) <;> first | with_reducible rfl | assumption)
                    | (go_at_call 17; refine (lawWord _ hst _).mono ?_; rintro e w1 ⟨rfl, hb1⟩; have hI1 := hw.trans (hb1.mono hw.size); go_simp; (repeat' apply And.intro) <;> first | with_reducible rfl | assumption)))); simp only [Act.put, List.setIfInBounds_toArray, List.set_cons_zero, List.set_cons_succ])
                | (refine RelSeq.growG_ (c := ?_) rfl (fun _ => rfl) rfl ?_ ?_; rotate_left; (focus (intro x w' hw _; dsimp only; have hbr := Below.refl w'.heap.size w'; go_simp; (first
                    | (go_at_call 15; refine (KN.out _ hw).mono ?_; rintro e w1 ⟨rfl, hb1⟩; have hI1 := hw.trans (hb1.mono hw.size); go_simp; (repeat' apply And.intro) <;> first | with_reducible rfl | assumption)
                    | (go_at_call 10; refine (KAL.out _ hw).mono ?_; rintro e w1 ⟨rfl, hb1⟩; have hI1 := hw.trans (hb1.mono hw.size); go_simp; (repeat' apply And.intro) <;> first | with_reducible rfl | assumption)
                    | (go_at_call 13; refine (KLA.out _ hw).mono ?_; rintro e w1 ⟨rfl, hb1⟩; have hI1 := hw.trans (hb1.mono hw.size); go_simp; (repeat' apply And.intro) <;> first | with_reducible rfl | assumption)
                    | (go_at_call 16; refine (viewState _ _).mono ?_; rintro e w1 ⟨rfl, rfl⟩; have hI1 := hw; go_simp; (repeat' apply And.intro) <;> first | with_reducible rfl | assumption)
                    | (go_at_call 17; refine (lawWord _ hst _).mono ?_; rintro e w1 ⟨rfl, hb1⟩; have hI1 := hw.trans (hb1.mono hw.size); go_simp; (repeat' apply And.intro) <;> first | with_reducible rfl | assumption)))); simp only [Act.put, List.setIfInBounds_toArray, List.set_cons_zero, List.set_cons_succ]))
              refine RelSeq.nil_ fun x_ w5 hw5 _ _ => TailSeq.nil_ ?_
              have U3 := U2.grow hw5
              have hR9 := hR8.below hw5
              clear F hw5 U2 S8 hR8 KN KAL KLA
              go_wp2_with fail
              go_loopw [151] (fun i wr => ∃ q2, q2 ≤ nf ∧ i = .int .i64 q2 ∧ Upd [] w3 [chRow 45 7 (.slice AG nf cG) nf (fl.flatMap al7), chRow 45 7 (.slice Av nf cv) nf (fl.flatMap al7)] wr) (fun i _ => nf - (intOf i).toNat)
              case atStart => exact ⟨0, Nat.zero_le _, rfl, U3⟩
              case round =>
                obtain ⟨q2, hq2, rfl, U4⟩ := hrel
                clear U3 hR9
                have hR10 := hR6.below U4.below
                by_cases hqf : q2 < nf
                · obtain ⟨x, hx⟩ : ∃ x, fl[q2]? = some x := ⟨_, List.getElem?_eq_getElem (by rw [← HNF.out]; exact hqf)⟩
                  have e0 := fun j hj => flat_at al7 7 (fun _ => rfl) fl q2 x hx j hj
                  have hxr := (hR10.labs x (HFM.out x (List.mem_of_getElem? hx))).1
                  obtain ⟨b1', o1', hA1, hat1⟩ : ∃ b o, AG = some ⟨b, o, none⟩ ∧ RdAt wr b o (fl.flatMap al7) := by
                    obtain ⟨_, _, he, _, _, _, h4⟩ := rd_of_owns (U4.row 0 rfl)
                    cases he
                    exact h4 (by omega)
                  obtain ⟨b2', o2', hA2, hat2⟩ : ∃ b o, Av = some ⟨b, o, none⟩ ∧ RdAt wr b o (fl.flatMap al7) := by
                    obtain ⟨_, _, he, _, _, _, h4⟩ := rd_of_owns (U4.row 1 rfl)
                    cases he
                    exact h4 (by omega)
                  subst hA1 hA2
                  have F : ∀ w', Below wr.heap.size wr w' → w'.cell? ⟨b1', o1' + q2 * 7, none⟩ = some (.int .u8 x.o) ∧ w'.cell? ⟨b1', o1' + q2 * 7 + 1, none⟩ = some (.string x.rule) ∧ w'.cell? ⟨b1', o1' + q2 * 7 + 2, none⟩ = some (x.lv) ∧ w'.cell? ⟨b1', o1' + q2 * 7 + 3, none⟩ = some (.int .u8 x.st) ∧ w'.cell? ⟨b1', o1' + q2 * 7 + 4, none⟩ = some (.int .u64 x.since) ∧ w'.cell? ⟨b1', o1' + q2 * 7 + 5, none⟩ = some (.int .u8 x.prio) ∧ w'.cell? ⟨b1', o1' + q2 * 7 + 6, none⟩ = some (.int .i64 x.val) ∧ w'.cell? ⟨b2', o2' + q2 * 7, none⟩ = some (.int .u8 x.o) ∧ w'.cell? ⟨b2', o2' + q2 * 7 + 1, none⟩ = some (.string x.rule) ∧ w'.cell? ⟨b2', o2' + q2 * 7 + 2, none⟩ = some (x.lv) ∧ w'.cell? ⟨b2', o2' + q2 * 7 + 3, none⟩ = some (.int .u8 x.st) ∧ w'.cell? ⟨b2', o2' + q2 * 7 + 4, none⟩ = some (.int .u64 x.since) ∧ w'.cell? ⟨b2', o2' + q2 * 7 + 5, none⟩ = some (.int .u8 x.prio) ∧ w'.cell? ⟨b2', o2' + q2 * 7 + 6, none⟩ = some (.int .i64 x.val) := fun w' h =>
                    ⟨hat1.nth0 h (q2 * 7) (.int .u8 x.o) (e0 0 (by omega)), hat1.nth h (q2 * 7) 1 (.string x.rule) (e0 1 (by omega)), hat1.nth h (q2 * 7) 2 (x.lv) (e0 2 (by omega)), hat1.nth h (q2 * 7) 3 (.int .u8 x.st) (e0 3 (by omega)), hat1.nth h (q2 * 7) 4 (.int .u64 x.since) (e0 4 (by omega)), hat1.nth h (q2 * 7) 5 (.int .u8 x.prio) (e0 5 (by omega)), hat1.nth h (q2 * 7) 6 (.int .i64 x.val) (e0 6 (by omega)), hat2.nth0 h (q2 * 7) (.int .u8 x.o) (e0 0 (by omega)), hat2.nth h (q2 * 7) 1 (.string x.rule) (e0 1 (by omega)), hat2.nth h (q2 * 7) 2 (x.lv) (e0 2 (by omega)), hat2.nth h (q2 * 7) 3 (.int .u8 x.st) (e0 3 (by omega)), hat2.nth h (q2 * 7) 4 (.int .u64 x.since) (e0 4 (by omega)), hat2.nth h (q2 * 7) 5 (.int .u8 x.prio) (e0 5 (by omega)), hat2.nth h (q2 * 7) 6 (.int .i64 x.val) (e0 6 (by omega))⟩
                  have kS := fun w' (h : Below wr.heap.size wr w') => sameAlertSelf' x w' (hxr.below h)
                  have KSS := Lib.hid kS
                  clear hx e0 hxr hat1 hat2 kS hR10
                  go_wp2_with fail
                  refine region_free (fun w' => Below wr.heap.size wr w') [] [] (List.range 10) (by kernel_rfl) (by kernel_rfl) (by kernel_rfl) (Below.refl _ _).drew ?_
                  simp only [List.range, List.range.loop]
                  repeat (first
                    | (refine RelSeq.pure_ (c := ?_) rfl rfl ?_ ?_; rotate_left; (focus (intro x w'; dsimp only; go_simp; (repeat' apply And.intro) <;> first | with_reducible rfl | assumption)); simp only [Act.put, List.setIfInBounds_toArray, List.set_cons_zero, List.set_cons_succ])
                    | (refine RelSeq.pureG_ (c := ?_) rfl (fun _ => rfl) rfl ?_ ?_; rotate_left; (focus (intro x w'; dsimp only; go_simp; (repeat' apply And.intro) <;> first | with_reducible rfl | assumption)); simp only [Act.put, List.setIfInBounds_toArray, List.set_cons_zero, List.set_cons_succ])
                    | (refine RelSeq.grow_ (c := ?_) rfl rfl ?_ ?_; rotate_left; (focus (intro x w' hw _; dsimp only; obtain ⟨d0, d1, d2, d3, d4, d5, d6, d7, d8, d9, d10, d11, d12, d13⟩ := F w' hw; have hbr := Below.refl w'.heap.size w'; go_simp; (repeat' apply And.intro) <;> first | with_reducible rfl | assumption)); simp only [Act.put, List.setIfInBounds_toArray, List.set_cons_zero, List.set_cons_succ])
                    | (refine RelSeq.growG_ (c := ?_) rfl (fun _ => rfl) rfl ?_ ?_; rotate_left; (focus (intro x w' hw _; dsimp only; obtain ⟨d0, d1, d2, d3, d4, d5, d6, d7, d8, d9, d10, d11, d12, d13⟩ := F w' hw; have hbr := Below.refl w'.heap.size w'; go_simp; (repeat' apply And.intro) <;> first | with_reducible rfl | assumption)); simp only [Act.put, List.setIfInBounds_toArray, List.set_cons_zero, List.set_cons_succ])
                    | (refine RelSeq.grow_ (c := ?_) rfl rfl ?_ ?_; rotate_left; (focus (intro x w' hw _; dsimp only; have hbr := Below.refl w'.heap.size w'; go_simp; (first
                        | (go_at_call 18; refine (KSS.out _ hw).mono ?_; rintro e w1 ⟨rfl, hb1⟩; have hI1 := hw.trans (hb1.mono hw.size); go_simp; (repeat' apply And.intro) <;> first | with_reducible rfl | assumption)))); simp only [Act.put, List.setIfInBounds_toArray, List.set_cons_zero, List.set_cons_succ])
                    | (refine RelSeq.growG_ (c := ?_) rfl (fun _ => rfl) rfl ?_ ?_; rotate_left; (focus (intro x w' hw _; dsimp only; have hbr := Below.refl w'.heap.size w'; go_simp; (first
                        | (go_at_call 18; refine (KSS.out _ hw).mono ?_; rintro e w1 ⟨rfl, hb1⟩; have hI1 := hw.trans (hb1.mono hw.size); go_simp; (repeat' apply And.intro) <;> first | with_reducible rfl | assumption)))); simp only [Act.put, List.setIfInBounds_toArray, List.set_cons_zero, List.set_cons_succ]))
                  refine RelSeq.nil_ fun x_ w6 hw6 _ _ => TailSeq.nil_ ?_
                  have U5 := U4.grow hw6
                  clear F hw6 U4 KSS
                  go_wp2_with fail
                  go_roundw
                  case rel => exact ⟨q2 + 1, by omega, by go_num, U5⟩
                  case measure => simp [intOf]; omega
                · obtain rfl : q2 = nf := by omega
                  have hqq2 : decide ((q2 : Int) < (q2 : Int)) = false := by simp
                  have hend := (S6.call U4).below
                  clear U4 hR10
                  go_wp2_with fail
                  go_ret
                  exact ⟨rfl, hend⟩
end
end Go.Proofs.Ytdghpjkjhlankaa
