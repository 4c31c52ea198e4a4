/-
  RulesAsks: any rule and series: whether it asks; the alert's labels; the same, and unlike ones.
-/
import Derived.Test.YtebnbbbiobaneaaGreatDoorRuAwk
import Derived.Test.YtebnbbbiobaneaaGreatDoorRuS
import Derived.Test.YtebnbbbiobaneaaGreatDoorRuT
import Derived.Test.YtebnbbbiobaneaaGreatDoorRuE
import Derived.Test.YtebnbbbiobaneaaGreatDoorRuM
import Derived.Deep.CutRange
import Derived.RegionTactic
import Derived.BigRegion
namespace Go.Proofs.YtebnbbbiobaneaaGreatDoor
open Go.RowKit FreeNew
set_option maxRecDepth 100000
attribute [local go_sem] out

theorem tail_gen {P : Program} {ops : Array Oper} {Q : Exit → Act → World → Prop} {l : List Nat} {a : Act} {w : World} (h : ∀ w', w' = w → TailSeq P ops Q l a w') : TailSeq P ops Q l a w := h w rfl
theorem Upd.add2 {S : List Nat} {w0 w w' : World} {C : List Chunk} (h : Upd S w0 C w) (hb : Below w.heap.size w w') (c d : Chunk) (hc : c.P w') (hd : d.P w') (hn : ∀ b ∈ c.fp, w.heap.size ≤ b) (hm : ∀ b ∈ d.fp, w.heap.size ≤ b) (hap : ∀ b ∈ c.fp, b ∉ d.fp) : Upd S w0 (c :: d :: C) w' := by
  refine h.call (R := [c, d]) ⟨hb.os, hb.tape, hb.output, hb.size, fun k hk _ => hb.block k hk, fun e he => ?_, fun e he b hbb => ?_, ?_⟩
  · rcases List.mem_cons.1 he with rfl | he
    · exact hc
    · rw [List.mem_singleton.1 he]; exact hd
  · rcases List.mem_cons.1 he with rfl | he
    · exact .inr (hn b hbb)
    · rw [List.mem_singleton.1 he] at hbb; exact .inr (hm b hbb)
  · refine List.pairwise_cons.2 ⟨fun e he b hbb => ?_, by simp⟩
    rw [List.mem_singleton.1 he]
    exact hap b hbb
theorem RuV.good.but {r : RuV} {w w' : World} {base b : Nat} {cs : Array Value} (h : r.good w base) (hB : Blk w b cs 63) (hb : But b w w') : r.good w' base :=
  ⟨h.nm, h.me, h.iz, h.wz, h.k, h.pr, owns_but h.io hB hb (by decide), owns_but h.wo hB hb (by decide)⟩
theorem lift40a {α : Type} (a b : List α) (i : Nat) (v : α) (_h : True) (hi : a[i]? = some v) : (a ++ b)[i]? = some v := by
  rw [List.getElem?_append_left (List.getElem?_eq_some_iff.1 hi).1]; exact hi
theorem sm7_self (nm me : ByteArray) (ps1 ps2 : List Pr) (k lim tk fo ke pr : Int) : sm7 (decide (nm = nm)) (decide (me = me)) (sameB ps1 ps1) ((k == k) && (lim == lim) && (tk == tk)) ((fo == fo) && (ke == ke)) (pr == pr) (sameB ps2 ps2) = true := by simp [sm7, sameB]
theorem smallRuleB (s : SmR) (hs : s.ok) (w : World) :
    Calls Tryz.prog 25 #[.agg #[.int .u8 s.nm, .int .u8 s.me, .int .u8 s.fi, .int .u8 s.wi, .int .u8 s.k, .int .i16 s.m, .int .u8 s.t, .int .u8 s.fo, .int .u8 s.ke, .int .u8 s.pr]] w fun e w' => ∃ (nmx mex : ByteArray) (A1x : Option Addr) (q1x : Nat) (ps1x : List Pr) (kx : Nat) (limx : Int) (tkx fox kex prx : Nat) (A2x : Option Addr) (q2x : Nat) (ps2x : List Pr), e = .returned (.agg #[.string nmx, .string mex, .slice A1x ps1x.length q1x, .int .u8 kx, .int .i64 limx, .int .u64 tkx, .int .u64 fox, .int .u64 kex, .int .u8 prx, .slice A2x ps2x.length q2x]) ∧ ((RuV.mk nmx mex (.slice A1x ps1x.length q1x) ps1x kx limx tkx fox kex prx (.slice A2x ps2x.length q2x) ps2x).good w' w.heap.size ∧ ps2x.length ≤ 3) ∧ Below w.heap.size w w' := by
  refine (smallRule s.nm s.me s.fi s.wi s.k s.t s.fo s.ke s.pr s.m hs.1 hs.2.1 hs.2.2 w).mono ?_
  rintro e w' ⟨v1, v2, rfl, o1, o2, hb⟩
  obtain ⟨A1, q1, rfl⟩ := owns_slice o1
  obtain ⟨A2, q2, rfl⟩ := owns_slice o2
  have n1 : (ruleNameB s.nm).size ≤ maxLen := by unfold ruleNameB maxLen; (repeat' split) <;> decide
  have n2 : (ruleMetB s.me).size ≤ maxLen := by unfold ruleMetB maxLen; split <;> decide
  exact ⟨_, _, A1, q1, _, _, _, _, _, _, _, A2, q2, _, rfl, ⟨⟨n1, n2, labL_small _, labL_small _, by show 1 + s.k % 5 < 256; omega, by show s.pr % 8 < 256; omega, o1, o2⟩, labTo_len s.wi 3⟩, hb⟩
set_option maxHeartbeats 16000000 in
theorem rulesAsksWalk (nm me : ByteArray) (A1 : Option Addr) (q1 : Nat) (ps1 : List Pr) (k : Nat) (lim : Int) (tk fo ke pr : Nat) (A2 : Option Addr) (q2 : Nat) (ps2 : List Pr) (nm' me' : ByteArray) (A1' : Option Addr) (q1' : Nat) (ps1' : List Pr) (k' : Nat) (lim' : Int) (tk' fo' ke' pr' : Nat) (A2' : Option Addr) (q2' : Nat) (ps2' : List Pr) (s t : SmR) (mtr : ByteArray) (vl : Value) (l : List Pr) (mx : Int) (w : World)
    (ha : (RuV.mk nm me (.slice A1 ps1.length q1) ps1 k lim tk fo ke pr (.slice A2 ps2.length q2) ps2).ok w) (hb : (RuV.mk nm' me' (.slice A1' ps1'.length q1') ps1' k' lim' tk' fo' ke' pr' (.slice A2' ps2'.length q2') ps2').ok w) (hs : s.ok) (ht : t.ok) (hmet : mtr.size ≤ maxLen) (hl : Rd w 2 vl l.length (pairCells l)) (hlz : ∀ p ∈ l, p.1.size ≤ maxLen ∧ p.2.size ≤ maxLen) (hsum : ps1.length + ps2.length + ps1'.length + ps2'.length + l.length ≤ 4611686018427387904) (hm : w.cell? ⟨2, 0, none⟩ = some (.int .i64 mx)) (hT : Lib.TabIs Tryz.prog w "strings.asciiSpace" .u8 Lib.asciiSpaceTab) :
    Calls Tryz.prog 4 #[.agg #[.string nm, .string me, .slice A1 ps1.length q1, .int .u8 k, .int .i64 lim, .int .u64 tk, .int .u64 fo, .int .u64 ke, .int .u8 pr, .slice A2 ps2.length q2], .agg #[.string nm', .string me', .slice A1' ps1'.length q1', .int .u8 k', .int .i64 lim', .int .u64 tk', .int .u64 fo', .int .u64 ke', .int .u8 pr', .slice A2' ps2'.length q2'], .agg #[.int .u8 s.nm, .int .u8 s.me, .int .u8 s.fi, .int .u8 s.wi, .int .u8 s.k, .int .i16 s.m, .int .u8 s.t, .int .u8 s.fo, .int .u8 s.ke, .int .u8 s.pr], .agg #[.int .u8 t.nm, .int .u8 t.me, .int .u8 t.fi, .int .u8 t.wi, .int .u8 t.k, .int .i16 t.m, .int .u8 t.t, .int .u8 t.fo, .int .u8 t.ke, .int .u8 t.pr], .string mtr, vl] w fun e w' => e = .returned (.bool true) ∧ Below w.heap.size w w' := by
  have htab : Tryz.prog.globalNamed "strings.asciiSpace" = some 0 := by kernel_rfl
  have KA := fun w' (hb : Below w.heap.size w w') (hc : w'.cell? ⟨2, 0, none⟩ = some (.int .i64 mx)) => awake15 mx w' hc (Joins.tab_stays htab hT hb (Nat.le_refl _))
  obtain ⟨Al, cl, rfl, _⟩ := id hl
  have HA := Lib.hid ha
  have HB := Lib.hid hb
  have HL := Lib.hid (And.intro hl hlz)
  have HM := Lib.hid hm
  have HMET := Lib.hid hmet
  have KS := fun w' => smallRuleB s hs w'
  have KT := fun w' => smallRuleB t ht w'
  have e1 : IntKind.i64.wrap ((ps1.length : Int) + ps2.length) = (ps1.length : Int) + ps2.length := by simp only [IntKind.wrap, IntKind.bits, IntKind.signed]; simp; omega
  have e2 : IntKind.i64.wrap ((ps1.length : Int) + ps2.length + ps1'.length) = (ps1.length : Int) + ps2.length + ps1'.length := by simp only [IntKind.wrap, IntKind.bits, IntKind.signed]; simp; omega
  have e3 : IntKind.i64.wrap ((ps1.length : Int) + ps2.length + ps1'.length + ps2'.length) = (ps1.length : Int) + ps2.length + ps1'.length + ps2'.length := by simp only [IntKind.wrap, IntKind.bits, IntKind.signed]; simp; omega
  have e4 : IntKind.i64.wrap ((ps1.length : Int) + ps2.length + ps1'.length + ps2'.length + l.length) = (ps1.length : Int) + ps2.length + ps1'.length + ps2'.length + l.length := by simp only [IntKind.wrap, IntKind.bits, IntKind.signed]; simp; omega
  have U0 := ((((Upd.nil [] w).alloc #[.string nm, .string me, .slice A1 ps1.length q1, .int .u8 k, .int .i64 lim, .int .u64 tk, .int .u64 fo, .int .u64 ke, .int .u8 pr, .slice A2 ps2.length q2] 63).alloc #[.string nm', .string me', .slice A1' ps1'.length q1', .int .u8 k', .int .i64 lim', .int .u64 tk', .int .u64 fo', .int .u64 ke', .int .u8 pr', .slice A2' ps2'.length q2'] 63).alloc #[.int .u8 s.nm, .int .u8 s.me, .int .u8 s.fi, .int .u8 s.wi, .int .u8 s.k, .int .i16 s.m, .int .u8 s.t, .int .u8 s.fo, .int .u8 s.ke, .int .u8 s.pr] 68).alloc #[.int .u8 t.nm, .int .u8 t.me, .int .u8 t.fi, .int .u8 t.wi, .int .u8 t.k, .int .i16 t.m, .int .u8 t.t, .int .u8 t.fo, .int .u8 t.ke, .int .u8 t.pr] 68
  simp only [allocSzC] at U0
  clear htab hT hm hs ht ha hb hl hlz hmet
  go_enter Tryz.func4, Tryz.ntmps4
  go_wp2_with fail
  refine calls_genP fun W1 hW => ?_
  have U1 := U0.same hW
  clear hW U0
  (with_reducible refine (KA W1 U1.below (cell_upd U1 (by simp) HM.out)).mono ?_)
  rintro e w2 ⟨rfl, hb2⟩
  have U2 := U1.grow hb2
  clear U1 hb2 KA
  have c2 := (U2.blk 3 rfl).cell (j := 2) (v := .slice A1 ps1.length q1) rfl
  have c9 := (U2.blk 3 rfl).cell (j := 9) (v := .slice A2 ps2.length q2) rfl
  have d2 := (U2.blk 2 rfl).cell (j := 2) (v := .slice A1' ps1'.length q1') rfl
  have d9 := (U2.blk 2 rfl).cell (j := 9) (v := .slice A2' ps2'.length q2') rfl
  by_cases big : 30 < ps1.length + ps2.length + ps1'.length + ps2'.length + l.length
  · have db : decide ((30 : Int) < (ps1.length : Int) + ps2.length + ps1'.length + ps2'.length + l.length) = true := by simp; omega
    clear KS KT
    go_wp2_with fail
    go_ret
    exact ⟨rfl, U2.below⟩
  have db : decide ((30 : Int) < (ps1.length : Int) + ps2.length + ps1'.length + ps2'.length + l.length) = false := by simp; omega
  have F : ∀ w', Below w2.heap.size w2 w' → w'.cell? ⟨w.heap.size + 1 + 1, 0, none⟩ = some (.int .u8 s.nm) ∧ w'.cell? ⟨w.heap.size + 1 + 1, 1, none⟩ = some (.int .u8 s.me) ∧ w'.cell? ⟨w.heap.size + 1 + 1, 2, none⟩ = some (.int .u8 s.fi) ∧ w'.cell? ⟨w.heap.size + 1 + 1, 3, none⟩ = some (.int .u8 s.wi) ∧ w'.cell? ⟨w.heap.size + 1 + 1, 4, none⟩ = some (.int .u8 s.k) ∧ w'.cell? ⟨w.heap.size + 1 + 1, 5, none⟩ = some (.int .i16 s.m) ∧ w'.cell? ⟨w.heap.size + 1 + 1, 6, none⟩ = some (.int .u8 s.t) ∧ w'.cell? ⟨w.heap.size + 1 + 1, 7, none⟩ = some (.int .u8 s.fo) ∧ w'.cell? ⟨w.heap.size + 1 + 1, 8, none⟩ = some (.int .u8 s.ke) ∧ w'.cell? ⟨w.heap.size + 1 + 1, 9, none⟩ = some (.int .u8 s.pr) ∧ w'.cell? ⟨w.heap.size + 1 + 1 + 1, 0, none⟩ = some (.int .u8 t.nm) ∧ w'.cell? ⟨w.heap.size + 1 + 1 + 1, 1, none⟩ = some (.int .u8 t.me) ∧ w'.cell? ⟨w.heap.size + 1 + 1 + 1, 2, none⟩ = some (.int .u8 t.fi) ∧ w'.cell? ⟨w.heap.size + 1 + 1 + 1, 3, none⟩ = some (.int .u8 t.wi) ∧ w'.cell? ⟨w.heap.size + 1 + 1 + 1, 4, none⟩ = some (.int .u8 t.k) ∧ w'.cell? ⟨w.heap.size + 1 + 1 + 1, 5, none⟩ = some (.int .i16 t.m) ∧ w'.cell? ⟨w.heap.size + 1 + 1 + 1, 6, none⟩ = some (.int .u8 t.t) ∧ w'.cell? ⟨w.heap.size + 1 + 1 + 1, 7, none⟩ = some (.int .u8 t.fo) ∧ w'.cell? ⟨w.heap.size + 1 + 1 + 1, 8, none⟩ = some (.int .u8 t.ke) ∧ w'.cell? ⟨w.heap.size + 1 + 1 + 1, 9, none⟩ = some (.int .u8 t.pr) := fun w' h => ⟨((U2.grow h).blk 1 rfl).cell (j := 0) (v := .int .u8 s.nm) rfl, ((U2.grow h).blk 1 rfl).cell (j := 1) (v := .int .u8 s.me) rfl, ((U2.grow h).blk 1 rfl).cell (j := 2) (v := .int .u8 s.fi) rfl, ((U2.grow h).blk 1 rfl).cell (j := 3) (v := .int .u8 s.wi) rfl, ((U2.grow h).blk 1 rfl).cell (j := 4) (v := .int .u8 s.k) rfl, ((U2.grow h).blk 1 rfl).cell (j := 5) (v := .int .i16 s.m) rfl, ((U2.grow h).blk 1 rfl).cell (j := 6) (v := .int .u8 s.t) rfl, ((U2.grow h).blk 1 rfl).cell (j := 7) (v := .int .u8 s.fo) rfl, ((U2.grow h).blk 1 rfl).cell (j := 8) (v := .int .u8 s.ke) rfl, ((U2.grow h).blk 1 rfl).cell (j := 9) (v := .int .u8 s.pr) rfl, ((U2.grow h).blk 0 rfl).cell (j := 0) (v := .int .u8 t.nm) rfl, ((U2.grow h).blk 0 rfl).cell (j := 1) (v := .int .u8 t.me) rfl, ((U2.grow h).blk 0 rfl).cell (j := 2) (v := .int .u8 t.fi) rfl, ((U2.grow h).blk 0 rfl).cell (j := 3) (v := .int .u8 t.wi) rfl, ((U2.grow h).blk 0 rfl).cell (j := 4) (v := .int .u8 t.k) rfl, ((U2.grow h).blk 0 rfl).cell (j := 5) (v := .int .i16 t.m) rfl, ((U2.grow h).blk 0 rfl).cell (j := 6) (v := .int .u8 t.t) rfl, ((U2.grow h).blk 0 rfl).cell (j := 7) (v := .int .u8 t.fo) rfl, ((U2.grow h).blk 0 rfl).cell (j := 8) (v := .int .u8 t.ke) rfl, ((U2.grow h).blk 0 rfl).cell (j := 9) (v := .int .u8 t.pr) rfl⟩
  have S : ∀ w' w'', Below w2.heap.size w2 w' → Below w'.heap.size w' w'' → Below w2.heap.size w2 w'' := fun w' w'' h h2 => h.trans (h2.mono h.size)
  go_wp2_with fail
  refine region_free (fun w' => Below w2.heap.size w2 w') [1, 3, 4, 5, 1000004, 1000005] [6, 7] [0, 1, 2, 3, 4, 5] (by kernel_rfl) (by kernel_rfl) (by kernel_rfl) (Below.refl _ _).drew ?_
  repeat (first
    | (refine RelSeq.pure_ (c := ?_) rfl rfl ?_ ?_; rotate_left; (focus (intro x w'; dsimp only; go_simp; (repeat' apply And.intro) <;> first | with_reducible rfl | assumption)); simp only [Act.put, List.setIfInBounds_toArray, List.set_cons_zero, List.set_cons_succ])
    | (refine RelSeq.grow_ (c := ?_) rfl rfl ?_ ?_; rotate_left; (focus (intro x w' hw _; dsimp only; obtain ⟨p0, p1, p2, p3, p4, p5, p6, p7, p8, p9, r0, r1, r2, r3, r4, r5, r6, r7, r8, r9⟩ := F w' hw; have hbr := Below.refl w'.heap.size w'; go_simp; (repeat' apply And.intro) <;> first | with_reducible rfl | assumption)); simp only [Act.put, List.setIfInBounds_toArray, List.set_cons_zero, List.set_cons_succ]))
  refine RelSeq.rel_ (fun v u => ∃ (nmx mex : ByteArray) (A1x : Option Addr) (q1x : Nat) (ps1x : List Pr) (kx : Nat) (limx : Int) (tkx fox kex prx : Nat) (A2x : Option Addr) (q2x : Nat) (ps2x : List Pr), v = .agg #[.string nmx, .string mex, .slice A1x ps1x.length q1x, .int .u8 kx, .int .i64 limx, .int .u64 tkx, .int .u64 fox, .int .u64 kex, .int .u8 prx, .slice A2x ps2x.length q2x] ∧ (RuV.mk nmx mex (.slice A1x ps1x.length q1x) ps1x kx limx tkx fox kex prx (.slice A2x ps2x.length q2x) ps2x).good u w2.heap.size ∧ ps2x.length ≤ 3) rfl rfl (fun v u u' h hb => let ⟨nmx, mex, A1x, q1x, ps1x, kx, limx, tkx, fox, kex, prx, A2x, q2x, ps2x, h1, h2, h3⟩ := h; ⟨nmx, mex, A1x, q1x, ps1x, kx, limx, tkx, fox, kex, prx, A2x, q2x, ps2x, h1, h2.below hb, h3⟩) ?_ ?_
  focus
    intro x w' hw _; dsimp only
    go_simp
    (with_reducible refine (KS w').mono ?_)
    rintro e w3 ⟨nmx, mex, A1x, q1x, ps1x, kx, limx, tkx, fox, kex, prx, A2x, q2x, ps2x, rfl, ⟨hgd, hle⟩, hb3⟩
    have hI := S w' w3 hw hb3
    have hgd2 := hgd.mono hw.size
    go_simp
    (repeat' apply And.intro) <;> first | exact ⟨nmx, mex, A1x, q1x, ps1x, kx, limx, tkx, fox, kex, prx, A2x, q2x, ps2x, by simp, hgd2, hle⟩ | assumption | (with_unfolding_all rfl)
  simp only [Act.put, List.setIfInBounds_toArray, List.set_cons_zero, List.set_cons_succ, List.nil_append]
  repeat (first
    | (refine RelSeq.pure_ (c := ?_) rfl rfl ?_ ?_; rotate_left; (focus (intro x w'; dsimp only; go_simp; (repeat' apply And.intro) <;> first | with_reducible rfl | assumption)); simp only [Act.put, List.setIfInBounds_toArray, List.set_cons_zero, List.set_cons_succ])
    | (refine RelSeq.grow_ (c := ?_) rfl rfl ?_ ?_; rotate_left; (focus (intro x w' hw _; dsimp only; obtain ⟨p0, p1, p2, p3, p4, p5, p6, p7, p8, p9, r0, r1, r2, r3, r4, r5, r6, r7, r8, r9⟩ := F w' hw; have hbr := Below.refl w'.heap.size w'; go_simp; (repeat' apply And.intro) <;> first | with_reducible rfl | assumption)); simp only [Act.put, List.setIfInBounds_toArray, List.set_cons_zero, List.set_cons_succ]))
  refine RelSeq.rel_ (fun v u => ∃ (nmx mex : ByteArray) (A1x : Option Addr) (q1x : Nat) (ps1x : List Pr) (kx : Nat) (limx : Int) (tkx fox kex prx : Nat) (A2x : Option Addr) (q2x : Nat) (ps2x : List Pr), v = .agg #[.string nmx, .string mex, .slice A1x ps1x.length q1x, .int .u8 kx, .int .i64 limx, .int .u64 tkx, .int .u64 fox, .int .u64 kex, .int .u8 prx, .slice A2x ps2x.length q2x] ∧ (RuV.mk nmx mex (.slice A1x ps1x.length q1x) ps1x kx limx tkx fox kex prx (.slice A2x ps2x.length q2x) ps2x).good u w2.heap.size ∧ ps2x.length ≤ 3) rfl rfl (fun v u u' h hb => let ⟨nmx, mex, A1x, q1x, ps1x, kx, limx, tkx, fox, kex, prx, A2x, q2x, ps2x, h1, h2, h3⟩ := h; ⟨nmx, mex, A1x, q1x, ps1x, kx, limx, tkx, fox, kex, prx, A2x, q2x, ps2x, h1, h2.below hb, h3⟩) ?_ ?_
  focus
    intro x w' hw _; dsimp only
    go_simp
    (with_reducible refine (KT w').mono ?_)
    rintro e w3 ⟨nmx, mex, A1x, q1x, ps1x, kx, limx, tkx, fox, kex, prx, A2x, q2x, ps2x, rfl, ⟨hgd, hle⟩, hb3⟩
    have hI := S w' w3 hw hb3
    have hgd2 := hgd.mono hw.size
    go_simp
    (repeat' apply And.intro) <;> first | exact ⟨nmx, mex, A1x, q1x, ps1x, kx, limx, tkx, fox, kex, prx, A2x, q2x, ps2x, by simp, hgd2, hle⟩ | assumption | (with_unfolding_all rfl)
  simp only [Act.put, List.setIfInBounds_toArray, List.set_cons_zero, List.set_cons_succ, List.nil_append, List.cons_append]
  repeat (first
    | (refine RelSeq.pure_ (c := ?_) rfl rfl ?_ ?_; rotate_left; (focus (intro x w'; dsimp only; go_simp; (repeat' apply And.intro) <;> first | with_reducible rfl | assumption)); simp only [Act.put, List.setIfInBounds_toArray, List.set_cons_zero, List.set_cons_succ])
    | (refine RelSeq.grow_ (c := ?_) rfl rfl ?_ ?_; rotate_left; (focus (intro x w' hw _; dsimp only; obtain ⟨p0, p1, p2, p3, p4, p5, p6, p7, p8, p9, r0, r1, r2, r3, r4, r5, r6, r7, r8, r9⟩ := F w' hw; have hbr := Below.refl w'.heap.size w'; go_simp; (repeat' apply And.intro) <;> first | with_reducible rfl | assumption)); simp only [Act.put, List.setIfInBounds_toArray, List.set_cons_zero, List.set_cons_succ]))
  refine RelSeq.rel_ (NewPt w2.heap.size 0 #[.string ⟨#[]⟩, .string ⟨#[]⟩, .slice none 0 0, .int .u8 0, .int .i64 0, .int .u64 0, .int .u64 0, .int .u64 0, .int .u8 0, .slice none 0 0] 63) rfl rfl NewPt.stable ?_ ?_
  focus
    intro x w' hw _; dsimp only
    have hba : Below w'.heap.size w' (w'.alloc (.cells #[.string ⟨#[]⟩, .string ⟨#[]⟩, .slice none 0 0, .int .u8 0, .int .i64 0, .int .u64 0, .int .u64 0, .int .u64 0, .int .u8 0, .slice none 0 0] 63)) := (Below.refl _ _).alloc (Nat.le_refl _) _
    have hI := S w' _ hw hba
    have hsz := hw.size
    go_simp
    (repeat' apply And.intro) <;> first | assumption | exact ⟨_, rfl, hsz, Blk.new _ _ _⟩ | exact fun _ => ⟨_, rfl, Nat.le_refl _, by simp⟩
  simp only [Act.put, List.setIfInBounds_toArray, List.set_cons_zero, List.set_cons_succ, List.nil_append, List.cons_append]
  refine RelSeq.rel_ (NewPt w2.heap.size 0 #[.string ⟨#[]⟩, .string ⟨#[]⟩, .slice none 0 0, .int .u8 0, .int .i64 0, .int .u64 0, .int .u64 0, .int .u64 0, .int .u8 0, .slice none 0 0] 63) rfl rfl NewPt.stable ?_ ?_
  focus
    intro x w' hw _; dsimp only
    have hba : Below w'.heap.size w' (w'.alloc (.cells #[.string ⟨#[]⟩, .string ⟨#[]⟩, .slice none 0 0, .int .u8 0, .int .i64 0, .int .u64 0, .int .u64 0, .int .u64 0, .int .u8 0, .slice none 0 0] 63)) := (Below.refl _ _).alloc (Nat.le_refl _) _
    have hI := S w' _ hw hba
    have hsz := hw.size
    go_simp
    (repeat' apply And.intro) <;> first | assumption | exact ⟨_, rfl, hsz, Blk.new _ _ _⟩ | exact fun _ => ⟨_, rfl, Nat.le_refl _, by simp⟩
  simp only [Act.put, List.setIfInBounds_toArray, List.set_cons_zero, List.set_cons_succ, List.nil_append, List.cons_append]
  refine RelSeq.nil_ fun z w5 hw5 hf hap => ?_
  obtain ⟨nms, mes, A1s, q1s, ps1s, ks, lims, tks, fos, kes, prs, A2s, q2s, ps2s, z1, gs, gs3⟩ := hf _ (.head _)
  obtain ⟨nmt, met, A1t, q1t, ps1t, kt, limt, tkt, fot, ket, prt, A2t, q2t, ps2t, z3, gt, gt3⟩ := hf _ (.tail _ (.head _))
  obtain ⟨b4, z4, hb4, hB4⟩ := hf _ (.tail _ (.tail _ (.head _)))
  obtain ⟨b5, z5, hb5, hB5⟩ := hf _ (.tail _ (.tail _ (.tail _ (.head _))))
  have hne : b4 ≠ b5 := hap 4 5 (by decide) (by with_unfolding_all rfl) (by with_unfolding_all rfl) (by simp) (by simp) b4 b5 z4 z5
  have U5 := U2.add2 hw5 (chBlk b4 #[.string ⟨#[]⟩, .string ⟨#[]⟩, .slice none 0 0, .int .u8 0, .int .i64 0, .int .u64 0, .int .u64 0, .int .u64 0, .int .u8 0, .slice none 0 0] 63) (chBlk b5 #[.string ⟨#[]⟩, .string ⟨#[]⟩, .slice none 0 0, .int .u8 0, .int .i64 0, .int .u64 0, .int .u64 0, .int .u64 0, .int .u8 0, .slice none 0 0] 63) hB4 hB5 (fun b hb => by rw [List.mem_singleton.1 hb]; exact hb4) (fun b hb => by rw [List.mem_singleton.1 hb]; exact hb5) (fun b hb hb2 => hne ((List.mem_singleton.1 hb).symm.trans (List.mem_singleton.1 hb2)))
  clear hf hap F S KS KT c2 c9 d2 d9 hB4 hB5 U2 hw5
  simp only [z1, z3, z4, z5]
  refine TailSeq.cons_ rfl ?_
  have p0 := (U5.blk 0 rfl).cell (j := 0) (v := .string ⟨#[]⟩) rfl
  have p1 := (U5.blk 0 rfl).cell (j := 1) (v := .string ⟨#[]⟩) rfl
  have p2 := (U5.blk 0 rfl).cell (j := 2) (v := .slice none 0 0) rfl
  have p3 := (U5.blk 0 rfl).cell (j := 3) (v := .int .u8 0) rfl
  have p4 := (U5.blk 0 rfl).cell (j := 4) (v := .int .i64 0) rfl
  have p5 := (U5.blk 0 rfl).cell (j := 5) (v := .int .u64 0) rfl
  have p6 := (U5.blk 0 rfl).cell (j := 6) (v := .int .u64 0) rfl
  have p7 := (U5.blk 0 rfl).cell (j := 7) (v := .int .u64 0) rfl
  have p8 := (U5.blk 0 rfl).cell (j := 8) (v := .int .u8 0) rfl
  have p9 := (U5.blk 0 rfl).cell (j := 9) (v := .slice none 0 0) rfl
  have fz := (U5.blk 0 rfl).frozen
  dsimp only at fz ⊢
  go_simp
  refine tail_gen fun w6 hW => ?_
  have U6 := ((((((((((U5.put 0 rfl 0 (.string nms)).put 0 rfl 1 (.string mes)).put 0 rfl 2 (.slice A1s ps1s.length q1s)).put 0 rfl 3 (.int .u8 ks)).put 0 rfl 4 (.int .i64 lims)).put 0 rfl 5 (.int .u64 tks)).put 0 rfl 6 (.int .u64 fos)).put 0 rfl 7 (.int .u64 kes)).put 0 rfl 8 (.int .u8 prs)).put 0 rfl 9 (.slice A2s ps2s.length q2s)).same hW
  simp only [List.setIfInBounds_toArray, List.set_cons_zero, List.set_cons_succ, List.eraseIdx_cons_zero] at U6
  have hbut : But b4 w5 w6 := by rw [hW]; exact (((((((((((But.refl b4 w5).put 0 (.string nms)).put 1 (.string mes)).put 2 (.slice A1s ps1s.length q1s)).put 3 (.int .u8 ks)).put 4 (.int .i64 lims)).put 5 (.int .u64 tks)).put 6 (.int .u64 fos)).put 7 (.int .u64 kes)).put 8 (.int .u8 prs)).put 9 (.slice A2s ps2s.length q2s))
  have gs := gs.but (U5.blk 0 rfl) hbut
  have gt := gt.but (U5.blk 0 rfl) hbut
  clear hW hbut fz U5 p0 p1 p2 p3 p4 p5 p6 p7 p8 p9
  refine TailSeq.cons_ rfl ?_
  have p0 := (U6.blk 1 rfl).cell (j := 0) (v := .string ⟨#[]⟩) rfl
  have p1 := (U6.blk 1 rfl).cell (j := 1) (v := .string ⟨#[]⟩) rfl
  have p2 := (U6.blk 1 rfl).cell (j := 2) (v := .slice none 0 0) rfl
  have p3 := (U6.blk 1 rfl).cell (j := 3) (v := .int .u8 0) rfl
  have p4 := (U6.blk 1 rfl).cell (j := 4) (v := .int .i64 0) rfl
  have p5 := (U6.blk 1 rfl).cell (j := 5) (v := .int .u64 0) rfl
  have p6 := (U6.blk 1 rfl).cell (j := 6) (v := .int .u64 0) rfl
  have p7 := (U6.blk 1 rfl).cell (j := 7) (v := .int .u64 0) rfl
  have p8 := (U6.blk 1 rfl).cell (j := 8) (v := .int .u8 0) rfl
  have p9 := (U6.blk 1 rfl).cell (j := 9) (v := .slice none 0 0) rfl
  have fz := (U6.blk 1 rfl).frozen
  dsimp only at fz ⊢
  go_simp
  refine TailSeq.nil_gen fun w7 hW => ?_
  have U7 := ((((((((((U6.put 1 rfl 0 (.string nmt)).put 0 rfl 1 (.string met)).put 0 rfl 2 (.slice A1t ps1t.length q1t)).put 0 rfl 3 (.int .u8 kt)).put 0 rfl 4 (.int .i64 limt)).put 0 rfl 5 (.int .u64 tkt)).put 0 rfl 6 (.int .u64 fot)).put 0 rfl 7 (.int .u64 ket)).put 0 rfl 8 (.int .u8 prt)).put 0 rfl 9 (.slice A2t ps2t.length q2t)).same hW
  simp only [List.setIfInBounds_toArray, List.set_cons_zero, List.set_cons_succ, List.eraseIdx_cons_zero, List.eraseIdx_cons_succ] at U7
  have hbut : But b5 w6 w7 := by rw [hW]; exact (((((((((((But.refl b5 w6).put 0 (.string nmt)).put 1 (.string met)).put 2 (.slice A1t ps1t.length q1t)).put 3 (.int .u8 kt)).put 4 (.int .i64 limt)).put 5 (.int .u64 tkt)).put 6 (.int .u64 fot)).put 7 (.int .u64 ket)).put 8 (.int .u8 prt)).put 9 (.slice A2t ps2t.length q2t))
  have gs := gs.but (U6.blk 1 rfl) hbut
  have gt := gt.but (U6.blk 1 rfl) hbut
  clear hW hbut fz U6 p0 p1 p2 p3 p4 p5 p6 p7 p8 p9
  have c0 := (U7.blk 5 rfl).cell (j := 0) (v := .string nm) rfl
  have c1 := (U7.blk 5 rfl).cell (j := 1) (v := .string me) rfl
  have c2 := (U7.blk 5 rfl).cell (j := 2) (v := .slice A1 ps1.length q1) rfl
  have c3 := (U7.blk 5 rfl).cell (j := 3) (v := .int .u8 k) rfl
  have c4 := (U7.blk 5 rfl).cell (j := 4) (v := .int .i64 lim) rfl
  have c5 := (U7.blk 5 rfl).cell (j := 5) (v := .int .u64 tk) rfl
  have c6 := (U7.blk 5 rfl).cell (j := 6) (v := .int .u64 fo) rfl
  have c7 := (U7.blk 5 rfl).cell (j := 7) (v := .int .u64 ke) rfl
  have c8 := (U7.blk 5 rfl).cell (j := 8) (v := .int .u8 pr) rfl
  have c9 := (U7.blk 5 rfl).cell (j := 9) (v := .slice A2 ps2.length q2) rfl
  have d0 := (U7.blk 4 rfl).cell (j := 0) (v := .string nm') rfl
  have d1 := (U7.blk 4 rfl).cell (j := 1) (v := .string me') rfl
  have d2 := (U7.blk 4 rfl).cell (j := 2) (v := .slice A1' ps1'.length q1') rfl
  have d3 := (U7.blk 4 rfl).cell (j := 3) (v := .int .u8 k') rfl
  have d4 := (U7.blk 4 rfl).cell (j := 4) (v := .int .i64 lim') rfl
  have d5 := (U7.blk 4 rfl).cell (j := 5) (v := .int .u64 tk') rfl
  have d6 := (U7.blk 4 rfl).cell (j := 6) (v := .int .u64 fo') rfl
  have d7 := (U7.blk 4 rfl).cell (j := 7) (v := .int .u64 ke') rfl
  have d8 := (U7.blk 4 rfl).cell (j := 8) (v := .int .u8 pr') rfl
  have d9 := (U7.blk 4 rfl).cell (j := 9) (v := .slice A2' ps2'.length q2') rfl
  have f0 := (U7.blk 1 rfl).cell (j := 0) (v := .string nms) rfl
  have f1 := (U7.blk 1 rfl).cell (j := 1) (v := .string mes) rfl
  have f2 := (U7.blk 1 rfl).cell (j := 2) (v := .slice A1s ps1s.length q1s) rfl
  have f3 := (U7.blk 1 rfl).cell (j := 3) (v := .int .u8 ks) rfl
  have f4 := (U7.blk 1 rfl).cell (j := 4) (v := .int .i64 lims) rfl
  have f5 := (U7.blk 1 rfl).cell (j := 5) (v := .int .u64 tks) rfl
  have f6 := (U7.blk 1 rfl).cell (j := 6) (v := .int .u64 fos) rfl
  have f7 := (U7.blk 1 rfl).cell (j := 7) (v := .int .u64 kes) rfl
  have f8 := (U7.blk 1 rfl).cell (j := 8) (v := .int .u8 prs) rfl
  have f9 := (U7.blk 1 rfl).cell (j := 9) (v := .slice A2s ps2s.length q2s) rfl
  have h0 := (U7.blk 0 rfl).cell (j := 0) (v := .string nmt) rfl
  have h1 := (U7.blk 0 rfl).cell (j := 1) (v := .string met) rfl
  have h2 := (U7.blk 0 rfl).cell (j := 2) (v := .slice A1t ps1t.length q1t) rfl
  have h3 := (U7.blk 0 rfl).cell (j := 3) (v := .int .u8 kt) rfl
  have h4 := (U7.blk 0 rfl).cell (j := 4) (v := .int .i64 limt) rfl
  have h5 := (U7.blk 0 rfl).cell (j := 5) (v := .int .u64 tkt) rfl
  have h6 := (U7.blk 0 rfl).cell (j := 6) (v := .int .u64 fot) rfl
  have h7 := (U7.blk 0 rfl).cell (j := 7) (v := .int .u64 ket) rfl
  have h8 := (U7.blk 0 rfl).cell (j := 8) (v := .int .u8 prt) rfl
  have h9 := (U7.blk 0 rfl).cell (j := 9) (v := .slice A2t ps2t.length q2t) rfl
  go_wp2_with fail
  refine wp_gen fun W8 hW => ?_
  have U8 := (U7.alloc #[.string nm, .string me, .slice A1 ps1.length q1, .int .u8 k, .int .i64 lim, .int .u64 tk, .int .u64 fo, .int .u64 ke, .int .u8 pr, .slice A2 ps2.length q2, .string nm', .string me', .slice A1' ps1'.length q1', .int .u8 k', .int .i64 lim', .int .u64 tk', .int .u64 fo', .int .u64 ke', .int .u8 pr', .slice A2' ps2'.length q2', .string nms, .string mes, .slice A1s ps1s.length q1s, .int .u8 ks, .int .i64 lims, .int .u64 tks, .int .u64 fos, .int .u64 kes, .int .u8 prs, .slice A2s ps2s.length q2s, .string nmt, .string met, .slice A1t ps1t.length q1t, .int .u8 kt, .int .i64 limt, .int .u64 tkt, .int .u64 fot, .int .u64 ket, .int .u8 prt, .slice A2t ps2t.length q2t] 70).same hW
  obtain ⟨bL, hbL⟩ : ∃ g, g = w7.heap.size := ⟨_, rfl⟩
  have hb8 : Below w7.heap.size w7 W8 := by rw [hW]; exact (Below.refl _ _).alloc (Nat.le_refl _) _
  have gs := gs.below hb8
  have gt := gt.below hb8
  rw [← hbL] at U8 ⊢
  clear hW hb8 hbL U7 c0 c1 c2 c3 c4 c5 c6 c7 c8 c9 d0 d1 d2 d3 d4 d5 d6 d7 d8 d9 f0 f1 f2 f3 f4 f5 f6 f7 f8 f9 h0 h1 h2 h3 h4 h5 h6 h7 h8 h9
  go_loopw [56] (fun i wr => ∃ j : Nat, j ≤ 2 ∧ i = .int .i64 j ∧ Below W8.heap.size W8 wr) (fun i _ => 2 - (intOf i).toNat)
  case atStart => exact ⟨0, by omega, rfl, Below.refl _ _⟩
  case round =>
    obtain ⟨j, hj, rfl, hB⟩ := hrel
    by_cases hlt : j < 2
    · as_aux_lemma =>
        have j1 : decide ((j : Int) < 2) = true := by simp; omega
        have j2 : (j : Int) < 2 := by omega
        have m0 := (U8.blk 0 rfl).cell (j := 0) (v := .string nm) rfl
        have m1 := (U8.blk 0 rfl).cell (j := 1) (v := .string me) rfl
        have m2 := (U8.blk 0 rfl).cell (j := 2) (v := .slice A1 ps1.length q1) rfl
        have m3 := (U8.blk 0 rfl).cell (j := 3) (v := .int .u8 k) rfl
        have m4 := (U8.blk 0 rfl).cell (j := 4) (v := .int .i64 lim) rfl
        have m5 := (U8.blk 0 rfl).cell (j := 5) (v := .int .u64 tk) rfl
        have m6 := (U8.blk 0 rfl).cell (j := 6) (v := .int .u64 fo) rfl
        have m7 := (U8.blk 0 rfl).cell (j := 7) (v := .int .u64 ke) rfl
        have m8 := (U8.blk 0 rfl).cell (j := 8) (v := .int .u8 pr) rfl
        have m9 := (U8.blk 0 rfl).cell (j := 9) (v := .slice A2 ps2.length q2) rfl
        have m10 := (U8.blk 0 rfl).cell (j := 10) (v := .string nm') rfl
        have m11 := (U8.blk 0 rfl).cell (j := 11) (v := .string me') rfl
        have m12 := (U8.blk 0 rfl).cell (j := 12) (v := .slice A1' ps1'.length q1') rfl
        have m13 := (U8.blk 0 rfl).cell (j := 13) (v := .int .u8 k') rfl
        have m14 := (U8.blk 0 rfl).cell (j := 14) (v := .int .i64 lim') rfl
        have m15 := (U8.blk 0 rfl).cell (j := 15) (v := .int .u64 tk') rfl
        have m16 := (U8.blk 0 rfl).cell (j := 16) (v := .int .u64 fo') rfl
        have m17 := (U8.blk 0 rfl).cell (j := 17) (v := .int .u64 ke') rfl
        have m18 := (U8.blk 0 rfl).cell (j := 18) (v := .int .u8 pr') rfl
        have m19 := (U8.blk 0 rfl).cell (j := 19) (v := .slice A2' ps2'.length q2') rfl
        have m20 := (U8.blk 0 rfl).cell (j := 20) (v := .string nms) rfl
        have m21 := (U8.blk 0 rfl).cell (j := 21) (v := .string mes) rfl
        have m22 := (U8.blk 0 rfl).cell (j := 22) (v := .slice A1s ps1s.length q1s) rfl
        have m23 := (U8.blk 0 rfl).cell (j := 23) (v := .int .u8 ks) rfl
        have m24 := (U8.blk 0 rfl).cell (j := 24) (v := .int .i64 lims) rfl
        have m25 := (U8.blk 0 rfl).cell (j := 25) (v := .int .u64 tks) rfl
        have m26 := (U8.blk 0 rfl).cell (j := 26) (v := .int .u64 fos) rfl
        have m27 := (U8.blk 0 rfl).cell (j := 27) (v := .int .u64 kes) rfl
        have m28 := (U8.blk 0 rfl).cell (j := 28) (v := .int .u8 prs) rfl
        have m29 := (U8.blk 0 rfl).cell (j := 29) (v := .slice A2s ps2s.length q2s) rfl
        have m30 := (U8.blk 0 rfl).cell (j := 30) (v := .string nmt) rfl
        have m31 := (U8.blk 0 rfl).cell (j := 31) (v := .string met) rfl
        have m32 := (U8.blk 0 rfl).cell (j := 32) (v := .slice A1t ps1t.length q1t) rfl
        have m33 := (U8.blk 0 rfl).cell (j := 33) (v := .int .u8 kt) rfl
        have m34 := (U8.blk 0 rfl).cell (j := 34) (v := .int .i64 limt) rfl
        have m35 := (U8.blk 0 rfl).cell (j := 35) (v := .int .u64 tkt) rfl
        have m36 := (U8.blk 0 rfl).cell (j := 36) (v := .int .u64 fot) rfl
        have m37 := (U8.blk 0 rfl).cell (j := 37) (v := .int .u64 ket) rfl
        have m38 := (U8.blk 0 rfl).cell (j := 38) (v := .int .u8 prt) rfl
        have m39 := (U8.blk 0 rfl).cell (j := 39) (v := .slice A2t ps2t.length q2t) rfl
        obtain ⟨nmp, mep, A1p, q1p, ps1p, kp, limp, tkp, fop, kep, prp, A2p, q2p, ps2p, nmq, meq, A1q, q1q, ps1q, kq, limq, tkq, foq, keq, prq, A2q, q2q, ps2q, hRk, hpo, hqo, hpl⟩ : ∃ (nmp mep : ByteArray) (A1p : Option Addr) (q1p : Nat) (ps1p : List Pr) (kp : Nat) (limp : Int) (tkp fop kep prp : Nat) (A2p : Option Addr) (q2p : Nat) (ps2p : List Pr) (nmq meq : ByteArray) (A1q : Option Addr) (q1q : Nat) (ps1q : List Pr) (kq : Nat) (limq : Int) (tkq foq keq prq : Nat) (A2q : Option Addr) (q2q : Nat) (ps2q : List Pr), W8.rangeAt bL (j * 20) [.string nmp, .string mep, .slice A1p ps1p.length q1p, .int .u8 kp, .int .i64 limp, .int .u64 tkp, .int .u64 fop, .int .u64 kep, .int .u8 prp, .slice A2p ps2p.length q2p, .string nmq, .string meq, .slice A1q ps1q.length q1q, .int .u8 kq, .int .i64 limq, .int .u64 tkq, .int .u64 foq, .int .u64 keq, .int .u8 prq, .slice A2q ps2q.length q2q] ∧ (RuV.mk nmp mep (.slice A1p ps1p.length q1p) ps1p kp limp tkp fop kep prp (.slice A2p ps2p.length q2p) ps2p).ok W8 ∧ (RuV.mk nmq meq (.slice A1q ps1q.length q1q) ps1q kq limq tkq foq keq prq (.slice A2q ps2q.length q2q) ps2q).ok W8 ∧ ps2p.length ≤ 30 := by
          have hjc : j = 0 ∨ j = 1 := by omega
          rcases hjc with rfl | rfl
          · exact ⟨nm, me, A1, q1, ps1, k, lim, tk, fo, ke, pr, A2, q2, ps2, nm', me', A1', q1', ps1', k', lim', tk', fo', ke', pr', A2', q2', ps2', (rangeAt_cons m0 (rangeAt_cons m1 (rangeAt_cons m2 (rangeAt_cons m3 (rangeAt_cons m4 (rangeAt_cons m5 (rangeAt_cons m6 (rangeAt_cons m7 (rangeAt_cons m8 (rangeAt_cons m9 (rangeAt_cons m10 (rangeAt_cons m11 (rangeAt_cons m12 (rangeAt_cons m13 (rangeAt_cons m14 (rangeAt_cons m15 (rangeAt_cons m16 (rangeAt_cons m17 (rangeAt_cons m18 (rangeAt_cons m19 (rangeAt_nil _ _ _))))))))))))))))))))), HA.out.below U8.below, HB.out.below U8.below, by omega⟩
          · exact ⟨nms, mes, A1s, q1s, ps1s, ks, lims, tks, fos, kes, prs, A2s, q2s, ps2s, nmt, met, A1t, q1t, ps1t, kt, limt, tkt, fot, ket, prt, A2t, q2t, ps2t, (rangeAt_cons m20 (rangeAt_cons m21 (rangeAt_cons m22 (rangeAt_cons m23 (rangeAt_cons m24 (rangeAt_cons m25 (rangeAt_cons m26 (rangeAt_cons m27 (rangeAt_cons m28 (rangeAt_cons m29 (rangeAt_cons m30 (rangeAt_cons m31 (rangeAt_cons m32 (rangeAt_cons m33 (rangeAt_cons m34 (rangeAt_cons m35 (rangeAt_cons m36 (rangeAt_cons m37 (rangeAt_cons m38 (rangeAt_cons m39 (rangeAt_nil _ _ _))))))))))))))))))))), gs.ok, gt.ok, by omega⟩
        clear m0 m1 m2 m3 m4 m5 m6 m7 m8 m9 m10 m11 m12 m13 m14 m15 m16 m17 m18 m19 m20 m21 m22 m23 m24 m25 m26 m27 m28 m29 m30 m31 m32 m33 m34 m35 m36 m37 m38 m39
        have hR : wr.rangeAt bL (j * 20) [.string nmp, .string mep, .slice A1p ps1p.length q1p, .int .u8 kp, .int .i64 limp, .int .u64 tkp, .int .u64 fop, .int .u64 kep, .int .u8 prp, .slice A2p ps2p.length q2p, .string nmq, .string meq, .slice A1q ps1q.length q1q, .int .u8 kq, .int .i64 limq, .int .u64 tkq, .int .u64 foq, .int .u64 keq, .int .u8 prq, .slice A2q ps2q.length q2q] := fun i v hi => cell_below hB (hRk i v hi)
        clear hRk
        as_aux_lemma =>
          go_upto_region 9 with (first | ((with_reducible refine wpList_load_mid ?l1a 70 (.tmp 58) ?l1b (bL) (j * 20) ?l1c _ _ hR Tryz.underlying70 ?l1d ?l1e ?l1f); (focus (case l1a => rfl)); (focus (case l1b => rfl)); (focus (case l1c => rfl)); (focus (case l1d => rfl)); (focus (case l1e => kernel_rfl))) | ((with_reducible refine wpList_store_mid ?s1a 70 (.tmp 16) (.tmp 59) ?s1b (wr.heap.size) 0 ?s1z ?s1c ?s1d ?s1e ?s1f ?s1g ?s1h); (case s1a => rfl); (case s1b => rfl); (case s1c => rfl); (case s1d => rfl); (case s1e => exact Blk.there (Blk.new _ _ _) 0 20 (by decide)); (case s1f => kernel_rfl); (case s1g => simp [Value.oneCell'])))
          refine wp_gen fun W9 hW => ?_
          have UX := (((Upd.nil [] wr).alloc #[.string ⟨#[]⟩, .string ⟨#[]⟩, .slice none 0 0, .int .u8 0, .int .i64 0, .int .u64 0, .int .u64 0, .int .u64 0, .int .u8 0, .slice none 0 0, .string ⟨#[]⟩, .string ⟨#[]⟩, .slice none 0 0, .int .u8 0, .int .i64 0, .int .u64 0, .int .u64 0, .int .u64 0, .int .u8 0, .slice none 0 0] 70).putAll 0 rfl [.string nmp, .string mep, .slice A1p ps1p.length q1p, .int .u8 kp, .int .i64 limp, .int .u64 tkp, .int .u64 fop, .int .u64 kep, .int .u8 prp, .slice A2p ps2p.length q2p, .string nmq, .string meq, .slice A1q ps1q.length q1q, .int .u8 kq, .int .i64 limq, .int .u64 tkq, .int .u64 foq, .int .u64 keq, .int .u8 prq, .slice A2q ps2q.length q2q] rfl).same hW
          simp only [List.eraseIdx_cons_zero] at UX
          obtain ⟨b9, hb9⟩ : ∃ g, g = wr.heap.size := ⟨_, rfl⟩
          have hB9 : Blk W9 b9 #[.string nmp, .string mep, .slice A1p ps1p.length q1p, .int .u8 kp, .int .i64 limp, .int .u64 tkp, .int .u64 fop, .int .u64 kep, .int .u8 prp, .slice A2p ps2p.length q2p, .string nmq, .string meq, .slice A1q ps1q.length q1q, .int .u8 kq, .int .i64 limq, .int .u64 tkq, .int .u64 foq, .int .u64 keq, .int .u8 prq, .slice A2q ps2q.length q2q] 70 := by rw [hb9]; exact UX.blk 0 rfl
          have hw9 : Below wr.heap.size wr W9 := UX.below
          simp only [Act.put]
          have hB89 := hB.trans (hw9.mono hB.size)
          have hpo9 := hpo.below hB89
          have hqo9 := hqo.below hB89
          have hl9 := (HL.out.1.below U8.below).below hB89
          rw [← hb9]
          clear hW hw9 hpo hqo hB hb9 hR UX
          have KS1 := fun w' (h : Below W9.heap.size W9 w') => ruSame nmp mep A1p q1p ps1p kp limp tkp fop kep prp A2p q2p ps2p nmq meq A1q q1q ps1q kq limq tkq foq keq prq A2q q2q ps2q w' (hpo9.ir.below h) (hqo9.ir.below h) (hpo9.wr.below h) (hqo9.wr.below h)
          have KS2 := fun w' (h : Below W9.heap.size W9 w') => refRuSame nmp mep A1p q1p ps1p kp limp tkp fop kep prp A2p q2p ps2p nmq meq A1q q1q ps1q kq limq tkq foq keq prq A2q q2q ps2q w' (hpo9.ir.below h) (hqo9.ir.below h) (hpo9.wr.below h) (hqo9.wr.below h)
          have KS3 := fun w' (h : Below W9.heap.size W9 w') => ruSame nmp mep A1p q1p ps1p kp limp tkp fop kep prp A2p q2p ps2p nmp mep A1p q1p ps1p kp limp tkp fop kep prp A2p q2p ps2p w' (hpo9.ir.below h) (hpo9.ir.below h) (hpo9.wr.below h) (hpo9.wr.below h)
          have KP := fun w' => law15Ref nmp mep A1p ps1p.length q1p kp limp tkp fop kep prp A2p ps2p.length q2p w' hpo9.k
          have KQ := fun w' => law15Ref nmq meq A1q ps1q.length q1q kq limq tkq foq keq prq A2q ps2q.length q2q w' hqo9.k
          obtain ⟨sv, hsv⟩ : ∃ x, x = sm7 (decide (nmp = nmq)) (decide (mep = meq)) (sameB ps1p ps1q) (((kp : Int) == kq) && (limp == limq) && ((tkp : Int) == tkq)) (((fop : Int) == foq) && ((kep : Int) == keq)) ((prp : Int) == prq) (sameB ps2p ps2q) := ⟨_, rfl⟩
          rw [← hsv] at KS1 KS2
          rw [sm7_self] at KS3
          have FC : ∀ w', Below W9.heap.size W9 w' → w'.cell? ⟨b9, 0, none⟩ = some (.string nmp) ∧ w'.cell? ⟨b9, 1, none⟩ = some (.string mep) ∧ w'.cell? ⟨b9, 2, none⟩ = some (.slice A1p ps1p.length q1p) ∧ w'.cell? ⟨b9, 3, none⟩ = some (.int .u8 kp) ∧ w'.cell? ⟨b9, 4, none⟩ = some (.int .i64 limp) ∧ w'.cell? ⟨b9, 5, none⟩ = some (.int .u64 tkp) ∧ w'.cell? ⟨b9, 6, none⟩ = some (.int .u64 fop) ∧ w'.cell? ⟨b9, 7, none⟩ = some (.int .u64 kep) ∧ w'.cell? ⟨b9, 8, none⟩ = some (.int .u8 prp) ∧ w'.cell? ⟨b9, 9, none⟩ = some (.slice A2p ps2p.length q2p) ∧ w'.cell? ⟨b9, 10, none⟩ = some (.string nmq) ∧ w'.cell? ⟨b9, 11, none⟩ = some (.string meq) ∧ w'.cell? ⟨b9, 12, none⟩ = some (.slice A1q ps1q.length q1q) ∧ w'.cell? ⟨b9, 13, none⟩ = some (.int .u8 kq) ∧ w'.cell? ⟨b9, 14, none⟩ = some (.int .i64 limq) ∧ w'.cell? ⟨b9, 15, none⟩ = some (.int .u64 tkq) ∧ w'.cell? ⟨b9, 16, none⟩ = some (.int .u64 foq) ∧ w'.cell? ⟨b9, 17, none⟩ = some (.int .u64 keq) ∧ w'.cell? ⟨b9, 18, none⟩ = some (.int .u8 prq) ∧ w'.cell? ⟨b9, 19, none⟩ = some (.slice A2q ps2q.length q2q) := fun w' h => ⟨(hB9.below h hB9.lt).cell (j := 0) (v := .string nmp) rfl, (hB9.below h hB9.lt).cell (j := 1) (v := .string mep) rfl, (hB9.below h hB9.lt).cell (j := 2) (v := .slice A1p ps1p.length q1p) rfl, (hB9.below h hB9.lt).cell (j := 3) (v := .int .u8 kp) rfl, (hB9.below h hB9.lt).cell (j := 4) (v := .int .i64 limp) rfl, (hB9.below h hB9.lt).cell (j := 5) (v := .int .u64 tkp) rfl, (hB9.below h hB9.lt).cell (j := 6) (v := .int .u64 fop) rfl, (hB9.below h hB9.lt).cell (j := 7) (v := .int .u64 kep) rfl, (hB9.below h hB9.lt).cell (j := 8) (v := .int .u8 prp) rfl, (hB9.below h hB9.lt).cell (j := 9) (v := .slice A2p ps2p.length q2p) rfl, (hB9.below h hB9.lt).cell (j := 10) (v := .string nmq) rfl, (hB9.below h hB9.lt).cell (j := 11) (v := .string meq) rfl, (hB9.below h hB9.lt).cell (j := 12) (v := .slice A1q ps1q.length q1q) rfl, (hB9.below h hB9.lt).cell (j := 13) (v := .int .u8 kq) rfl, (hB9.below h hB9.lt).cell (j := 14) (v := .int .i64 limq) rfl, (hB9.below h hB9.lt).cell (j := 15) (v := .int .u64 tkq) rfl, (hB9.below h hB9.lt).cell (j := 16) (v := .int .u64 foq) rfl, (hB9.below h hB9.lt).cell (j := 17) (v := .int .u64 keq) rfl, (hB9.below h hB9.lt).cell (j := 18) (v := .int .u8 prq) rfl, (hB9.below h hB9.lt).cell (j := 19) (v := .slice A2q ps2q.length q2q) rfl⟩
          have ext : ∀ w' w'', Below W9.heap.size W9 w' → Below w'.heap.size w' w'' → Below W9.heap.size W9 w'' := fun w' w'' h h2 => h.trans (h2.mono h.size)
          clear hsv
          as_aux_lemma =>
            refine region_free (fun w' => Below W9.heap.size W9 w') [] [] (List.range 21) (by kernel_rfl) (by kernel_rfl) (by kernel_rfl) (Below.refl _ _).drew ?_
            simp only [List.range, List.range.loop]
            repeat (first
              | (refine RelSeq.pure_ (c := ?_) rfl rfl ?_ ?_; rotate_left; (focus (intro x w'; dsimp only; go_simp; (repeat' apply And.intro) <;> first | with_reducible rfl | assumption)); simp only [Act.put, List.setIfInBounds_toArray, List.set_cons_zero, List.set_cons_succ])
              | (refine RelSeq.skip_ rfl (fun _ => rfl) ?_; simp only [Act.put, List.setIfInBounds_toArray, List.set_cons_zero, List.set_cons_succ])
              | (refine RelSeq.pureG_ (c := ?_) rfl (fun _ => rfl) rfl ?_ ?_; rotate_left; (focus (intro x w'; dsimp only; go_simp; (repeat' apply And.intro) <;> first | with_reducible rfl | assumption)); simp only [Act.put, List.setIfInBounds_toArray, List.set_cons_zero, List.set_cons_succ])
              | (refine RelSeq.grow_ (c := ?_) rfl rfl ?_ ?_; rotate_left; (focus (intro x w' hw _; dsimp only; obtain ⟨y0, y1, y2, y3, y4, y5, y6, y7, y8, y9, y10, y11, y12, y13, y14, y15, y16, y17, y18, y19⟩ := FC w' hw; have hbr := Below.refl w'.heap.size w'; go_simp; (repeat' apply And.intro) <;> first | with_reducible rfl | assumption)); simp only [Act.put, List.setIfInBounds_toArray, List.set_cons_zero, List.set_cons_succ])
              | (refine RelSeq.grow_ (c := ?_) rfl rfl ?_ ?_; rotate_left; (focus (intro x w' hw _; dsimp only; go_simp; (with_reducible refine (KS1 w' hw).mono ?_); rintro e w3 ⟨rfl, hb2⟩; have hI := ext w' w3 hw hb2; go_simp; (repeat' apply And.intro) <;> first | with_reducible rfl | assumption)); simp only [Act.put, List.setIfInBounds_toArray, List.set_cons_zero, List.set_cons_succ])
              | (refine RelSeq.grow_ (c := ?_) rfl rfl ?_ ?_; rotate_left; (focus (intro x w' hw _; dsimp only; go_simp; (with_reducible refine (KP w').mono ?_); rintro e w3 ⟨rfl, hb2⟩; have hI := ext w' w3 hw hb2; go_simp; (repeat' apply And.intro) <;> first | with_reducible rfl | assumption)); simp only [Act.put, List.setIfInBounds_toArray, List.set_cons_zero, List.set_cons_succ])
              | (refine RelSeq.grow_ (c := ?_) rfl rfl ?_ ?_; rotate_left; (focus (intro x w' hw _; dsimp only; go_simp; (with_reducible refine (KQ w').mono ?_); rintro e w3 ⟨rfl, hb2⟩; have hI := ext w' w3 hw hb2; go_simp; (repeat' apply And.intro) <;> first | with_reducible rfl | assumption)); simp only [Act.put, List.setIfInBounds_toArray, List.set_cons_zero, List.set_cons_succ])
              | (refine RelSeq.grow_ (c := ?_) rfl rfl ?_ ?_; rotate_left; (focus (intro x w' hw _; dsimp only; go_simp; (with_reducible refine (KS2 w' hw).mono ?_); rintro e w3 ⟨rfl, hb2⟩; have hI := ext w' w3 hw hb2; go_simp; (repeat' apply And.intro) <;> first | with_reducible rfl | assumption)); simp only [Act.put, List.setIfInBounds_toArray, List.set_cons_zero, List.set_cons_succ])
              | (refine RelSeq.grow_ (c := ?_) rfl rfl ?_ ?_; rotate_left; (focus (intro x w' hw _; dsimp only; go_simp; (with_reducible refine (KS3 w' hw).mono ?_); rintro e w3 ⟨rfl, hb2⟩; have hI := ext w' w3 hw hb2; go_simp; (repeat' apply And.intro) <;> first | with_reducible rfl | assumption)); simp only [Act.put, List.setIfInBounds_toArray, List.set_cons_zero, List.set_cons_succ])
              | (refine RelSeq.growG_ (c := ?_) rfl (fun _ => rfl) rfl ?_ ?_; rotate_left; (focus (intro x w' hw _; dsimp only; obtain ⟨y0, y1, y2, y3, y4, y5, y6, y7, y8, y9, y10, y11, y12, y13, y14, y15, y16, y17, y18, y19⟩ := FC w' hw; have hbr := Below.refl w'.heap.size w'; go_simp; (repeat' apply And.intro) <;> first | with_reducible rfl | assumption)); simp only [Act.put, List.setIfInBounds_toArray, List.set_cons_zero, List.set_cons_succ])
              | (refine RelSeq.growG_ (c := ?_) rfl (fun _ => rfl) rfl ?_ ?_; rotate_left; (focus (intro x w' hw _; dsimp only; go_simp; (with_reducible refine (KS1 w' hw).mono ?_); rintro e w3 ⟨rfl, hb2⟩; have hI := ext w' w3 hw hb2; go_simp; (repeat' apply And.intro) <;> first | with_reducible rfl | assumption)); simp only [Act.put, List.setIfInBounds_toArray, List.set_cons_zero, List.set_cons_succ])
              | (refine RelSeq.growG_ (c := ?_) rfl (fun _ => rfl) rfl ?_ ?_; rotate_left; (focus (intro x w' hw _; dsimp only; go_simp; (with_reducible refine (KP w').mono ?_); rintro e w3 ⟨rfl, hb2⟩; have hI := ext w' w3 hw hb2; go_simp; (repeat' apply And.intro) <;> first | with_reducible rfl | assumption)); simp only [Act.put, List.setIfInBounds_toArray, List.set_cons_zero, List.set_cons_succ])
              | (refine RelSeq.growG_ (c := ?_) rfl (fun _ => rfl) rfl ?_ ?_; rotate_left; (focus (intro x w' hw _; dsimp only; go_simp; (with_reducible refine (KQ w').mono ?_); rintro e w3 ⟨rfl, hb2⟩; have hI := ext w' w3 hw hb2; go_simp; (repeat' apply And.intro) <;> first | with_reducible rfl | assumption)); simp only [Act.put, List.setIfInBounds_toArray, List.set_cons_zero, List.set_cons_succ])
              | (refine RelSeq.growG_ (c := ?_) rfl (fun _ => rfl) rfl ?_ ?_; rotate_left; (focus (intro x w' hw _; dsimp only; go_simp; (with_reducible refine (KS2 w' hw).mono ?_); rintro e w3 ⟨rfl, hb2⟩; have hI := ext w' w3 hw hb2; go_simp; (repeat' apply And.intro) <;> first | with_reducible rfl | assumption)); simp only [Act.put, List.setIfInBounds_toArray, List.set_cons_zero, List.set_cons_succ])
              | (refine RelSeq.growG_ (c := ?_) rfl (fun _ => rfl) rfl ?_ ?_; rotate_left; (focus (intro x w' hw _; dsimp only; go_simp; (with_reducible refine (KS3 w' hw).mono ?_); rintro e w3 ⟨rfl, hb2⟩; have hI := ext w' w3 hw hb2; go_simp; (repeat' apply And.intro) <;> first | with_reducible rfl | assumption)); simp only [Act.put, List.setIfInBounds_toArray, List.set_cons_zero, List.set_cons_succ]))
            refine RelSeq.nil_ fun x w10 hw10 _ _ => ?_
            refine TailSeq.nil_ ?_
            have hB10 := hB9.below hw10 hB9.lt
            have y1 := hB10.cell (j := 1) (v := .string mep) rfl
            as_aux_lemma =>
              clear KS1 KS2 KS3 KP KQ FC ext
              go_wp2_with fail
              refine wp_gen fun W11 hW => ?_
              obtain ⟨bS, hbS⟩ : ∃ g, g = w10.heap.size := ⟨_, rfl⟩
              have hBS : Blk W11 bS #[.string mtr, .string mep] 9 := by rw [hW, hbS]; exact Blk.new _ _ _
              have hw11 : Below w10.heap.size w10 W11 := by rw [hW]; exact (Below.refl _ _).alloc (Nat.le_refl _) _
              have hB911 := hw10.trans (hw11.mono hw10.size)
              have hB11 := hB10.below hw11 hB10.lt
              have hpo11 := hpo9.below hB911
              have hl11 := hl9.below hB911
              have hB811 := hB89.trans (hB911.mono hB89.size)
              rw [← hbS]
              clear hW hw11 hB911 hbS hB10 hw10 hB9 y1 hpo9 hqo9 hl9 hB89
              as_aux_lemma =>
                go_loopw [87] (fun i wr => ∃ m : Nat, m ≤ 2 ∧ i = .int .i64 m ∧ Below W11.heap.size W11 wr) (fun i _ => 2 - (intOf i).toNat)
                case atStart => exact ⟨0, by omega, rfl, Below.refl _ _⟩
                case round =>
                  obtain ⟨m, hm2, rfl, hB12⟩ := hrel
                  have hBk := hB11.below hB12 hB11.lt
                  by_cases hmlt : m < 2
                  · obtain ⟨x, xc⟩ : ∃ x, wr.cell? ⟨bS, m, none⟩ = some (.string x) := by
                      have hmc : m = 0 ∨ m = 1 := by omega
                      rcases hmc with rfl | rfl
                      · exact ⟨_, (hBS.below hB12 hBS.lt).cell (j := 0) rfl⟩
                      · exact ⟨_, (hBS.below hB12 hBS.lt).cell (j := 1) rfl⟩
                    have m1 : (m : Int) < 2 := by omega
                    have KA := fun w' (h : Below wr.heap.size wr w') => ruAsks nmp mep A1p q1p ps1p kp limp tkp fop kep prp A2p q2p ps2p x _ l w' ((hpo11.ir.below hB12).below h) ((hl11.below hB12).below h)
                    have KH := fun w' (h : Below wr.heap.size wr w') => refHas _ _ l ps1p w' ((hl11.below hB12).below h) ((hpo11.ir.below hB12).below h)
                    obtain ⟨hv, hhv⟩ : ∃ b, b = hasL l ps1p := ⟨_, rfl⟩
                    rw [← hhv] at KA KH
                    have FC : ∀ w', Below wr.heap.size wr w' → w'.cell? ⟨b9, 0, none⟩ = some (.string nmp) ∧ w'.cell? ⟨b9, 1, none⟩ = some (.string mep) ∧ w'.cell? ⟨b9, 2, none⟩ = some (.slice A1p ps1p.length q1p) ∧ w'.cell? ⟨b9, 3, none⟩ = some (.int .u8 kp) ∧ w'.cell? ⟨b9, 4, none⟩ = some (.int .i64 limp) ∧ w'.cell? ⟨b9, 5, none⟩ = some (.int .u64 tkp) ∧ w'.cell? ⟨b9, 6, none⟩ = some (.int .u64 fop) ∧ w'.cell? ⟨b9, 7, none⟩ = some (.int .u64 kep) ∧ w'.cell? ⟨b9, 8, none⟩ = some (.int .u8 prp) ∧ w'.cell? ⟨b9, 9, none⟩ = some (.slice A2p ps2p.length q2p) := fun w' h => ⟨(hBk.below h hBk.lt).cell (j := 0) (v := .string nmp) rfl, (hBk.below h hBk.lt).cell (j := 1) (v := .string mep) rfl, (hBk.below h hBk.lt).cell (j := 2) (v := .slice A1p ps1p.length q1p) rfl, (hBk.below h hBk.lt).cell (j := 3) (v := .int .u8 kp) rfl, (hBk.below h hBk.lt).cell (j := 4) (v := .int .i64 limp) rfl, (hBk.below h hBk.lt).cell (j := 5) (v := .int .u64 tkp) rfl, (hBk.below h hBk.lt).cell (j := 6) (v := .int .u64 fop) rfl, (hBk.below h hBk.lt).cell (j := 7) (v := .int .u64 kep) rfl, (hBk.below h hBk.lt).cell (j := 8) (v := .int .u8 prp) rfl, (hBk.below h hBk.lt).cell (j := 9) (v := .slice A2p ps2p.length q2p) rfl⟩
                    have ext : ∀ w' w'', Below wr.heap.size wr w' → Below w'.heap.size w' w'' → Below wr.heap.size wr w'' := fun w' w'' h h2 => h.trans (h2.mono h.size)
                    clear hhv
                    by_cases hx : mep = x
                    · as_aux_lemma =>
                        have E1 : (x == mep) = true := by rw [beqS]; simpa using hx.symm
                        have T1 : (x.toList == mep.toList) = true := by rw [eqS_eq]; simpa using hx.symm
                        rw [decide_eq_true hx] at KA
                        simp only [Bool.true_and] at KA
                        clear hx
                        go_wp2_with fail
                        refine region_free (fun w' => Below wr.heap.size wr w') [] [] (List.range 18) (by kernel_rfl) (by kernel_rfl) (by kernel_rfl) (Below.refl _ _).drew ?_
                        simp only [List.range, List.range.loop]
                        repeat (first
                          | (refine RelSeq.pure_ (c := ?_) rfl rfl ?_ ?_; rotate_left; (focus (intro x w'; dsimp only; go_simp; (repeat' apply And.intro) <;> first | with_reducible rfl | assumption)); simp only [Act.put, List.setIfInBounds_toArray, List.set_cons_zero, List.set_cons_succ])
                          | (refine RelSeq.skip_ rfl (fun _ => rfl) ?_; simp only [Act.put, List.setIfInBounds_toArray, List.set_cons_zero, List.set_cons_succ])
                          | (refine RelSeq.pureG_ (c := ?_) rfl (fun _ => rfl) rfl ?_ ?_; rotate_left; (focus (intro x w'; dsimp only; go_simp; (repeat' apply And.intro) <;> first | with_reducible rfl | assumption)); simp only [Act.put, List.setIfInBounds_toArray, List.set_cons_zero, List.set_cons_succ])
                          | (refine RelSeq.grow_ (c := ?_) rfl rfl ?_ ?_; rotate_left; (focus (intro x w' hw _; dsimp only; obtain ⟨y0, y1, y2, y3, y4, y5, y6, y7, y8, y9⟩ := FC w' hw; have hbr := Below.refl w'.heap.size w'; go_simp; (repeat' apply And.intro) <;> first | with_reducible rfl | assumption)); simp only [Act.put, List.setIfInBounds_toArray, List.set_cons_zero, List.set_cons_succ])
                          | (refine RelSeq.grow_ (c := ?_) rfl rfl ?_ ?_; rotate_left; (focus (intro x w' hw _; dsimp only; go_simp; (with_reducible refine (KA w' hw).mono ?_); rintro e w3 ⟨rfl, hb2⟩; have hI := ext w' w3 hw hb2; go_simp; (repeat' apply And.intro) <;> first | with_reducible rfl | assumption)); simp only [Act.put, List.setIfInBounds_toArray, List.set_cons_zero, List.set_cons_succ])
                          | (refine RelSeq.grow_ (c := ?_) rfl rfl ?_ ?_; rotate_left; (focus (intro x w' hw _; dsimp only; go_simp; (with_reducible refine (KH w' hw).mono ?_); rintro e w3 ⟨rfl, hb2⟩; have hI := ext w' w3 hw hb2; go_simp; (repeat' apply And.intro) <;> first | with_reducible rfl | assumption)); simp only [Act.put, List.setIfInBounds_toArray, List.set_cons_zero, List.set_cons_succ])
                          | (refine RelSeq.growG_ (c := ?_) rfl (fun _ => rfl) rfl ?_ ?_; rotate_left; (focus (intro x w' hw _; dsimp only; obtain ⟨y0, y1, y2, y3, y4, y5, y6, y7, y8, y9⟩ := FC w' hw; have hbr := Below.refl w'.heap.size w'; go_simp; (repeat' apply And.intro) <;> first | with_reducible rfl | assumption)); simp only [Act.put, List.setIfInBounds_toArray, List.set_cons_zero, List.set_cons_succ])
                          | (refine RelSeq.growG_ (c := ?_) rfl (fun _ => rfl) rfl ?_ ?_; rotate_left; (focus (intro x w' hw _; dsimp only; go_simp; (with_reducible refine (KA w' hw).mono ?_); rintro e w3 ⟨rfl, hb2⟩; have hI := ext w' w3 hw hb2; go_simp; (repeat' apply And.intro) <;> first | with_reducible rfl | assumption)); simp only [Act.put, List.setIfInBounds_toArray, List.set_cons_zero, List.set_cons_succ])
                          | (refine RelSeq.growG_ (c := ?_) rfl (fun _ => rfl) rfl ?_ ?_; rotate_left; (focus (intro x w' hw _; dsimp only; go_simp; (with_reducible refine (KH w' hw).mono ?_); rintro e w3 ⟨rfl, hb2⟩; have hI := ext w' w3 hw hb2; go_simp; (repeat' apply And.intro) <;> first | with_reducible rfl | assumption)); simp only [Act.put, List.setIfInBounds_toArray, List.set_cons_zero, List.set_cons_succ]))
                        refine RelSeq.nil_ fun z w20 hw20 _ _ => ?_
                        refine TailSeq.nil_ ?_
                        clear KA KH FC ext
                        go_wp2_with fail
                        go_roundw
                        case rel => exact ⟨m + 1, by omega, by go_num, hB12.trans (hw20.mono hB12.size)⟩
                        case measure => simp [intOf]; omega
                    · as_aux_lemma =>
                        have E1 : (x == mep) = false := by rw [beqS]; simpa using fun h => hx h.symm
                        have T1 : (x.toList == mep.toList) = false := by rw [eqS_eq]; simpa using fun h => hx h.symm
                        rw [decide_eq_false hx] at KA
                        simp only [Bool.false_and] at KA
                        clear hx
                        go_wp2_with fail
                        refine region_free (fun w' => Below wr.heap.size wr w') [] [] (List.range 18) (by kernel_rfl) (by kernel_rfl) (by kernel_rfl) (Below.refl _ _).drew ?_
                        simp only [List.range, List.range.loop]
                        repeat (first
                          | (refine RelSeq.pure_ (c := ?_) rfl rfl ?_ ?_; rotate_left; (focus (intro x w'; dsimp only; go_simp; (repeat' apply And.intro) <;> first | with_reducible rfl | assumption)); simp only [Act.put, List.setIfInBounds_toArray, List.set_cons_zero, List.set_cons_succ])
                          | (refine RelSeq.skip_ rfl (fun _ => rfl) ?_; simp only [Act.put, List.setIfInBounds_toArray, List.set_cons_zero, List.set_cons_succ])
                          | (refine RelSeq.pureG_ (c := ?_) rfl (fun _ => rfl) rfl ?_ ?_; rotate_left; (focus (intro x w'; dsimp only; go_simp; (repeat' apply And.intro) <;> first | with_reducible rfl | assumption)); simp only [Act.put, List.setIfInBounds_toArray, List.set_cons_zero, List.set_cons_succ])
                          | (refine RelSeq.grow_ (c := ?_) rfl rfl ?_ ?_; rotate_left; (focus (intro x w' hw _; dsimp only; obtain ⟨y0, y1, y2, y3, y4, y5, y6, y7, y8, y9⟩ := FC w' hw; have hbr := Below.refl w'.heap.size w'; go_simp; (repeat' apply And.intro) <;> first | with_reducible rfl | assumption)); simp only [Act.put, List.setIfInBounds_toArray, List.set_cons_zero, List.set_cons_succ])
                          | (refine RelSeq.grow_ (c := ?_) rfl rfl ?_ ?_; rotate_left; (focus (intro x w' hw _; dsimp only; go_simp; (with_reducible refine (KA w' hw).mono ?_); rintro e w3 ⟨rfl, hb2⟩; have hI := ext w' w3 hw hb2; go_simp; (repeat' apply And.intro) <;> first | with_reducible rfl | assumption)); simp only [Act.put, List.setIfInBounds_toArray, List.set_cons_zero, List.set_cons_succ])
                          | (refine RelSeq.grow_ (c := ?_) rfl rfl ?_ ?_; rotate_left; (focus (intro x w' hw _; dsimp only; go_simp; (with_reducible refine (KH w' hw).mono ?_); rintro e w3 ⟨rfl, hb2⟩; have hI := ext w' w3 hw hb2; go_simp; (repeat' apply And.intro) <;> first | with_reducible rfl | assumption)); simp only [Act.put, List.setIfInBounds_toArray, List.set_cons_zero, List.set_cons_succ])
                          | (refine RelSeq.growG_ (c := ?_) rfl (fun _ => rfl) rfl ?_ ?_; rotate_left; (focus (intro x w' hw _; dsimp only; obtain ⟨y0, y1, y2, y3, y4, y5, y6, y7, y8, y9⟩ := FC w' hw; have hbr := Below.refl w'.heap.size w'; go_simp; (repeat' apply And.intro) <;> first | with_reducible rfl | assumption)); simp only [Act.put, List.setIfInBounds_toArray, List.set_cons_zero, List.set_cons_succ])
                          | (refine RelSeq.growG_ (c := ?_) rfl (fun _ => rfl) rfl ?_ ?_; rotate_left; (focus (intro x w' hw _; dsimp only; go_simp; (with_reducible refine (KA w' hw).mono ?_); rintro e w3 ⟨rfl, hb2⟩; have hI := ext w' w3 hw hb2; go_simp; (repeat' apply And.intro) <;> first | with_reducible rfl | assumption)); simp only [Act.put, List.setIfInBounds_toArray, List.set_cons_zero, List.set_cons_succ])
                          | (refine RelSeq.growG_ (c := ?_) rfl (fun _ => rfl) rfl ?_ ?_; rotate_left; (focus (intro x w' hw _; dsimp only; go_simp; (with_reducible refine (KH w' hw).mono ?_); rintro e w3 ⟨rfl, hb2⟩; have hI := ext w' w3 hw hb2; go_simp; (repeat' apply And.intro) <;> first | with_reducible rfl | assumption)); simp only [Act.put, List.setIfInBounds_toArray, List.set_cons_zero, List.set_cons_succ]))
                        refine RelSeq.nil_ fun z w20 hw20 _ _ => ?_
                        refine TailSeq.nil_ ?_
                        clear KA KH FC ext
                        go_wp2_with fail
                        go_roundw
                        case rel => exact ⟨m + 1, by omega, by go_num, hB12.trans (hw20.mono hB12.size)⟩
                        case measure => simp [intOf]; omega
                  · as_aux_lemma =>
                      obtain rfl : m = 2 := by omega
                      have y0 := hBk.cell (j := 0) (v := .string nmp) rfl
                      have y1 := hBk.cell (j := 1) (v := .string mep) rfl
                      have y2 := hBk.cell (j := 2) (v := .slice A1p ps1p.length q1p) rfl
                      have y3 := hBk.cell (j := 3) (v := .int .u8 kp) rfl
                      have y4 := hBk.cell (j := 4) (v := .int .i64 limp) rfl
                      have y5 := hBk.cell (j := 5) (v := .int .u64 tkp) rfl
                      have y6 := hBk.cell (j := 6) (v := .int .u64 fop) rfl
                      have y7 := hBk.cell (j := 7) (v := .int .u64 kep) rfl
                      have y8 := hBk.cell (j := 8) (v := .int .u8 prp) rfl
                      have y9 := hBk.cell (j := 9) (v := .slice A2p ps2p.length q2p) rfl
                      have KL := ruLabels nmp mep A1p q1p ps1p kp limp tkp fop kep prp A2p q2p ps2p _ l wr (hpo11.wr.below hB12) (hl11.below hB12) HL.out.2 hpo11.wz (by omega)
                      have KM := fun w' (h : Below wr.heap.size wr w') => refMerge _ _ l ps2p w' ((hl11.below hB12).below h) ((hpo11.wr.below hB12).below h) HL.out.2 hpo11.wz (by omega)
                      obtain ⟨mm, hmm⟩ : ∃ b, b = makeL (mergeIn l ps2p) := ⟨_, rfl⟩
                      obtain ⟨cc, hcc⟩ : ∃ b, b = chkL (sortL (mergeIn l ps2p)) := ⟨_, rfl⟩
                      rw [← hmm, ← hcc] at KL KM
                      clear hmm hcc
                      go_wp2_with fail
                      (with_reducible refine KL.mono ?_)
                      rintro e w30 ⟨v30, rfl, o30, hb30⟩
                      have y9 := (hBk.below hb30 hBk.lt).cell (j := 9) (v := .slice A2p ps2p.length q2p) rfl
                      have K2 := KM w30 hb30
                      clear KL KM
                      go_wp2_with fail
                      (with_reducible refine K2.mono ?_)
                      rintro e w31 ⟨v31, rfl, o31, hb31⟩
                      have KE := refSame v30 v31 mm mm w31 ((rd_of_owns o30).below hb31) (rd_of_owns o31)
                      rw [show sameB mm mm = true by simp [sameB]] at KE
                      have hb32 := hb30.trans (hb31.mono hb30.size)
                      clear K2 o30 o31 hb30 hb31
                      go_wp2_with fail
                      (with_reducible refine KE.mono ?_)
                      rintro e w32 ⟨rfl, hb33⟩
                      have hb34 := hb32.trans (hb33.mono hb32.size)
                      have hB35 := hB12.trans (hb34.mono hB12.size)
                      have hB36 := hB811.trans (hB35.mono hB811.size)
                      clear KE hb32 hb33 hb34 hB35
                      go_wp2_with fail
                      go_roundw
                      case rel => exact ⟨j + 1, by omega, by go_num, hB36⟩
                      case measure => simp [intOf]; omega
    · obtain rfl : j = 2 := by omega
      go_wp2_with fail
      go_ret
      exact ⟨rfl, (U8.grow hB).below⟩
end Go.Proofs.YtebnbbbiobaneaaGreatDoor
