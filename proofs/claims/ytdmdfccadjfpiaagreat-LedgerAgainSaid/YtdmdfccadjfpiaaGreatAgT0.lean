/-
  watchfirelaw08.Next with a ledger's High; ledger.List; the law's same; the plain law of what is written; Crash of a file that is synced; items and tears handed in.
-/
import Derived.Test.YtdmdfccadjfpiaaGreatSm5
import Derived.Test.YtdmdfccadjfpiaaGreatOpT
import Derived.Test.YtdmdfccadjfpiaaGreatFreeT
import Derived.Test.YtdmdfccadjfpiaaGreatCrT
import Derived.Test.YtdmdfccadjfpiaaGreatAwk22
import Derived.Test.YtdmdfccadjfpiaaGreatDat
import Derived.ChangeMaps5
namespace Go.Proofs.YtdmdfccadjfpiaaGreat
open Go.RowKit
set_option maxRecDepth 100000
attribute [local go_sem] FreeTw.out

/-- What an act's item is, behind a high. -/
structure NextOk (a : ItV) (n o : Nat) : Prop where
  chk : chkIt a = 0
  org : spanO a = o % 4
  fr : spanF a = n + 1
  to : spanT a ≤ n + 3
  nrm : normI a
/-- What an item has besides its labels' memory. -/
structure ItV.nb (a : ItV) : Prop where
  o : a.o < 256
  sq : a.sq < 18446744073709551616
  tm : a.tm < 18446744073709551616
  ru : a.ru.size ≤ maxLen
  pz : ∀ p ∈ a.ps, p.1.size ≤ maxLen ∧ p.2.size ≤ maxLen
  st : a.st < 256
  pr : a.pr < 256
  va : -9223372036854775808 ≤ a.va ∧ a.va ≤ 9223372036854775807
  ow : a.ow < 256
  go : a.go < 256
  gf : a.gf < 18446744073709551616
  gt : a.gt < 18446744073709551616
theorem ItV.ok.nb {a : ItV} {w : World} (h : a.ok w) : a.nb := ⟨h.o, h.sq, h.tm, h.ru, h.pz, h.st, h.pr, h.va, h.ow, h.go, h.gf, h.gt⟩
theorem ItV.nb.ok {a : ItV} {w : World} (h : a.nb) (hr : Rd w 2 a.lv a.ps.length (pairCells a.ps)) : a.ok w := ⟨h.o, h.sq, h.tm, h.ru, hr, h.pz, h.st, h.pr, h.va, h.ow, h.go, h.gf, h.gt⟩
set_option maxHeartbeats 2000000 in
theorem smallNextH_true (cl n o p ow sq mo ti ru la va : Nat) (stb : Bool) (w : World) (hn : n ≤ 1000000) (_how : ow < 256) (hsq : sq < 65536) (_hmo : mo < 65536) (_hti : ti < 65536) (_hla : la < 256) (_hva : va < 256)
    (KH : ∀ o4, o4 = o % 4 → ∀ w', Below w.heap.size w w' → Calls Tryz.prog 21 #[.pointer (some ⟨cl, 0, none⟩), .int .u8 (o4 : Nat)] w' fun e w'' => e = .returned (.int .u64 (n : Nat)) ∧ Below w'.heap.size w' w'') :
    Calls Tryz.prog 8 #[.agg #[.bool true, .int .u8 o, .int .u8 p, .int .u8 ow, .int .u16 sq, .int .u16 mo, .int .u16 ti, .int .u8 ru, .int .u8 la, .int .u8 va, .bool stb], .func (Fn.func 21) #[.pointer (some ⟨cl, 0, none⟩)] #[]] w fun e w' => ∃ a : ItV, e = .returned (itV a) ∧ NextOk a n o ∧ w'.ownsRow w.heap.size 137 2 a.lv a.ps.length (pairCells a.ps) ∧ a.ok w' ∧ Below w.heap.size w w' := by
  obtain ⟨o4, ho4⟩ : ∃ o4, o4 = o % 4 := ⟨_, rfl⟩
  have KH4 := KH o4 ho4
  clear KH
  have lo : o4 < 4 := by omega
  have HO := Lib.hid ho4
  have t1 : (o : Int).tmod 4 = (o4 : Int) := by rw [ho4]; rfl
  obtain ⟨m3, hm3⟩ : ∃ m3, m3 = mo % 3 := ⟨_, rfl⟩
  have t2 : (mo : Int).tmod 3 = (m3 : Int) := by rw [hm3]; rfl
  have lm : m3 < 3 := by omega
  clear ho4 hm3
  have KS := fun w' => smallItem_gap o4 p ow sq m3 ti ru la va stb w' hsq (by omega)
  have q1 : IntKind.u64.wrap ((n : Int) + 1) = ((n + 1 : Nat) : Int) := by rw [IntKind.wrap_u64]; omega
  have q2 : IntKind.u64.wrap (m3 : Int) = (m3 : Int) := by rw [IntKind.wrap_u64]; omega
  have q3 : IntKind.u64.wrap ((n : Int) + 1 + (m3 : Int)) = (n : Int) + 1 + (m3 : Int) := by rw [IntKind.wrap_u64]; omega

  go_enter Tryz.func8, Tryz.ntmps8
  go_wp2_with fail
  refine calls_genP fun w2 hw2 => ?_
  have U2 := (((Upd.nil [] w).alloc #[.bool true, .int .u8 o4, .int .u8 p, .int .u8 ow, .int .u16 sq, .int .u16 m3, .int .u16 ti, .int .u8 ru, .int .u8 la, .int .u8 va, .bool stb] 27).alloc #[.bool false, .int .u8 0, .int .u64 0, .int .u64 0, .string ⟨#[]⟩, .slice none 0 0, .int .u8 0, .int .u8 0, .int .i64 0, .int .u8 0, .int .u8 0, .int .u64 0, .int .u64 0] 36).same hw2
  simp only [World.size_alloc] at U2
  clear hw2
  (with_reducible refine (KS w2).mono ?_)
  rintro e w3 ⟨o32, f, t, ho32, hf, ht, rfl, hb3⟩
  have ho : o32 = o4 := by omega
  subst ho
  have U3 := U2.grow hb3
  clear hb3 U2 KS ho32
  have U4 := U3.alloc #[.bool true, .int .u8 0, .int .u64 0, .int .u64 0, .string ⟨#[]⟩, .slice none 0 0, .int .u8 0, .int .u8 0, .int .i64 0, .int .u8 0, .int .u8 o32, .int .u64 f, .int .u64 t] 36
  have c1 := (U4.blk 2 rfl).cell (j := 1) (v := .int .u8 o32) rfl
  go_wp2_with fail
  (with_reducible refine (KH4 _ U4.below).mono ?_)
  rintro e w5 ⟨rfl, hb5⟩
  have U5 := U4.grow hb5
  clear hb5 U4 U3 c1 KH4
  have e0 := (U5.blk 0 rfl).cell (j := 0) (v := .bool true) rfl
  have e1 := (U5.blk 0 rfl).cell (j := 1) (v := .int .u8 0) rfl
  have e2 := (U5.blk 0 rfl).cell (j := 2) (v := .int .u64 0) rfl
  have e3 := (U5.blk 0 rfl).cell (j := 3) (v := .int .u64 0) rfl
  have e4 := (U5.blk 0 rfl).cell (j := 4) (v := .string ⟨#[]⟩) rfl
  have e5 := (U5.blk 0 rfl).cell (j := 5) (v := .slice none 0 0) rfl
  have e6 := (U5.blk 0 rfl).cell (j := 6) (v := .int .u8 0) rfl
  have e7 := (U5.blk 0 rfl).cell (j := 7) (v := .int .u8 0) rfl
  have e8 := (U5.blk 0 rfl).cell (j := 8) (v := .int .i64 0) rfl
  have e9 := (U5.blk 0 rfl).cell (j := 9) (v := .int .u8 0) rfl
  have e10 := (U5.blk 0 rfl).cell (j := 10) (v := .int .u8 o32) rfl
  have e11 := (U5.blk 0 rfl).cell (j := 11) (v := .int .u64 f) rfl
  have e12 := (U5.blk 0 rfl).cell (j := 12) (v := .int .u64 t) rfl
  have ef := (U5.blk 0 rfl).frozen
  have z0 := (U5.blk 1 rfl).cell (j := 0) (v := .bool false) rfl
  have z1 := (U5.blk 1 rfl).cell (j := 1) (v := .int .u8 0) rfl
  have z2 := (U5.blk 1 rfl).cell (j := 2) (v := .int .u64 0) rfl
  have z3 := (U5.blk 1 rfl).cell (j := 3) (v := .int .u64 0) rfl
  have z4 := (U5.blk 1 rfl).cell (j := 4) (v := .string ⟨#[]⟩) rfl
  have z5 := (U5.blk 1 rfl).cell (j := 5) (v := .slice none 0 0) rfl
  have z6 := (U5.blk 1 rfl).cell (j := 6) (v := .int .u8 0) rfl
  have z7 := (U5.blk 1 rfl).cell (j := 7) (v := .int .u8 0) rfl
  have z8 := (U5.blk 1 rfl).cell (j := 8) (v := .int .i64 0) rfl
  have z9 := (U5.blk 1 rfl).cell (j := 9) (v := .int .u8 0) rfl
  have z10 := (U5.blk 1 rfl).cell (j := 10) (v := .int .u8 0) rfl
  have z11 := (U5.blk 1 rfl).cell (j := 11) (v := .int .u64 0) rfl
  have z12 := (U5.blk 1 rfl).cell (j := 12) (v := .int .u64 0) rfl
  have zf := (U5.blk 1 rfl).frozen
  have c5 := (U5.blk 2 rfl).cell (j := 5) (v := .int .u16 m3) rfl
  have hne : w3.heap.size ≠ w.heap.size + 1 := fun h => U5.apartAt 0 1 (by decide) rfl rfl w3.heap.size (chBlk_fp.2 rfl) (chBlk_fp.2 h)
  have hne2 : w.heap.size + 1 ≠ w3.heap.size := fun h => hne h.symm
  have F : ∀ w', Below w5.heap.size w5 w' → w'.cell? ⟨w.heap.size, 5, none⟩ = some (.int .u16 m3) := fun w' hw => ((U5.grow hw).blk 2 rfl).cell rfl
  go_wp2_with fail
  have ne3 : w.heap.size ≠ w3.heap.size := fun h => U5.apartAt 0 2 (by decide) rfl rfl w3.heap.size (chBlk_fp.2 rfl) (chBlk_fp.2 h.symm)
  have ne4 : w3.heap.size ≠ w.heap.size := fun h => ne3 h.symm
  refine FreeTw.region_free (fun w' => Below w5.heap.size w5 w') (fun w' => w'.cell? ⟨w.heap.size, 5, none⟩ = some (.int .u16 m3)) [2000005, 2000006] [10, 11, 12, 13] [0, 1, 2, 3, 4, 5, 6, 7, 8, 9] (fun w' hw => F w' hw) (by kernel_rfl) (by kernel_rfl) (by kernel_rfl) ((Below.refl _ _).drew) ?_
  repeat (first
    | (refine FreeTw.RelSeq.pure_ (c := ?_) rfl rfl ?_ ?_; rotate_left; (focus (intro x w'; dsimp only; go_simp; (first | ((repeat' apply And.intro) <;> first | with_reducible rfl | assumption) | (split <;> (try (focus (exfalso; omega))); (try go_simp); (repeat' apply And.intro) <;> first | with_reducible rfl | assumption)))); simp only [Act.put, List.setIfInBounds_toArray, List.set_cons_zero, List.set_cons_succ])
    | (refine FreeTw.RelSeq.steady_ (c := ?_) rfl rfl rfl ?_ ?_; rotate_left; (focus (intro x w' hw; dsimp only; obtain d0 := hw; go_simp; (repeat' apply And.intro) <;> first | with_reducible rfl | assumption)); simp only [Act.put, List.setIfInBounds_toArray, List.set_cons_zero, List.set_cons_succ])
    | (refine FreeTw.RelSeq.grow_ (c := ?_) rfl rfl rfl ?_ ?_; rotate_left; (focus (intro x w' hw _; dsimp only; obtain c0 := F w' hw; have hbr := Below.refl w'.heap.size w'; go_simp; (repeat' apply And.intro) <;> first | with_reducible rfl | assumption)); simp only [Act.put, List.setIfInBounds_toArray, List.set_cons_zero, List.set_cons_succ]))
  refine FreeTw.RelSeq.nil_ fun x w6 hw _ _ => ?_
  have U6 := U5.grow hw
  have c5' := F w6 hw
  clear F hw U5 c5 e0 e1 e2 e3 e4 e5 e6 e7 e8 e9 e10 e11 e12 z0 z1 z2 z3 z4 z5 z6 z7 z8 z9 z10 z11 z12 ef zf
  refine FreeTw.TailSeq.cons_ rfl ?_
  have e0 := (U6.blk 0 rfl).cell (j := 0) (v := .bool true) rfl
  have e1 := (U6.blk 0 rfl).cell (j := 1) (v := .int .u8 0) rfl
  have e2 := (U6.blk 0 rfl).cell (j := 2) (v := .int .u64 0) rfl
  have e3 := (U6.blk 0 rfl).cell (j := 3) (v := .int .u64 0) rfl
  have e4 := (U6.blk 0 rfl).cell (j := 4) (v := .string ⟨#[]⟩) rfl
  have e5 := (U6.blk 0 rfl).cell (j := 5) (v := .slice none 0 0) rfl
  have e6 := (U6.blk 0 rfl).cell (j := 6) (v := .int .u8 0) rfl
  have e7 := (U6.blk 0 rfl).cell (j := 7) (v := .int .u8 0) rfl
  have e8 := (U6.blk 0 rfl).cell (j := 8) (v := .int .i64 0) rfl
  have e9 := (U6.blk 0 rfl).cell (j := 9) (v := .int .u8 0) rfl
  have e10 := (U6.blk 0 rfl).cell (j := 10) (v := .int .u8 o32) rfl
  have e11 := (U6.blk 0 rfl).cell (j := 11) (v := .int .u64 f) rfl
  have e12 := (U6.blk 0 rfl).cell (j := 12) (v := .int .u64 t) rfl
  have ef := (U6.blk 0 rfl).frozen
  go_simp
  refine FreeTw.TailSeq.cons_ rfl ?_
  go_simp
  refine FreeTw.TailSeq.cons_ rfl ?_
  go_simp
  refine FreeTw.TailSeq.cons_ rfl ?_
  go_simp
  refine FreeTw.TailSeq.nil_gen fun w7 hw7 => ?_
  have U7 := ((U6.put 0 rfl 11 (.int .u64 ((n : Int) + 1))).put 0 rfl 12 (.int .u64 ((n : Int) + 1 + (m3 : Int)))).same hw7
  simp only [List.setIfInBounds_toArray, List.set_cons_succ, List.set_cons_zero, List.eraseIdx_cons_zero] at U7
  clear hw7 U6 e0 e1 e2 e3 e4 e5 e6 e7 e8 e9 e10 e11 e12 ef
  have e0 := (U7.blk 0 rfl).cell (j := 0) (v := .bool true) rfl
  have e1 := (U7.blk 0 rfl).cell (j := 1) (v := .int .u8 0) rfl
  have e2 := (U7.blk 0 rfl).cell (j := 2) (v := .int .u64 0) rfl
  have e3 := (U7.blk 0 rfl).cell (j := 3) (v := .int .u64 0) rfl
  have e4 := (U7.blk 0 rfl).cell (j := 4) (v := .string ⟨#[]⟩) rfl
  have e5 := (U7.blk 0 rfl).cell (j := 5) (v := .slice none 0 0) rfl
  have e6 := (U7.blk 0 rfl).cell (j := 6) (v := .int .u8 0) rfl
  have e7 := (U7.blk 0 rfl).cell (j := 7) (v := .int .u8 0) rfl
  have e8 := (U7.blk 0 rfl).cell (j := 8) (v := .int .i64 0) rfl
  have e9 := (U7.blk 0 rfl).cell (j := 9) (v := .int .u8 0) rfl
  have e10 := (U7.blk 0 rfl).cell (j := 10) (v := .int .u8 o32) rfl
  have e11 := (U7.blk 0 rfl).cell (j := 11) (v := .int .u64 ((n : Int) + 1)) rfl
  have e12 := (U7.blk 0 rfl).cell (j := 12) (v := .int .u64 ((n : Int) + 1 + (m3 : Int))) rfl
  have ef := (U7.blk 0 rfl).frozen
  have z0 := (U7.blk 1 rfl).cell (j := 0) (v := .bool false) rfl
  have z1 := (U7.blk 1 rfl).cell (j := 1) (v := .int .u8 0) rfl
  have z2 := (U7.blk 1 rfl).cell (j := 2) (v := .int .u64 0) rfl
  have z3 := (U7.blk 1 rfl).cell (j := 3) (v := .int .u64 0) rfl
  have z4 := (U7.blk 1 rfl).cell (j := 4) (v := .string ⟨#[]⟩) rfl
  have z5 := (U7.blk 1 rfl).cell (j := 5) (v := .slice none 0 0) rfl
  have z6 := (U7.blk 1 rfl).cell (j := 6) (v := .int .u8 0) rfl
  have z7 := (U7.blk 1 rfl).cell (j := 7) (v := .int .u8 0) rfl
  have z8 := (U7.blk 1 rfl).cell (j := 8) (v := .int .i64 0) rfl
  have z9 := (U7.blk 1 rfl).cell (j := 9) (v := .int .u8 0) rfl
  have z10 := (U7.blk 1 rfl).cell (j := 10) (v := .int .u8 0) rfl
  have z11 := (U7.blk 1 rfl).cell (j := 11) (v := .int .u64 0) rfl
  have z12 := (U7.blk 1 rfl).cell (j := 12) (v := .int .u64 0) rfl
  have zf := (U7.blk 1 rfl).frozen
  go_wp2_with fail
  refine bodyPost_gen fun w8 hw8 => ?_
  have V := ((((((((((((((U7.put 1 rfl 0 (.bool true)).put 0 rfl 1 (.int .u8 0)).put 0 rfl 2 (.int .u64 0)).put 0 rfl 3 (.int .u64 0)).put 0 rfl 4 (.string ⟨#[]⟩)).put 0 rfl 5 (.slice none 0 0)).put 0 rfl 6 (.int .u8 0)).put 0 rfl 7 (.int .u8 0)).put 0 rfl 8 (.int .i64 0)).put 0 rfl 9 (.int .u8 0)).put 0 rfl 10 (.int .u8 o32)).put 0 rfl 11 (.int .u64 ((n : Int) + 1))).put 0 rfl 12 (.int .u64 ((n : Int) + 1 + (m3 : Int))))).same hw8
  simp only [List.setIfInBounds_toArray, List.set_cons_succ, List.set_cons_zero, List.eraseIdx_cons_succ, List.eraseIdx_cons_zero] at V
  clear hw8 U7
  have a0 := (V.blk 0 rfl).cell (j := 0) (v := .bool true) rfl
  have a1 := (V.blk 0 rfl).cell (j := 1) (v := .int .u8 0) rfl
  have a2 := (V.blk 0 rfl).cell (j := 2) (v := .int .u64 0) rfl
  have a3 := (V.blk 0 rfl).cell (j := 3) (v := .int .u64 0) rfl
  have a4 := (V.blk 0 rfl).cell (j := 4) (v := .string ⟨#[]⟩) rfl
  have a5 := (V.blk 0 rfl).cell (j := 5) (v := .slice none 0 0) rfl
  have a6 := (V.blk 0 rfl).cell (j := 6) (v := .int .u8 0) rfl
  have a7 := (V.blk 0 rfl).cell (j := 7) (v := .int .u8 0) rfl
  have a8 := (V.blk 0 rfl).cell (j := 8) (v := .int .i64 0) rfl
  have a9 := (V.blk 0 rfl).cell (j := 9) (v := .int .u8 0) rfl
  have a10 := (V.blk 0 rfl).cell (j := 10) (v := .int .u8 o32) rfl
  have a11 := (V.blk 0 rfl).cell (j := 11) (v := .int .u64 ((n : Int) + 1)) rfl
  have a12 := (V.blk 0 rfl).cell (j := 12) (v := .int .u64 ((n : Int) + 1 + (m3 : Int))) rfl
  refine bodyPost_ret (v := .agg #[.bool true, .int .u8 0, .int .u64 0, .int .u64 0, .string ⟨#[]⟩, .slice none 0 0, .int .u8 0, .int .u8 0, .int .i64 0, .int .u8 0, .int .u8 o32, .int .u64 ((n : Int) + 1), .int .u64 ((n : Int) + 1 + (m3 : Int))]) ?_ rfl ⟨⟨true, 0, 0, 0, ⟨#[]⟩, .slice none 0 0, [], 0, 0, 0, 0, o32, n + 1, n + 1 + m3⟩, by simp [itV], ⟨?_, HO.out, rfl, show n + 1 + m3 ≤ n + 3 by omega, by simp [normI]⟩, World.ownsRow_nil w8 w.heap.size 137 2, ⟨by simp, by simp, by simp, show (0 : Nat) ≤ maxLen from Nat.zero_le _, ⟨none, 0, rfl, rfl, Nat.le_refl _, show 0 ≤ maxLen by unfold maxLen; omega, fun h => absurd h (Nat.lt_irrefl 0)⟩, (fun _ h => nomatch h), by simp, by simp, by simp, by simp, show o32 < 256 by omega, show n + 1 < _ by omega, show n + 1 + m3 < _ by omega⟩, V.below⟩
  · simp [results, Tryz.results8, go_sem, a0, a1, a2, a3, a4, a5, a6, a7, a8, a9, a10, a11, a12]
  · show chkGap o32 (n + 1) (n + 1 + m3) = 0
    unfold chkGap
    rw [if_neg (by omega)]
set_option maxHeartbeats 2000000 in
theorem smallNextH_false (cl n o p ow sq mo ti ru la va : Nat) (stb : Bool) (w : World) (hn : n ≤ 1000000) (how : ow < 256) (hsq : sq < 65536) (_hmo : mo < 65536) (hti : ti < 65536) (hla : la < 256) (hva : va < 256)
    (KH : ∀ o4, o4 = o % 4 → ∀ w', Below w.heap.size w w' → Calls Tryz.prog 21 #[.pointer (some ⟨cl, 0, none⟩), .int .u8 (o4 : Nat)] w' fun e w'' => e = .returned (.int .u64 (n : Nat)) ∧ Below w'.heap.size w' w'') :
    Calls Tryz.prog 8 #[.agg #[.bool false, .int .u8 o, .int .u8 p, .int .u8 ow, .int .u16 sq, .int .u16 mo, .int .u16 ti, .int .u8 ru, .int .u8 la, .int .u8 va, .bool stb], .func (Fn.func 21) #[.pointer (some ⟨cl, 0, none⟩)] #[]] w fun e w' => ∃ a : ItV, e = .returned (itV a) ∧ NextOk a n o ∧ w'.ownsRow w.heap.size 137 2 a.lv a.ps.length (pairCells a.ps) ∧ a.ok w' ∧ Below w.heap.size w w' := by
  obtain ⟨o4, ho4⟩ : ∃ o4, o4 = o % 4 := ⟨_, rfl⟩
  have KH4 := KH o4 ho4
  clear KH
  have lo : o4 < 4 := by omega
  have HO := Lib.hid ho4
  have t1 : (o : Int).tmod 4 = (o4 : Int) := by rw [ho4]; rfl
  obtain ⟨m3, hm3⟩ : ∃ m3, m3 = mo % 3 := ⟨_, rfl⟩
  have t2 : (mo : Int).tmod 3 = (m3 : Int) := by rw [hm3]; rfl
  have lm : m3 < 3 := by omega
  clear ho4 hm3
  have KS := fun w' => smallItem_event o4 p ow sq m3 ti ru la va stb w' how hsq hti hla hva
  have q1 : IntKind.u64.wrap ((n : Int) + 1) = ((n + 1 : Nat) : Int) := by rw [IntKind.wrap_u64]; omega
  have q2 : IntKind.u64.wrap (m3 : Int) = (m3 : Int) := by rw [IntKind.wrap_u64]; omega
  have q3 : IntKind.u64.wrap ((n : Int) + 1 + (m3 : Int)) = (n : Int) + 1 + (m3 : Int) := by rw [IntKind.wrap_u64]; omega

  go_enter Tryz.func8, Tryz.ntmps8
  go_wp2_with fail
  refine calls_genP fun w2 hw2 => ?_
  have U2 := (((Upd.nil [] w).alloc #[.bool false, .int .u8 o4, .int .u8 p, .int .u8 ow, .int .u16 sq, .int .u16 m3, .int .u16 ti, .int .u8 ru, .int .u8 la, .int .u8 va, .bool stb] 27).alloc #[.bool false, .int .u8 0, .int .u64 0, .int .u64 0, .string ⟨#[]⟩, .slice none 0 0, .int .u8 0, .int .u8 0, .int .i64 0, .int .u8 0, .int .u8 0, .int .u64 0, .int .u64 0] 36).same hw2
  simp only [World.size_alloc] at U2
  clear hw2
  (with_reducible refine (KS w2).mono ?_)
  rintro e w3 ⟨a, he, hg, hao, hrow, hok, hb3⟩
  have U3 := U2.call ((Upd.nil [] w2).addRow hb3 hrow (Nat.le_refl _))
  simp only [List.cons_append, List.nil_append] at U3
  clear hb3 U2 KS
  have hgap := hg.gap
  have hchk := hg.chk (n + 1) (by omega) (by omega)
  have hnrm : a.go = 0 ∧ a.gf = 0 ∧ a.gt = 0 := ⟨hg.go, hg.gf, hg.gt⟩
  have HNR := Lib.hid hnrm
  clear hnrm
  obtain ⟨Al, acl, hal⟩ := owns_slice hrow
  clear hrow hg
  obtain ⟨ag, ao, asq, atm, aru, alv, aps, ast, apr, ava, aow, ago, agf, agt⟩ := a
  simp only at hgap hao hchk hal U3
  subst hgap hal
  have he2 : e = .returned (.agg #[.bool false, .int .u8 ao, .int .u64 asq, .int .u64 atm, .string aru, .slice Al aps.length acl, .int .u8 ast, .int .u8 apr, .int .i64 ava, .int .u8 aow, .int .u8 ago, .int .u64 agf, .int .u64 agt]) := he
  subst he2
  clear he
  have hao4 : ao = o4 := by omega
  subst hao4
  clear hao
  have U4 := U3.alloc #[.bool false, .int .u8 ao, .int .u64 asq, .int .u64 atm, .string aru, .slice Al aps.length acl, .int .u8 ast, .int .u8 apr, .int .i64 ava, .int .u8 aow, .int .u8 ago, .int .u64 agf, .int .u64 agt] 36
  have c1 := (U4.blk 3 rfl).cell (j := 1) (v := .int .u8 ao) rfl
  go_wp2_with fail
  (with_reducible refine (KH4 _ U4.below).mono ?_)
  rintro e w5 ⟨rfl, hb5⟩
  have U5 := U4.grow hb5
  clear hb5 U4 U3 c1 KH4
  have e0 := (U5.blk 0 rfl).cell (j := 0) (v := .bool false) rfl
  have e1 := (U5.blk 0 rfl).cell (j := 1) (v := .int .u8 ao) rfl
  have e2 := (U5.blk 0 rfl).cell (j := 2) (v := .int .u64 asq) rfl
  have e3 := (U5.blk 0 rfl).cell (j := 3) (v := .int .u64 atm) rfl
  have e4 := (U5.blk 0 rfl).cell (j := 4) (v := .string aru) rfl
  have e5 := (U5.blk 0 rfl).cell (j := 5) (v := .slice Al aps.length acl) rfl
  have e6 := (U5.blk 0 rfl).cell (j := 6) (v := .int .u8 ast) rfl
  have e7 := (U5.blk 0 rfl).cell (j := 7) (v := .int .u8 apr) rfl
  have e8 := (U5.blk 0 rfl).cell (j := 8) (v := .int .i64 ava) rfl
  have e9 := (U5.blk 0 rfl).cell (j := 9) (v := .int .u8 aow) rfl
  have e10 := (U5.blk 0 rfl).cell (j := 10) (v := .int .u8 ago) rfl
  have e11 := (U5.blk 0 rfl).cell (j := 11) (v := .int .u64 agf) rfl
  have e12 := (U5.blk 0 rfl).cell (j := 12) (v := .int .u64 agt) rfl
  have ef := (U5.blk 0 rfl).frozen
  have z0 := (U5.blk 2 rfl).cell (j := 0) (v := .bool false) rfl
  have z1 := (U5.blk 2 rfl).cell (j := 1) (v := .int .u8 0) rfl
  have z2 := (U5.blk 2 rfl).cell (j := 2) (v := .int .u64 0) rfl
  have z3 := (U5.blk 2 rfl).cell (j := 3) (v := .int .u64 0) rfl
  have z4 := (U5.blk 2 rfl).cell (j := 4) (v := .string ⟨#[]⟩) rfl
  have z5 := (U5.blk 2 rfl).cell (j := 5) (v := .slice none 0 0) rfl
  have z6 := (U5.blk 2 rfl).cell (j := 6) (v := .int .u8 0) rfl
  have z7 := (U5.blk 2 rfl).cell (j := 7) (v := .int .u8 0) rfl
  have z8 := (U5.blk 2 rfl).cell (j := 8) (v := .int .i64 0) rfl
  have z9 := (U5.blk 2 rfl).cell (j := 9) (v := .int .u8 0) rfl
  have z10 := (U5.blk 2 rfl).cell (j := 10) (v := .int .u8 0) rfl
  have z11 := (U5.blk 2 rfl).cell (j := 11) (v := .int .u64 0) rfl
  have z12 := (U5.blk 2 rfl).cell (j := 12) (v := .int .u64 0) rfl
  have zf := (U5.blk 2 rfl).frozen
  have c5 := (U5.blk 3 rfl).cell (j := 5) (v := .int .u16 m3) rfl
  have hne : w3.heap.size ≠ w.heap.size + 1 := fun h => U5.apartAt 0 2 (by decide) rfl rfl w3.heap.size (chBlk_fp.2 rfl) (chBlk_fp.2 h)
  have hne2 : w.heap.size + 1 ≠ w3.heap.size := fun h => hne h.symm
  go_wp2_with fail
  refine bodyPost_gen fun w6 hw6 => ?_
  have V := (((((((((((((((U5.put 0 rfl 2 (.int .u64 ((n : Int) + 1))).put 2 rfl 0 (.bool false)).put 0 rfl 1 (.int .u8 ao)).put 0 rfl 2 (.int .u64 ((n : Int) + 1))).put 0 rfl 3 (.int .u64 atm)).put 0 rfl 4 (.string aru)).put 0 rfl 5 (.slice Al aps.length acl)).put 0 rfl 6 (.int .u8 ast)).put 0 rfl 7 (.int .u8 apr)).put 0 rfl 8 (.int .i64 ava)).put 0 rfl 9 (.int .u8 aow)).put 0 rfl 10 (.int .u8 ago)).put 0 rfl 11 (.int .u64 agf)).put 0 rfl 12 (.int .u64 agt))).same hw6
  simp only [List.setIfInBounds_toArray, List.set_cons_succ, List.set_cons_zero, List.eraseIdx_cons_succ, List.eraseIdx_cons_zero] at V
  clear hw6 U5
  have a0 := (V.blk 0 rfl).cell (j := 0) (v := .bool false) rfl
  have a1 := (V.blk 0 rfl).cell (j := 1) (v := .int .u8 ao) rfl
  have a2 := (V.blk 0 rfl).cell (j := 2) (v := .int .u64 ((n : Int) + 1)) rfl
  have a3 := (V.blk 0 rfl).cell (j := 3) (v := .int .u64 atm) rfl
  have a4 := (V.blk 0 rfl).cell (j := 4) (v := .string aru) rfl
  have a5 := (V.blk 0 rfl).cell (j := 5) (v := .slice Al aps.length acl) rfl
  have a6 := (V.blk 0 rfl).cell (j := 6) (v := .int .u8 ast) rfl
  have a7 := (V.blk 0 rfl).cell (j := 7) (v := .int .u8 apr) rfl
  have a8 := (V.blk 0 rfl).cell (j := 8) (v := .int .i64 ava) rfl
  have a9 := (V.blk 0 rfl).cell (j := 9) (v := .int .u8 aow) rfl
  have a10 := (V.blk 0 rfl).cell (j := 10) (v := .int .u8 ago) rfl
  have a11 := (V.blk 0 rfl).cell (j := 11) (v := .int .u64 agf) rfl
  have a12 := (V.blk 0 rfl).cell (j := 12) (v := .int .u64 agt) rfl
  have hrow := V.row 2 rfl
  have hge := V.own _ (.tail _ (.tail _ (.head _)))
  have hrow' := owns_base (base' := w.heap.size) hrow (fun g hg => (hge g (by simpa [chRow] using hg)).resolve_left (fun h => nomatch h))
  refine bodyPost_ret (v := .agg #[.bool false, .int .u8 ao, .int .u64 ((n : Int) + 1), .int .u64 atm, .string aru, .slice Al aps.length acl, .int .u8 ast, .int .u8 apr, .int .i64 ava, .int .u8 aow, .int .u8 ago, .int .u64 agf, .int .u64 agt]) ?_ rfl ⟨⟨false, ao, n + 1, atm, aru, .slice Al aps.length acl, aps, ast, apr, ava, aow, ago, agf, agt⟩, by simp [itV], ⟨hchk, HO.out, rfl, show n + 1 ≤ n + 3 by omega, by
    unfold normI
    rw [if_neg Bool.false_ne_true]
    exact HNR.out⟩, hrow', ⟨hok.o, show n + 1 < _ by omega, hok.tm, hok.ru, rd_of_owns hrow, hok.pz, hok.st, hok.pr, hok.va, hok.ow, hok.go, hok.gf, hok.gt⟩, V.below⟩
  simp [results, Tryz.results8, go_sem, a0, a1, a2, a3, a4, a5, a6, a7, a8, a9, a10, a11, a12]

/-- An item of small numbers, as it is handed in. -/
structure Sm where
  g : Bool
  o : Nat
  p : Nat
  ow : Nat
  sq : Nat
  mo : Nat
  ti : Nat
  ru : Nat
  la : Nat
  va : Nat
  stb : Bool
structure Sm.ok (s : Sm) : Prop where
  o : s.o < 256
  ow : s.ow < 256
  sq : s.sq < 65536
  mo : s.mo < 65536
  ti : s.ti < 65536
  la : s.la < 256
  va : s.va < 256
def sm11 (s : Sm) : List Value := [.bool s.g, .int .u8 s.o, .int .u8 s.p, .int .u8 s.ow, .int .u16 s.sq, .int .u16 s.mo, .int .u16 s.ti, .int .u8 s.ru, .int .u8 s.la, .int .u8 s.va, .bool s.stb]
theorem smallNextH (g : Bool) (cl n o p ow sq mo ti ru la va : Nat) (stb : Bool) (w : World) (hn : n ≤ 1000000) (how : ow < 256) (hsq : sq < 65536) (hmo : mo < 65536) (hti : ti < 65536) (hla : la < 256) (hva : va < 256)
    (KH : ∀ o4, o4 = o % 4 → ∀ w', Below w.heap.size w w' → Calls Tryz.prog 21 #[.pointer (some ⟨cl, 0, none⟩), .int .u8 (o4 : Nat)] w' fun e w'' => e = .returned (.int .u64 (n : Nat)) ∧ Below w'.heap.size w' w'') :
    Calls Tryz.prog 8 #[.agg #[.bool g, .int .u8 o, .int .u8 p, .int .u8 ow, .int .u16 sq, .int .u16 mo, .int .u16 ti, .int .u8 ru, .int .u8 la, .int .u8 va, .bool stb], .func (Fn.func 21) #[.pointer (some ⟨cl, 0, none⟩)] #[]] w fun e w' => ∃ a : ItV, e = .returned (itV a) ∧ NextOk a n o ∧ w'.ownsRow w.heap.size 137 2 a.lv a.ps.length (pairCells a.ps) ∧ a.ok w' ∧ Below w.heap.size w w' := by
  cases g
  · exact smallNextH_false cl n o p ow sq mo ti ru la va stb w hn how hsq hmo hti hla hva KH
  · exact smallNextH_true cl n o p ow sq mo ti ru la va stb w hn how hsq hmo hti hla hva KH
end Go.Proofs.YtdmdfccadjfpiaaGreat
namespace Go.Proofs.YtdmdfccadjfpiaaGreat
open Go.RowKit FreeOrd
set_option maxRecDepth 100000
attribute [local go_sem] out

theorem infoEntryL : (Tryz.prog.info? 41).map (fun i => (i.zero, i.size, i.bytes)) = some (some (.agg #[.int .u64 0, .bool false, .int .u8 0, .int .u64 0, .int .u64 0, .string ⟨#[]⟩, .slice none 0 0, .int .u8 0, .int .u8 0, .int .i64 0, .int .u8 0, .int .u8 0, .int .u64 0, .int .u64 0]), 14, 128) := by kernel_rfl
set_option maxHeartbeats 8000000 in
theorem lList (g n : Nat) (jv lv : Value) (s : LSt) (es : List (Nat × ItV)) (w : World) (hnn : n = es.length) (hP : (chE g jv lv s es).P w) (hn : n ≤ 1000000) (hps : ∀ x ∈ es, x.2.ps.length ≤ 1000000) :
    Calls Tryz.prog 25 #[.pointer (some ⟨g, 0, none⟩)] w fun e w' => ∃ (A : Option Addr) (c : Nat) (es' : List (Nat × ItV)), e = .returned (.slice A n c) ∧ es'.map strip = es.map strip ∧ Upd [] w [chRow 41 14 (.slice A n c) es'.length (es'.flatMap en14), chAll (es'.map labRow)] w' := by
  obtain ⟨i0, hi, hz0, hz1, hz2⟩ := info_parts infoEntryL
  have hB := (two_open (two_open hP |>.get 0 rfl)).blk 0 rfl
  have hrow := (two_open (two_open hP |>.get 0 rfl)).row 1 rfl
  have hlab : ∀ c ∈ es.map labRow, c.P w := (two_open hP).all 1 rfl
  obtain ⟨A0, c0, rfl⟩ := owns_slice hrow
  have hrd := rd_of_owns hrow
  have hr0 := hrd
  obtain ⟨A, c, he, h1, h2, h3, h4⟩ := hrd
  injection he with he1 he2 he3
  subst he1 he3
  unfold maxLen at h3
  have g1 : w.cell? ⟨g, 1, none⟩ = some (.slice A0 n c0) := by rw [hnn]; exact hB.cell (ledA_1 jv (.slice A0 es.length c0) s.h s.li s.la)
  replace h2 : n ≤ c0 := by omega
  replace h4 : 0 < n → ∃ b o, A0 = some ⟨b, o, none⟩ ∧ RdAt w b o (es.flatMap en14) := fun h => h4 (by omega)
  have HN := Lib.hid hnn
  have HLAB := Lib.hid hlab
  have HPS := Lib.hid hps
  clear hnn hlab hB hrow hr0 hP h1 he2 hps
  go_enter Tryz.func25, Tryz.ntmps25
  go_wp2_with fail
  go_loopw [3, 13] (fun ov i wr => ∃ (k : Nat) (es' : List (Nat × ItV)), k ≤ n ∧ i = .int .i64 k ∧ es'.map strip = (es.take k).map strip ∧ es'.length = k ∧ Upd [] w [chRow 41 14 ov k (es'.flatMap en14), chAll (es'.map labRow)] wr) (fun _ i _ => n - (intOf i).toNat)
  case atStart => exact ⟨0, [], Nat.zero_le _, rfl, rfl, rfl, ((Upd.nil [] w).allNil).nilRow 41 14⟩
  case round =>
    obtain ⟨k, es', hk, rfl, hes, hel, R1⟩ := hrel
    obtain ⟨Ao, co, rfl⟩ := owns_slice (R1.row 0 rfl)
    by_cases hkn : k < n
    · obtain ⟨x, hx⟩ : ∃ x, es[k]? = some x := ⟨_, List.getElem?_eq_getElem (by rw [← HN.out]; exact hkn)⟩
      obtain ⟨b, oo, rfl, hat⟩ := h4 (by omega)
      have e0 := fun j hj => flat_at en14 14 (fun _ => rfl) es k x hx j hj
      have hxm := List.mem_of_getElem? hx
      have hlx : w.ownsRow 0 137 2 x.2.lv x.2.ps.length (pairCells x.2.ps) := HLAB.out (labRow x) (List.mem_map.2 ⟨x, hxm, rfl⟩)
      have hrx := rd_of_owns hlx
      have hnl9 := HPS.out x hxm
      have HTK := Lib.hid (show es.take (k + 1) = es.take k ++ [x] from take_snocL hx)
      have hb5 := R1.below
      obtain ⟨Al, acl, hal⟩ := owns_slice hlx
      obtain ⟨ti, ag, ao, asq, atm, aru, alv, aps, ast, apr, ava, aow, ago, agf, agt⟩ := x
      simp only at hal hrx hnl9
      subst hal
      obtain ⟨nl, hnl⟩ : ∃ nl, nl = aps.length := ⟨_, rfl⟩
      rw [← hnl] at hrx hnl9
      have HNL := Lib.hid hnl
      have x0 := hat.nth0 hb5 (k * 14) (.int .u64 ti) (e0 0 (by omega))
      have x1 := hat.nth hb5 (k * 14) 1 (.bool ag) (e0 1 (by omega))
      have x2 := hat.nth hb5 (k * 14) 2 (.int .u8 ao) (e0 2 (by omega))
      have x3 := hat.nth hb5 (k * 14) 3 (.int .u64 asq) (e0 3 (by omega))
      have x4 := hat.nth hb5 (k * 14) 4 (.int .u64 atm) (e0 4 (by omega))
      have x5 := hat.nth hb5 (k * 14) 5 (.string aru) (e0 5 (by omega))
      have x6 := hat.nth hb5 (k * 14) 6 (.slice Al nl acl) (by rw [hnl]; exact e0 6 (by omega))
      have x7 := hat.nth hb5 (k * 14) 7 (.int .u8 ast) (e0 7 (by omega))
      have x8 := hat.nth hb5 (k * 14) 8 (.int .u8 apr) (e0 8 (by omega))
      have x9 := hat.nth hb5 (k * 14) 9 (.int .i64 ava) (e0 9 (by omega))
      have x10 := hat.nth hb5 (k * 14) 10 (.int .u8 aow) (e0 10 (by omega))
      have x11 := hat.nth hb5 (k * 14) 11 (.int .u8 ago) (e0 11 (by omega))
      have x12 := hat.nth hb5 (k * 14) 12 (.int .u64 agf) (e0 12 (by omega))
      have x13 := hat.nth hb5 (k * 14) 13 (.int .u64 agt) (e0 13 (by omega))
      clear hx hxm hat e0 hlx hnl
      go_wp2_with fail
      refine wp_gen fun w6 hw6 => ?_
      have U6 := (R1.alloc #[.int .u64 ti, .bool ag, .int .u8 ao, .int .u64 asq, .int .u64 atm, .string aru, .slice Al nl acl, .int .u8 ast, .int .u8 apr, .int .i64 ava, .int .u8 aow, .int .u8 ago, .int .u64 agf, .int .u64 agt] 41).same hw6
      have hr6 := U6.rd0 hrx
      clear hw6 x0 x1 x2 x3 x4 x5 x6 x7 x8 x9 x10 x11 x12 x13 hrx hb5 R1
      have F : ∀ w', Below w6.heap.size w6 w' → w'.cell? ⟨wr.heap.size, 0, none⟩ = some (.int .u64 ti) ∧ w'.cell? ⟨wr.heap.size, 1, none⟩ = some (.bool ag) ∧ w'.cell? ⟨wr.heap.size, 2, none⟩ = some (.int .u8 ao) ∧ w'.cell? ⟨wr.heap.size, 3, none⟩ = some (.int .u64 asq) ∧ w'.cell? ⟨wr.heap.size, 4, none⟩ = some (.int .u64 atm) ∧ w'.cell? ⟨wr.heap.size, 5, none⟩ = some (.string aru) ∧ w'.cell? ⟨wr.heap.size, 6, none⟩ = some (.slice Al nl acl) ∧ w'.cell? ⟨wr.heap.size, 7, none⟩ = some (.int .u8 ast) ∧ w'.cell? ⟨wr.heap.size, 8, none⟩ = some (.int .u8 apr) ∧ w'.cell? ⟨wr.heap.size, 9, none⟩ = some (.int .i64 ava) ∧ w'.cell? ⟨wr.heap.size, 10, none⟩ = some (.int .u8 aow) ∧ w'.cell? ⟨wr.heap.size, 11, none⟩ = some (.int .u8 ago) ∧ w'.cell? ⟨wr.heap.size, 12, none⟩ = some (.int .u64 agf) ∧ w'.cell? ⟨wr.heap.size, 13, none⟩ = some (.int .u64 agt) := fun w' hw => by
        have q := (U6.grow hw).blk 0 rfl
        exact ⟨q.cell rfl, q.cell rfl, q.cell rfl, q.cell rfl, q.cell rfl, q.cell rfl, q.cell rfl, q.cell rfl, q.cell rfl, q.cell rfl, q.cell rfl, q.cell rfl, q.cell rfl, q.cell rfl⟩
      refine region_free (fun w' => Below w6.heap.size w6 w') [5, 6, 7] [8, 9] [0, 1, 2, 3, 4, 5, 6, 7] (by kernel_rfl) (by kernel_rfl) (by kernel_rfl) ((Below.refl _ _).drew) ?_
      repeat (first
        | (refine RelSeq.pure_ (c := ?_) rfl rfl ?_ ?_; rotate_left; (focus (intro x w'; dsimp only; go_simp; (repeat' apply And.intro) <;> first | with_reducible rfl | assumption)); simp only [Act.put, List.setIfInBounds_toArray, List.set_cons_zero, List.set_cons_succ])
        | (refine RelSeq.grow_ (c := ?_) rfl rfl ?_ ?_; rotate_left; (focus (intro x w' hw _; dsimp only; obtain ⟨c0_, c1_, c2_, c3_, c4_, c5_, c6_, c7_, c8_, c9_, c10_, c11_, c12_, c13_⟩ := F w' hw; have hbr := Below.refl w'.heap.size w'; go_simp; (repeat' apply And.intro) <;> first | with_reducible rfl | assumption)); simp only [Act.put, List.setIfInBounds_toArray, List.set_cons_zero, List.set_cons_succ]))
      refine RelSeq.rel_ (fun v w' => ∃ A4 c4, v = .agg #[.bool ag, .int .u8 ao, .int .u64 asq, .int .u64 atm, .string aru, .slice A4 nl c4, .int .u8 ast, .int .u8 apr, .int .i64 ava, .int .u8 aow, .int .u8 ago, .int .u64 agf, .int .u64 agt] ∧ w'.ownsRow w6.heap.size 137 2 (.slice A4 nl c4) nl (pairCells aps)) rfl rfl (fun v w w' ⟨A4, c4, e, hr⟩ hb => ⟨A4, c4, e, owns_below hr hb⟩) ?_ ?_
      focus
        intro x w' hw _; dsimp only
        go_simp
        (with_reducible refine (itClone ag ao asq atm aru Al nl acl ast apr ava aow ago agf agt aps w' (hr6.below hw) hnl9).mono ?_)
        rintro e w'' ⟨A4, c4, rfl, hrow, hbk⟩
        exact ⟨⟨A4, c4, rfl, owns_mono hrow hw.size⟩, hw.trans (hbk.mono hw.size), hbk⟩
      simp only [Act.put, List.setIfInBounds_toArray, List.set_cons_zero, List.set_cons_succ, List.nil_append]
      refine RelSeq.rel_ (fun v w' => ∃ A4 c4, v = .agg #[.int .u64 ti, .bool ag, .int .u8 ao, .int .u64 asq, .int .u64 atm, .string aru, .slice A4 nl c4, .int .u8 ast, .int .u8 apr, .int .i64 ava, .int .u8 aow, .int .u8 ago, .int .u64 agf, .int .u64 agt] ∧ w'.ownsRow w6.heap.size 137 2 (.slice A4 nl c4) nl (pairCells aps)) rfl rfl (fun v w w' ⟨A4, c4, e, hr⟩ hb => ⟨A4, c4, e, owns_below hr hb⟩) ?_ ?_
      focus
        intro x w' hw hf; dsimp only
        obtain ⟨A4, c4, e, hrow⟩ := hf _ (.head _) (by kernel_rfl)
        have hbr := Below.refl w'.heap.size w'
        go_simp
        exact ⟨A4, c4, ⟨rfl, rfl⟩, hrow⟩
      simp only [Act.put, List.setIfInBounds_toArray, List.set_cons_zero, List.set_cons_succ, List.nil_append, List.cons_append]
      refine RelSeq.rel_ (fun v w' => ∃ b A4 c4, v = .slice (some ⟨b, 0, none⟩) 1 1 ∧ w6.heap.size ≤ b ∧ Blk w' b #[.int .u64 ti, .bool ag, .int .u8 ao, .int .u64 asq, .int .u64 atm, .string aru, .slice A4 nl c4, .int .u8 ast, .int .u8 apr, .int .i64 ava, .int .u8 aow, .int .u8 ago, .int .u64 agf, .int .u64 agt] 41 ∧ w'.ownsRow w6.heap.size 137 2 (.slice A4 nl c4) nl (pairCells aps)) rfl rfl (fun v w w' ⟨b, A4, c4, e, h1, h2, hr⟩ hb => ⟨b, A4, c4, e, h1, h2.below hb h2.lt, owns_below hr hb⟩) ?_ ?_
      focus
        intro x w' hw hf; dsimp only
        obtain ⟨A4, c4, e, hrow⟩ := hf _ (.tail _ (.head _)) (by kernel_rfl)
        have hba : Below w'.heap.size w' (w'.alloc (.cells #[.int .u64 ti, .bool ag, .int .u8 ao, .int .u64 asq, .int .u64 atm, .string aru, .slice A4 nl c4, .int .u8 ast, .int .u8 apr, .int .i64 ava, .int .u8 aow, .int .u8 ago, .int .u64 agf, .int .u64 agt] 41)) := (Below.refl _ _).alloc (Nat.le_refl _) _
        have hI := hw.trans (hba.mono hw.size)
        have hsz := hw.size
        go_simp
        exact ⟨A4, c4, Blk.new _ _ _, owns_below hrow hba⟩
      simp only [Act.put, List.setIfInBounds_toArray, List.set_cons_zero, List.set_cons_succ, List.nil_append, List.cons_append]
      refine RelSeq.nil_ fun x w7 hw hf => ?_
      obtain ⟨bq, A4, c4, e9, hb0, hBb, hrow⟩ := hf _ (.tail _ (.tail _ (.head _)))
      have hs6 := U6.size
      have U7 := ((U6.grow hw).moreRow hrow hs6 (fun d hd q hq he => by
        have := U6.lt hd hq
        have := owns_ge hrow q he.symm
        omega)).moreBlk hBb (Nat.le_trans hs6 hb0) (fun d hd hq => by
        rcases List.mem_cons.1 hd with rfl | hd
        · exact owns_ne hrow hBb (by decide) (chRow_fp.1 hq).symm
        · have := U6.lt hd hq
          omega)
      clear hf F hw U6 hBb hrow hr6
      refine TailSeq.cons_ rfl ?_
      refine wp_append_rd (.tmp 17) (.tmp 24) 24 rfl 0 41 i0 _ 14 128 Tryz.underlying24 hi hz0 hz1 hz2 rfl (by decide) (.slice Ao k co) k _ rfl (U7.row 3 rfl) (.slice (some ⟨bq, 0, none⟩) 1 1) 1 _ (by exact e9) (rd_one (U7.blk 0 rfl) (n := 14) rfl) (by intro u hu; simp at hu; rcases hu with rfl | rfl | rfl | rfl | rfl | rfl | rfl | rfl | rfl | rfl | rfl | rfl | rfl | rfl <;> rfl) (by unfold maxLen; omega) (by omega) (Nat.zero_le _) fun v8 w8 hown8 hgr8 hv8 => ?_
      refine ⟨rfl, ?_⟩
      have U8 := (U7.app 3 rfl hown8 hgr8 hv8).pick [2, 4, 0] (by decide)
      simp only [List.filterMap_cons, List.filterMap_nil, List.getElem?_cons_zero, List.getElem?_cons_succ, List.eraseIdx_cons_succ, List.eraseIdx_cons_zero] at U8
      obtain ⟨A8, c8, rfl⟩ := owns_slice hown8
      clear U7 hown8 hgr8 hv8 e9
      simp only [out, Act.put, List.setIfInBounds_toArray, List.set_cons_zero, List.set_cons_succ]
      refine TailSeq.cons_ rfl ?_
      go_simp
      refine TailSeq.nil_ ?_
      have U9 := U8.intoAll
      clear U8
      go_wp2_with fail
      refine ⟨⟨k + 1, es' ++ [(ti, ⟨ag, ao, asq, atm, aru, .slice A4 nl c4, aps, ast, apr, ava, aow, ago, agf, agt⟩)], by omega, by go_num, ?_, by rw [List.length_append, hel]; rfl, ?_⟩, by simp [intOf]; omega⟩
      · rw [HTK.out, List.map_append, List.map_append, hes]
        rfl
      · rw [List.flatMap_append, List.map_append]
        have hnn := HNL.out
        subst hnn
        exact U9.perm (.swap _ _ _)
    · have hkN : k = n := by omega
      subst hkN
      have htk : es.take k = es := by rw [HN.out]; exact List.take_length
      rw [htk] at hes
      go_wp2_with fail
      go_ret
      exact ⟨_, _, es', rfl, hes, by rw [hel]; exact R1⟩

set_option maxHeartbeats 8000000 in
theorem lSame (A1 A2 : Option Addr) (n c1 c2 : Nat) (es1 es2 : List (Nat × ItV)) (w : World) (hn1 : n = es1.length) (hst : es1.map strip = es2.map strip) (h1 : Rd w 14 (.slice A1 n c1) n (es1.flatMap en14)) (h2 : Rd w 14 (.slice A2 n c2) n (es2.flatMap en14)) (hok : ∀ x ∈ es1, x.2.ok w) (hr2 : ∀ x ∈ es2, Rd w 2 x.2.lv x.2.ps.length (pairCells x.2.ps)) (hn : n ≤ 1000000) :
    Calls Tryz.prog 28 #[.slice A1 n c1, .slice A2 n c2] w fun e w' => e = .returned (.bool true) ∧ Below w.heap.size w w' := by
  have hn2 : n = es2.length := by
    have := congrArg List.length hst
    simp only [List.length_map] at this
    omega
  obtain ⟨_, _, he, h11, h12, h13, h14⟩ := h1
  injection he with he1 he2 he3
  subst he1 he3
  obtain ⟨_, _, he, h21, h22, h23, h24⟩ := h2
  injection he with he1 he2 he3
  subst he1 he3
  unfold maxLen at h13 h23
  have HN1 := Lib.hid hn1
  have HN2 := Lib.hid hn2
  have HST := Lib.hid hst
  have HOK := Lib.hid hok
  have HR2 := Lib.hid hr2
  clear hn1 hn2 hst hok hr2 he2
  go_enter Tryz.func28, Tryz.ntmps28
  go_wp2_with fail
  go_loopw [13] (fun i wr => ∃ k, k ≤ n ∧ i = .int .i64 k ∧ Upd [] w [] wr) (fun i _ => n - (intOf i).toNat)
  case atStart => exact ⟨0, Nat.zero_le _, rfl, Upd.nil [] w⟩
  case round =>
    obtain ⟨k, hk, rfl, R1⟩ := hrel
    by_cases hkn : k < n
    · obtain ⟨x, hx⟩ : ∃ x, es1[k]? = some x := ⟨_, List.getElem?_eq_getElem (by rw [← HN1.out]; exact hkn)⟩
      obtain ⟨y, hy⟩ : ∃ y, es2[k]? = some y := ⟨_, List.getElem?_eq_getElem (by rw [← HN2.out]; exact hkn)⟩
      have hxy : strip x = strip y := by
        have := congrArg (·[k]?) HST.out
        simp only [List.getElem?_map, hx, hy, Option.map_some] at this
        exact Option.some.inj this
      obtain ⟨b1, o1, rfl, hat1⟩ := h14 (by omega)
      obtain ⟨b2, o2, rfl, hat2⟩ := h24 (by omega)
      have e1 := fun j hj => flat_at en14 14 (fun _ => rfl) es1 k x hx j hj
      have e2 := fun j hj => flat_at en14 14 (fun _ => rfl) es2 k y hy j hj
      have hxo := HOK.out x (List.mem_of_getElem? hx)
      have hyr := HR2.out y (List.mem_of_getElem? hy)
      have hb5 := R1.below
      obtain ⟨ti, ag, ao, asq, atm, aru, alv, aps, ast, apr, ava, aow, ago, agf, agt⟩ := x
      obtain ⟨ti', ag', ao', asq', atm', aru', alv2, aps', ast', apr', ava', aow', ago', agf', agt'⟩ := y
      simp only [strip, Prod.mk.injEq, ItV.mk.injEq, true_and] at hxy
      obtain ⟨rfl, rfl, rfl, rfl, rfl, rfl, rfl, rfl, rfl, rfl, rfl, rfl, rfl, rfl⟩ := hxy
      obtain ⟨B1, d1, hB1, _⟩ := hxo.rd
      have hyr' := hyr
      obtain ⟨B2, d2, hB2, _⟩ := hyr'
      simp only at hB1 hB2 hyr
      subst hB1 hB2
      have KS : ∀ w', Below wr.heap.size wr w' → Calls Tryz.prog 31 #[.agg #[.bool ag, .int .u8 ao, .int .u64 asq, .int .u64 atm, .string aru, .slice B1 aps.length d1, .int .u8 ast, .int .u8 apr, .int .i64 ava, .int .u8 aow, .int .u8 ago, .int .u64 agf, .int .u64 agt], .agg #[.bool ag, .int .u8 ao, .int .u64 asq, .int .u64 atm, .string aru, .slice B2 aps.length d2, .int .u8 ast, .int .u8 apr, .int .i64 ava, .int .u8 aow, .int .u8 ago, .int .u64 agf, .int .u64 agt]] w' fun e w'' => e = .returned (.bool true) ∧ Below w'.heap.size w' w'' := fun w' h =>
        sameItem ⟨ag, ao, asq, atm, aru, .slice B1 aps.length d1, aps, ast, apr, ava, aow, ago, agf, agt⟩ (.slice B2 aps.length d2) w' (hxo.below (hb5.trans (h.mono hb5.size))) (hyr.below (hb5.trans (h.mono hb5.size)))
      have F : ∀ w', Below wr.heap.size wr w' → w'.cell? ⟨b1, o1 + k * 14, none⟩ = some (.int .u64 ti) ∧ w'.cell? ⟨b1, o1 + k * 14 + 1, none⟩ = some (.bool ag) ∧ w'.cell? ⟨b1, o1 + k * 14 + 2, none⟩ = some (.int .u8 ao) ∧ w'.cell? ⟨b1, o1 + k * 14 + 3, none⟩ = some (.int .u64 asq) ∧ w'.cell? ⟨b1, o1 + k * 14 + 4, none⟩ = some (.int .u64 atm) ∧ w'.cell? ⟨b1, o1 + k * 14 + 5, none⟩ = some (.string aru) ∧ w'.cell? ⟨b1, o1 + k * 14 + 6, none⟩ = some (.slice B1 aps.length d1) ∧ w'.cell? ⟨b1, o1 + k * 14 + 7, none⟩ = some (.int .u8 ast) ∧ w'.cell? ⟨b1, o1 + k * 14 + 8, none⟩ = some (.int .u8 apr) ∧ w'.cell? ⟨b1, o1 + k * 14 + 9, none⟩ = some (.int .i64 ava) ∧ w'.cell? ⟨b1, o1 + k * 14 + 10, none⟩ = some (.int .u8 aow) ∧ w'.cell? ⟨b1, o1 + k * 14 + 11, none⟩ = some (.int .u8 ago) ∧ w'.cell? ⟨b1, o1 + k * 14 + 12, none⟩ = some (.int .u64 agf) ∧ w'.cell? ⟨b1, o1 + k * 14 + 13, none⟩ = some (.int .u64 agt) ∧ w'.cell? ⟨b2, o2 + k * 14, none⟩ = some (.int .u64 ti) ∧ w'.cell? ⟨b2, o2 + k * 14 + 1, none⟩ = some (.bool ag) ∧ w'.cell? ⟨b2, o2 + k * 14 + 2, none⟩ = some (.int .u8 ao) ∧ w'.cell? ⟨b2, o2 + k * 14 + 3, none⟩ = some (.int .u64 asq) ∧ w'.cell? ⟨b2, o2 + k * 14 + 4, none⟩ = some (.int .u64 atm) ∧ w'.cell? ⟨b2, o2 + k * 14 + 5, none⟩ = some (.string aru) ∧ w'.cell? ⟨b2, o2 + k * 14 + 6, none⟩ = some (.slice B2 aps.length d2) ∧ w'.cell? ⟨b2, o2 + k * 14 + 7, none⟩ = some (.int .u8 ast) ∧ w'.cell? ⟨b2, o2 + k * 14 + 8, none⟩ = some (.int .u8 apr) ∧ w'.cell? ⟨b2, o2 + k * 14 + 9, none⟩ = some (.int .i64 ava) ∧ w'.cell? ⟨b2, o2 + k * 14 + 10, none⟩ = some (.int .u8 aow) ∧ w'.cell? ⟨b2, o2 + k * 14 + 11, none⟩ = some (.int .u8 ago) ∧ w'.cell? ⟨b2, o2 + k * 14 + 12, none⟩ = some (.int .u64 agf) ∧ w'.cell? ⟨b2, o2 + k * 14 + 13, none⟩ = some (.int .u64 agt) := fun w' h => by
        have hq := hb5.trans (h.mono hb5.size)
        exact ⟨hat1.nth0 hq (k * 14) _ (e1 0 (by omega)), hat1.nth hq (k * 14) 1 _ (e1 1 (by omega)), hat1.nth hq (k * 14) 2 _ (e1 2 (by omega)), hat1.nth hq (k * 14) 3 _ (e1 3 (by omega)), hat1.nth hq (k * 14) 4 _ (e1 4 (by omega)), hat1.nth hq (k * 14) 5 _ (e1 5 (by omega)), hat1.nth hq (k * 14) 6 _ (e1 6 (by omega)), hat1.nth hq (k * 14) 7 _ (e1 7 (by omega)), hat1.nth hq (k * 14) 8 _ (e1 8 (by omega)), hat1.nth hq (k * 14) 9 _ (e1 9 (by omega)), hat1.nth hq (k * 14) 10 _ (e1 10 (by omega)), hat1.nth hq (k * 14) 11 _ (e1 11 (by omega)), hat1.nth hq (k * 14) 12 _ (e1 12 (by omega)), hat1.nth hq (k * 14) 13 _ (e1 13 (by omega)), hat2.nth0 hq (k * 14) _ (e2 0 (by omega)), hat2.nth hq (k * 14) 1 _ (e2 1 (by omega)), hat2.nth hq (k * 14) 2 _ (e2 2 (by omega)), hat2.nth hq (k * 14) 3 _ (e2 3 (by omega)), hat2.nth hq (k * 14) 4 _ (e2 4 (by omega)), hat2.nth hq (k * 14) 5 _ (e2 5 (by omega)), hat2.nth hq (k * 14) 6 _ (e2 6 (by omega)), hat2.nth hq (k * 14) 7 _ (e2 7 (by omega)), hat2.nth hq (k * 14) 8 _ (e2 8 (by omega)), hat2.nth hq (k * 14) 9 _ (e2 9 (by omega)), hat2.nth hq (k * 14) 10 _ (e2 10 (by omega)), hat2.nth hq (k * 14) 11 _ (e2 11 (by omega)), hat2.nth hq (k * 14) 12 _ (e2 12 (by omega)), hat2.nth hq (k * 14) 13 _ (e2 13 (by omega))⟩
      obtain ⟨nl, hnl⟩ : ∃ nl, nl = aps.length := ⟨_, rfl⟩
      rw [← hnl] at KS F
      clear hx hy e1 e2 hat1 hat2 hxo hyr hnl
      go_wp2_with fail
      refine region_free (fun w' => Below wr.heap.size wr w') [] [] (List.range 25) (by kernel_rfl) (by kernel_rfl) (by kernel_rfl) (Below.refl _ _).drew ?_
      simp only [List.range, List.range.loop]
      repeat (first
        | (refine RelSeq.pure_ (c := ?_) rfl rfl ?_ ?_; rotate_left; (focus (intro x w'; dsimp only; go_simp; (repeat' apply And.intro) <;> first | with_reducible rfl | assumption)); simp only [Act.put, List.setIfInBounds_toArray, List.set_cons_zero, List.set_cons_succ])
        | (refine RelSeq.skip_ rfl (fun _ => rfl) ?_; simp only [Act.put, List.setIfInBounds_toArray, List.set_cons_zero, List.set_cons_succ])
        | (refine RelSeq.pureG_ (c := ?_) rfl (fun _ => rfl) rfl ?_ ?_; rotate_left; (focus (intro x w'; dsimp only; go_simp; (repeat' apply And.intro) <;> first | with_reducible rfl | assumption)); simp only [Act.put, List.setIfInBounds_toArray, List.set_cons_zero, List.set_cons_succ])
        | (refine RelSeq.grow_ (c := ?_) rfl rfl ?_ ?_; rotate_left; (focus (intro x w' hw _; dsimp only; obtain ⟨c0, c1, c2, c3, c4, c5, c6, c7, c8, c9, c10, c11, c12, c13, c14, c15, c16, c17, c18, c19, c20, c21, c22, c23, c24, c25, c26, c27⟩ := F w' hw; have hbr := Below.refl w'.heap.size w'; go_simp; (repeat' apply And.intro) <;> first | with_reducible rfl | assumption)); simp only [Act.put, List.setIfInBounds_toArray, List.set_cons_zero, List.set_cons_succ])
        | (refine RelSeq.growG_ (c := ?_) rfl (fun _ => rfl) rfl ?_ ?_; rotate_left; (focus (intro x w' hw _; dsimp only; obtain ⟨c0, c1, c2, c3, c4, c5, c6, c7, c8, c9, c10, c11, c12, c13, c14, c15, c16, c17, c18, c19, c20, c21, c22, c23, c24, c25, c26, c27⟩ := F w' hw; have hbr := Below.refl w'.heap.size w'; go_simp; (repeat' apply And.intro) <;> first | with_reducible rfl | assumption)); simp only [Act.put, List.setIfInBounds_toArray, List.set_cons_zero, List.set_cons_succ])
        | (refine RelSeq.growG_ (c := ?_) rfl (fun _ => rfl) rfl ?_ ?_; rotate_left; (focus (intro x w' hw _; dsimp only; have hbr := Below.refl w'.heap.size w'; go_simp; (with_reducible refine (KS w' hw).mono ?_); rintro e w1 ⟨rfl, hb1⟩; have hI1 := hw.trans (hb1.mono hw.size); go_simp; (repeat' apply And.intro) <;> first | with_reducible rfl | assumption)); simp only [Act.put, List.setIfInBounds_toArray, List.set_cons_zero, List.set_cons_succ]))
      refine RelSeq.nil_ fun x w6 hw6 hf => ?_
      have R2 := R1.grow hw6
      clear R1 F KS hf hw6
      refine TailSeq.nil_ ?_
      go_wp2_with fail
      exact ⟨⟨k + 1, by omega, by go_num, R2⟩, by simp [intOf]; omega⟩
    · have hkN : k = n := by omega
      subst hkN
      go_wp2_with fail
      go_ret
      exact ⟨rfl, R1.below⟩
end Go.Proofs.YtdmdfccadjfpiaaGreat
namespace Go.Proofs.YtdmdfccadjfpiaaGreat
open Go.RowKit
set_option maxRecDepth 100000

theorem goodS_snoc : ∀ (rs : List Ln) (s : LSt) (r : Ln), goodS s rs → okS (runS s rs) r → goodS s (rs ++ [r])
  | [], _, _, _, h => ⟨h, trivial⟩
  | _ :: rs, _s, r, h, h2 => ⟨h.1, goodS_snoc rs _ r h.2 h2⟩
theorem putL_lenI {a : ItV} (hc : chkIt a = 0) (hn : a.nb) : (putL a).length ≤ 600 := by
  have hz := chkIt_zero hc
  have l1 := uvar_len64 hn.gf
  have l2 := uvar_len64 hn.gt
  have l3 := uvar_len64 hn.sq
  have l4 := uvar_len64 hn.tm
  have lz : zig a.va < 18446744073709551616 := by have := hn.va; unfold zig; split <;> omega
  have l5 := uvar_len64 lz
  unfold putL
  unfold chkIt at hc
  cases hg : a.gap
  · rw [hg, if_neg Bool.false_ne_true] at hc
    have he := chkE_zero hc
    have l6 := pairsP_len a.ps fun p hp => by have := he.2.2 p hp; omega
    have l7 := textP_len he.1 (by omega)
    have l8 := uvar_len64 (n := a.ps.length) (by omega)
    rw [if_neg Bool.false_ne_true]
    unfold putE
    simp only [List.length_append, List.length_cons, List.length_nil]
    omega
  · rw [if_pos rfl]
    unfold putG
    simp only [List.length_append, List.length_cons, List.length_nil]
    omega
theorem trimA_id {a : ItV} {n : Nat} (h : n < spanF a) : trimA a n = a := by
  unfold trimA
  rw [if_pos h]
theorem layAll_snoc (ls : List (List UInt8)) (l : List UInt8) : layAll (ls ++ [l]) = layAll ls ++ layL l := by
  rw [layAll_append]
  simp [layAll]
/-- The records that a ledger has written that opened once and took n items. -/
structure Kept (rs : List Ln) (n : Nat) : Prop where
  good : goodS s0L rs
  len : rs.length = n + 1
  sz : ∀ r ∈ rs, (lnB r).length ≤ 700
  li : (runS s0L rs).li = 1
  h : ∀ p, (runS s0L rs).h p ≤ 3 * n
  la : (runS s0L rs).la ≤ n
  ne : (runS s0L rs).es.length = n
  nb : ∀ x ∈ (runS s0L rs).es, x.2.nb ∧ x.2.ps.length ≤ 8
theorem Kept.zero : Kept [Ln.life 1] 0 := by
  refine ⟨⟨(by decide : (1 : Nat) ≤ 1099511627776), trivial⟩, rfl, fun r hr => ?_, rfl, fun p => Nat.le_refl _, Nat.le_refl _, rfl, (fun _ h => nomatch h)⟩
  rw [List.mem_singleton.1 hr]
  show ((2 : UInt8) :: uvar 1).length ≤ 700
  rw [uvar_small (by decide)]
  decide
theorem Kept.bytes {rs : List Ln} {n : Nat} (h : Kept rs n) : (layAll (rs.map lnB)).length ≤ 708 * (n + 1) := by
  have := lenR_leL (rs.map lnB) 700 fun r hr => by
    obtain ⟨x, hx, rfl⟩ := List.mem_map.1 hr
    exact h.sz x hx
  rw [List.length_map, h.len] at this
  rw [layAll_len]
  exact this
/-- What the next item does. -/
structure Nxt (rs : List Ln) (n : Nat) (a : ItV) : Prop where
  fit : fitV (runS s0L rs).h (runS s0L rs).la n a = 0
  trim : trimA a ((runS s0L rs).h (spanO a)) = a
  ps : a.ps.length ≤ 8
  rcl : (recL n a).length ≤ 700
  kept : Kept (rs ++ [Ln.ent (n, a)]) (n + 1)
theorem Kept.next {rs : List Ln} {n o : Nat} {a : ItV} (h : Kept rs n) (hn : n ≤ 1000) (ha : NextOk a ((runS s0L rs).h (o % 4)) o) (hb : a.nb) : Nxt rs n a := by
  have hz := chkIt_zero ha.chk
  have hla := h.la
  have hh := h.h (o % 4)
  have h1 : (runS s0L rs).h (spanO a) < spanF a := by rw [ha.org, ha.fr]; omega
  have h2 : (runS s0L rs).h (spanO a) < spanT a := by omega
  have h3 : spanF a ≤ (runS s0L rs).h (spanO a) + 1 := by rw [ha.org, ha.fr]; omega
  have hf : fitV (runS s0L rs).h (runS s0L rs).la n a = 0 := fitV_of ha.chk (by omega) hla h2 h3
  have hto := ha.to
  have hps : a.ps.length ≤ 8 := by
    have hnr := ha.nrm
    have hc := ha.chk
    unfold normI at hnr
    unfold chkIt at hc
    cases hg : a.gap
    · rw [hg, if_neg Bool.false_ne_true] at hc
      exact (chkE_zero hc).2.1
    · rw [hg, if_pos rfl] at hnr
      rw [hnr.2.2.2.2.1]
      exact Nat.zero_le _
  have hrl : (recL n a).length ≤ 700 := by
    have h4 := putL_lenI ha.chk hb
    have h5 := uvar_len64 (n := n) (by omega)
    unfold recL
    simp only [List.length_append, List.length_cons]
    omega
  refine ⟨hf, trimA_id h1, hps, hrl, ⟨goodS_snoc rs s0L _ h.good ⟨hf, h1, ha.nrm, hb.va, hb.st⟩, by rw [List.length_append, h.len]; rfl, fun r hr => ?_, ?_, fun p => ?_, ?_, ?_, fun x hx => ?_⟩⟩
  · rcases List.mem_append.1 hr with hr | hr
    · exact h.sz r hr
    · rw [List.mem_singleton.1 hr]; exact hrl
  · rw [runS_snoc]; exact h.li
  · rw [runS_snoc]
    show (if p = spanO a then spanT a else (runS s0L rs).h p) ≤ _
    have := h.h p
    split <;> omega
  · rw [runS_snoc]; exact Nat.le_succ n
  · rw [runS_snoc]
    show ((runS s0L rs).es ++ [strip (n, a)]).length = _
    rw [List.length_append, h.ne]; rfl
  · rw [runS_snoc] at hx
    rcases List.mem_append.1 (show x ∈ (runS s0L rs).es ++ [strip (n, a)] from hx) with hx | hx
    · exact h.nb x hx
    · rw [List.mem_singleton.1 hx]
      exact ⟨⟨hb.o, hb.sq, hb.tm, hb.ru, hb.pz, hb.st, hb.pr, hb.va, hb.ow, hb.go, hb.gf, hb.gt⟩, hps⟩
/-- The records behind k lives more. -/
structure Lived (rs : List Ln) (es : List (Nat × ItV)) (k : Nat) : Prop where
  good : goodS s0L rs
  len : rs.length ≤ 100 + k
  sz : ∀ r ∈ rs, (lnB r).length ≤ 700
  li : (runS s0L rs).li = k + 1
  es : (runS s0L rs).es = es
theorem Kept.lived {rs : List Ln} {n : Nat} (h : Kept rs n) (hn : n ≤ 40) : Lived rs (runS s0L rs).es 0 := ⟨h.good, by have := h.len; omega, h.sz, h.li, rfl⟩
theorem Lived.snoc {rs : List Ln} {es : List (Nat × ItV)} {k : Nat} (h : Lived rs es k) (hk : k ≤ 100) : Lived (rs ++ [Ln.life ((runS s0L rs).li + 1)]) es (k + 1) := by
  refine ⟨goodS_snoc rs s0L _ h.good (show (runS s0L rs).li + 1 ≤ _ by rw [h.li]; omega), by rw [List.length_append]; have := h.len; show _ + 1 ≤ _; omega, fun r hr => ?_, ?_, ?_⟩
  · rcases List.mem_append.1 hr with hr | hr
    · exact h.sz r hr
    · rw [List.mem_singleton.1 hr]
      show ((2 : UInt8) :: uvar ((runS s0L rs).li + 1)).length ≤ 700
      have := uvar_len64 (n := (runS s0L rs).li + 1) (by rw [h.li]; omega)
      rw [List.length_cons]
      omega
  · rw [runS_snoc]
    show (runS s0L rs).li + 1 = _
    rw [h.li]
  · rw [runS_snoc]; exact h.es
theorem nb_strips {es fs : List (Nat × ItV)} (h : es.map strip = fs) (hf : ∀ x ∈ fs, x.2.nb ∧ x.2.ps.length ≤ 8) : ∀ x ∈ es, x.2.nb ∧ x.2.ps.length ≤ 8 := by
  intro x hx
  have := hf (strip x) (by rw [← h]; exact List.mem_map.2 ⟨x, hx, rfl⟩)
  exact ⟨⟨this.1.o, this.1.sq, this.1.tm, this.1.ru, this.1.pz, this.1.st, this.1.pr, this.1.va, this.1.ow, this.1.go, this.1.gf, this.1.gt⟩, this.2⟩
theorem labs_rd {w : World} {es : List (Nat × ItV)} (h : ∀ c ∈ es.map labRow, c.P w) : ∀ x ∈ es, Rd w 2 x.2.lv x.2.ps.length (pairCells x.2.ps) := fun x hx =>
  rd_of_owns (show w.ownsRow 0 137 2 x.2.lv x.2.ps.length (pairCells x.2.ps) from h (labRow x) (List.mem_map.2 ⟨x, hx, rfl⟩))
/-- A crash leaves a file that is synced. -/
theorem crashDT (d m b : Nat) (nm : ByteArray) (v0 : Value) (bs : List UInt8) (v : Value) (t : Nat × Nat) (w : World) (hP : (chDT d m b [⟨nm, v0, bs, bs.length⟩]).P w) (hv : Rd w 2 v 1 [.int .u16 t.1, .int .u16 t.2]) (ht1 : t.1 < 65536) (ht2 : t.2 < 65536) :
    Calls Tryz.prog 27 #[.pointer (some ⟨d, 0, none⟩), v] w fun e w' => e = .returned (.tuple #[]) ∧ ∃ v', Upd (chDT d m b [⟨nm, v0, bs, bs.length⟩]).fp w [chDT d m b [⟨nm, v', bs, bs.length⟩]] w' := by
  refine (diskCrashTorn d m ⟨nm, v0, bs, bs.length⟩ v t [] w hP.2.1 hv ht1 ht2).mono ?_
  rintro e w' ⟨rfl, ⟨v', hfr, hD⟩, hM⟩
  have ht : tornB bs bs.length t.1 t.2 = bs := by
    unfold tornB
    rw [Nat.sub_self, Nat.min_zero, if_neg (by omega), Nat.add_zero, List.take_length]
  simp only [ht] at hfr hD
  have hbd := hP.2.2
  have hbl := hP.1.ltA
  refine ⟨rfl, v', hM.os, hM.tape, hM.output, hM.size, fun x hx hne => hM.block x hx fun hm => hne ?_, fun q hq => ?_, fun q hq x hx => ?_, by simp⟩
  · show x ∈ b :: d :: m :: _
    simp only [List.mem_cons, List.not_mem_nil, or_false] at hm ⊢
    rcases hm with h | h <;> simp [h]
  · rw [List.mem_singleton.1 hq]
    exact ⟨hP.1.locA (hM.block b hbl hbd), hD, hbd⟩
  · rw [List.mem_singleton.1 hq] at hx
    have hx : x ∈ b :: d :: m :: filesFp [⟨nm, v', bs, bs.length⟩] := hx
    simp only [List.mem_cons] at hx
    rcases hx with h | h | h | hx
    · rw [h]; exact .inl (.head _)
    · rw [h]; exact .inl (.tail _ (.head _))
    · rw [h]; exact .inl (.tail _ (.tail _ (.head _)))
    · obtain ⟨f, hf, hx⟩ := mem_filesFp.1 hx
      rw [List.mem_singleton.1 hf] at hx
      exact .inr (hfr x hx)
theorem tear_atA : ∀ {ts : List (Nat × Nat)} {k : Nat} {t : Nat × Nat}, ts[k]? = some t → (tearCells ts)[k * 2]? = some (.int .u16 t.1) ∧ (tearCells ts)[k * 2 + 1]? = some (.int .u16 t.2) := by
  intro ts
  induction ts with
  | nil => intro k t h; simp at h
  | cons a r ih =>
    intro k t h
    have e : tearCells (a :: r) = .int .u16 a.1 :: .int .u16 a.2 :: tearCells r := rfl
    cases k with
    | zero => simp only [List.getElem?_cons_zero, Option.some.injEq] at h; subst h; rw [e]; exact ⟨rfl, rfl⟩
    | succ k =>
      rw [List.getElem?_cons_succ] at h
      rw [e, Nat.succ_mul]
      exact ih h
theorem hasJ.some {fs : List FileV} {s : ByteArray} {acc : List UInt8} {k : Nat} (h : hasJ fs s acc k) (hl : 1 ≤ acc.length) : ∃ v, fs = [⟨s, v, acc, k⟩] := by
  rcases h with ⟨_, rfl, _⟩ | h
  · exact absurd hl (by decide)
  · exact h
/-- A table as a part of memory. -/
def chTbA (b : Nat) : Chunk := ⟨[b], fun w => TabOk w b, fun _ _ h hP => hP.locA (h b (.head _)), fun _ hP x hx => by rw [List.mem_singleton.1 hx]; exact hP.ltA⟩
/-- A ledger that is left is its disk and its table. -/
theorem Upd.left {S : List Nat} {w0 w : World} {C : List Chunk} {g j d m b : Nat} {lv : Value} {h : Nat → Nat} {li la : Nat} {es : List (Nat × ItV)} {k : Nat} {fs : List FileV} (hU : Upd S w0 (chL g j d m b lv h li la es k fs :: C) w) : Upd S w0 (chDT d m b fs :: C) w :=
  hU.say (chDT d m b fs) (by
    have h1 := hU.get 0 rfl
    exact (two_open h1 |>.get 1 rfl).2) fun x hx => List.mem_append_right _ (.tail _ hx)
end Go.Proofs.YtdmdfccadjfpiaaGreat
namespace Go.Proofs.YtdmdfccadjfpiaaGreat
open Go.Joins Go.ChangeShapes Go.WideShapes Go.ChangeAt Go.RowKit Go.Deep
set_option maxRecDepth 100000
theorem nSm : Tryz.prog.cellsOf 27 = 11 := by kernel_rfl
theorem nU8s : Tryz.prog.cellsOf 5 = 1 := by kernel_rfl
theorem nU16s : Tryz.prog.cellsOf 25 = 1 := by kernel_rfl
theorem nBoolS : Tryz.prog.cellsOf 4 = 1 := by kernel_rfl
theorem nTear : Tryz.prog.cellsOf 68 = 2 := by kernel_rfl
def tear2 (t : Nat × Nat) : List Value := [.int .u16 t.1, .int .u16 t.2]
section
variable {H : Type} {enc : TypeId × Value → H}
theorem op_sm {W : World} {fuel : Nat} {cs : List Value} {x : DataW H × List MemPlace} (h : DataW.trod enc Tryz.prog W 0 (fun _ => true) true fuel 27 cs = some x) : ∃ a : Sm, cs = sm11 a ∧ a.ok := by
  obtain ⟨hl, n, hg⟩ := op_fields Tryz.underlying27 h
  rw [nSm] at hl
  match cs, hl with
  | [c0, c1, c2, c3, c4, c5, c6, c7, c8, c9, c10], _ =>
    obtain ⟨y0, g0⟩ := hg 0 4 0 rfl
    rw [nBoolS] at g0
    simp only [List.take_succ_cons, List.take_zero, List.drop_zero] at g0
    obtain ⟨b0, e0⟩ := op_bool Tryz.underlying4 g0
    obtain ⟨y1, g1⟩ := hg 1 5 1 rfl
    rw [nU8s] at g1
    simp only [List.drop_succ_cons, List.take_succ_cons, List.take_zero, List.drop_zero] at g1
    obtain ⟨k1, b1, e1⟩ := op_u8 Tryz.underlying5 g1
    obtain ⟨y2, g2⟩ := hg 2 5 2 rfl
    rw [nU8s] at g2
    simp only [List.drop_succ_cons, List.take_succ_cons, List.take_zero, List.drop_zero] at g2
    obtain ⟨k2, b2, e2⟩ := op_u8 Tryz.underlying5 g2
    obtain ⟨y3, g3⟩ := hg 3 5 3 rfl
    rw [nU8s] at g3
    simp only [List.drop_succ_cons, List.take_succ_cons, List.take_zero, List.drop_zero] at g3
    obtain ⟨k3, b3, e3⟩ := op_u8 Tryz.underlying5 g3
    obtain ⟨y4, g4⟩ := hg 4 25 4 rfl
    rw [nU16s] at g4
    simp only [List.drop_succ_cons, List.take_succ_cons, List.take_zero, List.drop_zero] at g4
    obtain ⟨k4, b4, e4⟩ := op_u16 Tryz.underlying25 g4
    obtain ⟨y5, g5⟩ := hg 5 25 5 rfl
    rw [nU16s] at g5
    simp only [List.drop_succ_cons, List.take_succ_cons, List.take_zero, List.drop_zero] at g5
    obtain ⟨k5, b5, e5⟩ := op_u16 Tryz.underlying25 g5
    obtain ⟨y6, g6⟩ := hg 6 25 6 rfl
    rw [nU16s] at g6
    simp only [List.drop_succ_cons, List.take_succ_cons, List.take_zero, List.drop_zero] at g6
    obtain ⟨k6, b6, e6⟩ := op_u16 Tryz.underlying25 g6
    obtain ⟨y7, g7⟩ := hg 7 5 7 rfl
    rw [nU8s] at g7
    simp only [List.drop_succ_cons, List.take_succ_cons, List.take_zero, List.drop_zero] at g7
    obtain ⟨k7, b7, e7⟩ := op_u8 Tryz.underlying5 g7
    obtain ⟨y8, g8⟩ := hg 8 5 8 rfl
    rw [nU8s] at g8
    simp only [List.drop_succ_cons, List.take_succ_cons, List.take_zero, List.drop_zero] at g8
    obtain ⟨k8, b8, e8⟩ := op_u8 Tryz.underlying5 g8
    obtain ⟨y9, g9⟩ := hg 9 5 9 rfl
    rw [nU8s] at g9
    simp only [List.drop_succ_cons, List.take_succ_cons, List.take_zero, List.drop_zero] at g9
    obtain ⟨k9, b9, e9⟩ := op_u8 Tryz.underlying5 g9
    obtain ⟨y10, g10⟩ := hg 10 4 10 rfl
    rw [nBoolS] at g10
    simp only [List.drop_succ_cons, List.take_succ_cons, List.take_zero, List.drop_zero] at g10
    obtain ⟨b10, e10⟩ := op_bool Tryz.underlying4 g10
    clear hg h
    simp only [List.cons.injEq, and_true] at e0 e1 e2 e3 e4 e5 e6 e7 e8 e9 e10
    exact ⟨⟨b0, k1, k2, k3, k4, k5, k6, k7, k8, k9, b10⟩, by simp only [sm11, e0, e1, e2, e3, e4, e5, e6, e7, e8, e9, e10], ⟨b1, b3, b4, b5, b6, b8, b9⟩⟩
theorem op_tearD {W : World} {fuel : Nat} {cs : List Value} {x : DataW H × List MemPlace} (h : DataW.trod enc Tryz.prog W 0 (fun _ => true) true fuel 68 cs = some x) : ∃ a : Nat × Nat, cs = tear2 a ∧ (a.1 < 65536 ∧ a.2 < 65536) := by
  obtain ⟨hl, n, hg⟩ := op_fields Tryz.underlying68 h
  rw [nTear] at hl
  match cs, hl with
  | [c0, c1], _ =>
    obtain ⟨y0, g0⟩ := hg 0 25 0 rfl
    rw [nU16s] at g0
    simp only [List.take_succ_cons, List.take_zero, List.drop_zero] at g0
    obtain ⟨k0, b0, e0⟩ := op_u16 Tryz.underlying25 g0
    obtain ⟨y1, g1⟩ := hg 1 25 1 rfl
    rw [nU16s] at g1
    simp only [List.drop_succ_cons, List.take_succ_cons, List.take_zero, List.drop_zero] at g1
    obtain ⟨k1, b1, e1⟩ := op_u16 Tryz.underlying25 g1
    clear hg h
    simp only [List.cons.injEq, and_true] at e0 e1
    exact ⟨(k0, k1), by simp only [tear2, e0, e1], ⟨b0, b1⟩⟩
theorem open_sms {W : World} {n : Nat} {v : Value} {x : DataW H × List MemPlace} (h : DataW.trod enc Tryz.prog W 0 (fun _ => true) true n 22 [v] = some x) :
    ∃ l : List Sm, Rd W 11 v l.length (l.flatMap sm11) ∧ ∀ a ∈ l, a.ok := by
  obtain ⟨v', l, e, h1, h2⟩ := op_rows sm11 11 (by decide) (fun _ => rfl) Tryz.underlying22 nSm h (fun a => a.ok) (fun _ _ _ h => op_sm h)
  simp only [List.cons.injEq, and_true] at e
  subst e
  exact ⟨l, h1, h2⟩
theorem open_tearsD {W : World} {n : Nat} {v : Value} {x : DataW H × List MemPlace} (h : DataW.trod enc Tryz.prog W 0 (fun _ => true) true n 66 [v] = some x) :
    ∃ l : List (Nat × Nat), Rd W 2 v l.length (tearCells l) ∧ ∀ a ∈ l, a.1 < 65536 ∧ a.2 < 65536 := by
  obtain ⟨v', l, e, h1, h2⟩ := op_rows tear2 2 (by decide) (fun _ => rfl) Tryz.underlying66 nTear h (fun a => a.1 < 65536 ∧ a.2 < 65536) (fun _ _ _ h => op_tearD h)
  simp only [List.cons.injEq, and_true] at e
  subst e
  exact ⟨l, h1, h2⟩
end
end Go.Proofs.YtdmdfccadjfpiaaGreat
