/-
  journal.Open and ledger.Open of a file that a crash tore. The bytes of the records that a scan finds are the bytes' beginning. ledger.Of: slices.DeleteFunc at entries. Parts of memory that do not meet, as one part; stores into rows. The plain law of LedgerPlays: what the records of a ledger say, cut anywhere behind what is synced. What a scan finds of torn records (plain law of JournalCrashes). SameItem, and the law's same, at items that mean the same. watchfirelaw08.Next with a ledger's High; ledger.List; the law's same; the plain law of what is written; Crash of a file that is synced; items and tears handed in.
-/
import Derived.Test.YtdmdfccadjfpiaaGreatSm5
import Derived.Test.YtdmdfccadjfpiaaGreatOpT
import Derived.Test.YtdmdfccadjfpiaaGreatFreeT
import Derived.Test.YtdmdfccadjfpiaaGreatCrT
import Derived.Test.YtdmdfccadjfpiaaGreatAwk22
import Derived.Test.YtdmdfccadjfpiaaGreatDatT
import Derived.ChangeMaps5
import Derived.Test.YtdmdfccadjfpiaaGreatSpoiltL
import Derived.Test.YtdmdfccadjfpiaaGreatSt2
import Derived.Test.YtdmdfccadjfpiaaGreatConv
namespace Go.Proofs.YtdmdfccadjfpiaaGreat
open Go.RowKit
set_option maxRecDepth 100000
attribute [local go_sem] FreeTw.out

/-- What an act's item is, behind a high. -/
structure NextOk (a : ItV) (n o : Nat) : Prop where
  chk : n + 3 ≤ 1099511627776 → chkIt a = 0
  org : spanO a = o % 4
  fr : spanF a = n + 1
  to : spanT a ≤ n + 3
  nrm : normI a
/-- What an item has besides its labels' memory. -/
structure ItV.nb (a : ItV) : Prop where
  o : a.o < 256
  sq : a.sq < 18446744073709551616
  tm : a.tm < 18446744073709551616
  ru : a.ru.size ≤ maxLen
  pz : ∀ p ∈ a.ps, p.1.size ≤ maxLen ∧ p.2.size ≤ maxLen
  st : a.st < 256
  pr : a.pr < 256
  va : -9223372036854775808 ≤ a.va ∧ a.va ≤ 9223372036854775807
  ow : a.ow < 256
  go : a.go < 256
  gf : a.gf < 18446744073709551616
  gt : a.gt < 18446744073709551616
theorem ItV.ok.nb {a : ItV} {w : World} (h : a.ok w) : a.nb := ⟨h.o, h.sq, h.tm, h.ru, h.pz, h.st, h.pr, h.va, h.ow, h.go, h.gf, h.gt⟩
theorem ItV.nb.ok {a : ItV} {w : World} (h : a.nb) (hr : Rd w 2 a.lv a.ps.length (pairCells a.ps)) : a.ok w := ⟨h.o, h.sq, h.tm, h.ru, hr, h.pz, h.st, h.pr, h.va, h.ow, h.go, h.gf, h.gt⟩
set_option maxHeartbeats 2000000 in
theorem smallNextH_true (cl n o p ow sq mo ti ru la va : Nat) (stb : Bool) (w : World) (hn : n ≤ 1099511627776) (_how : ow < 256) (hsq : sq < 65536) (_hmo : mo < 65536) (_hti : ti < 65536) (_hla : la < 256) (_hva : va < 256)
    (KH : ∀ o4, o4 = o % 4 → ∀ w', Below w.heap.size w w' → Calls Tryz.prog 21 #[.pointer (some ⟨cl, 0, none⟩), .int .u8 (o4 : Nat)] w' fun e w'' => e = .returned (.int .u64 (n : Nat)) ∧ Below w'.heap.size w' w'') :
    Calls Tryz.prog 8 #[.agg #[.bool true, .int .u8 o, .int .u8 p, .int .u8 ow, .int .u16 sq, .int .u16 mo, .int .u16 ti, .int .u8 ru, .int .u8 la, .int .u8 va, .bool stb], .func (Fn.func 21) #[.pointer (some ⟨cl, 0, none⟩)] #[]] w fun e w' => ∃ a : ItV, e = .returned (itV a) ∧ NextOk a n o ∧ w'.ownsRow w.heap.size 137 2 a.lv a.ps.length (pairCells a.ps) ∧ a.ok w' ∧ Below w.heap.size w w' := by
  obtain ⟨o4, ho4⟩ : ∃ o4, o4 = o % 4 := ⟨_, rfl⟩
  have KH4 := KH o4 ho4
  clear KH
  have lo : o4 < 4 := by omega
  have HO := Lib.hid ho4
  have t1 : (o : Int).tmod 4 = (o4 : Int) := by rw [ho4]; rfl
  obtain ⟨m3, hm3⟩ : ∃ m3, m3 = mo % 3 := ⟨_, rfl⟩
  have t2 : (mo : Int).tmod 3 = (m3 : Int) := by rw [hm3]; rfl
  have lm : m3 < 3 := by omega
  clear ho4 hm3
  have KS := fun w' => smallItem_gap o4 p ow sq m3 ti ru la va stb w' hsq (by omega)
  have q1 : IntKind.u64.wrap ((n : Int) + 1) = ((n + 1 : Nat) : Int) := by rw [IntKind.wrap_u64]; omega
  have q2 : IntKind.u64.wrap (m3 : Int) = (m3 : Int) := by rw [IntKind.wrap_u64]; omega
  have q3 : IntKind.u64.wrap ((n : Int) + 1 + (m3 : Int)) = (n : Int) + 1 + (m3 : Int) := by rw [IntKind.wrap_u64]; omega

  go_enter Tryz.func8, Tryz.ntmps8
  go_wp2_with fail
  refine calls_genP fun w2 hw2 => ?_
  have U2 := (((Upd.nil [] w).alloc #[.bool true, .int .u8 o4, .int .u8 p, .int .u8 ow, .int .u16 sq, .int .u16 m3, .int .u16 ti, .int .u8 ru, .int .u8 la, .int .u8 va, .bool stb] 27).alloc #[.bool false, .int .u8 0, .int .u64 0, .int .u64 0, .string ⟨#[]⟩, .slice none 0 0, .int .u8 0, .int .u8 0, .int .i64 0, .int .u8 0, .int .u8 0, .int .u64 0, .int .u64 0] 36).same hw2
  simp only [World.size_alloc] at U2
  clear hw2
  (with_reducible refine (KS w2).mono ?_)
  rintro e w3 ⟨o32, f, t, ho32, hf, ht, rfl, hb3⟩
  have ho : o32 = o4 := by omega
  subst ho
  have U3 := U2.grow hb3
  clear hb3 U2 KS ho32
  have U4 := U3.alloc #[.bool true, .int .u8 0, .int .u64 0, .int .u64 0, .string ⟨#[]⟩, .slice none 0 0, .int .u8 0, .int .u8 0, .int .i64 0, .int .u8 0, .int .u8 o32, .int .u64 f, .int .u64 t] 36
  have c1 := (U4.blk 2 rfl).cell (j := 1) (v := .int .u8 o32) rfl
  go_wp2_with fail
  (with_reducible refine (KH4 _ U4.below).mono ?_)
  rintro e w5 ⟨rfl, hb5⟩
  have U5 := U4.grow hb5
  clear hb5 U4 U3 c1 KH4
  have e0 := (U5.blk 0 rfl).cell (j := 0) (v := .bool true) rfl
  have e1 := (U5.blk 0 rfl).cell (j := 1) (v := .int .u8 0) rfl
  have e2 := (U5.blk 0 rfl).cell (j := 2) (v := .int .u64 0) rfl
  have e3 := (U5.blk 0 rfl).cell (j := 3) (v := .int .u64 0) rfl
  have e4 := (U5.blk 0 rfl).cell (j := 4) (v := .string ⟨#[]⟩) rfl
  have e5 := (U5.blk 0 rfl).cell (j := 5) (v := .slice none 0 0) rfl
  have e6 := (U5.blk 0 rfl).cell (j := 6) (v := .int .u8 0) rfl
  have e7 := (U5.blk 0 rfl).cell (j := 7) (v := .int .u8 0) rfl
  have e8 := (U5.blk 0 rfl).cell (j := 8) (v := .int .i64 0) rfl
  have e9 := (U5.blk 0 rfl).cell (j := 9) (v := .int .u8 0) rfl
  have e10 := (U5.blk 0 rfl).cell (j := 10) (v := .int .u8 o32) rfl
  have e11 := (U5.blk 0 rfl).cell (j := 11) (v := .int .u64 f) rfl
  have e12 := (U5.blk 0 rfl).cell (j := 12) (v := .int .u64 t) rfl
  have ef := (U5.blk 0 rfl).frozen
  have z0 := (U5.blk 1 rfl).cell (j := 0) (v := .bool false) rfl
  have z1 := (U5.blk 1 rfl).cell (j := 1) (v := .int .u8 0) rfl
  have z2 := (U5.blk 1 rfl).cell (j := 2) (v := .int .u64 0) rfl
  have z3 := (U5.blk 1 rfl).cell (j := 3) (v := .int .u64 0) rfl
  have z4 := (U5.blk 1 rfl).cell (j := 4) (v := .string ⟨#[]⟩) rfl
  have z5 := (U5.blk 1 rfl).cell (j := 5) (v := .slice none 0 0) rfl
  have z6 := (U5.blk 1 rfl).cell (j := 6) (v := .int .u8 0) rfl
  have z7 := (U5.blk 1 rfl).cell (j := 7) (v := .int .u8 0) rfl
  have z8 := (U5.blk 1 rfl).cell (j := 8) (v := .int .i64 0) rfl
  have z9 := (U5.blk 1 rfl).cell (j := 9) (v := .int .u8 0) rfl
  have z10 := (U5.blk 1 rfl).cell (j := 10) (v := .int .u8 0) rfl
  have z11 := (U5.blk 1 rfl).cell (j := 11) (v := .int .u64 0) rfl
  have z12 := (U5.blk 1 rfl).cell (j := 12) (v := .int .u64 0) rfl
  have zf := (U5.blk 1 rfl).frozen
  have c5 := (U5.blk 2 rfl).cell (j := 5) (v := .int .u16 m3) rfl
  have hne : w3.heap.size ≠ w.heap.size + 1 := fun h => U5.apartAt 0 1 (by decide) rfl rfl w3.heap.size (chBlk_fp.2 rfl) (chBlk_fp.2 h)
  have hne2 : w.heap.size + 1 ≠ w3.heap.size := fun h => hne h.symm
  have F : ∀ w', Below w5.heap.size w5 w' → w'.cell? ⟨w.heap.size, 5, none⟩ = some (.int .u16 m3) := fun w' hw => ((U5.grow hw).blk 2 rfl).cell rfl
  go_wp2_with fail
  have ne3 : w.heap.size ≠ w3.heap.size := fun h => U5.apartAt 0 2 (by decide) rfl rfl w3.heap.size (chBlk_fp.2 rfl) (chBlk_fp.2 h.symm)
  have ne4 : w3.heap.size ≠ w.heap.size := fun h => ne3 h.symm
  refine FreeTw.region_free (fun w' => Below w5.heap.size w5 w') (fun w' => w'.cell? ⟨w.heap.size, 5, none⟩ = some (.int .u16 m3)) [2000005, 2000006] [10, 11, 12, 13] [0, 1, 2, 3, 4, 5, 6, 7, 8, 9] (fun w' hw => F w' hw) (by kernel_rfl) (by kernel_rfl) (by kernel_rfl) ((Below.refl _ _).drew) ?_
  repeat (first
    | (refine FreeTw.RelSeq.pure_ (c := ?_) rfl rfl ?_ ?_; rotate_left; (focus (intro x w'; dsimp only; go_simp; (first | ((repeat' apply And.intro) <;> first | with_reducible rfl | assumption) | (split <;> (try (focus (exfalso; omega))); (try go_simp); (repeat' apply And.intro) <;> first | with_reducible rfl | assumption)))); simp only [Act.put, List.setIfInBounds_toArray, List.set_cons_zero, List.set_cons_succ])
    | (refine FreeTw.RelSeq.steady_ (c := ?_) rfl rfl rfl ?_ ?_; rotate_left; (focus (intro x w' hw; dsimp only; obtain d0 := hw; go_simp; (repeat' apply And.intro) <;> first | with_reducible rfl | assumption)); simp only [Act.put, List.setIfInBounds_toArray, List.set_cons_zero, List.set_cons_succ])
    | (refine FreeTw.RelSeq.grow_ (c := ?_) rfl rfl rfl ?_ ?_; rotate_left; (focus (intro x w' hw _; dsimp only; obtain c0 := F w' hw; have hbr := Below.refl w'.heap.size w'; go_simp; (repeat' apply And.intro) <;> first | with_reducible rfl | assumption)); simp only [Act.put, List.setIfInBounds_toArray, List.set_cons_zero, List.set_cons_succ]))
  refine FreeTw.RelSeq.nil_ fun x w6 hw _ _ => ?_
  have U6 := U5.grow hw
  have c5' := F w6 hw
  clear F hw U5 c5 e0 e1 e2 e3 e4 e5 e6 e7 e8 e9 e10 e11 e12 z0 z1 z2 z3 z4 z5 z6 z7 z8 z9 z10 z11 z12 ef zf
  refine FreeTw.TailSeq.cons_ rfl ?_
  have e0 := (U6.blk 0 rfl).cell (j := 0) (v := .bool true) rfl
  have e1 := (U6.blk 0 rfl).cell (j := 1) (v := .int .u8 0) rfl
  have e2 := (U6.blk 0 rfl).cell (j := 2) (v := .int .u64 0) rfl
  have e3 := (U6.blk 0 rfl).cell (j := 3) (v := .int .u64 0) rfl
  have e4 := (U6.blk 0 rfl).cell (j := 4) (v := .string ⟨#[]⟩) rfl
  have e5 := (U6.blk 0 rfl).cell (j := 5) (v := .slice none 0 0) rfl
  have e6 := (U6.blk 0 rfl).cell (j := 6) (v := .int .u8 0) rfl
  have e7 := (U6.blk 0 rfl).cell (j := 7) (v := .int .u8 0) rfl
  have e8 := (U6.blk 0 rfl).cell (j := 8) (v := .int .i64 0) rfl
  have e9 := (U6.blk 0 rfl).cell (j := 9) (v := .int .u8 0) rfl
  have e10 := (U6.blk 0 rfl).cell (j := 10) (v := .int .u8 o32) rfl
  have e11 := (U6.blk 0 rfl).cell (j := 11) (v := .int .u64 f) rfl
  have e12 := (U6.blk 0 rfl).cell (j := 12) (v := .int .u64 t) rfl
  have ef := (U6.blk 0 rfl).frozen
  go_simp
  refine FreeTw.TailSeq.cons_ rfl ?_
  go_simp
  refine FreeTw.TailSeq.cons_ rfl ?_
  go_simp
  refine FreeTw.TailSeq.cons_ rfl ?_
  go_simp
  refine FreeTw.TailSeq.nil_gen fun w7 hw7 => ?_
  have U7 := ((U6.put 0 rfl 11 (.int .u64 ((n : Int) + 1))).put 0 rfl 12 (.int .u64 ((n : Int) + 1 + (m3 : Int)))).same hw7
  simp only [List.setIfInBounds_toArray, List.set_cons_succ, List.set_cons_zero, List.eraseIdx_cons_zero] at U7
  clear hw7 U6 e0 e1 e2 e3 e4 e5 e6 e7 e8 e9 e10 e11 e12 ef
  have e0 := (U7.blk 0 rfl).cell (j := 0) (v := .bool true) rfl
  have e1 := (U7.blk 0 rfl).cell (j := 1) (v := .int .u8 0) rfl
  have e2 := (U7.blk 0 rfl).cell (j := 2) (v := .int .u64 0) rfl
  have e3 := (U7.blk 0 rfl).cell (j := 3) (v := .int .u64 0) rfl
  have e4 := (U7.blk 0 rfl).cell (j := 4) (v := .string ⟨#[]⟩) rfl
  have e5 := (U7.blk 0 rfl).cell (j := 5) (v := .slice none 0 0) rfl
  have e6 := (U7.blk 0 rfl).cell (j := 6) (v := .int .u8 0) rfl
  have e7 := (U7.blk 0 rfl).cell (j := 7) (v := .int .u8 0) rfl
  have e8 := (U7.blk 0 rfl).cell (j := 8) (v := .int .i64 0) rfl
  have e9 := (U7.blk 0 rfl).cell (j := 9) (v := .int .u8 0) rfl
  have e10 := (U7.blk 0 rfl).cell (j := 10) (v := .int .u8 o32) rfl
  have e11 := (U7.blk 0 rfl).cell (j := 11) (v := .int .u64 ((n : Int) + 1)) rfl
  have e12 := (U7.blk 0 rfl).cell (j := 12) (v := .int .u64 ((n : Int) + 1 + (m3 : Int))) rfl
  have ef := (U7.blk 0 rfl).frozen
  have z0 := (U7.blk 1 rfl).cell (j := 0) (v := .bool false) rfl
  have z1 := (U7.blk 1 rfl).cell (j := 1) (v := .int .u8 0) rfl
  have z2 := (U7.blk 1 rfl).cell (j := 2) (v := .int .u64 0) rfl
  have z3 := (U7.blk 1 rfl).cell (j := 3) (v := .int .u64 0) rfl
  have z4 := (U7.blk 1 rfl).cell (j := 4) (v := .string ⟨#[]⟩) rfl
  have z5 := (U7.blk 1 rfl).cell (j := 5) (v := .slice none 0 0) rfl
  have z6 := (U7.blk 1 rfl).cell (j := 6) (v := .int .u8 0) rfl
  have z7 := (U7.blk 1 rfl).cell (j := 7) (v := .int .u8 0) rfl
  have z8 := (U7.blk 1 rfl).cell (j := 8) (v := .int .i64 0) rfl
  have z9 := (U7.blk 1 rfl).cell (j := 9) (v := .int .u8 0) rfl
  have z10 := (U7.blk 1 rfl).cell (j := 10) (v := .int .u8 0) rfl
  have z11 := (U7.blk 1 rfl).cell (j := 11) (v := .int .u64 0) rfl
  have z12 := (U7.blk 1 rfl).cell (j := 12) (v := .int .u64 0) rfl
  have zf := (U7.blk 1 rfl).frozen
  go_wp2_with fail
  refine bodyPost_gen fun w8 hw8 => ?_
  have V := ((((((((((((((U7.put 1 rfl 0 (.bool true)).put 0 rfl 1 (.int .u8 0)).put 0 rfl 2 (.int .u64 0)).put 0 rfl 3 (.int .u64 0)).put 0 rfl 4 (.string ⟨#[]⟩)).put 0 rfl 5 (.slice none 0 0)).put 0 rfl 6 (.int .u8 0)).put 0 rfl 7 (.int .u8 0)).put 0 rfl 8 (.int .i64 0)).put 0 rfl 9 (.int .u8 0)).put 0 rfl 10 (.int .u8 o32)).put 0 rfl 11 (.int .u64 ((n : Int) + 1))).put 0 rfl 12 (.int .u64 ((n : Int) + 1 + (m3 : Int))))).same hw8
  simp only [List.setIfInBounds_toArray, List.set_cons_succ, List.set_cons_zero, List.eraseIdx_cons_succ, List.eraseIdx_cons_zero] at V
  clear hw8 U7
  have a0 := (V.blk 0 rfl).cell (j := 0) (v := .bool true) rfl
  have a1 := (V.blk 0 rfl).cell (j := 1) (v := .int .u8 0) rfl
  have a2 := (V.blk 0 rfl).cell (j := 2) (v := .int .u64 0) rfl
  have a3 := (V.blk 0 rfl).cell (j := 3) (v := .int .u64 0) rfl
  have a4 := (V.blk 0 rfl).cell (j := 4) (v := .string ⟨#[]⟩) rfl
  have a5 := (V.blk 0 rfl).cell (j := 5) (v := .slice none 0 0) rfl
  have a6 := (V.blk 0 rfl).cell (j := 6) (v := .int .u8 0) rfl
  have a7 := (V.blk 0 rfl).cell (j := 7) (v := .int .u8 0) rfl
  have a8 := (V.blk 0 rfl).cell (j := 8) (v := .int .i64 0) rfl
  have a9 := (V.blk 0 rfl).cell (j := 9) (v := .int .u8 0) rfl
  have a10 := (V.blk 0 rfl).cell (j := 10) (v := .int .u8 o32) rfl
  have a11 := (V.blk 0 rfl).cell (j := 11) (v := .int .u64 ((n : Int) + 1)) rfl
  have a12 := (V.blk 0 rfl).cell (j := 12) (v := .int .u64 ((n : Int) + 1 + (m3 : Int))) rfl
  refine bodyPost_ret (v := .agg #[.bool true, .int .u8 0, .int .u64 0, .int .u64 0, .string ⟨#[]⟩, .slice none 0 0, .int .u8 0, .int .u8 0, .int .i64 0, .int .u8 0, .int .u8 o32, .int .u64 ((n : Int) + 1), .int .u64 ((n : Int) + 1 + (m3 : Int))]) ?_ rfl ⟨⟨true, 0, 0, 0, ⟨#[]⟩, .slice none 0 0, [], 0, 0, 0, 0, o32, n + 1, n + 1 + m3⟩, by simp [itV], ⟨?_, HO.out, rfl, show n + 1 + m3 ≤ n + 3 by omega, by simp [normI]⟩, World.ownsRow_nil w8 w.heap.size 137 2, ⟨by simp, by simp, by simp, show (0 : Nat) ≤ maxLen from Nat.zero_le _, ⟨none, 0, rfl, rfl, Nat.le_refl _, show 0 ≤ maxLen by unfold maxLen; omega, fun h => absurd h (Nat.lt_irrefl 0)⟩, (fun _ h => nomatch h), by simp, by simp, by simp, by simp, show o32 < 256 by omega, show n + 1 < _ by omega, show n + 1 + m3 < _ by omega⟩, V.below⟩
  · simp [results, Tryz.results8, go_sem, a0, a1, a2, a3, a4, a5, a6, a7, a8, a9, a10, a11, a12]
  · intro _
    show chkGap o32 (n + 1) (n + 1 + m3) = 0
    unfold chkGap
    rw [if_neg (by omega)]
set_option maxHeartbeats 2000000 in
theorem smallNextH_false (cl n o p ow sq mo ti ru la va : Nat) (stb : Bool) (w : World) (hn : n ≤ 1099511627776) (how : ow < 256) (hsq : sq < 65536) (_hmo : mo < 65536) (hti : ti < 65536) (hla : la < 256) (hva : va < 256)
    (KH : ∀ o4, o4 = o % 4 → ∀ w', Below w.heap.size w w' → Calls Tryz.prog 21 #[.pointer (some ⟨cl, 0, none⟩), .int .u8 (o4 : Nat)] w' fun e w'' => e = .returned (.int .u64 (n : Nat)) ∧ Below w'.heap.size w' w'') :
    Calls Tryz.prog 8 #[.agg #[.bool false, .int .u8 o, .int .u8 p, .int .u8 ow, .int .u16 sq, .int .u16 mo, .int .u16 ti, .int .u8 ru, .int .u8 la, .int .u8 va, .bool stb], .func (Fn.func 21) #[.pointer (some ⟨cl, 0, none⟩)] #[]] w fun e w' => ∃ a : ItV, e = .returned (itV a) ∧ NextOk a n o ∧ w'.ownsRow w.heap.size 137 2 a.lv a.ps.length (pairCells a.ps) ∧ a.ok w' ∧ Below w.heap.size w w' := by
  obtain ⟨o4, ho4⟩ : ∃ o4, o4 = o % 4 := ⟨_, rfl⟩
  have KH4 := KH o4 ho4
  clear KH
  have lo : o4 < 4 := by omega
  have HO := Lib.hid ho4
  have t1 : (o : Int).tmod 4 = (o4 : Int) := by rw [ho4]; rfl
  obtain ⟨m3, hm3⟩ : ∃ m3, m3 = mo % 3 := ⟨_, rfl⟩
  have t2 : (mo : Int).tmod 3 = (m3 : Int) := by rw [hm3]; rfl
  have lm : m3 < 3 := by omega
  clear ho4 hm3
  have KS := fun w' => smallItem_event o4 p ow sq m3 ti ru la va stb w' how hsq hti hla hva
  have q1 : IntKind.u64.wrap ((n : Int) + 1) = ((n + 1 : Nat) : Int) := by rw [IntKind.wrap_u64]; omega
  have q2 : IntKind.u64.wrap (m3 : Int) = (m3 : Int) := by rw [IntKind.wrap_u64]; omega
  have q3 : IntKind.u64.wrap ((n : Int) + 1 + (m3 : Int)) = (n : Int) + 1 + (m3 : Int) := by rw [IntKind.wrap_u64]; omega

  go_enter Tryz.func8, Tryz.ntmps8
  go_wp2_with fail
  refine calls_genP fun w2 hw2 => ?_
  have U2 := (((Upd.nil [] w).alloc #[.bool false, .int .u8 o4, .int .u8 p, .int .u8 ow, .int .u16 sq, .int .u16 m3, .int .u16 ti, .int .u8 ru, .int .u8 la, .int .u8 va, .bool stb] 27).alloc #[.bool false, .int .u8 0, .int .u64 0, .int .u64 0, .string ⟨#[]⟩, .slice none 0 0, .int .u8 0, .int .u8 0, .int .i64 0, .int .u8 0, .int .u8 0, .int .u64 0, .int .u64 0] 36).same hw2
  simp only [World.size_alloc] at U2
  clear hw2
  (with_reducible refine (KS w2).mono ?_)
  rintro e w3 ⟨a, he, hg, hao, hrow, hok, hb3⟩
  have U3 := U2.call ((Upd.nil [] w2).addRow hb3 hrow (Nat.le_refl _))
  simp only [List.cons_append, List.nil_append] at U3
  clear hb3 U2 KS
  have hgap := hg.gap
  have hchk := fun h3 : n + 3 ≤ 1099511627776 => hg.chk (n + 1) (by omega) (by omega)
  have hnrm : a.go = 0 ∧ a.gf = 0 ∧ a.gt = 0 := ⟨hg.go, hg.gf, hg.gt⟩
  have HNR := Lib.hid hnrm
  clear hnrm
  obtain ⟨Al, acl, hal⟩ := owns_slice hrow
  clear hrow hg
  obtain ⟨ag, ao, asq, atm, aru, alv, aps, ast, apr, ava, aow, ago, agf, agt⟩ := a
  simp only at hgap hao hchk hal U3
  subst hgap hal
  have he2 : e = .returned (.agg #[.bool false, .int .u8 ao, .int .u64 asq, .int .u64 atm, .string aru, .slice Al aps.length acl, .int .u8 ast, .int .u8 apr, .int .i64 ava, .int .u8 aow, .int .u8 ago, .int .u64 agf, .int .u64 agt]) := he
  subst he2
  clear he
  have hao4 : ao = o4 := by omega
  subst hao4
  clear hao
  have U4 := U3.alloc #[.bool false, .int .u8 ao, .int .u64 asq, .int .u64 atm, .string aru, .slice Al aps.length acl, .int .u8 ast, .int .u8 apr, .int .i64 ava, .int .u8 aow, .int .u8 ago, .int .u64 agf, .int .u64 agt] 36
  have c1 := (U4.blk 3 rfl).cell (j := 1) (v := .int .u8 ao) rfl
  go_wp2_with fail
  (with_reducible refine (KH4 _ U4.below).mono ?_)
  rintro e w5 ⟨rfl, hb5⟩
  have U5 := U4.grow hb5
  clear hb5 U4 U3 c1 KH4
  have e0 := (U5.blk 0 rfl).cell (j := 0) (v := .bool false) rfl
  have e1 := (U5.blk 0 rfl).cell (j := 1) (v := .int .u8 ao) rfl
  have e2 := (U5.blk 0 rfl).cell (j := 2) (v := .int .u64 asq) rfl
  have e3 := (U5.blk 0 rfl).cell (j := 3) (v := .int .u64 atm) rfl
  have e4 := (U5.blk 0 rfl).cell (j := 4) (v := .string aru) rfl
  have e5 := (U5.blk 0 rfl).cell (j := 5) (v := .slice Al aps.length acl) rfl
  have e6 := (U5.blk 0 rfl).cell (j := 6) (v := .int .u8 ast) rfl
  have e7 := (U5.blk 0 rfl).cell (j := 7) (v := .int .u8 apr) rfl
  have e8 := (U5.blk 0 rfl).cell (j := 8) (v := .int .i64 ava) rfl
  have e9 := (U5.blk 0 rfl).cell (j := 9) (v := .int .u8 aow) rfl
  have e10 := (U5.blk 0 rfl).cell (j := 10) (v := .int .u8 ago) rfl
  have e11 := (U5.blk 0 rfl).cell (j := 11) (v := .int .u64 agf) rfl
  have e12 := (U5.blk 0 rfl).cell (j := 12) (v := .int .u64 agt) rfl
  have ef := (U5.blk 0 rfl).frozen
  have z0 := (U5.blk 2 rfl).cell (j := 0) (v := .bool false) rfl
  have z1 := (U5.blk 2 rfl).cell (j := 1) (v := .int .u8 0) rfl
  have z2 := (U5.blk 2 rfl).cell (j := 2) (v := .int .u64 0) rfl
  have z3 := (U5.blk 2 rfl).cell (j := 3) (v := .int .u64 0) rfl
  have z4 := (U5.blk 2 rfl).cell (j := 4) (v := .string ⟨#[]⟩) rfl
  have z5 := (U5.blk 2 rfl).cell (j := 5) (v := .slice none 0 0) rfl
  have z6 := (U5.blk 2 rfl).cell (j := 6) (v := .int .u8 0) rfl
  have z7 := (U5.blk 2 rfl).cell (j := 7) (v := .int .u8 0) rfl
  have z8 := (U5.blk 2 rfl).cell (j := 8) (v := .int .i64 0) rfl
  have z9 := (U5.blk 2 rfl).cell (j := 9) (v := .int .u8 0) rfl
  have z10 := (U5.blk 2 rfl).cell (j := 10) (v := .int .u8 0) rfl
  have z11 := (U5.blk 2 rfl).cell (j := 11) (v := .int .u64 0) rfl
  have z12 := (U5.blk 2 rfl).cell (j := 12) (v := .int .u64 0) rfl
  have zf := (U5.blk 2 rfl).frozen
  have c5 := (U5.blk 3 rfl).cell (j := 5) (v := .int .u16 m3) rfl
  have hne : w3.heap.size ≠ w.heap.size + 1 := fun h => U5.apartAt 0 2 (by decide) rfl rfl w3.heap.size (chBlk_fp.2 rfl) (chBlk_fp.2 h)
  have hne2 : w.heap.size + 1 ≠ w3.heap.size := fun h => hne h.symm
  go_wp2_with fail
  refine bodyPost_gen fun w6 hw6 => ?_
  have V := (((((((((((((((U5.put 0 rfl 2 (.int .u64 ((n : Int) + 1))).put 2 rfl 0 (.bool false)).put 0 rfl 1 (.int .u8 ao)).put 0 rfl 2 (.int .u64 ((n : Int) + 1))).put 0 rfl 3 (.int .u64 atm)).put 0 rfl 4 (.string aru)).put 0 rfl 5 (.slice Al aps.length acl)).put 0 rfl 6 (.int .u8 ast)).put 0 rfl 7 (.int .u8 apr)).put 0 rfl 8 (.int .i64 ava)).put 0 rfl 9 (.int .u8 aow)).put 0 rfl 10 (.int .u8 ago)).put 0 rfl 11 (.int .u64 agf)).put 0 rfl 12 (.int .u64 agt))).same hw6
  simp only [List.setIfInBounds_toArray, List.set_cons_succ, List.set_cons_zero, List.eraseIdx_cons_succ, List.eraseIdx_cons_zero] at V
  clear hw6 U5
  have a0 := (V.blk 0 rfl).cell (j := 0) (v := .bool false) rfl
  have a1 := (V.blk 0 rfl).cell (j := 1) (v := .int .u8 ao) rfl
  have a2 := (V.blk 0 rfl).cell (j := 2) (v := .int .u64 ((n : Int) + 1)) rfl
  have a3 := (V.blk 0 rfl).cell (j := 3) (v := .int .u64 atm) rfl
  have a4 := (V.blk 0 rfl).cell (j := 4) (v := .string aru) rfl
  have a5 := (V.blk 0 rfl).cell (j := 5) (v := .slice Al aps.length acl) rfl
  have a6 := (V.blk 0 rfl).cell (j := 6) (v := .int .u8 ast) rfl
  have a7 := (V.blk 0 rfl).cell (j := 7) (v := .int .u8 apr) rfl
  have a8 := (V.blk 0 rfl).cell (j := 8) (v := .int .i64 ava) rfl
  have a9 := (V.blk 0 rfl).cell (j := 9) (v := .int .u8 aow) rfl
  have a10 := (V.blk 0 rfl).cell (j := 10) (v := .int .u8 ago) rfl
  have a11 := (V.blk 0 rfl).cell (j := 11) (v := .int .u64 agf) rfl
  have a12 := (V.blk 0 rfl).cell (j := 12) (v := .int .u64 agt) rfl
  have hrow := V.row 2 rfl
  have hge := V.own _ (.tail _ (.tail _ (.head _)))
  have hrow' := owns_base (base' := w.heap.size) hrow (fun g hg => (hge g (by simpa [chRow] using hg)).resolve_left (fun h => nomatch h))
  refine bodyPost_ret (v := .agg #[.bool false, .int .u8 ao, .int .u64 ((n : Int) + 1), .int .u64 atm, .string aru, .slice Al aps.length acl, .int .u8 ast, .int .u8 apr, .int .i64 ava, .int .u8 aow, .int .u8 ago, .int .u64 agf, .int .u64 agt]) ?_ rfl ⟨⟨false, ao, n + 1, atm, aru, .slice Al aps.length acl, aps, ast, apr, ava, aow, ago, agf, agt⟩, by simp [itV], ⟨hchk, HO.out, rfl, show n + 1 ≤ n + 3 by omega, by
    unfold normI
    rw [if_neg Bool.false_ne_true]
    exact HNR.out⟩, hrow', ⟨hok.o, show n + 1 < _ by omega, hok.tm, hok.ru, rd_of_owns hrow, hok.pz, hok.st, hok.pr, hok.va, hok.ow, hok.go, hok.gf, hok.gt⟩, V.below⟩
  simp [results, Tryz.results8, go_sem, a0, a1, a2, a3, a4, a5, a6, a7, a8, a9, a10, a11, a12]

/-- An item of small numbers, as it is handed in. -/
structure Sm where
  g : Bool
  o : Nat
  p : Nat
  ow : Nat
  sq : Nat
  mo : Nat
  ti : Nat
  ru : Nat
  la : Nat
  va : Nat
  stb : Bool
structure Sm.ok (s : Sm) : Prop where
  o : s.o < 256
  ow : s.ow < 256
  sq : s.sq < 65536
  mo : s.mo < 65536
  ti : s.ti < 65536
  la : s.la < 256
  va : s.va < 256
def sm11 (s : Sm) : List Value := [.bool s.g, .int .u8 s.o, .int .u8 s.p, .int .u8 s.ow, .int .u16 s.sq, .int .u16 s.mo, .int .u16 s.ti, .int .u8 s.ru, .int .u8 s.la, .int .u8 s.va, .bool s.stb]
theorem smallNextH (g : Bool) (cl n o p ow sq mo ti ru la va : Nat) (stb : Bool) (w : World) (hn : n ≤ 1099511627776) (how : ow < 256) (hsq : sq < 65536) (hmo : mo < 65536) (hti : ti < 65536) (hla : la < 256) (hva : va < 256)
    (KH : ∀ o4, o4 = o % 4 → ∀ w', Below w.heap.size w w' → Calls Tryz.prog 21 #[.pointer (some ⟨cl, 0, none⟩), .int .u8 (o4 : Nat)] w' fun e w'' => e = .returned (.int .u64 (n : Nat)) ∧ Below w'.heap.size w' w'') :
    Calls Tryz.prog 8 #[.agg #[.bool g, .int .u8 o, .int .u8 p, .int .u8 ow, .int .u16 sq, .int .u16 mo, .int .u16 ti, .int .u8 ru, .int .u8 la, .int .u8 va, .bool stb], .func (Fn.func 21) #[.pointer (some ⟨cl, 0, none⟩)] #[]] w fun e w' => ∃ a : ItV, e = .returned (itV a) ∧ NextOk a n o ∧ w'.ownsRow w.heap.size 137 2 a.lv a.ps.length (pairCells a.ps) ∧ a.ok w' ∧ Below w.heap.size w w' := by
  cases g
  · exact smallNextH_false cl n o p ow sq mo ti ru la va stb w hn how hsq hmo hti hla hva KH
  · exact smallNextH_true cl n o p ow sq mo ti ru la va stb w hn how hsq hmo hti hla hva KH
end Go.Proofs.YtdmdfccadjfpiaaGreat
namespace Go.Proofs.YtdmdfccadjfpiaaGreat
open Go.RowKit FreeOrd
set_option maxRecDepth 100000
attribute [local go_sem] out

theorem infoEntryL : (Tryz.prog.info? 41).map (fun i => (i.zero, i.size, i.bytes)) = some (some (.agg #[.int .u64 0, .bool false, .int .u8 0, .int .u64 0, .int .u64 0, .string ⟨#[]⟩, .slice none 0 0, .int .u8 0, .int .u8 0, .int .i64 0, .int .u8 0, .int .u8 0, .int .u64 0, .int .u64 0]), 14, 128) := by kernel_rfl
set_option maxHeartbeats 8000000 in
theorem lList (g n : Nat) (jv lv : Value) (s : LSt) (es : List (Nat × ItV)) (w : World) (hnn : n = es.length) (hP : (chE g jv lv s es).P w) (hn : n ≤ 1000000) (hps : ∀ x ∈ es, x.2.ps.length ≤ 1000000) :
    Calls Tryz.prog 25 #[.pointer (some ⟨g, 0, none⟩)] w fun e w' => ∃ (A : Option Addr) (c : Nat) (es' : List (Nat × ItV)), e = .returned (.slice A n c) ∧ es'.map strip = es.map strip ∧ Upd [] w [chRow 41 14 (.slice A n c) es'.length (es'.flatMap en14), chAll (es'.map labRow)] w' := by
  obtain ⟨i0, hi, hz0, hz1, hz2⟩ := info_parts infoEntryL
  have hB := (two_open (two_open hP |>.get 0 rfl)).blk 0 rfl
  have hrow := (two_open (two_open hP |>.get 0 rfl)).row 1 rfl
  have hlab : ∀ c ∈ es.map labRow, c.P w := (two_open hP).all 1 rfl
  obtain ⟨A0, c0, rfl⟩ := owns_slice hrow
  have hrd := rd_of_owns hrow
  have hr0 := hrd
  obtain ⟨A, c, he, h1, h2, h3, h4⟩ := hrd
  injection he with he1 he2 he3
  subst he1 he3
  unfold maxLen at h3
  have g1 : w.cell? ⟨g, 1, none⟩ = some (.slice A0 n c0) := by rw [hnn]; exact hB.cell (ledA_1 jv (.slice A0 es.length c0) s.h s.li s.la)
  replace h2 : n ≤ c0 := by omega
  replace h4 : 0 < n → ∃ b o, A0 = some ⟨b, o, none⟩ ∧ RdAt w b o (es.flatMap en14) := fun h => h4 (by omega)
  have HN := Lib.hid hnn
  have HLAB := Lib.hid hlab
  have HPS := Lib.hid hps
  clear hnn hlab hB hrow hr0 hP h1 he2 hps
  go_enter Tryz.func25, Tryz.ntmps25
  go_wp2_with fail
  go_loopw [3, 13] (fun ov i wr => ∃ (k : Nat) (es' : List (Nat × ItV)), k ≤ n ∧ i = .int .i64 k ∧ es'.map strip = (es.take k).map strip ∧ es'.length = k ∧ Upd [] w [chRow 41 14 ov k (es'.flatMap en14), chAll (es'.map labRow)] wr) (fun _ i _ => n - (intOf i).toNat)
  case atStart => exact ⟨0, [], Nat.zero_le _, rfl, rfl, rfl, ((Upd.nil [] w).allNil).nilRow 41 14⟩
  case round =>
    obtain ⟨k, es', hk, rfl, hes, hel, R1⟩ := hrel
    obtain ⟨Ao, co, rfl⟩ := owns_slice (R1.row 0 rfl)
    by_cases hkn : k < n
    · obtain ⟨x, hx⟩ : ∃ x, es[k]? = some x := ⟨_, List.getElem?_eq_getElem (by rw [← HN.out]; exact hkn)⟩
      obtain ⟨b, oo, rfl, hat⟩ := h4 (by omega)
      have e0 := fun j hj => flat_at en14 14 (fun _ => rfl) es k x hx j hj
      have hxm := List.mem_of_getElem? hx
      have hlx : w.ownsRow 0 137 2 x.2.lv x.2.ps.length (pairCells x.2.ps) := HLAB.out (labRow x) (List.mem_map.2 ⟨x, hxm, rfl⟩)
      have hrx := rd_of_owns hlx
      have hnl9 := HPS.out x hxm
      have HTK := Lib.hid (show es.take (k + 1) = es.take k ++ [x] from take_snocL hx)
      have hb5 := R1.below
      obtain ⟨Al, acl, hal⟩ := owns_slice hlx
      obtain ⟨ti, ag, ao, asq, atm, aru, alv, aps, ast, apr, ava, aow, ago, agf, agt⟩ := x
      simp only at hal hrx hnl9
      subst hal
      obtain ⟨nl, hnl⟩ : ∃ nl, nl = aps.length := ⟨_, rfl⟩
      rw [← hnl] at hrx hnl9
      have HNL := Lib.hid hnl
      have x0 := hat.nth0 hb5 (k * 14) (.int .u64 ti) (e0 0 (by omega))
      have x1 := hat.nth hb5 (k * 14) 1 (.bool ag) (e0 1 (by omega))
      have x2 := hat.nth hb5 (k * 14) 2 (.int .u8 ao) (e0 2 (by omega))
      have x3 := hat.nth hb5 (k * 14) 3 (.int .u64 asq) (e0 3 (by omega))
      have x4 := hat.nth hb5 (k * 14) 4 (.int .u64 atm) (e0 4 (by omega))
      have x5 := hat.nth hb5 (k * 14) 5 (.string aru) (e0 5 (by omega))
      have x6 := hat.nth hb5 (k * 14) 6 (.slice Al nl acl) (by rw [hnl]; exact e0 6 (by omega))
      have x7 := hat.nth hb5 (k * 14) 7 (.int .u8 ast) (e0 7 (by omega))
      have x8 := hat.nth hb5 (k * 14) 8 (.int .u8 apr) (e0 8 (by omega))
      have x9 := hat.nth hb5 (k * 14) 9 (.int .i64 ava) (e0 9 (by omega))
      have x10 := hat.nth hb5 (k * 14) 10 (.int .u8 aow) (e0 10 (by omega))
      have x11 := hat.nth hb5 (k * 14) 11 (.int .u8 ago) (e0 11 (by omega))
      have x12 := hat.nth hb5 (k * 14) 12 (.int .u64 agf) (e0 12 (by omega))
      have x13 := hat.nth hb5 (k * 14) 13 (.int .u64 agt) (e0 13 (by omega))
      clear hx hxm hat e0 hlx hnl
      go_wp2_with fail
      refine wp_gen fun w6 hw6 => ?_
      have U6 := (R1.alloc #[.int .u64 ti, .bool ag, .int .u8 ao, .int .u64 asq, .int .u64 atm, .string aru, .slice Al nl acl, .int .u8 ast, .int .u8 apr, .int .i64 ava, .int .u8 aow, .int .u8 ago, .int .u64 agf, .int .u64 agt] 41).same hw6
      have hr6 := U6.rd0 hrx
      clear hw6 x0 x1 x2 x3 x4 x5 x6 x7 x8 x9 x10 x11 x12 x13 hrx hb5 R1
      have F : ∀ w', Below w6.heap.size w6 w' → w'.cell? ⟨wr.heap.size, 0, none⟩ = some (.int .u64 ti) ∧ w'.cell? ⟨wr.heap.size, 1, none⟩ = some (.bool ag) ∧ w'.cell? ⟨wr.heap.size, 2, none⟩ = some (.int .u8 ao) ∧ w'.cell? ⟨wr.heap.size, 3, none⟩ = some (.int .u64 asq) ∧ w'.cell? ⟨wr.heap.size, 4, none⟩ = some (.int .u64 atm) ∧ w'.cell? ⟨wr.heap.size, 5, none⟩ = some (.string aru) ∧ w'.cell? ⟨wr.heap.size, 6, none⟩ = some (.slice Al nl acl) ∧ w'.cell? ⟨wr.heap.size, 7, none⟩ = some (.int .u8 ast) ∧ w'.cell? ⟨wr.heap.size, 8, none⟩ = some (.int .u8 apr) ∧ w'.cell? ⟨wr.heap.size, 9, none⟩ = some (.int .i64 ava) ∧ w'.cell? ⟨wr.heap.size, 10, none⟩ = some (.int .u8 aow) ∧ w'.cell? ⟨wr.heap.size, 11, none⟩ = some (.int .u8 ago) ∧ w'.cell? ⟨wr.heap.size, 12, none⟩ = some (.int .u64 agf) ∧ w'.cell? ⟨wr.heap.size, 13, none⟩ = some (.int .u64 agt) := fun w' hw => by
        have q := (U6.grow hw).blk 0 rfl
        exact ⟨q.cell rfl, q.cell rfl, q.cell rfl, q.cell rfl, q.cell rfl, q.cell rfl, q.cell rfl, q.cell rfl, q.cell rfl, q.cell rfl, q.cell rfl, q.cell rfl, q.cell rfl, q.cell rfl⟩
      refine region_free (fun w' => Below w6.heap.size w6 w') [5, 6, 7] [8, 9] [0, 1, 2, 3, 4, 5, 6, 7] (by kernel_rfl) (by kernel_rfl) (by kernel_rfl) ((Below.refl _ _).drew) ?_
      repeat (first
        | (refine RelSeq.pure_ (c := ?_) rfl rfl ?_ ?_; rotate_left; (focus (intro x w'; dsimp only; go_simp; (repeat' apply And.intro) <;> first | with_reducible rfl | assumption)); simp only [Act.put, List.setIfInBounds_toArray, List.set_cons_zero, List.set_cons_succ])
        | (refine RelSeq.grow_ (c := ?_) rfl rfl ?_ ?_; rotate_left; (focus (intro x w' hw _; dsimp only; obtain ⟨c0_, c1_, c2_, c3_, c4_, c5_, c6_, c7_, c8_, c9_, c10_, c11_, c12_, c13_⟩ := F w' hw; have hbr := Below.refl w'.heap.size w'; go_simp; (repeat' apply And.intro) <;> first | with_reducible rfl | assumption)); simp only [Act.put, List.setIfInBounds_toArray, List.set_cons_zero, List.set_cons_succ]))
      refine RelSeq.rel_ (fun v w' => ∃ A4 c4, v = .agg #[.bool ag, .int .u8 ao, .int .u64 asq, .int .u64 atm, .string aru, .slice A4 nl c4, .int .u8 ast, .int .u8 apr, .int .i64 ava, .int .u8 aow, .int .u8 ago, .int .u64 agf, .int .u64 agt] ∧ w'.ownsRow w6.heap.size 137 2 (.slice A4 nl c4) nl (pairCells aps)) rfl rfl (fun v w w' ⟨A4, c4, e, hr⟩ hb => ⟨A4, c4, e, owns_below hr hb⟩) ?_ ?_
      focus
        intro x w' hw _; dsimp only
        go_simp
        (with_reducible refine (itClone ag ao asq atm aru Al nl acl ast apr ava aow ago agf agt aps w' (hr6.below hw) hnl9).mono ?_)
        rintro e w'' ⟨A4, c4, rfl, hrow, hbk⟩
        exact ⟨⟨A4, c4, rfl, owns_mono hrow hw.size⟩, hw.trans (hbk.mono hw.size), hbk⟩
      simp only [Act.put, List.setIfInBounds_toArray, List.set_cons_zero, List.set_cons_succ, List.nil_append]
      refine RelSeq.rel_ (fun v w' => ∃ A4 c4, v = .agg #[.int .u64 ti, .bool ag, .int .u8 ao, .int .u64 asq, .int .u64 atm, .string aru, .slice A4 nl c4, .int .u8 ast, .int .u8 apr, .int .i64 ava, .int .u8 aow, .int .u8 ago, .int .u64 agf, .int .u64 agt] ∧ w'.ownsRow w6.heap.size 137 2 (.slice A4 nl c4) nl (pairCells aps)) rfl rfl (fun v w w' ⟨A4, c4, e, hr⟩ hb => ⟨A4, c4, e, owns_below hr hb⟩) ?_ ?_
      focus
        intro x w' hw hf; dsimp only
        obtain ⟨A4, c4, e, hrow⟩ := hf _ (.head _) (by kernel_rfl)
        have hbr := Below.refl w'.heap.size w'
        go_simp
        exact ⟨A4, c4, ⟨rfl, rfl⟩, hrow⟩
      simp only [Act.put, List.setIfInBounds_toArray, List.set_cons_zero, List.set_cons_succ, List.nil_append, List.cons_append]
      refine RelSeq.rel_ (fun v w' => ∃ b A4 c4, v = .slice (some ⟨b, 0, none⟩) 1 1 ∧ w6.heap.size ≤ b ∧ Blk w' b #[.int .u64 ti, .bool ag, .int .u8 ao, .int .u64 asq, .int .u64 atm, .string aru, .slice A4 nl c4, .int .u8 ast, .int .u8 apr, .int .i64 ava, .int .u8 aow, .int .u8 ago, .int .u64 agf, .int .u64 agt] 41 ∧ w'.ownsRow w6.heap.size 137 2 (.slice A4 nl c4) nl (pairCells aps)) rfl rfl (fun v w w' ⟨b, A4, c4, e, h1, h2, hr⟩ hb => ⟨b, A4, c4, e, h1, h2.below hb h2.lt, owns_below hr hb⟩) ?_ ?_
      focus
        intro x w' hw hf; dsimp only
        obtain ⟨A4, c4, e, hrow⟩ := hf _ (.tail _ (.head _)) (by kernel_rfl)
        have hba : Below w'.heap.size w' (w'.alloc (.cells #[.int .u64 ti, .bool ag, .int .u8 ao, .int .u64 asq, .int .u64 atm, .string aru, .slice A4 nl c4, .int .u8 ast, .int .u8 apr, .int .i64 ava, .int .u8 aow, .int .u8 ago, .int .u64 agf, .int .u64 agt] 41)) := (Below.refl _ _).alloc (Nat.le_refl _) _
        have hI := hw.trans (hba.mono hw.size)
        have hsz := hw.size
        go_simp
        exact ⟨A4, c4, Blk.new _ _ _, owns_below hrow hba⟩
      simp only [Act.put, List.setIfInBounds_toArray, List.set_cons_zero, List.set_cons_succ, List.nil_append, List.cons_append]
      refine RelSeq.nil_ fun x w7 hw hf => ?_
      obtain ⟨bq, A4, c4, e9, hb0, hBb, hrow⟩ := hf _ (.tail _ (.tail _ (.head _)))
      have hs6 := U6.size
      have U7 := ((U6.grow hw).moreRow hrow hs6 (fun d hd q hq he => by
        have := U6.lt hd hq
        have := owns_ge hrow q he.symm
        omega)).moreBlk hBb (Nat.le_trans hs6 hb0) (fun d hd hq => by
        rcases List.mem_cons.1 hd with rfl | hd
        · exact owns_ne hrow hBb (by decide) (chRow_fp.1 hq).symm
        · have := U6.lt hd hq
          omega)
      clear hf F hw U6 hBb hrow hr6
      refine TailSeq.cons_ rfl ?_
      refine wp_append_rd (.tmp 17) (.tmp 24) 24 rfl 0 41 i0 _ 14 128 Tryz.underlying24 hi hz0 hz1 hz2 rfl (by decide) (.slice Ao k co) k _ rfl (U7.row 3 rfl) (.slice (some ⟨bq, 0, none⟩) 1 1) 1 _ (by exact e9) (rd_one (U7.blk 0 rfl) (n := 14) rfl) (by intro u hu; simp at hu; rcases hu with rfl | rfl | rfl | rfl | rfl | rfl | rfl | rfl | rfl | rfl | rfl | rfl | rfl | rfl <;> rfl) (by unfold maxLen; omega) (by omega) (Nat.zero_le _) fun v8 w8 hown8 hgr8 hv8 => ?_
      refine ⟨rfl, ?_⟩
      have U8 := (U7.app 3 rfl hown8 hgr8 hv8).pick [2, 4, 0] (by decide)
      simp only [List.filterMap_cons, List.filterMap_nil, List.getElem?_cons_zero, List.getElem?_cons_succ, List.eraseIdx_cons_succ, List.eraseIdx_cons_zero] at U8
      obtain ⟨A8, c8, rfl⟩ := owns_slice hown8
      clear U7 hown8 hgr8 hv8 e9
      simp only [out, Act.put, List.setIfInBounds_toArray, List.set_cons_zero, List.set_cons_succ]
      refine TailSeq.cons_ rfl ?_
      go_simp
      refine TailSeq.nil_ ?_
      have U9 := U8.intoAll
      clear U8
      go_wp2_with fail
      refine ⟨⟨k + 1, es' ++ [(ti, ⟨ag, ao, asq, atm, aru, .slice A4 nl c4, aps, ast, apr, ava, aow, ago, agf, agt⟩)], by omega, by go_num, ?_, by rw [List.length_append, hel]; rfl, ?_⟩, by simp [intOf]; omega⟩
      · rw [HTK.out, List.map_append, List.map_append, hes]
        rfl
      · rw [List.flatMap_append, List.map_append]
        have hnn := HNL.out
        subst hnn
        exact U9.perm (.swap _ _ _)
    · have hkN : k = n := by omega
      subst hkN
      have htk : es.take k = es := by rw [HN.out]; exact List.take_length
      rw [htk] at hes
      go_wp2_with fail
      go_ret
      exact ⟨_, _, es', rfl, hes, by rw [hel]; exact R1⟩

end Go.Proofs.YtdmdfccadjfpiaaGreat
namespace Go.Proofs.YtdmdfccadjfpiaaGreat
open Go.RowKit
set_option maxRecDepth 100000

theorem goodS_snoc : ∀ (rs : List Ln) (s : LSt) (r : Ln), goodS s rs → okS (runS s rs) r → goodS s (rs ++ [r])
  | [], _, _, _, h => ⟨h, trivial⟩
  | _ :: rs, _s, r, h, h2 => ⟨h.1, goodS_snoc rs _ r h.2 h2⟩
theorem putL_lenI {a : ItV} (hc : chkIt a = 0) (hn : a.nb) : (putL a).length ≤ 600 := by
  have hz := chkIt_zero hc
  have l1 := uvar_len64 hn.gf
  have l2 := uvar_len64 hn.gt
  have l3 := uvar_len64 hn.sq
  have l4 := uvar_len64 hn.tm
  have lz : zig a.va < 18446744073709551616 := by have := hn.va; unfold zig; split <;> omega
  have l5 := uvar_len64 lz
  unfold putL
  unfold chkIt at hc
  cases hg : a.gap
  · rw [hg, if_neg Bool.false_ne_true] at hc
    have he := chkE_zero hc
    have l6 := pairsP_len a.ps fun p hp => by have := he.2.2 p hp; omega
    have l7 := textP_len he.1 (by omega)
    have l8 := uvar_len64 (n := a.ps.length) (by omega)
    rw [if_neg Bool.false_ne_true]
    unfold putE
    simp only [List.length_append, List.length_cons, List.length_nil]
    omega
  · rw [if_pos rfl]
    unfold putG
    simp only [List.length_append, List.length_cons, List.length_nil]
    omega
theorem trimA_id {a : ItV} {n : Nat} (h : n < spanF a) : trimA a n = a := by
  unfold trimA
  rw [if_pos h]
theorem layAll_snoc (ls : List (List UInt8)) (l : List UInt8) : layAll (ls ++ [l]) = layAll ls ++ layL l := by
  rw [layAll_append]
  simp [layAll]
/-- The records that a ledger has written that opened once and took n items. -/
structure Kept (rs : List Ln) (n : Nat) : Prop where
  good : goodS s0L rs
  len : rs.length = n + 1
  sz : ∀ r ∈ rs, (lnB r).length ≤ 700
  li : (runS s0L rs).li = 1
  h : ∀ p, (runS s0L rs).h p ≤ 3 * n
  la : (runS s0L rs).la ≤ n
  ne : (runS s0L rs).es.length = n
  nb : ∀ x ∈ (runS s0L rs).es, x.2.nb ∧ x.2.ps.length ≤ 8
theorem Kept.zero : Kept [Ln.life 1] 0 := by
  refine ⟨⟨(by decide : (1 : Nat) ≤ 1099511627776), trivial⟩, rfl, fun r hr => ?_, rfl, fun p => Nat.le_refl _, Nat.le_refl _, rfl, (fun _ h => nomatch h)⟩
  rw [List.mem_singleton.1 hr]
  show ((2 : UInt8) :: uvar 1).length ≤ 700
  rw [uvar_small (by decide)]
  decide
theorem Kept.bytes {rs : List Ln} {n : Nat} (h : Kept rs n) : (layAll (rs.map lnB)).length ≤ 708 * (n + 1) := by
  have := lenR_leL (rs.map lnB) 700 fun r hr => by
    obtain ⟨x, hx, rfl⟩ := List.mem_map.1 hr
    exact h.sz x hx
  rw [List.length_map, h.len] at this
  rw [layAll_len]
  exact this
/-- What the next item does. -/
structure Nxt (rs : List Ln) (n : Nat) (a : ItV) : Prop where
  fit : fitV (runS s0L rs).h (runS s0L rs).la n a = 0
  trim : trimA a ((runS s0L rs).h (spanO a)) = a
  ps : a.ps.length ≤ 8
  rcl : (recL n a).length ≤ 700
  kept : Kept (rs ++ [Ln.ent (n, a)]) (n + 1)
theorem Kept.next {rs : List Ln} {n o : Nat} {a : ItV} (h : Kept rs n) (hn : n ≤ 1000) (ha : NextOk a ((runS s0L rs).h (o % 4)) o) (hb : a.nb) : Nxt rs n a := by
  have hck := ha.chk (by have := h.h (o % 4); omega)
  have hz := chkIt_zero hck
  have hla := h.la
  have hh := h.h (o % 4)
  have h1 : (runS s0L rs).h (spanO a) < spanF a := by rw [ha.org, ha.fr]; omega
  have h2 : (runS s0L rs).h (spanO a) < spanT a := by omega
  have h3 : spanF a ≤ (runS s0L rs).h (spanO a) + 1 := by rw [ha.org, ha.fr]; omega
  have hf : fitV (runS s0L rs).h (runS s0L rs).la n a = 0 := fitV_of hck (by omega) hla h2 h3
  have hto := ha.to
  have hps : a.ps.length ≤ 8 := by
    have hnr := ha.nrm
    have hc := hck
    unfold normI at hnr
    unfold chkIt at hc
    cases hg : a.gap
    · rw [hg, if_neg Bool.false_ne_true] at hc
      exact (chkE_zero hc).2.1
    · rw [hg, if_pos rfl] at hnr
      rw [hnr.2.2.2.2.1]
      exact Nat.zero_le _
  have hrl : (recL n a).length ≤ 700 := by
    have h4 := putL_lenI hck hb
    have h5 := uvar_len64 (n := n) (by omega)
    unfold recL
    simp only [List.length_append, List.length_cons]
    omega
  refine ⟨hf, trimA_id h1, hps, hrl, ⟨goodS_snoc rs s0L _ h.good ⟨hf, h1, ha.nrm, hb.va, hb.st⟩, by rw [List.length_append, h.len]; rfl, fun r hr => ?_, ?_, fun p => ?_, ?_, ?_, fun x hx => ?_⟩⟩
  · rcases List.mem_append.1 hr with hr | hr
    · exact h.sz r hr
    · rw [List.mem_singleton.1 hr]; exact hrl
  · rw [runS_snoc]; exact h.li
  · rw [runS_snoc]
    show (if p = spanO a then spanT a else (runS s0L rs).h p) ≤ _
    have := h.h p
    split <;> omega
  · rw [runS_snoc]; exact Nat.le_succ n
  · rw [runS_snoc]
    show ((runS s0L rs).es ++ [strip (n, a)]).length = _
    rw [List.length_append, h.ne]; rfl
  · rw [runS_snoc] at hx
    rcases List.mem_append.1 (show x ∈ (runS s0L rs).es ++ [strip (n, a)] from hx) with hx | hx
    · exact h.nb x hx
    · rw [List.mem_singleton.1 hx]
      exact ⟨⟨hb.o, hb.sq, hb.tm, hb.ru, hb.pz, hb.st, hb.pr, hb.va, hb.ow, hb.go, hb.gf, hb.gt⟩, hps⟩
/-- The records behind k lives more. -/
structure Lived (rs : List Ln) (es : List (Nat × ItV)) (k : Nat) : Prop where
  good : goodS s0L rs
  len : rs.length ≤ 100 + k
  sz : ∀ r ∈ rs, (lnB r).length ≤ 700
  li : (runS s0L rs).li = k + 1
  es : (runS s0L rs).es = es
theorem Kept.lived {rs : List Ln} {n : Nat} (h : Kept rs n) (hn : n ≤ 40) : Lived rs (runS s0L rs).es 0 := ⟨h.good, by have := h.len; omega, h.sz, h.li, rfl⟩
theorem Lived.snoc {rs : List Ln} {es : List (Nat × ItV)} {k : Nat} (h : Lived rs es k) (hk : k ≤ 100) : Lived (rs ++ [Ln.life ((runS s0L rs).li + 1)]) es (k + 1) := by
  refine ⟨goodS_snoc rs s0L _ h.good (show (runS s0L rs).li + 1 ≤ _ by rw [h.li]; omega), by rw [List.length_append]; have := h.len; show _ + 1 ≤ _; omega, fun r hr => ?_, ?_, ?_⟩
  · rcases List.mem_append.1 hr with hr | hr
    · exact h.sz r hr
    · rw [List.mem_singleton.1 hr]
      show ((2 : UInt8) :: uvar ((runS s0L rs).li + 1)).length ≤ 700
      have := uvar_len64 (n := (runS s0L rs).li + 1) (by rw [h.li]; omega)
      rw [List.length_cons]
      omega
  · rw [runS_snoc]
    show (runS s0L rs).li + 1 = _
    rw [h.li]
  · rw [runS_snoc]; exact h.es
theorem nb_strips {es fs : List (Nat × ItV)} {B : Nat} (h : es.map strip = fs) (hf : ∀ x ∈ fs, x.2.nb ∧ x.2.ps.length ≤ B) : ∀ x ∈ es, x.2.nb ∧ x.2.ps.length ≤ B := by
  intro x hx
  have := hf (strip x) (by rw [← h]; exact List.mem_map.2 ⟨x, hx, rfl⟩)
  exact ⟨⟨this.1.o, this.1.sq, this.1.tm, this.1.ru, this.1.pz, this.1.st, this.1.pr, this.1.va, this.1.ow, this.1.go, this.1.gf, this.1.gt⟩, this.2⟩
theorem labs_rd {w : World} {es : List (Nat × ItV)} (h : ∀ c ∈ es.map labRow, c.P w) : ∀ x ∈ es, Rd w 2 x.2.lv x.2.ps.length (pairCells x.2.ps) := fun x hx =>
  rd_of_owns (show w.ownsRow 0 137 2 x.2.lv x.2.ps.length (pairCells x.2.ps) from h (labRow x) (List.mem_map.2 ⟨x, hx, rfl⟩))
theorem tear_atA : ∀ {ts : List (Nat × Nat)} {k : Nat} {t : Nat × Nat}, ts[k]? = some t → (tearCells ts)[k * 2]? = some (.int .u16 t.1) ∧ (tearCells ts)[k * 2 + 1]? = some (.int .u16 t.2) := by
  intro ts
  induction ts with
  | nil => intro k t h; simp at h
  | cons a r ih =>
    intro k t h
    have e : tearCells (a :: r) = .int .u16 a.1 :: .int .u16 a.2 :: tearCells r := rfl
    cases k with
    | zero => simp only [List.getElem?_cons_zero, Option.some.injEq] at h; subst h; rw [e]; exact ⟨rfl, rfl⟩
    | succ k =>
      rw [List.getElem?_cons_succ] at h
      rw [e, Nat.succ_mul]
      exact ih h
theorem hasJ.some {fs : List FileV} {s : ByteArray} {acc : List UInt8} {k : Nat} (h : hasJ fs s acc k) (hl : 1 ≤ acc.length) : ∃ v, fs = [⟨s, v, acc, k⟩] := by
  rcases h with ⟨_, rfl, _⟩ | h
  · exact absurd hl (by decide)
  · exact h
/-- A table as a part of memory. -/
def chTbA (b : Nat) : Chunk := ⟨[b], fun w => TabOk w b, fun _ _ h hP => hP.locA (h b (.head _)), fun _ hP x hx => by rw [List.mem_singleton.1 hx]; exact hP.ltA⟩
/-- A ledger that is left is its disk and its table. -/
theorem Upd.left {S : List Nat} {w0 w : World} {C : List Chunk} {g j d m b : Nat} {lv : Value} {h : Nat → Nat} {li la : Nat} {es : List (Nat × ItV)} {k : Nat} {fs : List FileV} (hU : Upd S w0 (chL g j d m b lv h li la es k fs :: C) w) : Upd S w0 (chDT d m b fs :: C) w :=
  hU.say (chDT d m b fs) (by
    have h1 := hU.get 0 rfl
    exact (two_open h1 |>.get 1 rfl).2) fun x hx => List.mem_append_right _ (.tail _ hx)
end Go.Proofs.YtdmdfccadjfpiaaGreat
namespace Go.Proofs.YtdmdfccadjfpiaaGreat
open Go.Joins Go.ChangeShapes Go.WideShapes Go.ChangeAt Go.RowKit Go.Deep
set_option maxRecDepth 100000
theorem nSm : Tryz.prog.cellsOf 27 = 11 := by kernel_rfl
theorem nU8s : Tryz.prog.cellsOf 5 = 1 := by kernel_rfl
theorem nU16s : Tryz.prog.cellsOf 25 = 1 := by kernel_rfl
theorem nBoolS : Tryz.prog.cellsOf 4 = 1 := by kernel_rfl
theorem nTear : Tryz.prog.cellsOf 68 = 2 := by kernel_rfl
def tear2 (t : Nat × Nat) : List Value := [.int .u16 t.1, .int .u16 t.2]
section
variable {H : Type} {enc : TypeId × Value → H}
theorem op_sm {W : World} {fuel : Nat} {cs : List Value} {x : DataW H × List MemPlace} (h : DataW.trod enc Tryz.prog W 0 (fun _ => true) true fuel 27 cs = some x) : ∃ a : Sm, cs = sm11 a ∧ a.ok := by
  obtain ⟨hl, n, hg⟩ := op_fields Tryz.underlying27 h
  rw [nSm] at hl
  match cs, hl with
  | [c0, c1, c2, c3, c4, c5, c6, c7, c8, c9, c10], _ =>
    obtain ⟨y0, g0⟩ := hg 0 4 0 rfl
    rw [nBoolS] at g0
    simp only [List.take_succ_cons, List.take_zero, List.drop_zero] at g0
    obtain ⟨b0, e0⟩ := op_bool Tryz.underlying4 g0
    obtain ⟨y1, g1⟩ := hg 1 5 1 rfl
    rw [nU8s] at g1
    simp only [List.drop_succ_cons, List.take_succ_cons, List.take_zero, List.drop_zero] at g1
    obtain ⟨k1, b1, e1⟩ := op_u8 Tryz.underlying5 g1
    obtain ⟨y2, g2⟩ := hg 2 5 2 rfl
    rw [nU8s] at g2
    simp only [List.drop_succ_cons, List.take_succ_cons, List.take_zero, List.drop_zero] at g2
    obtain ⟨k2, b2, e2⟩ := op_u8 Tryz.underlying5 g2
    obtain ⟨y3, g3⟩ := hg 3 5 3 rfl
    rw [nU8s] at g3
    simp only [List.drop_succ_cons, List.take_succ_cons, List.take_zero, List.drop_zero] at g3
    obtain ⟨k3, b3, e3⟩ := op_u8 Tryz.underlying5 g3
    obtain ⟨y4, g4⟩ := hg 4 25 4 rfl
    rw [nU16s] at g4
    simp only [List.drop_succ_cons, List.take_succ_cons, List.take_zero, List.drop_zero] at g4
    obtain ⟨k4, b4, e4⟩ := op_u16 Tryz.underlying25 g4
    obtain ⟨y5, g5⟩ := hg 5 25 5 rfl
    rw [nU16s] at g5
    simp only [List.drop_succ_cons, List.take_succ_cons, List.take_zero, List.drop_zero] at g5
    obtain ⟨k5, b5, e5⟩ := op_u16 Tryz.underlying25 g5
    obtain ⟨y6, g6⟩ := hg 6 25 6 rfl
    rw [nU16s] at g6
    simp only [List.drop_succ_cons, List.take_succ_cons, List.take_zero, List.drop_zero] at g6
    obtain ⟨k6, b6, e6⟩ := op_u16 Tryz.underlying25 g6
    obtain ⟨y7, g7⟩ := hg 7 5 7 rfl
    rw [nU8s] at g7
    simp only [List.drop_succ_cons, List.take_succ_cons, List.take_zero, List.drop_zero] at g7
    obtain ⟨k7, b7, e7⟩ := op_u8 Tryz.underlying5 g7
    obtain ⟨y8, g8⟩ := hg 8 5 8 rfl
    rw [nU8s] at g8
    simp only [List.drop_succ_cons, List.take_succ_cons, List.take_zero, List.drop_zero] at g8
    obtain ⟨k8, b8, e8⟩ := op_u8 Tryz.underlying5 g8
    obtain ⟨y9, g9⟩ := hg 9 5 9 rfl
    rw [nU8s] at g9
    simp only [List.drop_succ_cons, List.take_succ_cons, List.take_zero, List.drop_zero] at g9
    obtain ⟨k9, b9, e9⟩ := op_u8 Tryz.underlying5 g9
    obtain ⟨y10, g10⟩ := hg 10 4 10 rfl
    rw [nBoolS] at g10
    simp only [List.drop_succ_cons, List.take_succ_cons, List.take_zero, List.drop_zero] at g10
    obtain ⟨b10, e10⟩ := op_bool Tryz.underlying4 g10
    clear hg h
    simp only [List.cons.injEq, and_true] at e0 e1 e2 e3 e4 e5 e6 e7 e8 e9 e10
    exact ⟨⟨b0, k1, k2, k3, k4, k5, k6, k7, k8, k9, b10⟩, by simp only [sm11, e0, e1, e2, e3, e4, e5, e6, e7, e8, e9, e10], ⟨b1, b3, b4, b5, b6, b8, b9⟩⟩
theorem op_tearD {W : World} {fuel : Nat} {cs : List Value} {x : DataW H × List MemPlace} (h : DataW.trod enc Tryz.prog W 0 (fun _ => true) true fuel 68 cs = some x) : ∃ a : Nat × Nat, cs = tear2 a ∧ (a.1 < 65536 ∧ a.2 < 65536) := by
  obtain ⟨hl, n, hg⟩ := op_fields Tryz.underlying68 h
  rw [nTear] at hl
  match cs, hl with
  | [c0, c1], _ =>
    obtain ⟨y0, g0⟩ := hg 0 25 0 rfl
    rw [nU16s] at g0
    simp only [List.take_succ_cons, List.take_zero, List.drop_zero] at g0
    obtain ⟨k0, b0, e0⟩ := op_u16 Tryz.underlying25 g0
    obtain ⟨y1, g1⟩ := hg 1 25 1 rfl
    rw [nU16s] at g1
    simp only [List.drop_succ_cons, List.take_succ_cons, List.take_zero, List.drop_zero] at g1
    obtain ⟨k1, b1, e1⟩ := op_u16 Tryz.underlying25 g1
    clear hg h
    simp only [List.cons.injEq, and_true] at e0 e1
    exact ⟨(k0, k1), by simp only [tear2, e0, e1], ⟨b0, b1⟩⟩
theorem open_sms {W : World} {n : Nat} {v : Value} {x : DataW H × List MemPlace} (h : DataW.trod enc Tryz.prog W 0 (fun _ => true) true n 22 [v] = some x) :
    ∃ l : List Sm, Rd W 11 v l.length (l.flatMap sm11) ∧ ∀ a ∈ l, a.ok := by
  obtain ⟨v', l, e, h1, h2⟩ := op_rows sm11 11 (by decide) (fun _ => rfl) Tryz.underlying22 nSm h (fun a => a.ok) (fun _ _ _ h => op_sm h)
  simp only [List.cons.injEq, and_true] at e
  subst e
  exact ⟨l, h1, h2⟩
theorem open_tearsD {W : World} {n : Nat} {v : Value} {x : DataW H × List MemPlace} (h : DataW.trod enc Tryz.prog W 0 (fun _ => true) true n 66 [v] = some x) :
    ∃ l : List (Nat × Nat), Rd W 2 v l.length (tearCells l) ∧ ∀ a ∈ l, a.1 < 65536 ∧ a.2 < 65536 := by
  obtain ⟨v', l, e, h1, h2⟩ := op_rows tear2 2 (by decide) (fun _ => rfl) Tryz.underlying66 nTear h (fun a => a.1 < 65536 ∧ a.2 < 65536) (fun _ _ _ h => op_tearD h)
  simp only [List.cons.injEq, and_true] at e
  subst e
  exact ⟨l, h1, h2⟩
end
end Go.Proofs.YtdmdfccadjfpiaaGreat
namespace Go.Proofs.YtdmdfccadjfpiaaGreat
open Go.RowKit
set_option maxRecDepth 100000
attribute [local go_sem] FreeTw.out

set_option maxHeartbeats 2000000 in
theorem sameGapN (o sq tm : Nat) (ru : ByteArray) (A1 A2 : Option Addr) (n c1 n2 c2 : Nat) (st pr : Nat) (va : Int) (ow go gf gt o2 sq2 tm2 : Nat) (ru2 : ByteArray) (st2 pr2 : Nat) (va2 : Int) (ow2 : Nat) (w : World) : Calls Tryz.prog 31 #[.agg #[.bool true, .int .u8 o, .int .u64 sq, .int .u64 tm, .string ru, .slice A1 n c1, .int .u8 st, .int .u8 pr, .int .i64 va, .int .u8 ow, .int .u8 go, .int .u64 gf, .int .u64 gt], .agg #[.bool true, .int .u8 o2, .int .u64 sq2, .int .u64 tm2, .string ru2, .slice A2 n2 c2, .int .u8 st2, .int .u8 pr2, .int .i64 va2, .int .u8 ow2, .int .u8 go, .int .u64 gf, .int .u64 gt]] w fun e w' => e = .returned (.bool true) ∧ Below w.heap.size w w' := by
  go_enter Tryz.func31, Tryz.ntmps31
  go_wp2_with fail
  go_ret
  exact ⟨rfl, ((Below.refl _ _).alloc (Nat.le_refl _) _).alloc (by simp) _⟩
set_option maxHeartbeats 8000000 in
theorem sameEvtN (o sq tm : Nat) (ru : ByteArray) (A1 A2 : Option Addr) (n c1 c2 : Nat) (ps : List Pr) (st pr : Nat) (va : Int) (ow go gf gt go2 gf2 gt2 : Nat) (w : World) (hn : n = ps.length) (h1 : Rd w 2 (.slice A1 n c1) n (pairCells ps)) (h2 : Rd w 2 (.slice A2 n c2) n (pairCells ps)) (hp : ∀ p ∈ ps, p.1.size ≤ maxLen ∧ p.2.size ≤ maxLen) :
    Calls Tryz.prog 31 #[.agg #[.bool false, .int .u8 o, .int .u64 sq, .int .u64 tm, .string ru, .slice A1 n c1, .int .u8 st, .int .u8 pr, .int .i64 va, .int .u8 ow, .int .u8 go, .int .u64 gf, .int .u64 gt], .agg #[.bool false, .int .u8 o, .int .u64 sq, .int .u64 tm, .string ru, .slice A2 n c2, .int .u8 st, .int .u8 pr, .int .i64 va, .int .u8 ow, .int .u8 go2, .int .u64 gf2, .int .u64 gt2]] w fun e w' => e = .returned (.bool true) ∧ Below w.heap.size w w' := by
  have KS := fun w' (hb : Below w.heap.size w w') => refSamePs A1 A2 n c1 c2 ps w' hn (h1.below hb) (h2.below hb) hp
  clear h1 h2 hn hp
  go_enter Tryz.func31, Tryz.ntmps31
  go_wp2_with fail
  refine wp_gen fun w2 hw2 => ?_
  have U2 := (((Upd.nil [] w).alloc #[.bool false, .int .u8 o, .int .u64 sq, .int .u64 tm, .string ru, .slice A1 n c1, .int .u8 st, .int .u8 pr, .int .i64 va, .int .u8 ow, .int .u8 go, .int .u64 gf, .int .u64 gt] 36).alloc #[.bool false, .int .u8 o, .int .u64 sq, .int .u64 tm, .string ru, .slice A2 n c2, .int .u8 st, .int .u8 pr, .int .i64 va, .int .u8 ow, .int .u8 go2, .int .u64 gf2, .int .u64 gt2] 36).same hw2
  simp only [World.size_alloc] at U2
  clear hw2
  have F : ∀ w', Below w2.heap.size w2 w' → w'.cell? ⟨w.heap.size, 1, none⟩ = some (.int .u8 o) ∧ w'.cell? ⟨w.heap.size, 2, none⟩ = some (.int .u64 sq) ∧ w'.cell? ⟨w.heap.size, 3, none⟩ = some (.int .u64 tm) ∧ w'.cell? ⟨w.heap.size, 4, none⟩ = some (.string ru) ∧ w'.cell? ⟨w.heap.size, 5, none⟩ = some (.slice A1 n c1) ∧ w'.cell? ⟨w.heap.size, 6, none⟩ = some (.int .u8 st) ∧ w'.cell? ⟨w.heap.size, 7, none⟩ = some (.int .u8 pr) ∧ w'.cell? ⟨w.heap.size, 8, none⟩ = some (.int .i64 va) ∧ w'.cell? ⟨w.heap.size, 9, none⟩ = some (.int .u8 ow) ∧ w'.cell? ⟨w.heap.size + 1, 1, none⟩ = some (.int .u8 o) ∧ w'.cell? ⟨w.heap.size + 1, 2, none⟩ = some (.int .u64 sq) ∧ w'.cell? ⟨w.heap.size + 1, 3, none⟩ = some (.int .u64 tm) ∧ w'.cell? ⟨w.heap.size + 1, 4, none⟩ = some (.string ru) ∧ w'.cell? ⟨w.heap.size + 1, 5, none⟩ = some (.slice A2 n c2) ∧ w'.cell? ⟨w.heap.size + 1, 6, none⟩ = some (.int .u8 st) ∧ w'.cell? ⟨w.heap.size + 1, 7, none⟩ = some (.int .u8 pr) ∧ w'.cell? ⟨w.heap.size + 1, 8, none⟩ = some (.int .i64 va) ∧ w'.cell? ⟨w.heap.size + 1, 9, none⟩ = some (.int .u8 ow) := fun w' hw => by
    have q1 := (U2.grow hw).blk 1 rfl
    have q0 := (U2.grow hw).blk 0 rfl
    exact ⟨q1.cell rfl, q1.cell rfl, q1.cell rfl, q1.cell rfl, q1.cell rfl, q1.cell rfl, q1.cell rfl, q1.cell rfl, q1.cell rfl, q0.cell rfl, q0.cell rfl, q0.cell rfl, q0.cell rfl, q0.cell rfl, q0.cell rfl, q0.cell rfl, q0.cell rfl, q0.cell rfl⟩
  refine FreeTw.region_free (fun w' => Below w2.heap.size w2 w') (fun w' => w'.cell? ⟨w.heap.size, 1, none⟩ = some (.int .u8 o) ∧ w'.cell? ⟨w.heap.size, 2, none⟩ = some (.int .u64 sq) ∧ w'.cell? ⟨w.heap.size, 3, none⟩ = some (.int .u64 tm) ∧ w'.cell? ⟨w.heap.size, 4, none⟩ = some (.string ru) ∧ w'.cell? ⟨w.heap.size, 5, none⟩ = some (.slice A1 n c1) ∧ w'.cell? ⟨w.heap.size, 6, none⟩ = some (.int .u8 st) ∧ w'.cell? ⟨w.heap.size, 7, none⟩ = some (.int .u8 pr) ∧ w'.cell? ⟨w.heap.size, 8, none⟩ = some (.int .i64 va) ∧ w'.cell? ⟨w.heap.size, 9, none⟩ = some (.int .u8 ow) ∧ w'.cell? ⟨w.heap.size + 1, 1, none⟩ = some (.int .u8 o) ∧ w'.cell? ⟨w.heap.size + 1, 2, none⟩ = some (.int .u64 sq) ∧ w'.cell? ⟨w.heap.size + 1, 3, none⟩ = some (.int .u64 tm) ∧ w'.cell? ⟨w.heap.size + 1, 4, none⟩ = some (.string ru) ∧ w'.cell? ⟨w.heap.size + 1, 5, none⟩ = some (.slice A2 n c2) ∧ w'.cell? ⟨w.heap.size + 1, 6, none⟩ = some (.int .u8 st) ∧ w'.cell? ⟨w.heap.size + 1, 7, none⟩ = some (.int .u8 pr) ∧ w'.cell? ⟨w.heap.size + 1, 8, none⟩ = some (.int .i64 va) ∧ w'.cell? ⟨w.heap.size + 1, 9, none⟩ = some (.int .u8 ow)) [4, 5, 1000004, 1000005, 2000001, 2000003] [6, 7] [0, 1, 2, 3, 4, 5] (fun w' hw => F w' hw) (by kernel_rfl) (by kernel_rfl) (by kernel_rfl) ((Below.refl _ _).drew) ?_
  repeat (first
    | (refine FreeTw.RelSeq.pure_ (c := ?_) rfl rfl ?_ ?_; rotate_left; (focus (intro x w'; dsimp only; go_simp; (first | ((repeat' apply And.intro) <;> first | with_reducible rfl | assumption) | (split <;> (try (focus (exfalso; omega))); (try go_simp); (repeat' apply And.intro) <;> first | with_reducible rfl | assumption)))); simp only [Act.put, List.setIfInBounds_toArray, List.set_cons_zero, List.set_cons_succ])
    | (refine FreeTw.RelSeq.steady_ (c := ?_) rfl rfl rfl ?_ ?_; rotate_left; (focus (intro x w' hw; dsimp only; obtain ⟨d0, d1, d2, d3, d4, d5, d6, d7, d8, d9, d10, d11, d12, d13, d14, d15, d16, d17⟩ := hw; go_simp; (repeat' apply And.intro) <;> first | with_reducible rfl | assumption)); simp only [Act.put, List.setIfInBounds_toArray, List.set_cons_zero, List.set_cons_succ])
    | (refine FreeTw.RelSeq.grow_ (c := ?_) rfl rfl rfl ?_ ?_; rotate_left; (focus (intro x w' hw _; dsimp only; have hbr := Below.refl w'.heap.size w'; go_simp; (repeat' apply And.intro) <;> first | with_reducible rfl | assumption)); simp only [Act.put, List.setIfInBounds_toArray, List.set_cons_zero, List.set_cons_succ]))
  refine FreeTw.RelSeq.rel_ (NewPt w2.heap.size 0 #[.int .u8 0, .int .u64 0, .int .u64 0, .string ⟨#[]⟩, .slice none 0 0, .int .u8 0, .int .u8 0, .int .i64 0, .int .u8 0] 32) rfl rfl NewPt.stable ?_ ?_
  focus
    intro x w' hw _; dsimp only
    have hba : Below w'.heap.size w' (w'.alloc (.cells #[.int .u8 0, .int .u64 0, .int .u64 0, .string ⟨#[]⟩, .slice none 0 0, .int .u8 0, .int .u8 0, .int .i64 0, .int .u8 0] 32)) := (Below.refl _ _).alloc (Nat.le_refl _) _
    have hI := hw.trans (hba.mono hw.size)
    have hsz := hw.size
    go_simp
    exact ⟨_, rfl, hsz, Blk.new _ _ _⟩
  simp only [Act.put, List.setIfInBounds_toArray, List.set_cons_zero, List.set_cons_succ, List.nil_append]
  refine FreeTw.RelSeq.rel_ (NewPt w2.heap.size 0 #[.int .u8 0, .int .u64 0, .int .u64 0, .string ⟨#[]⟩, .slice none 0 0, .int .u8 0, .int .u8 0, .int .i64 0, .int .u8 0] 32) rfl rfl NewPt.stable ?_ ?_
  focus
    intro x w' hw _; dsimp only
    have hba : Below w'.heap.size w' (w'.alloc (.cells #[.int .u8 0, .int .u64 0, .int .u64 0, .string ⟨#[]⟩, .slice none 0 0, .int .u8 0, .int .u8 0, .int .i64 0, .int .u8 0] 32)) := (Below.refl _ _).alloc (Nat.le_refl _) _
    have hI := hw.trans (hba.mono hw.size)
    have hsz := hw.size
    go_simp
    exact ⟨_, rfl, hsz, Blk.new _ _ _⟩
  simp only [Act.put, List.setIfInBounds_toArray, List.set_cons_zero, List.set_cons_succ, List.nil_append, List.cons_append]
  refine FreeTw.RelSeq.nil_ fun x w3 hw hf hap => ?_
  obtain ⟨b5, e5, hb5, hB5⟩ := hf _ (.head _)
  obtain ⟨b6, e6, hb6, hB6⟩ := hf _ (.tail _ (.head _))
  have hne : b5 ≠ b6 := by
    have h := hap 4 5 (by decide) (by rfl) (by rfl) (by simp) (by simp)
    rw [e5, e6] at h
    intro e
    subst e
    exact h _ _ rfl rfl rfl
  have hne2 : b6 ≠ b5 := fun h => hne h.symm
  have hs2 := U2.below.size
  have hl0 : w.heap.size + 1 < w2.heap.size := U2.lt (List.mem_cons_self) (chBlk_fp.2 rfl)
  have n1 : b5 ≠ w.heap.size := by omega
  have n2 : b5 ≠ w.heap.size + 1 := by omega
  have n3 : b6 ≠ w.heap.size := by omega
  have n4 : b6 ≠ w.heap.size + 1 := by omega
  have n5 : w.heap.size ≠ b5 := by omega
  have n6 : w.heap.size + 1 ≠ b5 := by omega
  have n7 : w.heap.size ≠ b6 := by omega
  have n8 : w.heap.size + 1 ≠ b6 := by omega
  obtain ⟨d0, d1, d2, d3, d4, d5, d6, d7, d8, d9, d10, d11, d12, d13, d14, d15, d16, d17⟩ := F w3 hw
  have U3 := ((U2.grow hw).moreBlk hB5 (by omega) (fun d hd hg => by have := U2.lt hd hg; omega)).moreBlk hB6 (by omega) (fun d hd hg => by
    rcases List.mem_cons.1 hd with rfl | hd
    · exact hne2 (chBlk_fp.1 hg)
    · have := U2.lt hd hg
      omega)
  clear F hw hf hap U2 hB5 hB6 hb5 hb6 hs2 hl0
  have p0 := (U3.blk 1 rfl).cell (j := 0) (v := .int .u8 0) rfl
  have p1 := (U3.blk 1 rfl).cell (j := 1) (v := .int .u64 0) rfl
  have p2 := (U3.blk 1 rfl).cell (j := 2) (v := .int .u64 0) rfl
  have p3 := (U3.blk 1 rfl).cell (j := 3) (v := .string ⟨#[]⟩) rfl
  have p4 := (U3.blk 1 rfl).cell (j := 4) (v := .slice none 0 0) rfl
  have p5 := (U3.blk 1 rfl).cell (j := 5) (v := .int .u8 0) rfl
  have p6 := (U3.blk 1 rfl).cell (j := 6) (v := .int .u8 0) rfl
  have p7 := (U3.blk 1 rfl).cell (j := 7) (v := .int .i64 0) rfl
  have p8 := (U3.blk 1 rfl).cell (j := 8) (v := .int .u8 0) rfl
  have pf := (U3.blk 1 rfl).frozen
  have q0 := (U3.blk 0 rfl).cell (j := 0) (v := .int .u8 0) rfl
  have q1 := (U3.blk 0 rfl).cell (j := 1) (v := .int .u64 0) rfl
  have q2 := (U3.blk 0 rfl).cell (j := 2) (v := .int .u64 0) rfl
  have q3 := (U3.blk 0 rfl).cell (j := 3) (v := .string ⟨#[]⟩) rfl
  have q4 := (U3.blk 0 rfl).cell (j := 4) (v := .slice none 0 0) rfl
  have q5 := (U3.blk 0 rfl).cell (j := 5) (v := .int .u8 0) rfl
  have q6 := (U3.blk 0 rfl).cell (j := 6) (v := .int .u8 0) rfl
  have q7 := (U3.blk 0 rfl).cell (j := 7) (v := .int .i64 0) rfl
  have q8 := (U3.blk 0 rfl).cell (j := 8) (v := .int .u8 0) rfl
  have qf := (U3.blk 0 rfl).frozen
  refine FreeTw.TailSeq.cons_ rfl ?_
  go_simp
  refine FreeTw.TailSeq.cons_ rfl ?_
  go_simp
  refine FreeTw.TailSeq.nil_gen fun w4 hw4 => ?_
  have U4 := (((((((((((((((((((U3.put 1 rfl 0 (.int .u8 o)).put 0 rfl 1 (.int .u64 sq)).put 0 rfl 2 (.int .u64 tm)).put 0 rfl 3 (.string ru)).put 0 rfl 4 (.slice A1 n c1)).put 0 rfl 5 (.int .u8 st)).put 0 rfl 6 (.int .u8 pr)).put 0 rfl 7 (.int .i64 va)).put 0 rfl 8 (.int .u8 ow)).put 1 rfl 0 (.int .u8 o)).put 0 rfl 1 (.int .u64 sq)).put 0 rfl 2 (.int .u64 tm)).put 0 rfl 3 (.string ru)).put 0 rfl 4 (.slice A2 n c2)).put 0 rfl 5 (.int .u8 st)).put 0 rfl 6 (.int .u8 pr)).put 0 rfl 7 (.int .i64 va)).put 0 rfl 8 (.int .u8 ow))).same hw4
  simp only [List.eraseIdx_cons_succ, List.eraseIdx_cons_zero, List.setIfInBounds_toArray, List.set_cons_succ, List.set_cons_zero] at U4
  clear hw4 U3 p0 p1 p2 p3 p4 p5 p6 p7 p8 pf q0 q1 q2 q3 q4 q5 q6 q7 q8 qf e5 e6 n1 n2 n3 n4 n5 n6 n7 n8 d0 d1 d2 d3 d4 d5 d6 d7 d8 d9 d10 d11 d12 d13 d14 d15 d16 d17
  have p0 := (U4.blk 1 rfl).cell (j := 0) (v := .int .u8 o) rfl
  have p1 := (U4.blk 1 rfl).cell (j := 1) (v := .int .u64 sq) rfl
  have p2 := (U4.blk 1 rfl).cell (j := 2) (v := .int .u64 tm) rfl
  have p3 := (U4.blk 1 rfl).cell (j := 3) (v := .string ru) rfl
  have p4 := (U4.blk 1 rfl).cell (j := 4) (v := .slice A1 n c1) rfl
  have p5 := (U4.blk 1 rfl).cell (j := 5) (v := .int .u8 st) rfl
  have p6 := (U4.blk 1 rfl).cell (j := 6) (v := .int .u8 pr) rfl
  have p7 := (U4.blk 1 rfl).cell (j := 7) (v := .int .i64 va) rfl
  have p8 := (U4.blk 1 rfl).cell (j := 8) (v := .int .u8 ow) rfl
  have q0 := (U4.blk 0 rfl).cell (j := 0) (v := .int .u8 o) rfl
  have q1 := (U4.blk 0 rfl).cell (j := 1) (v := .int .u64 sq) rfl
  have q2 := (U4.blk 0 rfl).cell (j := 2) (v := .int .u64 tm) rfl
  have q3 := (U4.blk 0 rfl).cell (j := 3) (v := .string ru) rfl
  have q4 := (U4.blk 0 rfl).cell (j := 4) (v := .slice A2 n c2) rfl
  have q5 := (U4.blk 0 rfl).cell (j := 5) (v := .int .u8 st) rfl
  have q6 := (U4.blk 0 rfl).cell (j := 6) (v := .int .u8 pr) rfl
  have q7 := (U4.blk 0 rfl).cell (j := 7) (v := .int .i64 va) rfl
  have q8 := (U4.blk 0 rfl).cell (j := 8) (v := .int .u8 ow) rfl
  go_wp2_with fail
  (with_reducible refine (KS w4 U4.below).mono ?_)
  rintro e w5 ⟨rfl, hb5⟩
  have HU := Lib.hid (U4.grow hb5).below
  clear KS U4 hb5 p0 p1 p2 p3 p4 p5 p6 p7 p8 q0 q1 q2 q3 q4 q5 q6 q7 q8
  go_wp2_with fail
  go_ret
  exact ⟨rfl, HU.out⟩

/-- An item with its own half alone. -/
def nrmI (a : ItV) : ItV := if a.gap then ⟨true, 0, 0, 0, ⟨#[]⟩, a.lv, [], 0, 0, 0, 0, a.go, a.gf, a.gt⟩ else { a with go := 0, gf := 0, gt := 0 }
def nrmS (x : Nat × ItV) : Nat × ItV := strip (x.1, nrmI x.2)
theorem nrmI_gap (a : ItV) : (nrmI a).gap = a.gap := by
  unfold nrmI
  split
  · next h => exact h.symm
  · rfl
theorem sameItemN (a b : ItV) (w : World) (ha : a.ok w) (h2 : Rd w 2 b.lv b.ps.length (pairCells b.ps)) (hab : nrmS (0, a) = nrmS (0, b)) : Calls Tryz.prog 31 #[itV a, itV b] w fun e w' => e = .returned (.bool true) ∧ Below w.heap.size w w' := by
  have h1 := ha.rd
  obtain ⟨A1, c1, hl1, _⟩ := ha.rd
  have h2' := h2
  obtain ⟨A2, c2, hl2, _⟩ := h2
  obtain ⟨gap, o, sq, tm, ru, lv, ps, st, pr, va, ow, go, gf, gt⟩ := a
  obtain ⟨gap2, o2, sq2, tm2, ru2, lv2, ps2, st2, pr2, va2, ow2, go2, gf2, gt2⟩ := b
  simp only at hl1 hl2 h1 h2'
  subst hl1 hl2
  have hg : gap = gap2 := by
    have := congrArg (fun x => x.2.gap) hab
    exact (nrmI_gap _).symm.trans (this.trans (nrmI_gap _))
  subst hg
  cases gap
  · simp only [nrmS, nrmI, strip, Bool.false_eq_true, if_false, Prod.mk.injEq, ItV.mk.injEq, true_and, and_true] at hab
    obtain ⟨rfl, rfl, rfl, rfl, rfl, rfl, rfl, rfl, rfl⟩ := hab
    exact sameEvtN o sq tm ru A1 A2 ps.length c1 c2 ps st pr va ow go gf gt go2 gf2 gt2 w rfl h1 h2' ha.pz
  · simp only [nrmS, nrmI, strip, if_true, Prod.mk.injEq, ItV.mk.injEq, true_and] at hab
    obtain ⟨rfl, rfl, rfl⟩ := hab
    exact sameGapN o sq tm ru A1 A2 ps.length c1 ps2.length c2 st pr va ow go gf gt o2 sq2 tm2 ru2 st2 pr2 va2 ow2 w
end Go.Proofs.YtdmdfccadjfpiaaGreat
namespace Go.Proofs.YtdmdfccadjfpiaaGreat
open Go.RowKit FreeOrd
set_option maxRecDepth 100000
attribute [local go_sem] out

set_option maxHeartbeats 8000000 in
theorem lSameN (A1 A2 : Option Addr) (n c1 c2 : Nat) (es1 es2 : List (Nat × ItV)) (w : World) (hn1 : n = es1.length) (hst : es1.map nrmS = es2.map nrmS) (h1 : Rd w 14 (.slice A1 n c1) n (es1.flatMap en14)) (h2 : Rd w 14 (.slice A2 n c2) n (es2.flatMap en14)) (hok : ∀ x ∈ es1, x.2.ok w) (hr2 : ∀ x ∈ es2, Rd w 2 x.2.lv x.2.ps.length (pairCells x.2.ps)) (hn : n ≤ 1000000) :
    Calls Tryz.prog 28 #[.slice A1 n c1, .slice A2 n c2] w fun e w' => e = .returned (.bool true) ∧ Below w.heap.size w w' := by
  have hn2 : n = es2.length := by
    have := congrArg List.length hst
    simp only [List.length_map] at this
    omega
  obtain ⟨_, _, he, h11, h12, h13, h14⟩ := h1
  injection he with he1 he2 he3
  subst he1 he3
  obtain ⟨_, _, he, h21, h22, h23, h24⟩ := h2
  injection he with he1 he2 he3
  subst he1 he3
  unfold maxLen at h13 h23
  have HN1 := Lib.hid hn1
  have HN2 := Lib.hid hn2
  have HST := Lib.hid hst
  have HOK := Lib.hid hok
  have HR2 := Lib.hid hr2
  clear hn1 hn2 hst hok hr2 he2
  go_enter Tryz.func28, Tryz.ntmps28
  go_wp2_with fail
  go_loopw [13] (fun i wr => ∃ k, k ≤ n ∧ i = .int .i64 k ∧ Upd [] w [] wr) (fun i _ => n - (intOf i).toNat)
  case atStart => exact ⟨0, Nat.zero_le _, rfl, Upd.nil [] w⟩
  case round =>
    obtain ⟨k, hk, rfl, R1⟩ := hrel
    by_cases hkn : k < n
    · obtain ⟨x, hx⟩ : ∃ x, es1[k]? = some x := ⟨_, List.getElem?_eq_getElem (by rw [← HN1.out]; exact hkn)⟩
      obtain ⟨y, hy⟩ : ∃ y, es2[k]? = some y := ⟨_, List.getElem?_eq_getElem (by rw [← HN2.out]; exact hkn)⟩
      have hxy : nrmS x = nrmS y := by
        have := congrArg (·[k]?) HST.out
        simp only [List.getElem?_map, hx, hy, Option.map_some] at this
        exact Option.some.inj this
      obtain ⟨b1, o1, rfl, hat1⟩ := h14 (by omega)
      obtain ⟨b2, o2, rfl, hat2⟩ := h24 (by omega)
      have e1 := fun j hj => flat_at en14 14 (fun _ => rfl) es1 k x hx j hj
      have e2 := fun j hj => flat_at en14 14 (fun _ => rfl) es2 k y hy j hj
      have hxo := HOK.out x (List.mem_of_getElem? hx)
      have hyr := HR2.out y (List.mem_of_getElem? hy)
      have hb5 := R1.below
      obtain ⟨ti, ag, ao, asq, atm, aru, alv, aps, ast, apr, ava, aow, ago, agf, agt⟩ := x
      obtain ⟨ti', bg, bo, bsq, btm, bru, blv, bps, bst, bpr, bva, bow, bgo, bgf, bgt⟩ := y
      have hti : ti = ti' := congrArg Prod.fst hxy
      subst hti
      have hxy0 : nrmS (0, (⟨ag, ao, asq, atm, aru, alv, aps, ast, apr, ava, aow, ago, agf, agt⟩ : ItV)) = nrmS (0, ⟨bg, bo, bsq, btm, bru, blv, bps, bst, bpr, bva, bow, bgo, bgf, bgt⟩) := congrArg (fun x : Nat × ItV => ((0, x.2) : Nat × ItV)) hxy
      clear hxy
      obtain ⟨B1, d1, hB1, _⟩ := hxo.rd
      have hyr' := hyr
      obtain ⟨B2, d2, hB2, _⟩ := hyr'
      simp only at hB1 hB2 hyr
      subst hB1 hB2
      have KS : ∀ w', Below wr.heap.size wr w' → Calls Tryz.prog 31 #[.agg #[.bool ag, .int .u8 ao, .int .u64 asq, .int .u64 atm, .string aru, .slice B1 aps.length d1, .int .u8 ast, .int .u8 apr, .int .i64 ava, .int .u8 aow, .int .u8 ago, .int .u64 agf, .int .u64 agt], .agg #[.bool bg, .int .u8 bo, .int .u64 bsq, .int .u64 btm, .string bru, .slice B2 bps.length d2, .int .u8 bst, .int .u8 bpr, .int .i64 bva, .int .u8 bow, .int .u8 bgo, .int .u64 bgf, .int .u64 bgt]] w' fun e w'' => e = .returned (.bool true) ∧ Below w'.heap.size w' w'' := fun w' h =>
        sameItemN ⟨ag, ao, asq, atm, aru, .slice B1 aps.length d1, aps, ast, apr, ava, aow, ago, agf, agt⟩ ⟨bg, bo, bsq, btm, bru, .slice B2 bps.length d2, bps, bst, bpr, bva, bow, bgo, bgf, bgt⟩ w' (hxo.below (hb5.trans (h.mono hb5.size))) (hyr.below (hb5.trans (h.mono hb5.size))) hxy0
      have F : ∀ w', Below wr.heap.size wr w' → w'.cell? ⟨b1, o1 + k * 14, none⟩ = some (.int .u64 ti) ∧ w'.cell? ⟨b1, o1 + k * 14 + 1, none⟩ = some (.bool ag) ∧ w'.cell? ⟨b1, o1 + k * 14 + 2, none⟩ = some (.int .u8 ao) ∧ w'.cell? ⟨b1, o1 + k * 14 + 3, none⟩ = some (.int .u64 asq) ∧ w'.cell? ⟨b1, o1 + k * 14 + 4, none⟩ = some (.int .u64 atm) ∧ w'.cell? ⟨b1, o1 + k * 14 + 5, none⟩ = some (.string aru) ∧ w'.cell? ⟨b1, o1 + k * 14 + 6, none⟩ = some (.slice B1 aps.length d1) ∧ w'.cell? ⟨b1, o1 + k * 14 + 7, none⟩ = some (.int .u8 ast) ∧ w'.cell? ⟨b1, o1 + k * 14 + 8, none⟩ = some (.int .u8 apr) ∧ w'.cell? ⟨b1, o1 + k * 14 + 9, none⟩ = some (.int .i64 ava) ∧ w'.cell? ⟨b1, o1 + k * 14 + 10, none⟩ = some (.int .u8 aow) ∧ w'.cell? ⟨b1, o1 + k * 14 + 11, none⟩ = some (.int .u8 ago) ∧ w'.cell? ⟨b1, o1 + k * 14 + 12, none⟩ = some (.int .u64 agf) ∧ w'.cell? ⟨b1, o1 + k * 14 + 13, none⟩ = some (.int .u64 agt) ∧ w'.cell? ⟨b2, o2 + k * 14, none⟩ = some (.int .u64 ti) ∧ w'.cell? ⟨b2, o2 + k * 14 + 1, none⟩ = some (.bool bg) ∧ w'.cell? ⟨b2, o2 + k * 14 + 2, none⟩ = some (.int .u8 bo) ∧ w'.cell? ⟨b2, o2 + k * 14 + 3, none⟩ = some (.int .u64 bsq) ∧ w'.cell? ⟨b2, o2 + k * 14 + 4, none⟩ = some (.int .u64 btm) ∧ w'.cell? ⟨b2, o2 + k * 14 + 5, none⟩ = some (.string bru) ∧ w'.cell? ⟨b2, o2 + k * 14 + 6, none⟩ = some (.slice B2 bps.length d2) ∧ w'.cell? ⟨b2, o2 + k * 14 + 7, none⟩ = some (.int .u8 bst) ∧ w'.cell? ⟨b2, o2 + k * 14 + 8, none⟩ = some (.int .u8 bpr) ∧ w'.cell? ⟨b2, o2 + k * 14 + 9, none⟩ = some (.int .i64 bva) ∧ w'.cell? ⟨b2, o2 + k * 14 + 10, none⟩ = some (.int .u8 bow) ∧ w'.cell? ⟨b2, o2 + k * 14 + 11, none⟩ = some (.int .u8 bgo) ∧ w'.cell? ⟨b2, o2 + k * 14 + 12, none⟩ = some (.int .u64 bgf) ∧ w'.cell? ⟨b2, o2 + k * 14 + 13, none⟩ = some (.int .u64 bgt) := fun w' h => by
        have hq := hb5.trans (h.mono hb5.size)
        exact ⟨hat1.nth0 hq (k * 14) _ (e1 0 (by omega)), hat1.nth hq (k * 14) 1 _ (e1 1 (by omega)), hat1.nth hq (k * 14) 2 _ (e1 2 (by omega)), hat1.nth hq (k * 14) 3 _ (e1 3 (by omega)), hat1.nth hq (k * 14) 4 _ (e1 4 (by omega)), hat1.nth hq (k * 14) 5 _ (e1 5 (by omega)), hat1.nth hq (k * 14) 6 _ (e1 6 (by omega)), hat1.nth hq (k * 14) 7 _ (e1 7 (by omega)), hat1.nth hq (k * 14) 8 _ (e1 8 (by omega)), hat1.nth hq (k * 14) 9 _ (e1 9 (by omega)), hat1.nth hq (k * 14) 10 _ (e1 10 (by omega)), hat1.nth hq (k * 14) 11 _ (e1 11 (by omega)), hat1.nth hq (k * 14) 12 _ (e1 12 (by omega)), hat1.nth hq (k * 14) 13 _ (e1 13 (by omega)), hat2.nth0 hq (k * 14) _ (e2 0 (by omega)), hat2.nth hq (k * 14) 1 _ (e2 1 (by omega)), hat2.nth hq (k * 14) 2 _ (e2 2 (by omega)), hat2.nth hq (k * 14) 3 _ (e2 3 (by omega)), hat2.nth hq (k * 14) 4 _ (e2 4 (by omega)), hat2.nth hq (k * 14) 5 _ (e2 5 (by omega)), hat2.nth hq (k * 14) 6 _ (e2 6 (by omega)), hat2.nth hq (k * 14) 7 _ (e2 7 (by omega)), hat2.nth hq (k * 14) 8 _ (e2 8 (by omega)), hat2.nth hq (k * 14) 9 _ (e2 9 (by omega)), hat2.nth hq (k * 14) 10 _ (e2 10 (by omega)), hat2.nth hq (k * 14) 11 _ (e2 11 (by omega)), hat2.nth hq (k * 14) 12 _ (e2 12 (by omega)), hat2.nth hq (k * 14) 13 _ (e2 13 (by omega))⟩
      obtain ⟨nl, hnl⟩ : ∃ nl, nl = aps.length := ⟨_, rfl⟩
      obtain ⟨nl2, hnl2⟩ : ∃ nl, nl = bps.length := ⟨_, rfl⟩
      rw [← hnl, ← hnl2] at KS F
      clear hx hy e1 e2 hat1 hat2 hxo hyr hnl hnl2 hxy0
      go_wp2_with fail
      refine region_free (fun w' => Below wr.heap.size wr w') [] [] (List.range 25) (by kernel_rfl) (by kernel_rfl) (by kernel_rfl) (Below.refl _ _).drew ?_
      simp only [List.range, List.range.loop]
      repeat (first
        | (refine RelSeq.pure_ (c := ?_) rfl rfl ?_ ?_; rotate_left; (focus (intro x w'; dsimp only; go_simp; (repeat' apply And.intro) <;> first | with_reducible rfl | assumption)); simp only [Act.put, List.setIfInBounds_toArray, List.set_cons_zero, List.set_cons_succ])
        | (refine RelSeq.skip_ rfl (fun _ => rfl) ?_; simp only [Act.put, List.setIfInBounds_toArray, List.set_cons_zero, List.set_cons_succ])
        | (refine RelSeq.pureG_ (c := ?_) rfl (fun _ => rfl) rfl ?_ ?_; rotate_left; (focus (intro x w'; dsimp only; go_simp; (repeat' apply And.intro) <;> first | with_reducible rfl | assumption)); simp only [Act.put, List.setIfInBounds_toArray, List.set_cons_zero, List.set_cons_succ])
        | (refine RelSeq.grow_ (c := ?_) rfl rfl ?_ ?_; rotate_left; (focus (intro x w' hw _; dsimp only; obtain ⟨c0, c1, c2, c3, c4, c5, c6, c7, c8, c9, c10, c11, c12, c13, c14, c15, c16, c17, c18, c19, c20, c21, c22, c23, c24, c25, c26, c27⟩ := F w' hw; have hbr := Below.refl w'.heap.size w'; go_simp; (repeat' apply And.intro) <;> first | with_reducible rfl | assumption)); simp only [Act.put, List.setIfInBounds_toArray, List.set_cons_zero, List.set_cons_succ])
        | (refine RelSeq.growG_ (c := ?_) rfl (fun _ => rfl) rfl ?_ ?_; rotate_left; (focus (intro x w' hw _; dsimp only; obtain ⟨c0, c1, c2, c3, c4, c5, c6, c7, c8, c9, c10, c11, c12, c13, c14, c15, c16, c17, c18, c19, c20, c21, c22, c23, c24, c25, c26, c27⟩ := F w' hw; have hbr := Below.refl w'.heap.size w'; go_simp; (repeat' apply And.intro) <;> first | with_reducible rfl | assumption)); simp only [Act.put, List.setIfInBounds_toArray, List.set_cons_zero, List.set_cons_succ])
        | (refine RelSeq.growG_ (c := ?_) rfl (fun _ => rfl) rfl ?_ ?_; rotate_left; (focus (intro x w' hw _; dsimp only; have hbr := Below.refl w'.heap.size w'; go_simp; (with_reducible refine (KS w' hw).mono ?_); rintro e w1 ⟨rfl, hb1⟩; have hI1 := hw.trans (hb1.mono hw.size); go_simp; (repeat' apply And.intro) <;> first | with_reducible rfl | assumption)); simp only [Act.put, List.setIfInBounds_toArray, List.set_cons_zero, List.set_cons_succ]))
      refine RelSeq.nil_ fun x w6 hw6 hf => ?_
      have R2 := R1.grow hw6
      clear R1 F KS hf hw6
      refine TailSeq.nil_ ?_
      go_wp2_with fail
      exact ⟨⟨k + 1, by omega, by go_num, R2⟩, by simp [intOf]; omega⟩
    · have hkN : k = n := by omega
      subst hkN
      go_wp2_with fail
      go_ret
      exact ⟨rfl, R1.below⟩
end Go.Proofs.YtdmdfccadjfpiaaGreat
namespace Go.Proofs.YtdmdfccadjfpiaaGreat
set_option maxRecDepth 100000

/-- A whole header, too few bytes behind it. -/
theorem takeL_few (n : Nat) (hn : n < 4294967296) (l : List UInt8) (h4 : l.take 4 = four n) (hl : l.length < n + 8) : takeL l = none := by
  rcases Nat.lt_or_ge l.length 8 with h | h
  · exact takeL_short h
  · obtain ⟨x0, x1, x2, x3, x4, x5, x6, x7, r, rfl⟩ := take8 l h
    simp only [List.take, four, List.cons.injEq, and_true] at h4
    obtain ⟨rfl, rfl, rfl, rfl⟩ := h4
    simp only [List.length_cons] at hl
    simp only [takeL]
    rw [unfour_of n hn, if_pos (by omega)]
theorem layL_take4 (r : List UInt8) : (layL r).take 4 = four r.length := by
  unfold layL
  rw [List.append_assoc]
  exact List.take_left' (four_len _)
theorem layAll_cons (r : List UInt8) (t : List (List UInt8)) : layAll (r :: t) = layL r ++ layAll t := by simp [layAll]
theorem lenR_cons (r : List UInt8) (t : List (List UInt8)) : lenR (r :: t) = (layL r).length + lenR t := by rw [← layAll_len, ← layAll_len, layAll_cons, List.length_append]
theorem zero_of_lenR {r : List UInt8} {t : List (List UInt8)} {s k : Nat} (h : lenR ((r :: t).take s) < k) (hk : k ≤ (layL r).length) : s = 0 := by
  cases s with
  | zero => rfl
  | succ s =>
    rw [List.take_succ_cons, lenR_cons] at h
    omega
theorem scan_take : ∀ (rs : List (List UInt8)), (∀ r ∈ rs, r.length ≤ 524288) → ∀ k, k ≤ lenR rs → ∃ g, g ≤ rs.length ∧ scanL ((layAll rs).take k) = rs.take g ∧ ∀ s, s ≤ rs.length → lenR (rs.take s) ≤ k → s ≤ g := by
  intro rs
  induction rs with
  | nil => exact fun _ k _ => ⟨0, Nat.le_refl _, by rw [show layAll [] = [] from rfl, List.take_nil, scanL_none (takeL_short (by decide))]; rfl, fun s hs _ => hs⟩
  | cons r t ih =>
    intro h k hk
    have hr := h r (.head _)
    rw [lenR_cons] at hk
    rw [layAll_cons]
    by_cases hlt : k < (layL r).length
    · refine ⟨0, Nat.zero_le _, ?_, fun s _ hs => Nat.le_of_eq (zero_of_lenR (k := k + 1) (Nat.lt_succ_of_le hs) (by omega))⟩
      rw [List.take_append_of_le_length (by omega), List.take_zero]
      refine scanL_none ?_
      rw [layL_len] at hlt
      rcases Nat.lt_or_ge k 8 with h8 | h8
      · exact takeL_short (by rw [List.length_take]; omega)
      · exact takeL_few r.length (by omega) _ (by rw [List.take_take, show min 4 k = 4 by omega, layL_take4]) (by rw [List.length_take, layL_len]; omega)
    · obtain ⟨k', rfl⟩ : ∃ k', k = (layL r).length + k' := ⟨k - (layL r).length, by omega⟩
      obtain ⟨g, hg, h1, h2⟩ := ih (fun x hx => h x (.tail _ hx)) k' (by omega)
      refine ⟨g + 1, by simp; exact hg, ?_, fun s hs hl => ?_⟩
      · rw [List.take_length_add_append, scanL_lay r _ hr, h1, List.take_succ_cons]
      · cases s with
        | zero => exact Nat.zero_le _
        | succ s =>
          rw [List.take_succ_cons, lenR_cons] at hl
          have := h2 s (by simpa using hs) (by omega)
          omega
theorem scan_torn : ∀ (rs : List (List UInt8)), (∀ r ∈ rs, r.length ≤ 524288) → ∀ k x e, k ≤ lenR rs → 0 < k → (layAll rs)[k - 1]? = some x → x ≠ e →
    ∃ g, g ≤ rs.length ∧ scanL (((layAll rs).take k).set (k - 1) e) = rs.take g ∧ ∀ s, s ≤ rs.length → lenR (rs.take s) < k → s ≤ g := by
  intro rs
  induction rs with
  | nil => intro _ k x e hk h0 hx _; simp [layAll] at hx
  | cons r t ih =>
    intro h k x e hk h0 hx hne
    have hr := h r (.head _)
    rw [lenR_cons] at hk
    rw [layAll_cons] at hx ⊢
    by_cases hle : k ≤ (layL r).length
    · refine ⟨0, Nat.zero_le _, ?_, fun s _ hs => Nat.le_of_eq (zero_of_lenR hs hle)⟩
      rw [List.take_append_of_le_length hle, List.take_zero]
      rw [List.getElem?_append_left (by omega)] at hx
      refine scanL_none ?_
      by_cases heq : k = (layL r).length
      · have hl8 := layL_len r
        have := takeL_bad r [] hr (k - 1) x e (by omega) hx hne
        rw [List.append_nil] at this
        rw [heq, List.take_length, ← heq]
        exact this
      · rcases Nat.lt_or_ge k 8 with h8 | h8
        · exact takeL_short (by rw [List.length_set, List.length_take]; omega)
        · have hl8 := layL_len r
          exact takeL_few r.length (by omega) _ (by rw [List.take_set_of_le (by omega), List.take_take, show min 4 k = 4 by omega, layL_take4]) (by rw [List.length_set, List.length_take]; omega)
    · obtain ⟨k', rfl⟩ : ∃ k', k = (layL r).length + k' := ⟨k - (layL r).length, by omega⟩
      have hk0 : 0 < k' := by omega
      have e1 : (layL r).length + k' - 1 - (layL r).length = k' - 1 := by omega
      rw [List.getElem?_append_right (by omega), e1] at hx
      obtain ⟨g, hg, h1, h2⟩ := ih (fun x hx => h x (.tail _ hx)) k' x e (by omega) hk0 hx hne
      refine ⟨g + 1, by simp; exact hg, ?_, fun s hs hl => ?_⟩
      · rw [List.take_length_add_append, set_right _ _ _ _ (by omega), e1, scanL_lay r _ hr, h1, List.take_succ_cons]
      · cases s with
        | zero => exact Nat.zero_le _
        | succ s =>
          rw [List.take_succ_cons, lenR_cons] at hl
          have := h2 s (by simpa using hs) (by omega)
          omega
theorem lenR_take_le (rs : List (List UInt8)) (n : Nat) : lenR (rs.take n) ≤ lenR rs := by
  have : lenR rs = lenR (rs.take n ++ rs.drop n) := by rw [List.take_append_drop]
  rw [this, lenR_append]
  omega
/-- Behind a crash: all records that were synced, and so many of those behind. -/
theorem scan_crash (rs : List (List UInt8)) (h : ∀ r ∈ rs, r.length ≤ 524288) (n : Nat) (hn : n ≤ rs.length) (keep bit : Nat) :
    ∃ g, n ≤ g ∧ g ≤ rs.length ∧ scanL (tornB (layAll rs) (lenR (rs.take n)) keep bit) = rs.take g := by
  have hle := lenR_take_le rs n
  have hlen := layAll_len rs
  obtain ⟨K, hK⟩ : ∃ K, K = min keep ((layAll rs).length - lenR (rs.take n)) := ⟨_, rfl⟩
  unfold tornB
  rw [← hK]
  split
  · rename_i hc
    obtain ⟨x, hx⟩ : ∃ x, (layAll rs)[lenR (rs.take n) + K - 1]? = some x := ⟨_, List.getElem?_eq_getElem (by omega)⟩
    have hp : 2 ^ bit < 256 := by
      calc 2 ^ bit ≤ 2 ^ 7 := Nat.pow_le_pow_right (by decide) (by omega)
        _ < 256 := by decide
    have hp0 : 0 < 2 ^ bit := Nat.pow_pos (by decide)
    have hne : x ≠ UInt8.ofNat (x.toNat ^^^ 2 ^ bit) := by
      intro he
      have h2 := congrArg UInt8.toNat he
      have hx8 := x.toNat_lt
      rw [UInt8.toNat_ofNat', Nat.mod_eq_of_lt (Nat.xor_lt_two_pow (n := 8) (by omega) (by omega))] at h2
      have h3 := congrArg (x.toNat ^^^ ·) h2
      simp only [← Nat.xor_assoc, Nat.xor_self, Nat.zero_xor] at h3
      omega
    obtain ⟨g, hg, h1, h2⟩ := scan_torn rs h _ x _ (by omega) (by omega) hx hne
    refine ⟨g, h2 n hn (by omega), hg, ?_⟩
    rw [List.getD_eq_getElem?_getD, hx]
    exact h1
  · obtain ⟨g, hg, h1, h2⟩ := scan_take rs h (lenR (rs.take n) + K) (by omega)
    exact ⟨g, h2 n hn (by omega), hg, h1⟩
end Go.Proofs.YtdmdfccadjfpiaaGreat
namespace Go.Proofs.YtdmdfccadjfpiaaGreat
open Go.RowKit
set_option maxRecDepth 100000

theorem nrmI_span (a : ItV) : spanO (nrmI a) = spanO a ∧ spanF (nrmI a) = spanF a ∧ spanT (nrmI a) = spanT a ∧ chkIt (nrmI a) = chkIt a := by
  obtain ⟨gap, o, sq, tm, ru, lv, ps, st, pr, va, ow, go, gf, gt⟩ := a
  cases gap <;> exact ⟨rfl, rfl, rfl, rfl⟩
theorem strip_span (x : Nat × ItV) : spanO (strip x).2 = spanO x.2 ∧ spanF (strip x).2 = spanF x.2 ∧ spanT (strip x).2 = spanT x.2 ∧ chkIt (strip x).2 = chkIt x.2 := ⟨rfl, rfl, rfl, rfl⟩
theorem nrmS_span (x : Nat × ItV) : spanO (nrmS x).2 = spanO x.2 ∧ spanF (nrmS x).2 = spanF x.2 ∧ spanT (nrmS x).2 = spanT x.2 ∧ chkIt (nrmS x).2 = chkIt x.2 := nrmI_span x.2
theorem nrmI_put (a : ItV) : putL (nrmI a) = putL a := by
  obtain ⟨gap, o, sq, tm, ru, lv, ps, st, pr, va, ow, go, gf, gt⟩ := a
  cases gap <;> rfl
theorem nrmI_norm (a : ItV) : normI (nrmI a) := by
  obtain ⟨gap, o, sq, tm, ru, lv, ps, st, pr, va, ow, go, gf, gt⟩ := a
  cases gap
  · exact ⟨rfl, rfl, rfl⟩
  · exact ⟨rfl, rfl, rfl, rfl, rfl, rfl, rfl, rfl, rfl⟩
theorem norm_nrmS {x : Nat × ItV} (h : normI x.2) : nrmS x = strip x := by
  obtain ⟨t, gap, o, sq, tm, ru, lv, ps, st, pr, va, ow, go, gf, gt⟩ := x
  cases gap
  · obtain ⟨h1, h2, h3⟩ := h
    simp only at h1 h2 h3
    subst h1 h2 h3
    rfl
  · obtain ⟨h1, h2, h3, h4, h5, h6, h7, h8, h9⟩ := h
    simp only at h1 h2 h3 h4 h5 h6 h7 h8 h9
    subst h1 h2 h3 h4 h5 h6 h7 h8 h9
    rfl
theorem nrmS_strip (x : Nat × ItV) : nrmS (strip x) = nrmS x := by
  obtain ⟨t, gap, o, sq, tm, ru, lv, ps, st, pr, va, ow, go, gf, gt⟩ := x
  cases gap <;> rfl
theorem nrmS_of_strips {es fs : List (Nat × ItV)} (h : es.map strip = fs) (hf : ∀ x ∈ fs, nrmS x = x) : es.map nrmS = fs := by
  subst h
  refine List.map_congr_left fun x hx => ?_
  rw [← nrmS_strip]
  exact hf _ (List.mem_map_of_mem hx)
theorem nrmS_of_strips2 {es fs : List (Nat × ItV)} (h : es.map strip = fs.map strip) : es.map nrmS = fs.map nrmS := by
  have h2 := congrArg (List.map nrmS) h
  rw [List.map_map, List.map_map] at h2
  have e : (nrmS ∘ strip) = nrmS := funext nrmS_strip
  rw [e] at h2
  exact h2
theorem strip_nb {x : Nat × ItV} {B : Nat} (h : x.2.nb ∧ x.2.ps.length ≤ B) : (strip x).2.nb ∧ (strip x).2.ps.length ≤ B :=
  ⟨⟨h.1.o, h.1.sq, h.1.tm, h.1.ru, h.1.pz, h.1.st, h.1.pr, h.1.va, h.1.ow, h.1.go, h.1.gf, h.1.gt⟩, h.2⟩
theorem nrmI_nb {a : ItV} (h : a.nb) : (nrmI a).nb := by
  obtain ⟨gap, o, sq, tm, ru, lv, ps, st, pr, va, ow, go, gf, gt⟩ := a
  cases gap
  · exact ⟨h.o, h.sq, h.tm, h.ru, h.pz, h.st, h.pr, h.va, h.ow, (by decide : (0 : Nat) < 256), (by decide : (0 : Nat) < 18446744073709551616), (by decide : (0 : Nat) < 18446744073709551616)⟩
  · exact ⟨(by decide : (0 : Nat) < 256), (by decide : (0 : Nat) < 18446744073709551616), (by decide : (0 : Nat) < 18446744073709551616), show (0 : Nat) ≤ maxLen from Nat.zero_le _, (fun _ h => nomatch h), (by decide : (0 : Nat) < 256), (by decide : (0 : Nat) < 256), (by decide : -9223372036854775808 ≤ (0 : Int) ∧ (0 : Int) ≤ 9223372036854775807), (by decide : (0 : Nat) < 256), h.go, h.gf, h.gt⟩
theorem trimA_nb {a : ItV} {n : Nat} (h : a.nb) (hn : n < 18446744073709551615) : (trimA a n).nb := by
  refine ⟨h.o, h.sq, h.tm, h.ru, h.pz, h.st, h.pr, h.va, h.ow, h.go, ?_, h.gt⟩
  show (if n < spanF a then a.gf else n + 1) < _
  split
  · exact h.gf
  · omega
/-- Entries that mean the same cover the same. -/
theorem high_nrm : ∀ (l : List (Nat × ItV)) (p : Nat), highL (l.map nrmS) p = highL l p := by
  intro l p
  have : ∀ (l : List (Nat × ItV)) (n : Nat), (l.map nrmS).foldl (fun n x => if spanO x.2 = p then spanT x.2 else n) n = l.foldl (fun n x => if spanO x.2 = p then spanT x.2 else n) n := by
    intro l
    induction l with
    | nil => intro n; rfl
    | cons x r ih =>
      intro n
      rw [List.map_cons, List.foldl_cons, List.foldl_cons, (nrmS_span x).1, (nrmS_span x).2.2.1]
      exact ih _
  exact this l 0
theorem whole_nrm : ∀ (l : List (Nat × ItV)) (h : Nat → Nat), wholeF h (l.map nrmS) = wholeF h l := by
  intro l
  induction l with
  | nil => intro h; rfl
  | cons x r ih =>
    intro h
    show (decide (chkIt (nrmS x).2 = 0) && (decide (spanF (nrmS x).2 = h (spanO (nrmS x).2) + 1) && wholeF (fun o => if o = spanO (nrmS x).2 then spanT (nrmS x).2 else h o) (r.map nrmS))) = _
    rw [(nrmS_span x).1, (nrmS_span x).2.1, (nrmS_span x).2.2.1, (nrmS_span x).2.2.2, ih]
    rfl
/-- When the last entry was admitted. -/
def lastL (l : List (Nat × ItV)) : Nat := (l.getLast?.map (·.1)).getD 0
theorem last_snoc (l : List (Nat × ItV)) (x : Nat × ItV) : lastL (l ++ [x]) = x.1 := by
  unfold lastL
  rw [List.getLast?_append]
  rfl
theorem last_nrm (l : List (Nat × ItV)) : lastL (l.map nrmS) = lastL l := by
  unfold lastL
  rw [List.getLast?_map]
  cases l.getLast? <;> rfl
theorem filter_nrm {es fs : List (Nat × ItV)} (h : es.map nrmS = fs.map nrmS) (o : Nat) : (es.filter fun x => spanO x.2 == o).map nrmS = (fs.filter fun x => spanO x.2 == o).map nrmS := by
  have key : ∀ l : List (Nat × ItV), (l.filter fun x => spanO x.2 == o).map nrmS = (l.map nrmS).filter fun x => spanO x.2 == o := by
    intro l
    induction l with
    | nil => rfl
    | cons x r ih =>
      rw [List.filter_cons, List.map_cons, List.filter_cons, (nrmS_span x).1]
      split
      · rw [List.map_cons, ih]
      · exact ih
  rw [key, key, h]
/-- What a run does to the entries: it lays more behind. -/
theorem run_more : ∀ (rs : List Ln) (s : LSt), ∃ ts, (runS s rs).es = s.es ++ ts ∧ (goodS s rs → wholeF s.h ts = true ∧ ∀ x ∈ ts, nrmS x = x) := by
  intro rs
  induction rs with
  | nil => intro s; exact ⟨[], by simp [runS], fun _ => ⟨rfl, fun _ h => nomatch h⟩⟩
  | cons r rs ih =>
    intro s
    obtain ⟨ts, h1, h2⟩ := ih (stepS s r)
    cases r with
    | life m => exact ⟨ts, h1, fun hg => h2 hg.2⟩
    | ent x =>
      refine ⟨strip x :: ts, by rw [show runS s (Ln.ent x :: rs) = runS (stepS s (Ln.ent x)) rs from rfl, h1]; simp [stepS], fun hg => ?_⟩
      obtain ⟨h3, h4⟩ := h2 hg.2
      obtain ⟨hf, hlt, hn, _⟩ := hg.1
      have hk := fitV_ok hf
      refine ⟨?_, fun y hy => ?_⟩
      · show (decide (chkIt x.2 = 0) && (decide (spanF x.2 = s.h (spanO x.2) + 1) && wholeF (fun o => if o = spanO x.2 then spanT x.2 else s.h o) ts)) = true
        have e1 : spanF x.2 = s.h (spanO x.2) + 1 := by have := hk.2.2.2.2; omega
        rw [decide_eq_true hk.1, decide_eq_true e1, Bool.true_and, Bool.true_and]
        exact h3
      · rcases List.mem_cons.1 hy with rfl | hy
        · rw [nrmS_strip]; exact norm_nrmS hn
        · exact h4 y hy
theorem run_append (s : LSt) (a b : List Ln) : runS s (a ++ b) = runS (runS s a) b := List.foldl_append
theorem good_append : ∀ (a b : List Ln) (s : LSt), goodS s (a ++ b) → goodS s a ∧ goodS (runS s a) b
  | [], _, _, h => ⟨trivial, h⟩
  | _ :: a, b, _, h => ⟨⟨h.1, (good_append a b _ h.2).1⟩, (good_append a b _ h.2).2⟩
theorem run_high : ∀ (rs : List Ln) (s : LSt), (∀ p, highL s.es p = s.h p) → ∀ p, highL (runS s rs).es p = (runS s rs).h p := by
  intro rs
  induction rs with
  | nil => intro s h; exact h
  | cons r rs ih =>
    intro s h
    refine ih (stepS s r) fun p => ?_
    cases r with
    | life m => exact h p
    | ent x =>
      show highL (s.es ++ [strip x]) p = if p = spanO x.2 then spanT x.2 else s.h p
      rw [highL_snoc, h p]
      by_cases hp : p = spanO x.2
      · rw [if_pos hp, if_pos (show spanO (strip x).2 = p from hp.symm)]; rfl
      · rw [if_neg hp, if_neg (fun h => hp (show spanO (strip x).2 = p from h).symm)]
theorem run_last : ∀ (rs : List Ln) (s : LSt), lastL s.es = s.la → lastL (runS s rs).es = (runS s rs).la := by
  intro rs
  induction rs with
  | nil => intro s h; exact h
  | cons r rs ih =>
    intro s h
    refine ih (stepS s r) ?_
    cases r with
    | life m => exact h
    | ent x => exact last_snoc _ _
theorem run_la : ∀ (rs : List Ln) (s : LSt), goodS s rs → s.la ≤ 1099511627776 → (∀ p, s.h p ≤ 1099511627776) → (runS s rs).la ≤ 1099511627776 ∧ ∀ p, (runS s rs).h p ≤ 1099511627776 := by
  intro rs
  induction rs with
  | nil => intro s _ h1 h2; exact ⟨h1, h2⟩
  | cons r rs ih =>
    intro s hg h1 h2
    cases r with
    | life m => exact ih (stepS s (.life m)) hg.2 h1 h2
    | ent x =>
      have hk := fitV_ok hg.1.1
      have hz := chkIt_zero hk.1
      refine ih (stepS s (.ent x)) hg.2 hk.2.1 fun p => ?_
      show (if p = spanO x.2 then spanT x.2 else s.h p) ≤ _
      have := h2 p
      split <;> omega
theorem run_ents : ∀ (rs : List Ln) (s : LSt), (∀ r ∈ rs, ∃ x, r = Ln.ent x) → (runS s rs).li = s.li := by
  intro rs
  induction rs with
  | nil => intro s _; rfl
  | cons r rs ih =>
    intro s h
    obtain ⟨x, rfl⟩ := h r (.head _)
    exact ih _ (fun y hy => h y (.tail _ hy))
/-- The records behind some acts, of which so many are synced; the entries that are meant. -/
structure PI (rs : List Ln) (sN k nw : Nat) (M : List (Nat × ItV)) : Prop where
  good : goodS s0L rs
  len : rs.length ≤ k + 1
  sz : ∀ r ∈ rs, (lnB r).length ≤ 700
  li : (runS s0L rs).li ≤ k + 1
  mes : M.map nrmS = (runS s0L rs).es
  sn : sN ≤ rs.length
  tail : ∀ r ∈ rs.drop sN, ∃ x, r = Ln.ent x
  now : nw ≤ 549755813888 + 3 * k
  nb : ∀ x ∈ M, x.1 ≤ 1099511627776 ∧ x.2.nb ∧ x.2.ps.length ≤ 12
  mlen : M.length ≤ k
  one : 1 ≤ sN
theorem PI.high {rs : List Ln} {sN k nw : Nat} {M : List (Nat × ItV)} (h : PI rs sN k nw M) (p : Nat) : highL M p = (runS s0L rs).h p := by
  rw [← high_nrm, h.mes]
  exact run_high rs s0L (fun _ => rfl) p
theorem PI.last {rs : List Ln} {sN k nw : Nat} {M : List (Nat × ItV)} (h : PI rs sN k nw M) : lastL M = (runS s0L rs).la := by
  rw [← last_nrm, h.mes]
  exact run_last rs s0L rfl
theorem PI.hle {rs : List Ln} {sN k nw : Nat} {M : List (Nat × ItV)} (h : PI rs sN k nw M) : (runS s0L rs).la ≤ 1099511627776 ∧ ∀ p, (runS s0L rs).h p ≤ 1099511627776 :=
  run_la rs s0L h.good (Nat.zero_le _) (fun _ => Nat.zero_le _)
theorem good_nrm {rs : List Ln} (h : goodS s0L rs) : ∀ x ∈ (runS s0L rs).es, nrmS x = x := by
  obtain ⟨ts, h1, h2⟩ := run_more rs s0L
  intro x hx
  rw [h1] at hx
  exact (h2 h).2 x (by simpa [s0L] using hx)
theorem PI.whole {rs : List Ln} {sN k nw : Nat} {M es : List (Nat × ItV)} (h : PI rs sN k nw M) (he : es.map nrmS = M.map nrmS) : wholeL es = true := by
  unfold wholeL
  rw [← whole_nrm, he, h.mes]
  obtain ⟨ts, h1, h2⟩ := run_more rs s0L
  rw [h1]
  exact (h2 h.good).1
theorem PI.synced {rs : List Ln} {sN k nw : Nat} {M : List (Nat × ItV)} (h : PI rs sN k nw M) : PI rs rs.length (k + 1) nw M :=
  ⟨h.good, by have := h.len; omega, h.sz, by have := h.li; omega, h.mes, Nat.le_refl _, by rw [List.drop_length]; exact (fun _ h => nomatch h), by have := h.now; omega, h.nb, by have := h.mlen; omega, Nat.le_trans h.one h.sn⟩
theorem PI.up {rs : List Ln} {sN k nw nw' : Nat} {M : List (Nat × ItV)} (h : PI rs sN k nw M) (hn : nw' ≤ nw + 2) : PI rs sN (k + 1) nw' M :=
  ⟨h.good, by have := h.len; omega, h.sz, by have := h.li; omega, h.mes, h.sn, h.tail, by have := h.now; omega, h.nb, by have := h.mlen; omega, h.one⟩
theorem nrm_rec (t : Nat) (a : ItV) : lnB (Ln.ent (t, nrmI a)) = recL t a := by
  show (1 :: uvar t) ++ putL (nrmI a) = _
  rw [nrmI_put]; rfl
theorem nrm_fit (h : Nat → Nat) (la now : Nat) (a : ItV) : fitV h la now (nrmI a) = fitV h la now a := by
  unfold fitV
  rw [(nrmI_span a).1, (nrmI_span a).2.1, (nrmI_span a).2.2.1, (nrmI_span a).2.2.2]
theorem trim_fit {h : Nat → Nat} {la now : Nat} {a : ItV} (hf : fitV h la now a = 0) : fitV h la now (trimA a (h (spanO a))) = 0 := by
  have hk := fitV_ok hf
  have ht := trimA_span hk.2.2.2.1
  refine fitV_of (trimA_chk hk.1 hk.2.2.2.1) hk.2.1 hk.2.2.1 ?_ ?_
  · rw [ht.1, ht.2.1]; exact hk.2.2.2.1
  · rw [ht.1]; exact ht.2.2.2 hk.2.2.2.2
theorem PI.ok {rs : List Ln} {sN k nw nw' at_ : Nat} {M : List (Nat × ItV)} {a : ItV} (h : PI rs sN k nw M) (hf : fitV (runS s0L rs).h (runS s0L rs).la at_ a = 0) (ha : a.nb) (hp : a.ps.length ≤ 12) (hn : nw' ≤ max (nw + 2) 549755813888) :
    PI (rs ++ [Ln.ent (at_, nrmI (trimA a ((runS s0L rs).h (spanO a))))]) sN (k + 1) nw' (M ++ [(at_, trimA a ((runS s0L rs).h (spanO a)))]) ∧ (recL at_ (trimA a ((runS s0L rs).h (spanO a)))).length ≤ 700 := by
  have hk := fitV_ok hf
  have ht := trimA_span hk.2.2.2.1
  have hz := chkIt_zero hk.1
  have hb : (trimA a ((runS s0L rs).h (spanO a))).nb := trimA_nb ha (by have := h.hle.2 (spanO a); omega)
  have hrl : (recL at_ (trimA a ((runS s0L rs).h (spanO a)))).length ≤ 700 := by
    have h4 := putL_lenI (trimA_chk hk.1 hk.2.2.2.1) hb
    have h5 := uvar_len64 (n := at_) (by have := hk.2.1; omega)
    unfold recL
    simp only [List.length_append, List.length_cons]
    omega
  have hok : okS (runS s0L rs) (Ln.ent (at_, nrmI (trimA a ((runS s0L rs).h (spanO a))))) := by
    refine ⟨?_, ?_, nrmI_norm _, (nrmI_nb hb).va, (nrmI_nb hb).st⟩
    · rw [nrm_fit]; exact trim_fit hf
    · show (runS s0L rs).h (spanO (nrmI _)) < spanF (nrmI _)
      rw [(nrmI_span _).1, (nrmI_span _).2.1, ht.1]
      exact ht.2.2.1
  refine ⟨⟨goodS_snoc rs s0L _ h.good hok, by rw [List.length_append]; have := h.len; show _ + 1 ≤ _; omega, fun r hr => ?_, ?_, ?_, ?_, ?_, ?_, fun x hx => ?_, by rw [List.length_append]; have := h.mlen; show _ + 1 ≤ _; omega, h.one⟩, hrl⟩
  · rcases List.mem_append.1 hr with hr | hr
    · exact h.sz r hr
    · rw [List.mem_singleton.1 hr, nrm_rec]; exact hrl
  · rw [runS_snoc]; have := h.li; show (runS s0L rs).li ≤ _; omega
  · rw [runS_snoc, List.map_append, h.mes]; rfl
  · rw [List.length_append]; have := h.sn; omega
  · rw [List.drop_append_of_le_length h.sn]
    intro r hr
    rcases List.mem_append.1 hr with hr | hr
    · exact h.tail r hr
    · exact ⟨_, List.mem_singleton.1 hr⟩
  · have := h.now; omega
  · rcases List.mem_append.1 hx with hx | hx
    · exact h.nb x hx
    · rw [List.mem_singleton.1 hx]
      exact ⟨hk.2.1, hb, hp⟩
/-- A crash leaves the records that were synced, and so many of those behind; then a life more begins. -/
theorem PI.crash {rs : List Ln} {sN k nw g : Nat} {M : List (Nat × ItV)} (h : PI rs sN k nw M) (hg : sN ≤ g) (hg2 : g ≤ rs.length) (hk : k ≤ 1000) :
    ∃ n, n = (runS s0L (rs.take g)).es.length ∧ (runS s0L (rs.take sN)).es.length ≤ n ∧ n ≤ M.length ∧ (runS s0L (rs.take g)).li = (runS s0L rs).li ∧ (M.take n).map nrmS = (runS s0L (rs.take g)).es ∧ goodS s0L (rs.take g) ∧ (∀ r ∈ rs.take g, (lnB r).length ≤ 700) ∧
      PI (rs.take g ++ [Ln.life ((runS s0L (rs.take g)).li + 1)]) (rs.take g ++ [Ln.life ((runS s0L (rs.take g)).li + 1)]).length (k + 1) nw (M.take n) := by
  have e1 : rs = rs.take g ++ rs.drop g := (List.take_append_drop g rs).symm
  have e2 : rs.take g = rs.take sN ++ (rs.take g).drop sN := by
    have h2 : (rs.take g).take sN = rs.take sN := by rw [List.take_take, Nat.min_eq_left hg]
    rw [← h2]
    exact (List.take_append_drop sN _).symm
  obtain ⟨t1, ht1, _⟩ := run_more (rs.drop g) (runS s0L (rs.take g))
  obtain ⟨t2, ht2, _⟩ := run_more ((rs.take g).drop sN) (runS s0L (rs.take sN))
  have hgd := (good_append (rs.take g) (rs.drop g) s0L (by rw [← e1]; exact h.good)).1
  have hes : (runS s0L rs).es = (runS s0L (rs.take g)).es ++ t1 := by rw [← ht1, ← run_append, ← e1]
  have hes2 : (runS s0L (rs.take g)).es = (runS s0L (rs.take sN)).es ++ t2 := by rw [← ht2, ← run_append, ← e2]
  have hli : (runS s0L (rs.take g)).li = (runS s0L rs).li := by
    have h3 := run_ents (rs.drop g) (runS s0L (rs.take g)) (fun r hr => h.tail r (by
      have : rs.drop g = (rs.drop sN).drop (g - sN) := by rw [List.drop_drop]; congr 1; omega
      rw [this] at hr
      exact List.mem_of_mem_drop hr))
    rw [← run_append, ← e1] at h3
    exact h3.symm
  have hM : M.length = (runS s0L rs).es.length := by rw [← h.mes, List.length_map]
  have hmt : (M.take (runS s0L (rs.take g)).es.length).map nrmS = (runS s0L (rs.take g)).es := by
    rw [List.map_take, h.mes, hes, List.take_left]
  refine ⟨_, rfl, ?_, ?_, hli, hmt, hgd, fun r hr => h.sz r (List.mem_of_mem_take hr), ?_⟩
  · rw [hes2, List.length_append]; omega
  · rw [hM, hes, List.length_append]; omega
  · have hl := h.li
    refine ⟨goodS_snoc _ s0L _ hgd (show (runS s0L (rs.take g)).li + 1 ≤ _ by rw [hli]; omega), ?_, fun r hr => ?_, ?_, ?_, Nat.le_refl _, by rw [List.drop_length]; exact (fun _ h => nomatch h), by have := h.now; omega, fun x hx => h.nb x (List.mem_of_mem_take hx), ?_, by rw [List.length_append]; exact Nat.le_add_left _ _⟩
    · rw [List.length_append, List.length_take]
      have := h.len
      show _ + 1 ≤ _
      omega
    · rcases List.mem_append.1 hr with hr | hr
      · exact h.sz r (List.mem_of_mem_take hr)
      · rw [List.mem_singleton.1 hr]
        show ((2 : UInt8) :: uvar ((runS s0L (rs.take g)).li + 1)).length ≤ 700
        have := uvar_len64 (n := (runS s0L (rs.take g)).li + 1) (by rw [hli]; omega)
        rw [List.length_cons]
        omega
    · rw [runS_snoc]
      show (runS s0L (rs.take g)).li + 1 ≤ _
      rw [hli]; omega
    · rw [runS_snoc]
      exact hmt
    · rw [List.length_take]; have := h.mlen; omega
theorem PI.zero : PI [Ln.life 1] 1 0 0 [] :=
  ⟨⟨(by decide : (1 : Nat) ≤ 1099511627776), trivial⟩, Nat.le_refl _, fun r hr => by
    rw [List.mem_singleton.1 hr]
    show ((2 : UInt8) :: uvar 1).length ≤ 700
    rw [uvar_small (by decide)]
    decide, Nat.le_refl _, rfl, Nat.le_refl _, (fun _ h => nomatch h), by omega, (fun _ h => nomatch h), Nat.le_refl _, Nat.le_refl _⟩
theorem PI.bytes {rs : List Ln} {sN k nw : Nat} {M : List (Nat × ItV)} (h : PI rs sN k nw M) : (layAll (rs.map lnB)).length ≤ 708 * (k + 1) := by
  rw [layAll_len]
  have h1 := lenR_leL (rs.map lnB) 700 (fun r hr => by
    obtain ⟨y, hy, rfl⟩ := List.mem_map.1 hr
    exact h.sz y hy)
  rw [List.length_map] at h1
  have := Nat.mul_le_mul_left 708 h.len
  omega
end Go.Proofs.YtdmdfccadjfpiaaGreat
namespace Go.Proofs.YtdmdfccadjfpiaaGreat
open Go.RowKit
set_option maxRecDepth 100000

def Apart (l : List Chunk) : Prop := l.Pairwise fun c d => ∀ b ∈ c.fp, b ∉ d.fp
/-- Many parts as one; they do not meet. -/
def chSet (l : List Chunk) : Chunk :=
  ⟨l.flatMap Chunk.fp, fun w => (∀ c ∈ l, c.P w) ∧ Apart l, fun w w' h hP => ⟨fun c hc => c.loc w w' (fun b hb => h b (List.mem_flatMap.2 ⟨c, hc, hb⟩)) (hP.1 c hc), hP.2⟩, fun w hP b hb => by
    obtain ⟨c, hc, hb⟩ := List.mem_flatMap.1 hb
    exact c.inn w (hP.1 c hc) b hb⟩
/-- A callee that is handed such a part. -/
theorem Upd.open_ {l : List Chunk} {w : World} (h : (chSet l).P w) : Upd (chSet l).fp w l w :=
  ⟨rfl, rfl, rfl, Nat.le_refl _, fun _ _ _ => rfl, h.1, fun c hc _ hb => .inl (List.mem_flatMap.2 ⟨c, hc, hb⟩), h.2⟩
/-- All parts as one. -/
theorem Upd.close {S : List Nat} {w0 w : World} {l : List Chunk} (h : Upd S w0 l w) : Upd S w0 [chSet l] w :=
  ⟨h.os, h.tape, h.output, h.size, h.block, fun c hc => by rw [List.mem_singleton.1 hc]; exact ⟨h.holds, h.apart⟩, fun c hc b hb => by
    rw [List.mem_singleton.1 hc] at hb
    obtain ⟨d, hd, hb⟩ := List.mem_flatMap.1 hb
    exact h.own d hd b hb, by simp⟩
/-- The first k parts as one. -/
theorem Upd.closeN {S : List Nat} {w0 w : World} {l r : List Chunk} (h : Upd S w0 (l ++ r) w) : Upd S w0 (chSet l :: r) w := by
  have hp := List.pairwise_append.1 h.apart
  refine ⟨h.os, h.tape, h.output, h.size, h.block, fun c hc => ?_, fun c hc b hb => ?_, List.pairwise_cons.2 ⟨fun d hd b hb => ?_, hp.2.1⟩⟩
  · rcases List.mem_cons.1 hc with rfl | hc
    · exact ⟨fun d hd => h.holds d (List.mem_append.2 (.inl hd)), hp.1⟩
    · exact h.holds c (List.mem_append.2 (.inr hc))
  · rcases List.mem_cons.1 hc with rfl | hc
    · obtain ⟨d, hd, hb⟩ := List.mem_flatMap.1 hb
      exact h.own d (List.mem_append.2 (.inl hd)) b hb
    · exact h.own c (List.mem_append.2 (.inr hc)) b hb
  · obtain ⟨c, hc, hb⟩ := List.mem_flatMap.1 hb
    exact hp.2.2 c hc d hd b hb
/-- The first part, which is many, as many. -/
theorem Upd.openN {S : List Nat} {w0 w : World} {l r : List Chunk} (h : Upd S w0 (chSet l :: r) w) : Upd S w0 (l ++ r) w := by
  have hp := List.pairwise_cons.1 h.apart
  have h0 := h.holds (chSet l) (.head _)
  refine ⟨h.os, h.tape, h.output, h.size, h.block, fun c hc => ?_, fun c hc b hb => ?_, List.pairwise_append.2 ⟨h0.2, hp.2, fun c hc d hd b hb => ?_⟩⟩
  · rcases List.mem_append.1 hc with hc | hc
    · exact h0.1 c hc
    · exact h.holds c (.tail _ hc)
  · rcases List.mem_append.1 hc with hc | hc
    · exact h.own (chSet l) (.head _) b (List.mem_flatMap.2 ⟨c, hc, hb⟩)
    · exact h.own c (.tail _ hc) b hb
  · exact hp.1 d hd b (List.mem_flatMap.2 ⟨c, hc, hb⟩)
theorem Upd.set {S : List Nat} {w0 w : World} {C : List Chunk} (h : Upd S w0 C w) (i : Nat) {l : List Chunk} (hi : C[i]? = some (chSet l)) : (chSet l).P w := h.get i hi
/-- A store into a row. -/
theorem Upd.putRow {S : List Nat} {w0 w : World} {C : List Chunk} (h : Upd S w0 C w) (i : Nat) {e : TypeId} {size g n c : Nat} {xs : List Value} (hi : C[i]? = some (chRow e size (.slice (some ⟨g, 0, none⟩) n c) n xs)) (j : Nat) (u : Value) :
    Upd S w0 (chRow e size (.slice (some ⟨g, 0, none⟩) n c) n (xs.set j u) :: C.eraseIdx i) (w.setCell ⟨g, j, none⟩ u) := by
  have hr := h.row i hi
  have hr' : (w.setCell ⟨g, j, none⟩ u).ownsRow 0 e size (.slice (some ⟨g, 0, none⟩) n c) n (xs.set j u) := by
    obtain ⟨hl, hr⟩ := hr
    refine ⟨by rw [List.length_set]; exact hl, ?_⟩
    rcases hr with ⟨hv, hn⟩ | ⟨g', cap, cur, hv, hb, hh, h1, h2, h3, h4⟩
    · cases hv
    · right
      injection hv with hv1 hv2 hv3
      injection hv1 with hv1
      injection hv1 with hv1
      subst hv1 hv3
      have hB : Blk w g cur e := hh
      exact ⟨g, c, cur.setIfInBounds j u, rfl, hb, hB.set_ j u, h1, h2, by simpa using h3, by rw [← h4]; simp [List.take_set]⟩
  have : Upd (chRow e size (.slice (some ⟨g, 0, none⟩) n c) n xs).fp w [chRow e size (.slice (some ⟨g, 0, none⟩) n c) n (xs.set j u)] (w.setCell ⟨g, j, none⟩ u) :=
    ⟨rfl, rfl, rfl, by simp, fun k _ hne => Below.heap_setCell w _ u k (fun e => hne (by simp [chRow, Value.ownBlock, e])), fun d hd => by rw [List.mem_singleton.1 hd]; exact hr', fun d hd b hb => by rw [List.mem_singleton.1 hd] at hb; exact .inl hb, by simp⟩
  exact h.turn i hi this
end Go.Proofs.YtdmdfccadjfpiaaGreat
namespace Go.Proofs.YtdmdfccadjfpiaaGreat
open Go.RowKit
set_option maxRecDepth 100000

theorem zeroCells_len (cs : Array Value) (n : Nat) : (Builtin.zeroCells cs n).toList.length = n * cs.size := by simp [Builtin.zeroCells]
theorem zeroCells_one (cs : Array Value) (n : Nat) (hs : 0 < cs.size) (h : ∀ u ∈ cs.toList, u.oneCell' = true) : ∀ u ∈ (Builtin.zeroCells cs n).toList, u.oneCell' = true := by
  intro u hu
  simp only [Builtin.zeroCells, Array.toList_map, List.mem_map] at hu
  obtain ⟨i, _, rfl⟩ := hu
  have : i % cs.size < cs.size := Nat.mod_lt _ hs
  rw [getElem!_pos cs _ this]
  exact h _ (by simp)
/-- clear of a slice of structs: its cells are written, nothing else. -/
theorem run_clear_rows {P : Program} (w : World) (t e ty : TypeId) (i : TypeInfo) (z : Value) (size : Nat) (ht : P.underlying t = some (.slice e)) (hi : P.info? e = some i) (hz : i.zero = some z) (hsz : z.cells.size = size) (h0 : 0 < size) (h1 : ∀ u ∈ z.cells.toList, u.oneCell' = true) (b o n c : Nat)
    (hc : ∀ j, j < n * size → (w.cell? ⟨b, o + j, none⟩).isSome = true) (hf : ∀ j, j < n * size → w.frozen? ⟨b, o + j, none⟩ = false) :
    ∃ vs : List Value, vs.length = n * size ∧ (Builtin.clear_ #[t] ty #[.slice (some ⟨b, o, none⟩) n c]).run P w = .ok (.tuple #[]) (w.setCells b o vs) := by
  cases n with
  | zero =>
    refine ⟨[], by simp, ?_⟩
    simp [Builtin.clear_, run_underlying ht, World.setCells]
  | succ m =>
    refine ⟨(Builtin.zeroCells z.cells (m + 1)).toList, by rw [zeroCells_len, hsz], ?_⟩
    have hlen := zeroCells_len z.cells (m + 1)
    rw [hsz] at hlen
    have hst := run_storeCells_cells (P := P) b o (Builtin.zeroCells z.cells (m + 1)).toList 0 w (by rw [hlen]; simpa using hc) (by rw [hlen]; simpa using hf) (zeroCells_one _ _ (by omega) h1)
    simp only [Nat.add_zero] at hst
    have hv : (zeroValue e).run P w = .ok z w := by simp [zeroValue, typeInfo, hi, hz, Result.andThen]
    simp [Builtin.clear_, run_underlying ht, hv, hst]
theorem wp_clear_rows {P : Program} {o : Oper} {a : Act} {w : World} {K : Act → World → Prop} {Q : Exit → Act → World → Prop} (s : Operand) (t : TypeId)
    (ho : o.op = .call { callee := .builtin .clear, args := #[s], argTypes := #[t] })
    (e : TypeId) (i : TypeInfo) (z : Value) (size : Nat) (ht : P.underlying t = some (.slice e)) (hi : P.info? e = some i) (hz : i.zero = some z) (hsz : z.cells.size = size) (h0 : 0 < size) (h1 : ∀ u ∈ z.cells.toList, u.oneCell' = true) (b of n c : Nat)
    (hs : a.eval s = .slice (some ⟨b, of, none⟩) n c) (hc : ∀ j, j < n * size → (w.cell? ⟨b, of + j, none⟩).isSome = true) (hf : ∀ j, j < n * size → w.frozen? ⟨b, of + j, none⟩ = false)
    (h : ∀ vs : List Value, vs.length = n * size → K (a.put o.dst (.tuple #[])) (w.setCells b of vs)) : o.wp P a w K Q := by
  obtain ⟨vs, hl, hrun⟩ := run_clear_rows (P := P) w t e o.type i z size ht hi hz hsz h0 h1 b of n c hc hf
  unfold Oper.wp execOp
  simp only [ho, resolve, invoke, builtin, Sem.run_bind, Sem.run_pure, Result.andThen_ok, List.map_toArray, List.map_cons, List.map_nil, hs, hrun]
  exact h vs hl
theorem set14 {α : Type} (f : α → List Value) (n : Nat) (hn : ∀ x, (f x).length = n) : ∀ (l : List α) (k : Nat) (x : α), k < l.length → (l.set k x).flatMap f = (l.flatMap f).take (k * n) ++ (f x ++ (l.flatMap f).drop (k * n + n))
  | [], _, _, h => absurd h (by simp)
  | y :: r, 0, x, _ => by
    simp only [List.set_cons_zero, List.flatMap_cons, Nat.zero_mul, List.take_zero, List.nil_append, Nat.zero_add]
    rw [← hn y, List.drop_left]
  | y :: r, k + 1, x, h => by
    have ih := set14 f n hn r k x (by simpa using h)
    simp only [List.set_cons_succ, List.flatMap_cons]
    rw [ih, Nat.succ_mul, Nat.add_comm (k * n) n, ← hn y, List.take_length_add_append, List.append_assoc, Nat.add_assoc, Nat.add_comm (k * (f y).length) (f y).length, ← Nat.add_assoc]
    congr 2
    congr 1
    rw [Nat.add_assoc (f y).length (f y).length, Nat.add_comm (f y).length (k * _), List.drop_length_add_append]

/-- Cells written one by one into a row of structs: an element more is what it is said to be. -/
theorem Upd.putEl {S : List Nat} {w0 w : World} {C : List Chunk} {e : TypeId} {g n c : Nat} {α : Type} {f : α → List Value} {size : Nat} {l : List α} (h : Upd S w0 C w) (i : Nat) (hi : C[i]? = some (chRow e size (.slice (some ⟨g, 0, none⟩) n c) n (l.flatMap f))) (hf : ∀ x, (f x).length = size) (k : Nat) (hk : k < l.length) (x : α) (w' : World)
    (hw : w' = (w.setCells g (k * size) (f x))) : Upd S w0 (chRow e size (.slice (some ⟨g, 0, none⟩) n c) n ((l.set k x).flatMap f) :: C.eraseIdx i) w' := by
  subst hw
  have go : ∀ (vs : List Value) (o : Nat) (w : World) (C : List Chunk) (i : Nat) (xs : List Value), Upd S w0 C w → C[i]? = some (chRow e size (.slice (some ⟨g, 0, none⟩) n c) n xs) → o + vs.length ≤ xs.length →
      Upd S w0 (chRow e size (.slice (some ⟨g, 0, none⟩) n c) n (xs.take o ++ (vs ++ xs.drop (o + vs.length))) :: C.eraseIdx i) (w.setCells g o vs) := by
    intro vs
    induction vs with
    | nil =>
      intro o w C i xs h hi _
      simp only [List.length_nil, Nat.add_zero, List.nil_append, List.take_append_drop, World.setCells]
      exact h.front i hi
    | cons v r ih =>
      intro o w C i xs h hi hl
      simp only [List.length_cons] at hl
      have h1 := h.putRow i hi o v
      have h2 := ih (o + 1) _ _ 0 _ h1 rfl (by rw [List.length_set]; omega)
      have e1 : (xs.set o v).take (o + 1) ++ (r ++ (xs.set o v).drop (o + 1 + r.length)) = xs.take o ++ (v :: r ++ xs.drop (o + (v :: r).length)) := by
        have hol : o < xs.length := by omega
        rw [List.drop_set_of_lt (by omega), List.length_cons, Nat.add_assoc, Nat.add_comm 1 r.length]
        rw [List.take_succ_eq_append_getElem (by rw [List.length_set]; exact hol), List.getElem_set_self, List.take_set_of_le (Nat.le_refl _)]
        simp
      rw [e1] at h2
      exact h2
  have hlen : (l.flatMap f).length = l.length * size := by
    clear hi h hk go
    induction l with
    | nil => simp
    | cons a r ih => rw [List.flatMap_cons, List.length_append, hf, ih, List.length_cons, Nat.succ_mul, Nat.add_comm]
  have := go (f x) (k * size) w C i _ h hi (by rw [hf, hlen, ← Nat.succ_mul]; exact Nat.mul_le_mul_right _ hk)
  rw [hf] at this
  rw [set14 f size hf l k x hk]
  exact this
theorem oneE14 : (Value.agg #[.int .u64 0, .bool false, .int .u8 0, .int .u64 0, .int .u64 0, .string ⟨#[]⟩, .slice none 0 0, .int .u8 0, .int .u8 0, .int .i64 0, .int .u8 0, .int .u8 0, .int .u64 0, .int .u64 0]).cells.toList.all (·.oneCell') = true := by kernel_rfl
theorem setCells_mod (g : Nat) : ∀ (vs : List Value) (o : Nat) (w : World), (w.setCells g o vs).os = w.os ∧ (w.setCells g o vs).tape = w.tape ∧ (w.setCells g o vs).output = w.output ∧ (w.setCells g o vs).heap.size = w.heap.size ∧ ∀ k, k ≠ g → (w.setCells g o vs).heap[k]? = w.heap[k]? := by
  intro vs
  induction vs with
  | nil => exact fun _ _ => ⟨rfl, rfl, rfl, rfl, fun _ _ => rfl⟩
  | cons v r ih =>
    intro o w
    obtain ⟨h1, h2, h3, h4, h5⟩ := ih (o + 1) (w.setCell ⟨g, o, none⟩ v)
    exact ⟨h1, h2, h3, h4.trans (by simp), fun k hk => (h5 k hk).trans (Below.heap_setCell w _ v k hk)⟩
theorem infoEntryO : (Tryz.prog.info? 41).map (fun i => (i.zero, i.size, i.bytes)) = some (some (.agg #[.int .u64 0, .bool false, .int .u8 0, .int .u64 0, .int .u64 0, .string ⟨#[]⟩, .slice none 0 0, .int .u8 0, .int .u8 0, .int .i64 0, .int .u8 0, .int .u8 0, .int .u64 0, .int .u64 0]), 14, 128) := by kernel_rfl
theorem ofX_no (ti : Nat) (ag : Bool) (ao asq atm : Nat) (aru : ByteArray) (Al : Option Addr) (nl acl ast apr : Nat) (ava : Int) (aow ago agf agt : Nat) (cl o : Nat) (sf sto : Nat) (w : World) (hc : w.cell? ⟨cl, 0, none⟩ = some (.int .u8 o)) (KS : ∀ w', Below w.heap.size w w' → Calls Tryz.prog 36 #[.agg #[.bool ag, .int .u8 ao, .int .u64 asq, .int .u64 atm, .string aru, .slice Al nl acl, .int .u8 ast, .int .u8 apr, .int .i64 ava, .int .u8 aow, .int .u8 ago, .int .u64 agf, .int .u64 agt]] w' fun e w'' => e = .returned (.tuple #[.int .u8 o, .int .u64 sf, .int .u64 sto]) ∧ Below w'.heap.size w' w'') :
    Calls Tryz.prog 55 #[.agg #[.int .u64 ti, .bool ag, .int .u8 ao, .int .u64 asq, .int .u64 atm, .string aru, .slice Al nl acl, .int .u8 ast, .int .u8 apr, .int .i64 ava, .int .u8 aow, .int .u8 ago, .int .u64 agf, .int .u64 agt], .pointer (some ⟨cl, 0, none⟩)] w fun e w' => e = .returned (.bool false) ∧ Below w.heap.size w w' := by
  go_enter Tryz.func55, Tryz.ntmps55
  go_wp2_with fail
  refine calls_genP fun w2 hw2 => ?_
  have U2 := ((Upd.nil [] w).alloc #[.int .u64 ti, .bool ag, .int .u8 ao, .int .u64 asq, .int .u64 atm, .string aru, .slice Al nl acl, .int .u8 ast, .int .u8 apr, .int .i64 ava, .int .u8 aow, .int .u8 ago, .int .u64 agf, .int .u64 agt] 41).same hw2
  clear hw2
  have hb2 := U2.below
  (with_reducible refine (KS w2 hb2).mono ?_)
  rintro e w3 ⟨rfl, hb3⟩
  have hc3 := cell_later (hb2.trans (hb3.mono hb2.size)) hc
  have HU := Lib.hid (hb2.trans (hb3.mono hb2.size))
  clear KS U2 hb2 hb3
  go_wp2_with fail
  go_ret
  exact ⟨rfl, HU.out⟩
theorem ofX_yes (ti : Nat) (ag : Bool) (ao asq atm : Nat) (aru : ByteArray) (Al : Option Addr) (nl acl ast apr : Nat) (ava : Int) (aow ago agf agt : Nat) (cl o so : Nat) (sf sto : Nat) (w : World) (hne : so ≠ o) (hc : w.cell? ⟨cl, 0, none⟩ = some (.int .u8 o)) (KS : ∀ w', Below w.heap.size w w' → Calls Tryz.prog 36 #[.agg #[.bool ag, .int .u8 ao, .int .u64 asq, .int .u64 atm, .string aru, .slice Al nl acl, .int .u8 ast, .int .u8 apr, .int .i64 ava, .int .u8 aow, .int .u8 ago, .int .u64 agf, .int .u64 agt]] w' fun e w'' => e = .returned (.tuple #[.int .u8 so, .int .u64 sf, .int .u64 sto]) ∧ Below w'.heap.size w' w'') :
    Calls Tryz.prog 55 #[.agg #[.int .u64 ti, .bool ag, .int .u8 ao, .int .u64 asq, .int .u64 atm, .string aru, .slice Al nl acl, .int .u8 ast, .int .u8 apr, .int .i64 ava, .int .u8 aow, .int .u8 ago, .int .u64 agf, .int .u64 agt], .pointer (some ⟨cl, 0, none⟩)] w fun e w' => e = .returned (.bool true) ∧ Below w.heap.size w w' := by
  have d : ((so : Int) != (o : Int)) = true := by simp; omega
  have d2 : decide (so = o) = false := by simp; exact hne
  clear hne
  go_enter Tryz.func55, Tryz.ntmps55
  go_wp2_with fail
  refine calls_genP fun w2 hw2 => ?_
  have U2 := ((Upd.nil [] w).alloc #[.int .u64 ti, .bool ag, .int .u8 ao, .int .u64 asq, .int .u64 atm, .string aru, .slice Al nl acl, .int .u8 ast, .int .u8 apr, .int .i64 ava, .int .u8 aow, .int .u8 ago, .int .u64 agf, .int .u64 agt] 41).same hw2
  clear hw2
  have hb2 := U2.below
  (with_reducible refine (KS w2 hb2).mono ?_)
  rintro e w3 ⟨rfl, hb3⟩
  have hc3 := cell_later (hb2.trans (hb3.mono hb2.size)) hc
  have HU := Lib.hid (hb2.trans (hb3.mono hb2.size))
  clear KS U2 hb2 hb3
  go_wp2_with fail
  go_ret
  exact ⟨rfl, HU.out⟩

set_option maxHeartbeats 4000000 in
theorem idxF (A : Option Addr) (n c cl o : Nat) (es : List (Nat × ItV)) (w : World) (hn : n = es.length) (hr : Rd w 14 (.slice A n c) n (es.flatMap en14)) (hc : w.cell? ⟨cl, 0, none⟩ = some (.int .u8 o)) (hok : ∀ x ∈ es, x.2.ok w) (hn9 : n ≤ 1000000) :
    Calls Tryz.prog 81 #[.slice A n c, .func (Fn.func 55) #[] #[.pointer (some ⟨cl, 0, none⟩)]] w fun e w' => (∃ r : Int, e = .returned (.int .i64 r) ∧ ((r = -1 ∧ ∀ x ∈ es, spanO x.2 = o) ∨ ∃ (k : Nat) (x : Nat × ItV), r = (k : Nat) ∧ es[k]? = some x ∧ spanO x.2 ≠ o ∧ ∀ y ∈ es.take k, spanO y.2 = o)) ∧ Below w.heap.size w w' := by
  obtain ⟨_, _, he, h1, h2, h3, h4⟩ := hr
  injection he with he1 he2 he3
  subst he1 he3
  unfold maxLen at h3
  have HN := Lib.hid hn
  have HOK := Lib.hid hok
  clear hn hok he2 h1
  go_enter Tryz.func81, Tryz.ntmps81
  go_wp2_with fail
  go_loopw [8] (fun i wr => ∃ k : Nat, k ≤ n ∧ i = .int .i64 k ∧ (∀ y ∈ es.take k, spanO y.2 = o) ∧ Upd [] w [] wr) (fun i _ => n - (intOf i).toNat)
  case atStart => exact ⟨0, Nat.zero_le _, rfl, (fun _ h => nomatch h), Upd.nil [] w⟩
  case round =>
    obtain ⟨k, hk, rfl, hal, R1⟩ := hrel
    by_cases hkn : k < n
    · obtain ⟨x, hx⟩ : ∃ x, es[k]? = some x := ⟨_, List.getElem?_eq_getElem (by rw [← HN.out]; exact hkn)⟩
      obtain ⟨b1, o1, rfl, hat1⟩ := h4 (by omega)
      have e1 := fun j hj => flat_at en14 14 (fun _ => rfl) es k x hx j hj
      have hxo := HOK.out x (List.mem_of_getElem? hx)
      have hb5 := R1.below
      have HX := Lib.hid hx
      obtain ⟨ti, ag, ao, asq, atm, aru, alv, aps, ast, apr, ava, aow, ago, agf, agt⟩ := x
      obtain ⟨Al, acl, hB1, _⟩ := hxo.rd
      simp only at hB1
      subst hB1
      obtain ⟨so, hso⟩ : ∃ so, so = spanO (⟨ag, ao, asq, atm, aru, .slice Al aps.length acl, aps, ast, apr, ava, aow, ago, agf, agt⟩ : ItV) := ⟨_, rfl⟩
      have KS : ∀ w', Below w.heap.size w w' → Calls Tryz.prog 36 #[.agg #[.bool ag, .int .u8 ao, .int .u64 asq, .int .u64 atm, .string aru, .slice Al aps.length acl, .int .u8 ast, .int .u8 apr, .int .i64 ava, .int .u8 aow, .int .u8 ago, .int .u64 agf, .int .u64 agt]] w' fun e w'' => e = .returned (.tuple #[.int .u8 so, .int .u64 (spanF (⟨ag, ao, asq, atm, aru, .slice Al aps.length acl, aps, ast, apr, ava, aow, ago, agf, agt⟩ : ItV)), .int .u64 (spanT (⟨ag, ao, asq, atm, aru, .slice Al aps.length acl, aps, ast, apr, ava, aow, ago, agf, agt⟩ : ItV))]) ∧ Below w'.heap.size w' w'' := fun w' h => by
        rw [hso]; exact itSpan ⟨ag, ao, asq, atm, aru, .slice Al aps.length acl, aps, ast, apr, ava, aow, ago, agf, agt⟩ w' (hxo.below h)
      have x0 := hat1.nth0 hb5 (k * 14) (.int .u64 ti) (e1 0 (by omega))
      have x1 := hat1.nth hb5 (k * 14) 1 (.bool ag) (e1 1 (by omega))
      have x2 := hat1.nth hb5 (k * 14) 2 (.int .u8 ao) (e1 2 (by omega))
      have x3 := hat1.nth hb5 (k * 14) 3 (.int .u64 asq) (e1 3 (by omega))
      have x4 := hat1.nth hb5 (k * 14) 4 (.int .u64 atm) (e1 4 (by omega))
      have x5 := hat1.nth hb5 (k * 14) 5 (.string aru) (e1 5 (by omega))
      have x6 := hat1.nth hb5 (k * 14) 6 (.slice Al aps.length acl) (e1 6 (by omega))
      have x7 := hat1.nth hb5 (k * 14) 7 (.int .u8 ast) (e1 7 (by omega))
      have x8 := hat1.nth hb5 (k * 14) 8 (.int .u8 apr) (e1 8 (by omega))
      have x9 := hat1.nth hb5 (k * 14) 9 (.int .i64 ava) (e1 9 (by omega))
      have x10 := hat1.nth hb5 (k * 14) 10 (.int .u8 aow) (e1 10 (by omega))
      have x11 := hat1.nth hb5 (k * 14) 11 (.int .u8 ago) (e1 11 (by omega))
      have x12 := hat1.nth hb5 (k * 14) 12 (.int .u64 agf) (e1 12 (by omega))
      have x13 := hat1.nth hb5 (k * 14) 13 (.int .u64 agt) (e1 13 (by omega))
      have hcr := cell_later hb5 hc
      have HAL := Lib.hid hal
      have HSO := Lib.hid hso
      obtain ⟨nl, hnl⟩ : ∃ nl, nl = aps.length := ⟨_, rfl⟩
      have HNL := Lib.hid hnl
      by_cases hsoo : so = o
      · have KX := ofX_no ti ag ao asq atm aru Al aps.length acl ast apr ava aow ago agf agt cl o _ _ wr hcr (fun w' h => by rw [← hsoo]; exact KS w' (hb5.trans (h.mono hb5.size)))
        rw [← hnl] at KX x6
        have HSOO := Lib.hid hsoo
        clear hx e1 hat1 hxo KS hso hal hsoo hnl hcr
        go_wp2_with fail
        (with_reducible refine KX.mono ?_)
        rintro e w2 ⟨rfl, hb2⟩
        have R2 := R1.grow hb2
        clear KX R1 hb2 hb5 x0 x1 x2 x3 x4 x5 x6 x7 x8 x9 x10 x11 x12 x13
        go_wp2_with fail
        refine ⟨⟨k + 1, by omega, by go_num, ?_, R2⟩, by simp [intOf]; omega⟩
        rw [take_snocL HX.out]
        intro y hy
        rcases List.mem_append.1 hy with hy | hy
        · exact HAL.out y hy
        · rw [List.mem_singleton.1 hy]; exact HSO.out.symm.trans HSOO.out
      · have KX := ofX_yes ti ag ao asq atm aru Al aps.length acl ast apr ava aow ago agf agt cl o so _ _ wr hsoo hcr (fun w' h => KS w' (hb5.trans (h.mono hb5.size)))
        rw [← hnl] at KX x6
        have HSOO := Lib.hid hsoo
        clear hx e1 hat1 hxo KS hso hal hsoo hnl hcr
        go_wp2_with fail
        (with_reducible refine KX.mono ?_)
        rintro e w2 ⟨rfl, hb2⟩
        have R2 := R1.grow hb2
        clear KX R1 hb2 hb5 x0 x1 x2 x3 x4 x5 x6 x7 x8 x9 x10 x11 x12 x13
        go_wp2_with fail
        go_ret
        exact ⟨⟨k, rfl, .inr ⟨k, _, rfl, HX.out, fun h => HSOO.out (HSO.out.trans h), HAL.out⟩⟩, R2.below⟩
    · have hkN : k = n := by omega
      subst hkN
      have HAL := Lib.hid hal
      clear hal
      go_wp2_with fail
      go_ret
      have htk : es.take k = es := by rw [HN.out]; exact List.take_length
      exact ⟨⟨-1, rfl, .inl ⟨rfl, fun x hx => HAL.out x (by rw [htk]; exact hx)⟩⟩, R1.below⟩

theorem take_filter_snoc {α : Type} (p : α → Bool) {es : List α} {j : Nat} {x : α} (h : es[j]? = some x) : (es.take (j + 1)).filter p = (es.take j).filter p ++ (if p x then [x] else []) := by
  rw [take_snocL h, List.filter_append]
  congr 1
  by_cases hp : p x <;> simp [hp]
set_option maxHeartbeats 8000000 in
theorem delF (A : Option Addr) (n c cl o : Nat) (es : List (Nat × ItV)) (w : World) (hn : n = es.length) (hP : (chTwo (chRow 41 14 (.slice A n c) n (es.flatMap en14)) (chTwo (chAll (es.map labRow)) (chBlk cl #[.int .u8 o] 5))).P w) (hnb : ∀ x ∈ es, x.2.nb) (hn9 : n ≤ 1000000) :
    Calls Tryz.prog 54 #[.slice A n c, .func (Fn.func 55) #[] #[.pointer (some ⟨cl, 0, none⟩)]] w fun e w' => ∃ A' k c', e = .returned (.slice A' k c') ∧ k = (es.filter fun x => spanO x.2 == o).length ∧
      Upd (chTwo (chRow 41 14 (.slice A n c) n (es.flatMap en14)) (chTwo (chAll (es.map labRow)) (chBlk cl #[.int .u8 o] 5))).fp w [chRd 14 (.slice A' k c') k ((es.filter fun x => spanO x.2 == o).flatMap en14) (by decide), chAll (es.map labRow), chBlk cl #[.int .u8 o] 5] w' := by
  obtain ⟨i0, hi, hz0, hz1, hz2⟩ := info_parts infoEntryO
  have U0 := (Upd.one _ w hP).unTwo
  replace U0 := (U0.pick [1, 0] (by decide)).unTwo.pick [2, 0, 1] (by decide)
  simp only [List.filterMap_cons, List.filterMap_nil, List.getElem?_cons_zero, List.getElem?_cons_succ] at U0
  obtain ⟨S, hS⟩ : ∃ S, S = (chTwo (chRow 41 14 (.slice A n c) n (es.flatMap en14)) (chTwo (chAll (es.map labRow)) (chBlk cl #[.int .u8 o] 5))).fp := ⟨_, rfl⟩
  rw [← hS] at U0 ⊢
  clear hS hP
  obtain ⟨p, hp⟩ : ∃ p : Nat × ItV → Bool, p = fun x => spanO x.2 == o := ⟨_, rfl⟩
  rw [← hp]
  have hpx : ∀ x, p x = (spanO x.2 == o) := fun x => by rw [hp]
  have KI := idxF A n c cl o es w hn (rd_of_owns (U0.row 0 rfl)) ((U0.blk 2 rfl).cell rfl) (fun x hx => (hnb x hx).ok (labs_rd (U0.all 1 rfl) x hx)) hn9
  have HN := Lib.hid hn
  have HNB := Lib.hid hnb
  have HPX := Lib.hid hpx
  clear hn hnb hp hpx
  go_enter Tryz.func54, Tryz.ntmps54
  go_wp2_with fail
  (with_reducible refine KI.mono ?_)
  rintro e w1 ⟨⟨r, rfl, hr⟩, hb1⟩
  have U1 := U0.grow hb1
  clear KI hb1 U0
  rcases hr with ⟨rfl, hall⟩ | ⟨k, x0_, rfl, hxk, hne, hpre⟩
  · have hfl : es.filter p = es := List.filter_eq_self.2 fun x hx => by rw [HPX.out]; simp [hall x hx]
    have HFL := Lib.hid hfl
    have U2 := U1.say (chRd 14 (.slice A n c) n (es.flatMap en14) (by decide)) (rd_of_owns (U1.row 0 rfl)) fun b hb => by
      show b ∈ (chRow 41 14 (.slice A n c) n (es.flatMap en14)).fp
      rw [chRow_fp]
      have hb : b ∈ rdFp (.slice A n c) n := hb
      unfold rdFp at hb
      split at hb
      · cases hb
      · simpa using hb
    have HU := Lib.hid U2
    clear U1 U2 hfl hall
    go_wp2_with fail
    go_ret
    exact ⟨A, n, c, rfl, by rw [HFL.out]; exact HN.out, by rw [HFL.out]; exact HU.out⟩
  · have hkn : k < n := by
      have := (List.getElem?_eq_some_iff.1 hxk).1
      have := HN.out
      omega
    obtain ⟨g, _, hgg, _, _⟩ := (U1.row 0 rfl).form (by omega)
    injection hgg with hgg _ hgc
    subst hgg hgc
    have hcc : n ≤ c ∧ c ≤ maxLen := by
      obtain ⟨_, _, he, _, h2, h3, _⟩ := rd_of_owns (U1.row 0 rfl)
      cases he
      exact ⟨h2, h3⟩
    unfold maxLen at hcc
    have wk : IntKind.i64.wrap ((k : Int) + 1) = (k : Int) + 1 := by rw [IntKind.wrap_i64]; omega
    have hkm : ((k : Int) == -1) = false := by rw [beq_eq_false_iff_ne]; omega
    have hF0 : (es.take (k + 1)).filter p = es.take k := by
      rw [take_filter_snoc p hxk, if_neg (by rw [HPX.out]; simpa using hne), List.append_nil]
      exact List.filter_eq_self.2 fun x hx => by rw [HPX.out]; simp [hpre x hx]
    have hF1 : ((es.take (k + 1)).filter p).length = k := by
      rw [hF0, List.length_take]
      have := HN.out
      omega
    have HF0 := Lib.hid hF0
    have HF1 := Lib.hid hF1
    clear hxk hne hpre hF0 hF1
    go_wp2_with fail
    go_loopw [5, 6] (fun iv jv wr => ∃ (i j : Nat) (L : List (Nat × ItV)), iv = .int .i64 i ∧ jv = .int .i64 j ∧ j ≤ n ∧ L.length = n ∧ i = ((es.take j).filter p).length ∧ i < j ∧ L.take i = (es.take j).filter p ∧ L.drop j = es.drop j ∧ Upd S w [chRow 41 14 (.slice (some ⟨g, 0, none⟩) n c) n (L.flatMap en14), chAll (es.map labRow), chBlk cl #[.int .u8 o] 5] wr) (fun _ jv _ => n - (intOf jv).toNat)
    case atStart => exact ⟨k, k + 1, es, rfl, by go_num, by omega, HN.out.symm, HF1.out.symm, by omega, HF0.out.symm, rfl, U1⟩
    case round =>
      obtain ⟨i, j, L, rfl, rfl, hjn, hL, hiF, hij, hLt, hLd, R1⟩ := hrel
      clear U1
      by_cases hjl : j < n
      · obtain ⟨x, hx⟩ : ∃ x, es[j]? = some x := ⟨_, List.getElem?_eq_getElem (by rw [← HN.out]; exact hjl)⟩
        have hxL : L[j]? = some x := by
          have := congrArg (·[0]?) hLd
          simp only [List.getElem?_drop, Nat.add_zero] at this
          rw [this]; exact hx
        obtain ⟨y, hy⟩ : ∃ y, L[i]? = some y := ⟨_, List.getElem?_eq_getElem (by omega)⟩
        have hrow := R1.row 0 rfl
        obtain ⟨_, _, he, _, _, _, h4⟩ := rd_of_owns hrow
        obtain ⟨b1, o1, he1, hat1⟩ := h4 (by omega)
        injection he with he hen hec
        rw [← he] at he1
        injection he1 with he1
        injection he1 with he1 he2 _
        subst he1 he2
        clear he hen hec
        have e1 := fun q hq => flat_at en14 14 (fun _ => rfl) L j x hxL q hq
        have e2 := fun q hq => flat_at en14 14 (fun _ => rfl) L i y hy q hq
        have hxo : x.2.ok wr := (HNB.out x (List.mem_of_getElem? hx)).ok (labs_rd (R1.all 1 rfl) x (List.mem_of_getElem? hx))
        have hcr : wr.cell? ⟨cl, 0, none⟩ = some (.int .u8 o) := (R1.blk 2 rfl).cell rfl
        have hbr := Below.refl wr.heap.size wr
        have HX := Lib.hid hx
        have HY := Lib.hid hy
        obtain ⟨ti, ag, ao, asq, atm, aru, alv, aps, ast, apr, ava, aow, ago, agf, agt⟩ := x
        obtain ⟨Al, acl, hB1, _⟩ := hxo.rd
        simp only at hB1
        subst hB1
        obtain ⟨so, hso⟩ : ∃ so, so = spanO (⟨ag, ao, asq, atm, aru, .slice Al aps.length acl, aps, ast, apr, ava, aow, ago, agf, agt⟩ : ItV) := ⟨_, rfl⟩
        have KS : ∀ w', Below wr.heap.size wr w' → Calls Tryz.prog 36 #[.agg #[.bool ag, .int .u8 ao, .int .u64 asq, .int .u64 atm, .string aru, .slice Al aps.length acl, .int .u8 ast, .int .u8 apr, .int .i64 ava, .int .u8 aow, .int .u8 ago, .int .u64 agf, .int .u64 agt]] w' fun e w'' => e = .returned (.tuple #[.int .u8 so, .int .u64 (spanF (⟨ag, ao, asq, atm, aru, .slice Al aps.length acl, aps, ast, apr, ava, aow, ago, agf, agt⟩ : ItV)), .int .u64 (spanT (⟨ag, ao, asq, atm, aru, .slice Al aps.length acl, aps, ast, apr, ava, aow, ago, agf, agt⟩ : ItV))]) ∧ Below w'.heap.size w' w'' := fun w' h => by
          rw [hso]; exact itSpan ⟨ag, ao, asq, atm, aru, .slice Al aps.length acl, aps, ast, apr, ava, aow, ago, agf, agt⟩ w' (hxo.below h)
        have HSO := Lib.hid hso
        have x0 := hat1.nth0 hbr (j * 14) (.int .u64 ti) (e1 0 (by omega))
        have x1 := hat1.nth hbr (j * 14) 1 (.bool ag) (e1 1 (by omega))
        have x2 := hat1.nth hbr (j * 14) 2 (.int .u8 ao) (e1 2 (by omega))
        have x3 := hat1.nth hbr (j * 14) 3 (.int .u64 asq) (e1 3 (by omega))
        have x4 := hat1.nth hbr (j * 14) 4 (.int .u64 atm) (e1 4 (by omega))
        have x5 := hat1.nth hbr (j * 14) 5 (.string aru) (e1 5 (by omega))
        have x6 := hat1.nth hbr (j * 14) 6 (.slice Al aps.length acl) (e1 6 (by omega))
        have x7 := hat1.nth hbr (j * 14) 7 (.int .u8 ast) (e1 7 (by omega))
        have x8 := hat1.nth hbr (j * 14) 8 (.int .u8 apr) (e1 8 (by omega))
        have x9 := hat1.nth hbr (j * 14) 9 (.int .i64 ava) (e1 9 (by omega))
        have x10 := hat1.nth hbr (j * 14) 10 (.int .u8 aow) (e1 10 (by omega))
        have x11 := hat1.nth hbr (j * 14) 11 (.int .u8 ago) (e1 11 (by omega))
        have x12 := hat1.nth hbr (j * 14) 12 (.int .u64 agf) (e1 12 (by omega))
        have x13 := hat1.nth hbr (j * 14) 13 (.int .u64 agt) (e1 13 (by omega))
        simp only [Nat.zero_add] at x0 x1 x2 x3 x4 x5 x6 x7 x8 x9 x10 x11 x12 x13
        have wj : IntKind.i64.wrap ((j : Int) + 1) = (j : Int) + 1 := by rw [IntKind.wrap_i64]; omega
        have wi : IntKind.i64.wrap ((i : Int) + 1) = (i : Int) + 1 := by rw [IntKind.wrap_i64]; omega
        have HLT := Lib.hid hLt
        have HLD := Lib.hid hLd
        have HIF := Lib.hid hiF
        have HL := Lib.hid hL
        have HAT := Lib.hid hat1
        have HE2 := Lib.hid e2
        have hglt := hrow.lt g rfl
        clear hx hxL e1 e2 hat1 h4 hxo hrow hso hLt hLd hiF hL hy hkm hkn wk
        go_wp2_with fail
        refine calls_genP fun w3 hw3 => ?_
        have U3 := (R1.alloc #[.int .u64 ti, .bool ag, .int .u8 ao, .int .u64 asq, .int .u64 atm, .string aru, .slice Al aps.length acl, .int .u8 ast, .int .u8 apr, .int .i64 ava, .int .u8 aow, .int .u8 ago, .int .u64 agf, .int .u64 agt] 41).same hw3
        have hb3 : Below wr.heap.size wr w3 := by rw [hw3]; exact (Below.refl _ _).alloc (Nat.le_refl _) _
        clear hw3 x0 x1 x2 x3 x4 x5 x6 x7 x8 x9 x10 x11 x12 x13 hbr
        have hc3 := cell_later hb3 hcr
        by_cases hsoo : so = o
        · have KX := ofX_no ti ag ao asq atm aru Al aps.length acl ast apr ava aow ago agf agt cl o _ _ w3 hc3 (fun w' h => by rw [← hsoo]; exact KS w' (hb3.trans (h.mono hb3.size)))
          have hpt : p (ti, (⟨ag, ao, asq, atm, aru, .slice Al aps.length acl, aps, ast, apr, ava, aow, ago, agf, agt⟩ : ItV)) = true := by rw [HPX.out]; simp only [← HSO.out, hsoo, beq_self_eq_true]
          have HPT := Lib.hid hpt
          clear KS hsoo hpt hc3 hcr hb3
          (with_reducible refine KX.mono ?_)
          rintro e w4 ⟨rfl, hb4⟩
          have U4 := U3.grow hb4
          clear KX U3 hb4
          have hown4 := U4.row 1 rfl
          obtain ⟨tj, bg, bo, bsq, btm, bru, blv, bps, bst, bpr, bva, bow, bgo, bgf, bgt⟩ := y
          have y0 : w4.cell? ⟨g, i * 14, none⟩ = some (.int .u64 tj) := (hown4.cellAt (i * 14 + 0) (by omega)).trans (HE2.out 0 (by omega))
          have y1 : w4.cell? ⟨g, i * 14 + 1, none⟩ = some (.bool bg) := (hown4.cellAt (i * 14 + 1) (by omega)).trans (HE2.out 1 (by omega))
          have y2 : w4.cell? ⟨g, i * 14 + 2, none⟩ = some (.int .u8 bo) := (hown4.cellAt (i * 14 + 2) (by omega)).trans (HE2.out 2 (by omega))
          have y3 : w4.cell? ⟨g, i * 14 + 3, none⟩ = some (.int .u64 bsq) := (hown4.cellAt (i * 14 + 3) (by omega)).trans (HE2.out 3 (by omega))
          have y4 : w4.cell? ⟨g, i * 14 + 4, none⟩ = some (.int .u64 btm) := (hown4.cellAt (i * 14 + 4) (by omega)).trans (HE2.out 4 (by omega))
          have y5 : w4.cell? ⟨g, i * 14 + 5, none⟩ = some (.string bru) := (hown4.cellAt (i * 14 + 5) (by omega)).trans (HE2.out 5 (by omega))
          have y6 : w4.cell? ⟨g, i * 14 + 6, none⟩ = some (blv) := (hown4.cellAt (i * 14 + 6) (by omega)).trans (HE2.out 6 (by omega))
          have y7 : w4.cell? ⟨g, i * 14 + 7, none⟩ = some (.int .u8 bst) := (hown4.cellAt (i * 14 + 7) (by omega)).trans (HE2.out 7 (by omega))
          have y8 : w4.cell? ⟨g, i * 14 + 8, none⟩ = some (.int .u8 bpr) := (hown4.cellAt (i * 14 + 8) (by omega)).trans (HE2.out 8 (by omega))
          have y9 : w4.cell? ⟨g, i * 14 + 9, none⟩ = some (.int .i64 bva) := (hown4.cellAt (i * 14 + 9) (by omega)).trans (HE2.out 9 (by omega))
          have y10 : w4.cell? ⟨g, i * 14 + 10, none⟩ = some (.int .u8 bow) := (hown4.cellAt (i * 14 + 10) (by omega)).trans (HE2.out 10 (by omega))
          have y11 : w4.cell? ⟨g, i * 14 + 11, none⟩ = some (.int .u8 bgo) := (hown4.cellAt (i * 14 + 11) (by omega)).trans (HE2.out 11 (by omega))
          have y12 : w4.cell? ⟨g, i * 14 + 12, none⟩ = some (.int .u64 bgf) := (hown4.cellAt (i * 14 + 12) (by omega)).trans (HE2.out 12 (by omega))
          have y13 : w4.cell? ⟨g, i * 14 + 13, none⟩ = some (.int .u64 bgt) := (hown4.cellAt (i * 14 + 13) (by omega)).trans (HE2.out 13 (by omega))
          have yf := hown4.frozenAt
          have c0 := (U4.blk 0 rfl).cell (j := 0) (v := .int .u64 ti) rfl
          have c1 := (U4.blk 0 rfl).cell (j := 1) (v := .bool ag) rfl
          have c2 := (U4.blk 0 rfl).cell (j := 2) (v := .int .u8 ao) rfl
          have c3 := (U4.blk 0 rfl).cell (j := 3) (v := .int .u64 asq) rfl
          have c4 := (U4.blk 0 rfl).cell (j := 4) (v := .int .u64 atm) rfl
          have c5 := (U4.blk 0 rfl).cell (j := 5) (v := .string aru) rfl
          have c6 := (U4.blk 0 rfl).cell (j := 6) (v := .slice Al aps.length acl) rfl
          have c7 := (U4.blk 0 rfl).cell (j := 7) (v := .int .u8 ast) rfl
          have c8 := (U4.blk 0 rfl).cell (j := 8) (v := .int .u8 apr) rfl
          have c9 := (U4.blk 0 rfl).cell (j := 9) (v := .int .i64 ava) rfl
          have c10 := (U4.blk 0 rfl).cell (j := 10) (v := .int .u8 aow) rfl
          have c11 := (U4.blk 0 rfl).cell (j := 11) (v := .int .u8 ago) rfl
          have c12 := (U4.blk 0 rfl).cell (j := 12) (v := .int .u64 agf) rfl
          have c13 := (U4.blk 0 rfl).cell (j := 13) (v := .int .u64 agt) rfl
          have n1 : g ≠ wr.heap.size := by omega
          have n2 : wr.heap.size ≠ g := by omega
          clear hown4
          go_wp2_with fail
          have U5 := U4.putEl 1 rfl (fun _ => rfl) i (by rw [HL.out]; omega) (ti, (⟨ag, ao, asq, atm, aru, .slice Al aps.length acl, aps, ast, apr, ava, aow, ago, agf, agt⟩ : ItV)) _ rfl
          have U6 := U5.pick [0, 2, 3] (by decide)
          simp only [List.filterMap_cons, List.filterMap_nil, List.getElem?_cons_zero, List.getElem?_cons_succ, List.eraseIdx_cons_succ, List.eraseIdx_cons_zero] at U6
          have e9 := take_filter_snoc p HX.out
          rw [if_pos HPT.out] at e9
          refine ⟨⟨i + 1, j + 1, L.set i (ti, (⟨ag, ao, asq, atm, aru, .slice Al aps.length acl, aps, ast, apr, ava, aow, ago, agf, agt⟩ : ItV)), by go_num, by go_num, by omega, by rw [List.length_set]; exact HL.out, by rw [e9, List.length_append, ← HIF.out]; rfl, by omega, ?_, ?_, U6⟩, by simp [intOf]; omega⟩
          · rw [e9, ← HLT.out, List.take_succ_eq_append_getElem (by rw [List.length_set, HL.out]; omega), List.getElem_set_self, List.take_set_of_le (Nat.le_refl _)]
          · rw [List.drop_set_of_lt (by omega)]
            have := congrArg (List.drop 1) HLD.out
            simpa only [List.drop_drop, Nat.add_comm 1] using this
        · have KX := ofX_yes ti ag ao asq atm aru Al aps.length acl ast apr ava aow ago agf agt cl o so _ _ w3 hsoo hc3 (fun w' h => KS w' (hb3.trans (h.mono hb3.size)))
          have hpt : p (ti, (⟨ag, ao, asq, atm, aru, .slice Al aps.length acl, aps, ast, apr, ava, aow, ago, agf, agt⟩ : ItV)) = false := by rw [HPX.out]; simp only [← HSO.out]; simpa using hsoo
          have HPT := Lib.hid hpt
          clear KS hsoo hpt hc3 hcr hb3
          (with_reducible refine KX.mono ?_)
          rintro e w4 ⟨rfl, hb4⟩
          have U4 := (U3.grow hb4).drop 0
          simp only [List.eraseIdx_cons_zero] at U4
          clear KX U3 hb4
          go_wp2_with fail
          have e9 := take_filter_snoc p HX.out
          rw [if_neg (by rw [HPT.out]; exact Bool.false_ne_true), List.append_nil] at e9
          refine ⟨⟨i, j + 1, L, rfl, by go_num, by omega, HL.out, by rw [e9]; exact HIF.out, by omega, by rw [e9]; exact HLT.out, ?_, U4⟩, by simp [intOf]; omega⟩
          have := congrArg (List.drop 1) HLD.out
          simpa only [List.drop_drop, Nat.add_comm 1] using this
      · have hjN : j = n := by omega
        subst hjN
        have hrow := R1.row 0 rfl
        have hsl : (i : Int) ≤ (j : Int) := by omega
        have hsc : (i : Int) ≤ (c : Int) := by omega
        have HLT := Lib.hid hLt
        have HLD := Lib.hid hLd
        have HIF := Lib.hid hiF
        have HL := Lib.hid hL
        clear hLt hLd hiF hL hkm hkn wk
        have hci : ¬ c = i := by omega
        obtain ⟨vs, hvs, hrun⟩ := run_clear_rows (P := Tryz.prog) wr 24 41 0 i0 _ 14 Tryz.underlying24 hi hz0 rfl (by decide) (fun u hu => List.all_eq_true.1 oneE14 u hu) g (i * 14) (j - i) (c - i) (fun q hq => by
          rw [hrow.cellAt (i * 14 + q) (by rw [Nat.sub_mul] at hq; omega)]
          have hfl : (L.flatMap en14).length = j * 14 := hrow.1
          rw [List.getElem?_eq_getElem (by rw [hfl]; rw [Nat.sub_mul] at hq; omega)]
          rfl) (fun q _ => hrow.frozenAt _)
        obtain ⟨W2, hW2⟩ : ∃ W2, W2 = wr.setCells g (i * 14) vs := ⟨_, rfl⟩
        rw [← hW2] at hrun
        have HW2 := Lib.hid hW2
        clear hW2 hvs
        go_wp2_with fail
        obtain ⟨m1, m2, m3, m4, m5⟩ := setCells_mod g vs (i * 14) wr
        rw [← HW2.out] at m1 m2 m3 m4 m5
        have htk : es.take j = es := by rw [HN.out]; exact List.take_length
        have hfe : es.filter p = L.take i := by rw [HLT.out, htk]
        have hlen : (L.take i).length = i := by rw [List.length_take, HL.out]; omega
        have hlc : ((L.take i).flatMap en14).length = i * 14 := by
          have hfl : ∀ l : List (Nat × ItV), (l.flatMap en14).length = l.length * 14 := fun l => by
            induction l with
            | nil => rfl
            | cons a r ih => rw [List.flatMap_cons, List.length_append, ih, List.length_cons, Nat.succ_mul, Nat.add_comm]; rfl
          rw [hfl, hlen]
        have hcw : c ≤ maxLen := by unfold maxLen; omega
        have hrd : Rd W2 14 (.slice (some ⟨g, 0, none⟩) i c) i ((L.take i).flatMap en14) := by
          refine ⟨_, _, rfl, hlc, by omega, hcw, fun _ => ⟨g, 0, rfl, fun q u hu => ?_⟩⟩
          have hq : q < i * 14 := by rw [← hlc]; exact (List.getElem?_eq_some_iff.1 hu).1
          rw [HW2.out, World.cell?_setCells_out g vs (i * 14) wr ⟨g, 0 + q, none⟩ (fun _ _ => .inl (by show 0 + q < _; omega)), Nat.zero_add, hrow.cellAt q (by omega)]
          rw [← List.take_append_drop i L, List.flatMap_append, List.getElem?_append_left (by rw [hlc]; exact hq)]
          exact hu
        have hu : Upd (chRow 41 14 (.slice (some ⟨g, 0, none⟩) j c) j (L.flatMap en14)).fp wr [chRd 14 (.slice (some ⟨g, 0, none⟩) i c) i ((L.take i).flatMap en14) (by decide)] W2 := by
          refine ⟨m1, m2, m3, by omega, fun x _ hne => m5 x fun e => hne (by rw [e, chRow_fp]; rfl), fun q hq => by rw [List.mem_singleton.1 hq]; exact hrd, fun q hq x hx => ?_, by simp⟩
          rw [List.mem_singleton.1 hq] at hx
          have hx : x ∈ rdFp (.slice (some ⟨g, 0, none⟩) i c) i := hx
          unfold rdFp at hx
          split at hx
          · cases hx
          · have hx2 : (Value.slice (some ⟨g, 0, none⟩) i c).ownBlock = some x := by simpa using hx
            exact .inl (by rw [chRow_fp]; exact hx2)
        have U2 := R1.turn 0 rfl hu
        simp only [List.eraseIdx_cons_zero, List.cons_append, List.nil_append] at U2
        clear hrun hu hrd R1 hrow m1 m2 m3 m4 m5
        go_ret
        exact ⟨_, i, c, rfl, by rw [hfe, hlen], by rw [hfe]; exact U2⟩
/-- What of Of is left over. -/
theorem lOf (g n o : Nat) (jv lv : Value) (s : LSt) (es : List (Nat × ItV)) (w : World) (hnn : n = es.length) (hP : (chE g jv lv s es).P w) (hn : n ≤ 1000000) (hps : ∀ x ∈ es, x.2.nb ∧ x.2.ps.length ≤ 1000000) :
    Calls Tryz.prog 26 #[.pointer (some ⟨g, 0, none⟩), .int .u8 o] w fun e w' => ∃ (A : Option Addr) (c : Nat) (es' : List (Nat × ItV)), e = .returned (.slice A (es'.filter fun x => spanO x.2 == o).length c) ∧ es'.map strip = es.map strip ∧
      Upd [] w [chRd 14 (.slice A (es'.filter fun x => spanO x.2 == o).length c) (es'.filter fun x => spanO x.2 == o).length ((es'.filter fun x => spanO x.2 == o).flatMap en14) (by decide), chAll (es'.map labRow)] w' := by
  have HNB := Lib.hid hps
  have HNN := Lib.hid hnn
  have HP := Lib.hid hP
  clear hps hnn hP
  go_enter Tryz.func26, Tryz.ntmps26
  go_wp2_with fail
  refine calls_genP fun w1 hw1 => ?_
  have U1 := ((Upd.nil [] w).alloc #[.int .u8 o] 5).same hw1
  have hP1 : (chE g jv lv s es).P w1 := (((Upd.one _ w HP.out).alloc #[.int .u8 o] 5).same hw1).get 1 rfl
  have KL := lList g n jv lv s es w1 HNN.out hP1 hn (fun x hx => by have := (HNB.out x hx).2; omega)
  obtain ⟨cl, hcl⟩ : ∃ cl, cl = w.heap.size := ⟨_, rfl⟩
  rw [← hcl] at U1 ⊢
  clear hw1 hP1 hcl
  (with_reducible refine KL.mono ?_)
  rintro e w2 ⟨A, c, es2, rfl, hst, hU⟩
  have U2 := U1.call hU
  simp only [List.cons_append, List.nil_append] at U2
  replace U2 := ((U2.pick [1, 2, 0] (by decide)).two.pick [1, 0] (by decide)).two
  have hn2 : n = es2.length := by
    have h5 := congrArg List.length hst
    simp only [List.length_map] at h5
    rw [h5]; exact HNN.out
  have hnb2 := nb_strips (hst.trans rfl) (fun x hx => by
    obtain ⟨y, hy, rfl⟩ := List.mem_map.1 hx
    have := HNB.out y hy
    exact ⟨⟨this.1.o, this.1.sq, this.1.tm, this.1.ru, this.1.pz, this.1.st, this.1.pr, this.1.va, this.1.ow, this.1.go, this.1.gf, this.1.gt⟩, this.2⟩)
  have hP2 := U2.get 0 rfl
  rw [← hn2] at hP2 U2
  have KD := delF A n c cl o es2 w2 hn2 hP2 (fun x hx => (hnb2 x hx).1) hn
  have HST := Lib.hid hst
  clear KL hU U1 hst hn2 hnb2 hP2
  go_wp2_with fail
  (with_reducible refine KD.mono ?_)
  rintro e w3 ⟨A', k, c', rfl, hk, hU3⟩
  have U3 := U2.turn 0 rfl hU3
  simp only [List.eraseIdx_cons_zero, List.cons_append, List.nil_append] at U3
  have HK := Lib.hid hk
  clear KD hU3 U2 hk
  go_wp2_with fail
  go_ret
  have hk := HK.out
  subst hk
  exact ⟨A', c', es2, rfl, HST.out, U3.drop 2⟩
end Go.Proofs.YtdmdfccadjfpiaaGreat
namespace Go.Proofs.YtdmdfccadjfpiaaGreat
set_option maxRecDepth 100000

theorem takeL_take {l x : List UInt8} (h : takeL l = some x) : l.take (x.length + 8) = layL x := by
  have h8 := takeL_len h
  obtain ⟨x0, x1, x2, x3, x4, x5, x6, x7, r, rfl⟩ := take8 l (by omega)
  simp only [takeL] at h
  split at h
  · cases h
  · rename_i hc
    split at h
    · rename_i hs
      injection h with h
      have hxl : x.length = unfour x0.toNat x1.toNat x2.toNat x3.toNat := by rw [← h, List.length_take]; omega
      unfold layL
      rw [hxl, unfour_four, ← h, hs, unfour_four]
      rfl
    · cases h
theorem scan_lay_take (k : Nat) : ∀ l : List UInt8, l.length ≤ k → l.take (lenR (scanL l)) = layAll (scanL l) := by
  induction k with
  | zero =>
    intro l hl
    have : l = [] := List.length_eq_zero_iff.1 (by omega)
    subst this
    rw [scanL_none (takeL_short (by decide))]
    rfl
  | succ k ih =>
    intro l hl
    cases hx : takeL l with
    | none => rw [scanL_none hx]; rfl
    | some x =>
      have h8 := takeL_len hx
      rw [scanL_some hx, layAll_cons, ← takeL_take hx]
      have := ih (l.drop (x.length + 8)) (by rw [List.length_drop]; omega)
      rw [← this]
      show l.take (x.length + 8 + lenR _) = _
      rw [List.take_add]
end Go.Proofs.YtdmdfccadjfpiaaGreat
namespace Go.Proofs.YtdmdfccadjfpiaaGreat
open Go.RowKit FreeNew
set_option maxRecDepth 100000
attribute [local go_sem] out

set_option maxHeartbeats 1000000 in
theorem diskCutF (d m n : Nat) (fs : List FileV) (s : ByteArray) (f : FileV) (w : World) (hD : DiskAt w d m fs) (hf : findF fs s = some f) (hn : n ≤ f.bytes.length) :
    Calls Tryz.prog 71 #[.pointer (some ⟨d, 0, none⟩), .string s, .int .i64 n] w fun e w' => e = .returned (.int .i64 0) ∧ (∃ v, DiskAt w' d m (putF fs ⟨s, v, f.bytes.take n, min f.synced n⟩) ∧ ∀ g, v.ownBlock = some g → w.heap.size ≤ g) ∧ Mod [d, m] w w' := by
  have hH := diskHas d m fs s w hD
  rw [hf] at hH
  have hD0 := hD
  obtain ⟨hmem, rfl⟩ := findF_mem hf
  have HF := Lib.hid hf
  clear hD hf
  go_enter Tryz.func71, Tryz.ntmps71
  go_wp2_with fail
  (with_reducible refine hH.mono ?_)
  rintro e w1 ⟨rfl, hb1⟩
  have hD1 := hD0.below hb1
  have hD1' := hD1
  have c0 := hD1.cell0
  obtain ⟨⟨ca, cb, hblk⟩, ⟨es, c, h2, h3⟩, hg⟩ := hD1
  have hl := look_no h2 h3 f.name
  obtain ⟨hr, hsy, hfl⟩ := hg f hmem
  unfold lookF at hl
  rw [HF.out] at hl
  simp only at hl
  have hr0 := hr
  obtain ⟨A, c9, hv, hvl, hvc, hvm, _⟩ := hr
  rw [hv] at hl hr0
  unfold maxLen at hvm
  have HV := Lib.hid hv
  clear hv hmem hvl hg hD0 hH
  go_wp2_with fail
  refine wp_gen fun w2 hw2 => ?_
  have hb2 : Below w1.heap.size w1 w2 := by rw [hw2]; exact (Below.refl _ _).alloc (Nat.le_refl _) _
  have hB2 : Blk w2 w1.heap.size #[.slice A f.bytes.length c9, .int .i64 f.synced] 124 := by rw [hw2]; exact Blk.new _ _ _
  have hD2 := hD1'.below hb2
  have hr2 := hr0.below hb2
  have hM2 : Mod [d, m] w w2 := (Mod.of_below hb1).trans (Mod.of_below hb2)
  have F : ∀ w', Below w2.heap.size w2 w' → w'.cell? ⟨d, 0, none⟩ = some (.map (some m)) ∧ w'.cell? ⟨w1.heap.size, 0, none⟩ = some (.slice A f.bytes.length c9) ∧ w'.cell? ⟨w1.heap.size, 1, none⟩ = some (.int .i64 f.synced) := fun w' h =>
    ⟨(hD2.below h).cell0, (hB2.below h hB2.lt).cell rfl, (hB2.below h hB2.lt).cell rfl⟩
  have hnc : n ≤ c9 := by omega
  obtain ⟨mn, hmn⟩ : ∃ mn, mn = min f.synced n := ⟨_, rfl⟩
  have emin : (if n < f.synced then (n : Int) else (f.synced : Int)) = (mn : Int) := by rw [hmn]; split <;> omega
  have eminM : min (f.synced : Int) (n : Int) = (mn : Int) := by rw [hmn]; omega
  have HMN := Lib.hid hmn
  clear hmn
  clear hw2 c0 hblk h2 h3 hl hD1' hb1 hb2 hr0
  refine region_free (fun w' => Below w2.heap.size w2 w') [9, 14] [15] [0, 1, 2, 3, 4, 5, 6, 7, 8, 9, 10, 11, 12, 13, 14] (by kernel_rfl) (by kernel_rfl) (by kernel_rfl) (Below.refl _ _).drew ?_
  repeat (first
    | (refine RelSeq.pure_ (c := ?_) rfl rfl ?_ ?_; rotate_left; (focus (intro x w'; dsimp only; go_simp; (repeat' apply And.intro) <;> first | with_reducible rfl | assumption)); simp only [Act.put, List.setIfInBounds_toArray, List.set_cons_zero, List.set_cons_succ])
    | (refine RelSeq.skip_ rfl (fun _ => rfl) ?_; simp only [Act.put, List.setIfInBounds_toArray, List.set_cons_zero, List.set_cons_succ])
    | (refine RelSeq.pureG_ (c := ?_) rfl (fun _ => rfl) rfl ?_ ?_; rotate_left; (focus (intro x w'; dsimp only; go_simp; (repeat' apply And.intro) <;> first | with_reducible rfl | assumption)); simp only [Act.put, List.setIfInBounds_toArray, List.set_cons_zero, List.set_cons_succ])
    | (refine RelSeq.grow_ (c := ?_) rfl rfl ?_ ?_; rotate_left; (focus (intro x w' hw _; dsimp only; obtain ⟨d0, d1, d2⟩ := F w' hw; have hbr := Below.refl w'.heap.size w'; go_simp; (repeat' apply And.intro) <;> first | with_reducible rfl | assumption)); simp only [Act.put, List.setIfInBounds_toArray, List.set_cons_zero, List.set_cons_succ])
    | (refine RelSeq.growG_ (c := ?_) rfl (fun _ => rfl) rfl ?_ ?_; rotate_left; (focus (intro x w' hw _; dsimp only; obtain ⟨d0, d1, d2⟩ := F w' hw; have hbr := Below.refl w'.heap.size w'; go_simp; (repeat' apply And.intro) <;> first | with_reducible rfl | assumption)); simp only [Act.put, List.setIfInBounds_toArray, List.set_cons_zero, List.set_cons_succ]))
  refine RelSeq.rel_ (fun v u => ∃ A c, v = .slice A n c ∧ Rd u 1 v n (u8L (f.bytes.take n)) ∧ ∀ g, v.ownBlock = some g → w2.heap.size ≤ g) rfl rfl (fun v u u' h hb => let ⟨A, c, h1, h2, h3⟩ := h; ⟨A, c, h1, h2.below hb, h3⟩) ?_ ?_
  focus
    intro x w' hw _; dsimp only
    have hp := (hr2.below hw).pre hn
    rw [u8L_pre] at hp
    have hln : (f.bytes.take n).length = n := by simp; omega
    have hp2 : Rd w' 1 (.slice A n c9) (f.bytes.take n).length (u8L (f.bytes.take n)) := by rw [hln]; exact hp
    have hC := clone8 _ _ w' hp2 (by rw [hln]; omega)
    rw [hln] at hC
    clear F hp hp2 hln
    go_simp
    (with_reducible refine hC.mono ?_)
    rintro e w9 ⟨v9, rfl, hv9, hb9⟩
    have hr9 := rd_of_owns hv9
    obtain ⟨A9, c9', rfl⟩ := owns_slice hv9
    have hw9 := hw.trans (hb9.mono hw.size)
    have hg9 : ∀ g, (Value.slice A9 n c9').ownBlock = some g → w2.heap.size ≤ g := fun g hg => Nat.le_trans hw.size (owns_ge hv9 g hg)
    clear hv9 hC
    go_simp
    all_goals ((repeat' apply And.intro) <;> first | assumption | exact ⟨_, _, rfl, hr9, hg9⟩ | with_reducible rfl | decide)
  simp only [Act.put, List.setIfInBounds_toArray, List.set_cons_zero, List.set_cons_succ, List.nil_append]
  repeat (first
    | (refine RelSeq.pure_ (c := ?_) rfl rfl ?_ ?_; rotate_left; (focus (intro x w'; dsimp only; go_simp; (repeat' apply And.intro) <;> first | with_reducible rfl | assumption)); simp only [Act.put, List.setIfInBounds_toArray, List.set_cons_zero, List.set_cons_succ])
    | (refine RelSeq.skip_ rfl (fun _ => rfl) ?_; simp only [Act.put, List.setIfInBounds_toArray, List.set_cons_zero, List.set_cons_succ])
    | (refine RelSeq.pureG_ (c := ?_) rfl (fun _ => rfl) rfl ?_ ?_; rotate_left; (focus (intro x w'; dsimp only; go_simp; (repeat' apply And.intro) <;> first | with_reducible rfl | assumption)); simp only [Act.put, List.setIfInBounds_toArray, List.set_cons_zero, List.set_cons_succ])
    | (refine RelSeq.grow_ (c := ?_) rfl rfl ?_ ?_; rotate_left; (focus (intro x w' hw _; dsimp only; obtain ⟨d0, d1, d2⟩ := F w' hw; have hbr := Below.refl w'.heap.size w'; go_simp; (repeat' apply And.intro) <;> first | with_reducible rfl | assumption)); simp only [Act.put, List.setIfInBounds_toArray, List.set_cons_zero, List.set_cons_succ])
    | (refine RelSeq.growG_ (c := ?_) rfl (fun _ => rfl) rfl ?_ ?_; rotate_left; (focus (intro x w' hw _; dsimp only; obtain ⟨d0, d1, d2⟩ := F w' hw; have hbr := Below.refl w'.heap.size w'; go_simp; (repeat' apply And.intro) <;> first | with_reducible rfl | assumption)); simp only [Act.put, List.setIfInBounds_toArray, List.set_cons_zero, List.set_cons_succ]))
  refine RelSeq.rel_ (fun v u => ∃ A c, v = .agg #[.slice A n c, .int .i64 mn] ∧ Rd u 1 (.slice A n c) n (u8L (f.bytes.take n)) ∧ ∀ g, (Value.slice A n c).ownBlock = some g → w2.heap.size ≤ g) rfl rfl (fun v u u' h hb => let ⟨A, c, h1, h2, h3⟩ := h; ⟨A, c, h1, h2.below hb, h3⟩) ?_ ?_
  focus
    intro x w' hw hfa; dsimp only
    obtain ⟨A9, c9', e9, h9, hg9⟩ := hfa _ (.head _) (by kernel_rfl)
    rw [e9] at h9 hg9
    have hbr := Below.refl w'.heap.size w'
    clear F
    go_simp
    all_goals ((repeat' apply And.intro) <;> first | assumption | exact ⟨_, _, rfl, h9, hg9⟩ | exact ⟨_, _, ⟨rfl, rfl⟩, h9, hg9⟩ | exact ⟨_, _, ⟨⟨rfl, rfl⟩, eminM⟩, h9, hg9⟩ | with_reducible rfl | decide)
  simp only [Act.put, List.setIfInBounds_toArray, List.set_cons_zero, List.set_cons_succ, List.nil_append, List.cons_append]
  refine RelSeq.nil_ fun x w3 hw3 hfa _ => ?_
  obtain ⟨A9, c9', e9, h9, hg9⟩ := hfa _ (.tail _ (.head _))
  have hD3 := hD2.below hw3
  have hD3' := hD3
  have HG9 := Lib.hid hg9
  have hszW := hM2.size
  have HSZ := Lib.hid hszW
  clear hg9 hszW
  have hM3 := hM2.trans (Mod.of_below hw3)
  obtain ⟨⟨ca, cb, hblk⟩, ⟨es, c, h2, h3⟩, hg⟩ := hD3
  obtain ⟨es', clock', hup, he'⟩ := upd_run h2 h3 hD3'.stamp ⟨f.name, .slice A9 n c9', f.bytes.take n, mn⟩
  simp only at hup
  have hmd := setMap_mod w3 m (.map es' clock')
  have hat := setMap_at (o := .map es' clock') h2
  clear F hw3 hD2 hM2 hB2 hfa
  refine TailSeq.cons_ rfl ?_
  go_simp
  generalize setMap w3 m (.map es' clock') = w4 at hmd hat ⊢
  refine TailSeq.nil_ ?_
  have hdm := hD3'.ne
  have hblk4 := hmd.blk hblk (by simpa using hdm)
  have hM34 : Mod [d, m] w3 w4 := hmd.mono (by simp)
  have hln : (f.bytes.take n).length = n := by simp; omega
  have hR3 : Rd w3 1 (.slice A9 n c9') (f.bytes.take n).length (u8L (f.bytes.take n)) := by rw [hln]; exact h9
  have hD4 := hD3'.put (g := ⟨f.name, .slice A9 n c9', f.bytes.take n, mn⟩) hM34 ⟨_, _, hblk4⟩ ⟨_, _, hat, he'⟩ ⟨hD3'.rd hM34 hR3, by show mn ≤ (f.bytes.take n).length; rw [hln, HMN.out]; omega, by show (f.bytes.take n).length ≤ _; rw [hln]; omega⟩
  have hM4 := hM3.trans hM34
  rw [HMN.out] at hD4
  clear hup h2 h3 hg hblk hmd hblk4 hat hM34 hD3' hM3 hln hR3 h9 emin eminM
  go_wp2_with fail
  go_ret
  exact ⟨rfl, ⟨_, hD4, fun g hg => Nat.le_trans HSZ.out (HG9.out g hg)⟩, hM4⟩

end Go.Proofs.YtdmdfccadjfpiaaGreat
namespace Go.Proofs.YtdmdfccadjfpiaaGreat
open Go.RowKit
set_option maxRecDepth 100000

theorem chDT_of_mod {d m b : Nat} {f g : FileV} {w w' : World} (hP : (chDT d m b [f]).P w) (hD : DiskAt w' d m [g]) (hM : Mod [d, m] w w') (hv : ∀ q, g.val.ownBlock = some q → w.heap.size ≤ q) : Upd (chDT d m b [f]).fp w [chDT d m b [g]] w' := by
  have hbd := hP.2.2
  have hbl := hP.1.ltA
  refine ⟨hM.os, hM.tape, hM.output, hM.size, fun x hx hne => hM.block x hx fun hm => hne ?_, fun q hq => ?_, fun q hq x hx => ?_, by simp⟩
  · show x ∈ b :: d :: m :: _
    simp only [List.mem_cons, List.not_mem_nil, or_false] at hm ⊢
    rcases hm with h | h <;> simp [h]
  · rw [List.mem_singleton.1 hq]
    exact ⟨hP.1.locA (hM.block b hbl hbd), hD, hbd⟩
  · rw [List.mem_singleton.1 hq] at hx
    have hx : x ∈ b :: d :: m :: filesFp [g] := hx
    simp only [List.mem_cons] at hx
    rcases hx with h | h | h | hx
    · rw [h]; exact .inl (.head _)
    · rw [h]; exact .inl (.tail _ (.head _))
    · rw [h]; exact .inl (.tail _ (.tail _ (.head _)))
    · obtain ⟨f, hf, hx⟩ := mem_filesFp.1 hx
      rw [List.mem_singleton.1 hf] at hx
      exact .inr (fresh_val hv x hx)
theorem chDT_synced {d m b : Nat} {s : ByteArray} {v : Value} {bs : List UInt8} {k k' : Nat} {w w' : World} (hP : (chDT d m b [⟨s, v, bs, k⟩]).P w) (hD : DiskAt w' d m [⟨s, v, bs, k'⟩]) (hM : Mod [d, m] w w') : Upd (chDT d m b [⟨s, v, bs, k⟩]).fp w [chDT d m b [⟨s, v, bs, k'⟩]] w' := by
  have hbd := hP.2.2
  have hbl := hP.1.ltA
  refine ⟨hM.os, hM.tape, hM.output, hM.size, fun x hx hne => hM.block x hx fun hm => hne ?_, fun q hq => ?_, fun q hq x hx => ?_, by simp⟩
  · show x ∈ b :: d :: m :: _
    simp only [List.mem_cons, List.not_mem_nil, or_false] at hm ⊢
    rcases hm with h | h <;> simp [h]
  · rw [List.mem_singleton.1 hq]
    exact ⟨hP.1.locA (hM.block b hbl hbd), hD, hbd⟩
  · rw [List.mem_singleton.1 hq] at hx
    exact .inl hx
/-- Open of a file that a crash left: its right records, and the file is cut behind them. -/
theorem jOpenTorn (d m b : Nat) (s : ByteArray) (v : Value) (R : List UInt8) (rs : List (List UInt8)) (w : World) (hP : (chDT d m b [⟨s, v, R, R.length⟩]).P w) (hsc : scanL R = rs) (hrs : ∀ r ∈ rs, r.length ≤ 524288) :
    Calls Tryz.prog 44 #[.pointer (some ⟨d, 0, none⟩), .pointer (some ⟨b, 0, none⟩), .string s] w fun e w' => ∃ j A c ps fs1 k1, e = .returned (.tuple #[.pointer (some ⟨j, 0, none⟩), .slice A ps.length c, .int .i64 0]) ∧ ps.map (·.2) = rs ∧ w'.ownsRow w.heap.size 58 1 (.slice A ps.length c) ps.length (ps.map (·.1)) ∧ OwnAll w' w.heap.size ps ∧ hasJ fs1 s (layAll rs) k1 ∧
      Upd (chDT d m b [⟨s, v, R, R.length⟩]).fp w [chJour j d m b s (lenR rs) fs1] w' := by
  have hlt := lenR_scan _ R (Nat.le_refl _)
  have hlay := scan_lay_take _ R (Nat.le_refl _)
  rw [hsc] at hlt hlay
  by_cases hcut : lenR rs < R.length
  · have hR := diskReadSome d m _ s ⟨s, v, R, R.length⟩ w hP.2.1 (by simp [findF])
    have hfl := (hP.2.1.good _ (.head _)).2.2
    obtain ⟨N, hN⟩ : ∃ N, N = lenR rs := ⟨_, rfl⟩
    rw [← hN] at hcut hlt hlay ⊢
    have HN := Lib.hid hN
    have HP := Lib.hid hP
    have HLY := Lib.hid hlay
    clear hP hlay
    go_enter Tryz.func44, Tryz.ntmps44
    go_wp2_with fail
    (with_reducible refine hR.mono ?_)
    rintro e w1 ⟨v1, rfl, hv1, hb1⟩
    have U1 := (Upd.one _ w HP.out).grow hb1
    have hS := jScan b _ _ w1 (U1.get 0 rfl).1 (rd_of_owns hv1) (by omega)
    rw [hsc, ← hN] at hS
    obtain ⟨A1, c1, rfl⟩ := owns_slice hv1
    have hsz1 := hb1.size
    clear hR hv1 hb1 hN hsc
    go_wp2_with fail
    (with_reducible refine hS.mono ?_)
    rintro e w2 ⟨v2, ps, rfl, hps, hv2, hall2, hT2, hB2⟩
    have hD2 := (U1.get 0 rfl).2.1.but (U1.get 0 rfl).1 hB2
    have hbd : b ∉ [d, m] := HP.out.2.2
    have U2 : Upd (chDT d m b [⟨s, v, R, R.length⟩]).fp w [chDT d m b [⟨s, v, R, R.length⟩]] w2 := by
      have h := (show Upd (chDT d m b [⟨s, v, R, R.length⟩]).fp w1 [chDT d m b [⟨s, v, R, R.length⟩]] w2 from ⟨hB2.os, hB2.tape, hB2.output, hB2.size, fun x hx hne => hB2.block x hx fun e => hne (by rw [e]; exact .head _), fun q hq => by rw [List.mem_singleton.1 hq]; exact ⟨hT2, hD2, hbd⟩, fun q hq x hx => by rw [List.mem_singleton.1 hq] at hx; exact .inl hx, by simp⟩)
      have h3 := U1.turn 0 rfl h
      simpa only [List.eraseIdx_cons_zero, List.append_nil] using h3
    have hv2 := owns_mono hv2 hsz1
    have hall2 : OwnAll w2 w.heap.size ps := fun p hp => owns_mono (hall2 p hp) hsz1
    have HPS := Lib.hid hps
    obtain ⟨A2, c2, rfl⟩ := owns_slice hv2
    have hlow : ∀ g ∈ [d, m], g < w.heap.size := HP.out.2.1.lt
    have HLOW := Lib.hid hlow
    clear hS hps hT2 hB2 U1 hD2 hlow hbd
    have hC := diskCutF d m N _ s ⟨s, v, R, R.length⟩ w2 (U2.get 0 rfl).2.1 (by simp [findF]) (by show N ≤ R.length; omega)
    go_wp2_with fail
    (with_reducible refine hC.mono ?_)
    rintro e w3 ⟨rfl, ⟨v3, hD3, hf3⟩, hM3⟩
    have e3 : putF [⟨s, v, R, R.length⟩] ⟨s, v3, R.take N, min R.length N⟩ = [⟨s, v3, R.take N, min R.length N⟩] := by simp [putF]
    simp only [e3] at hD3
    have U3 := U2.turn 0 rfl (chDT_of_mod (U2.get 0 rfl) hD3 hM3 hf3)
    simp only [List.eraseIdx_cons_zero, List.append_nil] at U3
    have hv3 := hM3.owns hv2 (fun g hg hm => by have := (hv2.lt g hg).1; have := HLOW.out g hm; omega)
    have hall3 : OwnAll w3 w.heap.size ps := fun p hp => hM3.owns (hall2 p hp) (fun g hg hm => by have := ((hall2 p hp).lt g hg).1; have := HLOW.out g hm; omega)
    have hY := diskSync d m _ s ⟨s, v3, R.take N, min R.length N⟩ w3 (U3.get 0 rfl).2.1 (by simp [findF])
    clear hC hv2 hall2 hM3 hD3 hf3 e3 U2
    go_wp2_with fail
    (with_reducible refine hY.mono ?_)
    rintro e w4 ⟨rfl, hD4, hM4⟩
    have e4 : putF [⟨s, v3, R.take N, min R.length N⟩] { (⟨s, v3, R.take N, min R.length N⟩ : FileV) with synced := (R.take N).length } = [⟨s, v3, R.take N, (R.take N).length⟩] := by simp [putF]
    simp only [e4] at hD4
    have U4 := U3.turn 0 rfl (chDT_synced (U3.get 0 rfl) hD4 hM4)
    simp only [List.eraseIdx_cons_zero, List.append_nil] at U4
    have hv4 := hM4.owns hv3 (fun g hg hm => by have := (hv3.lt g hg).1; have := HLOW.out g hm; omega)
    have hall4 : OwnAll w4 w.heap.size ps := fun p hp => hM4.owns (hall3 p hp) (fun g hg hm => by have := ((hall3 p hp).lt g hg).1; have := HLOW.out g hm; omega)
    clear hY hv3 hall3 hM4 hD4 e4 U3
    go_wp2_with fail
    refine bodyPost_gen fun w5 hw5 => ?_
    have hBj : Blk w5 w4.heap.size #[.pointer (some ⟨d, 0, none⟩), .pointer (some ⟨b, 0, none⟩), .string s, .int .i64 N] 147 := by rw [hw5]; exact Blk.new _ _ _
    have hb5 : Below w4.heap.size w4 w5 := by rw [hw5]; exact (Below.refl _ _).alloc (Nat.le_refl _) _
    have U5 := U4.grow hb5
    have hv5 := owns_below hv4 hb5
    have hall5 := hall4.below hb5
    have hsz := U4.size
    clear hw5 hv4 hall4 hb5 U4
    go_ret3
    refine ⟨_, A2, c2, ps, [⟨s, v3, R.take N, (R.take N).length⟩], (R.take N).length, rfl, HPS.out, hv5, hall5, .inr ⟨v3, by rw [HLY.out]⟩, U5.os, U5.tape, U5.output, U5.size, U5.block, fun q hq => by rw [List.mem_singleton.1 hq]; exact ⟨by first | exact hBj | (rw [← HN.out]; exact hBj), U5.get 0 rfl⟩, fun q hq x hx => ?_, by simp⟩
    rw [List.mem_singleton.1 hq] at hx
    rcases List.mem_cons.1 hx with rfl | hx
    · exact .inr hsz
    · exact U5.own _ (.head _) x hx
  · have hRl : R = layAll rs := by
      rw [← hlay, List.take_of_length_le (by omega)]
    subst hRl
    refine (jOpenWhole d m b s v rs _ w hP hrs).mono ?_
    rintro e w' ⟨j, A, c, ps, h1, h2, h3, h4, h5⟩
    exact ⟨j, A, c, ps, _, _, h1, h2, h3, h4, .inr ⟨v, rfl⟩, h5⟩
set_option maxHeartbeats 4000000 in
theorem lOpenG (d m b : Nat) (fs : List FileV) (rs : List Ln) (w : World) (hP : (chDT d m b fs).P w) (hg : goodS s0L rs) (hsz : ∀ r ∈ rs, (lnB r).length ≤ 1000) (hn : rs.length ≤ 1000) (hli : (runS s0L rs).li ≤ 1000)
    (hJ : Calls Tryz.prog 44 #[.pointer (some ⟨d, 0, none⟩), .pointer (some ⟨b, 0, none⟩), .string ⟨#[108, 101, 100, 103, 101, 114]⟩] w fun e w' => ∃ j A c ps fs1 k1, e = .returned (.tuple #[.pointer (some ⟨j, 0, none⟩), .slice A ps.length c, .int .i64 0]) ∧ ps.map (·.2) = rs.map lnB ∧ w'.ownsRow w.heap.size 58 1 (.slice A ps.length c) ps.length (ps.map (·.1)) ∧ OwnAll w' w.heap.size ps ∧ hasJ fs1 nmL (layAll (rs.map lnB)) k1 ∧
      Upd (chDT d m b fs).fp w [chJour j d m b nmL (lenR (rs.map lnB)) fs1] w') :
    Calls Tryz.prog 15 #[.pointer (some ⟨d, 0, none⟩), .pointer (some ⟨b, 0, none⟩)] w fun e w' => ∃ g j lv es fs' k, e = .returned (.tuple #[.pointer (some ⟨g, 0, none⟩), .int .i64 0]) ∧ es.map strip = (runS s0L rs).es ∧ es.length ≤ rs.length ∧
      hasJ fs' nmL (layAll ((rs ++ [Ln.life ((runS s0L rs).li + 1)]).map lnB)) (layAll ((rs ++ [Ln.life ((runS s0L rs).li + 1)]).map lnB)).length ∧ k ≤ 2000000 ∧
      Upd (chDT d m b fs).fp w [chL g j d m b lv (runS s0L rs).h ((runS s0L rs).li + 1) (runS s0L rs).la es k fs'] w' := by
  have hlr : lenR (rs.map lnB) ≤ 1008000 := by
    have h := lenR_leL (rs.map lnB) 1000 (fun r hr => by obtain ⟨x, hx, rfl⟩ := List.mem_map.1 hr; exact hsz x hx)
    rw [List.length_map] at h
    have : 1008 * rs.length ≤ 1008 * 1000 := Nat.mul_le_mul_left _ hn
    omega
  obtain ⟨S, hS⟩ : ∃ S, S = (chDT d m b fs).fp := ⟨_, rfl⟩
  have U0 := Upd.one _ w hP
  rw [← hS] at U0 ⊢
  clear hS hP
  obtain ⟨N, hN⟩ : ∃ N, N = rs.length := ⟨_, rfl⟩
  have HN := Lib.hid hN
  have HG := Lib.hid hg
  have HU0 := Lib.hid U0
  rw [← hN] at hn ⊢
  clear hN hg hsz U0
  go_enter Tryz.func15, Tryz.ntmps15
  go_wp2_with fail
  (with_reducible refine hJ.mono ?_)
  rintro e w1 ⟨j, A, c, ps, fs1, k0, rfl, hps, hrow, hall, hfs, h1⟩
  have U1 := HU0.out.turn 0 rfl h1
  simp only [List.eraseIdx_cons_zero, List.append_nil] at U1
  have hpl : ps.length = N := by rw [HN.out, ← List.length_map (f := lnB), ← hps, List.length_map]
  rw [hpl] at hrow
  have hrdS := rd_of_owns hrow
  have hltS := (chRd 1 (.slice A N c) N (ps.map fun p : Value × List UInt8 => p.1) (by decide)).inn w1 hrdS
  have HPS := Lib.hid hps
  have HALL := Lib.hid hall
  clear h1 hJ HU0 hps hall
  go_wp2_with fail
  refine wp_gen fun w2 hw2 => ?_
  obtain ⟨cs, hcs, hw⟩ : ∃ cs, cs = ledA (.pointer (some ⟨j, 0, none⟩)) (.slice none 0 0) (fun _ => 0) 0 0 ∧ w2 = w1.alloc (.cells cs 93) := ⟨_, (ledA_new _).symm, hw2⟩
  subst hcs
  have hb2 : Below w1.heap.size w1 w2 := by rw [hw]; exact (Below.refl _ _).alloc (Nat.le_refl _) _
  obtain ⟨g, hgg⟩ : ∃ g, g = w1.heap.size := ⟨_, rfl⟩
  have U2 := ((((U1.alloc (ledA (.pointer (some ⟨j, 0, none⟩)) (.slice none 0 0) (fun _ => 0) 0 0) 93).same hw).nilRow 41 14).allNil).pick [2, 1, 0, 3] (by decide)
  simp only [List.filterMap_cons, List.filterMap_nil, List.getElem?_cons_zero, List.getElem?_cons_succ] at U2
  rw [← hgg] at U2 ⊢
  have U3 : Upd S w [chE g (.pointer (some ⟨j, 0, none⟩)) (.slice none 0 0) s0L [], chJour j d m b nmL (lenR (rs.map lnB)) fs1] w2 := U2.two.two
  have hrd2 := hrdS.below hb2
  have UL := Upd.one _ w2 (U3.get 0 rfl)
  obtain ⟨TT, hTT⟩ : ∃ TT, TT = (chE g (.pointer (some ⟨j, 0, none⟩)) (.slice none 0 0) s0L []).fp := ⟨_, rfl⟩
  have hTg : ∀ q ∈ TT, q = g := fun q hq => by rw [hTT] at hq; simpa [chE, chLed, chTwo, chBlk, chRow, chAll, Value.ownBlock] using hq
  rw [← hTT] at UL
  have HTT := Lib.hid hTT
  have hS2 : ∀ q ∈ rdFp (.slice A N c) N, q ∉ TT := fun q hq hm => by
    have := hltS q hq
    have := hTg q hm
    omega
  have hrec : ∀ p ∈ ps, Rd w2 1 p.1 p.2.length (u8L p.2) ∧ ∀ q ∈ rdFp p.1 p.2.length, q ∉ TT ∧ q < w2.heap.size := fun p hp => by
    have h1 := rd_of_owns (HALL.out p hp)
    refine ⟨h1.below hb2, fun q hq => ?_⟩
    have h2 := (chRd 1 p.1 p.2.length (u8L p.2) (by decide)).inn w1 h1 q hq
    exact ⟨fun hm => by have := hTg q hm; omega, Nat.lt_of_lt_of_le h2 hb2.size⟩
  have HREC := Lib.hid hrec
  clear hw2 hw U1 U2 hb2 hgg hTT hTg hrdS hltS hrec hrow HALL
  go_loopw [30] (fun i wr => ∃ (k : Nat) (lv : Value) (es : List (Nat × ItV)), k ≤ N ∧ i = .int .i64 k ∧ es.map strip = (runS s0L (rs.take k)).es ∧ es.length ≤ k ∧ goodS (runS s0L (rs.take k)) (rs.drop k) ∧ Upd TT w2 [chE g (.pointer (some ⟨j, 0, none⟩)) lv (runS s0L (rs.take k)) es] wr) (fun i _ => N - (intOf i).toNat)
  case atStart => exact ⟨0, _, [], Nat.zero_le _, rfl, rfl, Nat.le_refl _, HG.out, UL⟩
  case round =>
    obtain ⟨k, lv, es, hk, rfl, hes, hel, hgk, R1⟩ := hrel
    clear UL
    by_cases hkn : k < N
    · obtain ⟨⟨vk, lk⟩, hp⟩ : ∃ p, ps[k]? = some p := ⟨_, List.getElem?_eq_getElem (by omega)⟩
      obtain ⟨r, hr⟩ : ∃ r, rs[k]? = some r := ⟨_, List.getElem?_eq_getElem (by rw [← HN.out]; exact hkn)⟩
      have hlk : lk = lnB r := by
        have h1 : (ps.map (·.2))[k]? = some lk := by rw [List.getElem?_map, hp]; rfl
        rw [HPS.out, List.getElem?_map, hr] at h1
        exact (Option.some.inj h1).symm
      subst hlk
      have hrk := HREC.out _ (List.mem_of_getElem? hp)
      have hrS := R1.rd (by decide) hrd2 hS2
      obtain ⟨A', c', he, _, _, _, h4⟩ := hrS
      injection he with he1 he2 he3
      subst he1 he3
      obtain ⟨q, oo, rfl, hat⟩ := h4 (by omega)
      have x0 : wr.cell? ⟨q, oo + k, none⟩ = some vk := hat k vk (by rw [List.getElem?_map, hp]; rfl)
      rw [drop_consL hr] at hgk
      have K := repLn g (.pointer (some ⟨j, 0, none⟩)) lv (runS s0L (rs.take k)) es r vk wr hes (by omega) hgk.1 (R1.get 0 rfl) (R1.rd (by decide) hrk.1 (fun q hq => (hrk.2 q hq).1)) (fun q hq hm => by
        have h5 := hrk.2 q hq
        rcases R1.own _ (List.mem_cons_self) q hm with h6 | h6
        · exact h5.1 h6
        · omega)
      have HST := Lib.hid (show runS s0L (rs.take (k + 1)) = stepS (runS s0L (rs.take k)) r by rw [take_snocL hr, runS_snoc])
      have HGK := Lib.hid hgk.2
      clear hgk hrk h4 hat hp hr he2
      go_wp2_with fail
      (with_reducible refine K.mono ?_)
      rintro e w3 ⟨rfl, lv', es', h2, h3, h5⟩
      have R2 := R1.turn 0 rfl h5
      simp only [List.eraseIdx_cons_zero, List.append_nil] at R2
      have HR := Lib.hid R2
      have HE := Lib.hid h2
      clear K h5 R1 R2 h2
      go_wp2_with fail
      refine ⟨⟨k + 1, lv', es', by omega, by go_num, ?_, by omega, ?_, ?_⟩, by simp [intOf]; omega⟩
      · rw [HST.out]; exact HE.out
      · rw [HST.out]; exact HGK.out
      · rw [HST.out]; exact HR.out
    · have hkN : k = N := by omega
      have hall2 : rs.take k = rs := List.take_of_length_le (by rw [hkN, HN.out]; exact Nat.le_refl _)
      rw [hall2] at hes R1
      rw [HTT.out] at R1
      have U4 := U3.turn 0 rfl R1
      simp only [List.eraseIdx_cons_zero, List.cons_append, List.nil_append] at U4
      replace U4 := U4.unTwo.unTwo
      clear U3 R1 hgk hrd2 hS2 HREC HTT HPS hall2
      obtain ⟨st, hst⟩ : ∃ st, st = runS s0L rs := ⟨_, rfl⟩
      rw [← hst] at hes U4 hli
      have HSTE := Lib.hid hst
      clear hst
      obtain ⟨L, hL⟩ : ∃ L, L = st.li + 1 := ⟨_, rfl⟩
      have g34 := (U4.blk 0 rfl).cell (ledA_34 (.pointer (some ⟨j, 0, none⟩)) lv st.h st.li st.la)
      have gz := (U4.blk 0 rfl).frozen
      go_wp2_with fail
      refine calls_genP fun w4 hw4 => ?_
      rw [show ((st.li : Int) + 1) = (L : Int) by omega] at hw4
      have U5 := U4.put 0 rfl 34 (.int .u64 (L : Nat))
      rw [ledA_put34] at U5
      have U6 := ((U5.alloc #[.slice none 0 0] 86).same hw4).wrNew
      simp only [List.eraseIdx_cons_zero, World.size_setCell] at U6
      have HL := Lib.hid hL
      have hL9 : L ≤ 1001 := by omega
      clear hw4 U5 U4 g34 gz hL
      (with_reducible refine (wrByte2 _ _ _ w4 (U6.get 0 rfl) (by simp)).mono ?_)
      rintro e w5 ⟨rfl, v5, h5⟩
      have U7 := U6.turn 0 rfl h5
      simp only [List.eraseIdx_cons_zero, List.cons_append, List.nil_append] at U7
      clear h5 U6
      have g34 := (U7.blk 1 rfl).cell (ledA_34 (.pointer (some ⟨j, 0, none⟩)) lv st.h L st.la)
      go_wp2_with fail
      (with_reducible refine (wrUint _ _ _ L w5 (U7.get 0 rfl) (by simp) (by omega)).mono ?_)
      rintro e w6 ⟨rfl, v6, h6⟩
      have U8 := U7.turn 0 rfl h6
      simp only [List.eraseIdx_cons_zero, List.cons_append, List.nil_append] at U8
      clear h6 U7 g34
      have hul := uvar_len64 (n := L) (by omega)
      go_wp2_with fail
      (with_reducible refine (wrBytes _ _ _ w6 (U8.get 0 rfl) (by simp; omega)).mono ?_)
      rintro e w7 ⟨v7, rfl, hrow, hb7⟩
      have U9 := (U8.grow hb7).drop 0
      simp only [List.eraseIdx_cons_zero] at U9
      clear hb7 U8
      have hal : (layAll (rs.map lnB)).length ≤ 1008000 := by rw [layAll_len]; exact hlr
      have hA := jAppendU j d m b (lenR (rs.map lnB)) k0 nmL fs1 (layAll (rs.map lnB)) v7 (2 :: uvar L) w7 (U9.get 3 rfl) hfs (rd_of_owns hrow) (by rw [List.length_cons]; omega) nmL_word.1 nmL_word.2 (by rw [List.length_cons]; omega) (by omega)
      clear hrow
      go_wp2_with fail
      (with_reducible refine hA.mono ?_)
      rintro e w8 ⟨rfl, fs8, hj8, h8⟩
      have U10 := U9.turn 3 rfl h8
      simp only [List.eraseIdx_cons_succ, List.eraseIdx_cons_zero, List.cons_append, List.nil_append] at U10
      have hS := jSyncU j d m b _ k0 nmL fs8 _ w8 (U10.get 0 rfl) hj8
      clear hA hj8 h8 U9
      go_wp2_with fail
      (with_reducible refine hS.mono ?_)
      rintro e w9 ⟨rfl, fs9, hj9, h9⟩
      have U11 := ((U10.turn 0 rfl h9).pick [1, 2, 3, 0] (by decide))
      simp only [List.eraseIdx_cons_zero, List.cons_append, List.nil_append, List.filterMap_cons, List.filterMap_nil, List.getElem?_cons_zero, List.getElem?_cons_succ] at U11
      have HU := Lib.hid U11.two.two.two
      have ea : layAll ((rs ++ [Ln.life L]).map lnB) = layAll (rs.map lnB) ++ layL (2 :: uvar L) := by
        rw [List.map_append, layAll_append]
        simp [layAll, lnB]
      have HJ := Lib.hid (show hasJ fs9 nmL (layAll ((rs ++ [Ln.life L]).map lnB)) (layAll ((rs ++ [Ln.life L]).map lnB)).length by rw [ea]; exact hj9)
      have HES := Lib.hid hes
      clear hS hj9 h9 U10 U11 ea hes
      go_wp2_with fail
      go_ret2
      rw [← HSTE.out, ← HL.out]
      exact ⟨g, j, lv, es, fs9, _, rfl, HES.out, by omega, HJ.out, by rw [List.length_cons]; omega, HU.out⟩
theorem lOpenTorn (d m b : Nat) (v : Value) (R : List UInt8) (rs : List Ln) (w : World) (hP : (chDT d m b [⟨nmL, v, R, R.length⟩]).P w) (hsc : scanL R = rs.map lnB) (hg : goodS s0L rs) (hsz : ∀ r ∈ rs, (lnB r).length ≤ 1000) (hn : rs.length ≤ 1000) (hli : (runS s0L rs).li ≤ 1000) :
    Calls Tryz.prog 15 #[.pointer (some ⟨d, 0, none⟩), .pointer (some ⟨b, 0, none⟩)] w fun e w' => ∃ g j lv es fs' k, e = .returned (.tuple #[.pointer (some ⟨g, 0, none⟩), .int .i64 0]) ∧ es.map strip = (runS s0L rs).es ∧ es.length ≤ rs.length ∧
      hasJ fs' nmL (layAll ((rs ++ [Ln.life ((runS s0L rs).li + 1)]).map lnB)) (layAll ((rs ++ [Ln.life ((runS s0L rs).li + 1)]).map lnB)).length ∧ k ≤ 2000000 ∧
      Upd (chDT d m b [⟨nmL, v, R, R.length⟩]).fp w [chL g j d m b lv (runS s0L rs).h ((runS s0L rs).li + 1) (runS s0L rs).la es k fs'] w' :=
  lOpenG d m b _ rs w hP hg hsz hn hli (jOpenTorn d m b nmL v R (rs.map lnB) w hP hsc fun r hr => by obtain ⟨x, hx, rfl⟩ := List.mem_map.1 hr; have := hsz x hx; omega)
end Go.Proofs.YtdmdfccadjfpiaaGreat
