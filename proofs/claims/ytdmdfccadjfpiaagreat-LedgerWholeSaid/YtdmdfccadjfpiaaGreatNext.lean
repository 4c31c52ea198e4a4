/-
  LedgerWhole's closure; watchfirelaw08.Next with it.
-/
import Derived.Test.YtdmdfccadjfpiaaGreatSm5
import Derived.Test.YtdmdfccadjfpiaaGreatWholeP
import Derived.Test.YtdmdfccadjfpiaaGreatFreeT
namespace Go.Proofs.YtdmdfccadjfpiaaGreat
open Go.RowKit
set_option maxRecDepth 100000
attribute [local go_sem] FreeTw.out

theorem lwHigh (cl : Nat) (v : Value) (l : List (Nat × ItV)) (p : Nat) (w : World) (hc : w.cell? ⟨cl, 0, none⟩ = some v) (hr : Rd w 14 v l.length (l.flatMap en14)) (hok : ∀ x ∈ l, x.1 < 18446744073709551616 ∧ x.2.ok w) (hl : l.length ≤ 1000000) :
    Calls Tryz.prog 9 #[.int .u8 p, .pointer (some ⟨cl, 0, none⟩)] w fun e w' => e = .returned (.int .u64 (highL l p : Nat)) ∧ Below w.heap.size w w' := by
  have K := fun w' (hb : Below w.heap.size w w') => lawHigh v l p w' (hr.below hb) (fun x hx => ⟨(hok x hx).1, (hok x hx).2.below hb⟩) hl
  obtain ⟨A, c, rfl, _⟩ := hr
  clear hok
  go_enter Tryz.func9, Tryz.ntmps9
  go_wp2_with fail
  (with_reducible refine (K _ (Below.refl _ _)).mono ?_)
  rintro e w1 ⟨rfl, hb1⟩
  go_wp2_with fail
  go_ret
  exact ⟨rfl, hb1⟩
/-- What an act's item is, behind a high. -/
structure NextOk (a : ItV) (n o : Nat) : Prop where
  chk : chkIt a = 0
  org : spanO a = o % 4
  fr : spanF a = n + 1
  to : spanT a ≤ n + 3
set_option maxHeartbeats 2000000 in
theorem smallNext_true (cl n o p ow sq mo ti ru la va : Nat) (stb : Bool) (w : World) (hn : n ≤ 1000000) (_how : ow < 256) (hsq : sq < 65536) (_hmo : mo < 65536) (_hti : ti < 65536) (_hla : la < 256) (_hva : va < 256)
    (KH : ∀ o4, o4 = o % 4 → ∀ w', Below w.heap.size w w' → Calls Tryz.prog 9 #[.int .u8 (o4 : Nat), .pointer (some ⟨cl, 0, none⟩)] w' fun e w'' => e = .returned (.int .u64 (n : Nat)) ∧ Below w'.heap.size w' w'') :
    Calls Tryz.prog 8 #[.agg #[.bool true, .int .u8 o, .int .u8 p, .int .u8 ow, .int .u16 sq, .int .u16 mo, .int .u16 ti, .int .u8 ru, .int .u8 la, .int .u8 va, .bool stb], .func (Fn.func 9) #[] #[.pointer (some ⟨cl, 0, none⟩)]] w fun e w' => ∃ a : ItV, e = .returned (itV a) ∧ NextOk a n o ∧ w'.ownsRow w.heap.size 137 2 a.lv a.ps.length (pairCells a.ps) ∧ a.ok w' ∧ Below w.heap.size w w' := by
  obtain ⟨o4, ho4⟩ : ∃ o4, o4 = o % 4 := ⟨_, rfl⟩
  have KH4 := KH o4 ho4
  clear KH
  have lo : o4 < 4 := by omega
  have HO := Lib.hid ho4
  have t1 : (o : Int).tmod 4 = (o4 : Int) := by rw [ho4]; rfl
  obtain ⟨m3, hm3⟩ : ∃ m3, m3 = mo % 3 := ⟨_, rfl⟩
  have t2 : (mo : Int).tmod 3 = (m3 : Int) := by rw [hm3]; rfl
  have lm : m3 < 3 := by omega
  clear ho4 hm3
  have KS := fun w' => smallItem_gap o4 p ow sq m3 ti ru la va stb w' hsq (by omega)
  have q1 : IntKind.u64.wrap ((n : Int) + 1) = ((n + 1 : Nat) : Int) := by rw [IntKind.wrap_u64]; omega
  have q2 : IntKind.u64.wrap (m3 : Int) = (m3 : Int) := by rw [IntKind.wrap_u64]; omega
  have q3 : IntKind.u64.wrap ((n : Int) + 1 + (m3 : Int)) = (n : Int) + 1 + (m3 : Int) := by rw [IntKind.wrap_u64]; omega

  go_enter Tryz.func8, Tryz.ntmps8
  go_wp2_with fail
  refine calls_genP fun w2 hw2 => ?_
  have U2 := (((Upd.nil [] w).alloc #[.bool true, .int .u8 o4, .int .u8 p, .int .u8 ow, .int .u16 sq, .int .u16 m3, .int .u16 ti, .int .u8 ru, .int .u8 la, .int .u8 va, .bool stb] 27).alloc #[.bool false, .int .u8 0, .int .u64 0, .int .u64 0, .string ⟨#[]⟩, .slice none 0 0, .int .u8 0, .int .u8 0, .int .i64 0, .int .u8 0, .int .u8 0, .int .u64 0, .int .u64 0] 36).same hw2
  simp only [World.size_alloc] at U2
  clear hw2
  (with_reducible refine (KS w2).mono ?_)
  rintro e w3 ⟨o32, f, t, ho32, hf, ht, rfl, hb3⟩
  have ho : o32 = o4 := by omega
  subst ho
  have U3 := U2.grow hb3
  clear hb3 U2 KS ho32
  have U4 := U3.alloc #[.bool true, .int .u8 0, .int .u64 0, .int .u64 0, .string ⟨#[]⟩, .slice none 0 0, .int .u8 0, .int .u8 0, .int .i64 0, .int .u8 0, .int .u8 o32, .int .u64 f, .int .u64 t] 36
  have c1 := (U4.blk 2 rfl).cell (j := 1) (v := .int .u8 o32) rfl
  go_wp2_with fail
  (with_reducible refine (KH4 _ U4.below).mono ?_)
  rintro e w5 ⟨rfl, hb5⟩
  have U5 := U4.grow hb5
  clear hb5 U4 U3 c1 KH4
  have e0 := (U5.blk 0 rfl).cell (j := 0) (v := .bool true) rfl
  have e1 := (U5.blk 0 rfl).cell (j := 1) (v := .int .u8 0) rfl
  have e2 := (U5.blk 0 rfl).cell (j := 2) (v := .int .u64 0) rfl
  have e3 := (U5.blk 0 rfl).cell (j := 3) (v := .int .u64 0) rfl
  have e4 := (U5.blk 0 rfl).cell (j := 4) (v := .string ⟨#[]⟩) rfl
  have e5 := (U5.blk 0 rfl).cell (j := 5) (v := .slice none 0 0) rfl
  have e6 := (U5.blk 0 rfl).cell (j := 6) (v := .int .u8 0) rfl
  have e7 := (U5.blk 0 rfl).cell (j := 7) (v := .int .u8 0) rfl
  have e8 := (U5.blk 0 rfl).cell (j := 8) (v := .int .i64 0) rfl
  have e9 := (U5.blk 0 rfl).cell (j := 9) (v := .int .u8 0) rfl
  have e10 := (U5.blk 0 rfl).cell (j := 10) (v := .int .u8 o32) rfl
  have e11 := (U5.blk 0 rfl).cell (j := 11) (v := .int .u64 f) rfl
  have e12 := (U5.blk 0 rfl).cell (j := 12) (v := .int .u64 t) rfl
  have ef := (U5.blk 0 rfl).frozen
  have z0 := (U5.blk 1 rfl).cell (j := 0) (v := .bool false) rfl
  have z1 := (U5.blk 1 rfl).cell (j := 1) (v := .int .u8 0) rfl
  have z2 := (U5.blk 1 rfl).cell (j := 2) (v := .int .u64 0) rfl
  have z3 := (U5.blk 1 rfl).cell (j := 3) (v := .int .u64 0) rfl
  have z4 := (U5.blk 1 rfl).cell (j := 4) (v := .string ⟨#[]⟩) rfl
  have z5 := (U5.blk 1 rfl).cell (j := 5) (v := .slice none 0 0) rfl
  have z6 := (U5.blk 1 rfl).cell (j := 6) (v := .int .u8 0) rfl
  have z7 := (U5.blk 1 rfl).cell (j := 7) (v := .int .u8 0) rfl
  have z8 := (U5.blk 1 rfl).cell (j := 8) (v := .int .i64 0) rfl
  have z9 := (U5.blk 1 rfl).cell (j := 9) (v := .int .u8 0) rfl
  have z10 := (U5.blk 1 rfl).cell (j := 10) (v := .int .u8 0) rfl
  have z11 := (U5.blk 1 rfl).cell (j := 11) (v := .int .u64 0) rfl
  have z12 := (U5.blk 1 rfl).cell (j := 12) (v := .int .u64 0) rfl
  have zf := (U5.blk 1 rfl).frozen
  have c5 := (U5.blk 2 rfl).cell (j := 5) (v := .int .u16 m3) rfl
  have hne : w3.heap.size ≠ w.heap.size + 1 := fun h => U5.apartAt 0 1 (by decide) rfl rfl w3.heap.size (chBlk_fp.2 rfl) (chBlk_fp.2 h)
  have hne2 : w.heap.size + 1 ≠ w3.heap.size := fun h => hne h.symm
  have F : ∀ w', Below w5.heap.size w5 w' → w'.cell? ⟨w.heap.size, 5, none⟩ = some (.int .u16 m3) := fun w' hw => ((U5.grow hw).blk 2 rfl).cell rfl
  go_wp2_with fail
  have ne3 : w.heap.size ≠ w3.heap.size := fun h => U5.apartAt 0 2 (by decide) rfl rfl w3.heap.size (chBlk_fp.2 rfl) (chBlk_fp.2 h.symm)
  have ne4 : w3.heap.size ≠ w.heap.size := fun h => ne3 h.symm
  refine FreeTw.region_free (fun w' => Below w5.heap.size w5 w') (fun w' => w'.cell? ⟨w.heap.size, 5, none⟩ = some (.int .u16 m3)) [2000005, 2000006] [10, 11, 12, 13] [0, 1, 2, 3, 4, 5, 6, 7, 8, 9] (fun w' hw => F w' hw) (by kernel_rfl) (by kernel_rfl) (by kernel_rfl) ((Below.refl _ _).drew) ?_
  repeat (first
    | (refine FreeTw.RelSeq.pure_ (c := ?_) rfl rfl ?_ ?_; rotate_left; (focus (intro x w'; dsimp only; go_simp; (first | ((repeat' apply And.intro) <;> first | with_reducible rfl | assumption) | (split <;> (try (focus (exfalso; omega))); (try go_simp); (repeat' apply And.intro) <;> first | with_reducible rfl | assumption)))); simp only [Act.put, List.setIfInBounds_toArray, List.set_cons_zero, List.set_cons_succ])
    | (refine FreeTw.RelSeq.steady_ (c := ?_) rfl rfl rfl ?_ ?_; rotate_left; (focus (intro x w' hw; dsimp only; obtain d0 := hw; go_simp; (repeat' apply And.intro) <;> first | with_reducible rfl | assumption)); simp only [Act.put, List.setIfInBounds_toArray, List.set_cons_zero, List.set_cons_succ])
    | (refine FreeTw.RelSeq.grow_ (c := ?_) rfl rfl rfl ?_ ?_; rotate_left; (focus (intro x w' hw _; dsimp only; obtain c0 := F w' hw; have hbr := Below.refl w'.heap.size w'; go_simp; (repeat' apply And.intro) <;> first | with_reducible rfl | assumption)); simp only [Act.put, List.setIfInBounds_toArray, List.set_cons_zero, List.set_cons_succ]))
  refine FreeTw.RelSeq.nil_ fun x w6 hw _ _ => ?_
  have U6 := U5.grow hw
  have c5' := F w6 hw
  clear F hw U5 c5 e0 e1 e2 e3 e4 e5 e6 e7 e8 e9 e10 e11 e12 z0 z1 z2 z3 z4 z5 z6 z7 z8 z9 z10 z11 z12 ef zf
  refine FreeTw.TailSeq.cons_ rfl ?_
  have e0 := (U6.blk 0 rfl).cell (j := 0) (v := .bool true) rfl
  have e1 := (U6.blk 0 rfl).cell (j := 1) (v := .int .u8 0) rfl
  have e2 := (U6.blk 0 rfl).cell (j := 2) (v := .int .u64 0) rfl
  have e3 := (U6.blk 0 rfl).cell (j := 3) (v := .int .u64 0) rfl
  have e4 := (U6.blk 0 rfl).cell (j := 4) (v := .string ⟨#[]⟩) rfl
  have e5 := (U6.blk 0 rfl).cell (j := 5) (v := .slice none 0 0) rfl
  have e6 := (U6.blk 0 rfl).cell (j := 6) (v := .int .u8 0) rfl
  have e7 := (U6.blk 0 rfl).cell (j := 7) (v := .int .u8 0) rfl
  have e8 := (U6.blk 0 rfl).cell (j := 8) (v := .int .i64 0) rfl
  have e9 := (U6.blk 0 rfl).cell (j := 9) (v := .int .u8 0) rfl
  have e10 := (U6.blk 0 rfl).cell (j := 10) (v := .int .u8 o32) rfl
  have e11 := (U6.blk 0 rfl).cell (j := 11) (v := .int .u64 f) rfl
  have e12 := (U6.blk 0 rfl).cell (j := 12) (v := .int .u64 t) rfl
  have ef := (U6.blk 0 rfl).frozen
  go_simp
  refine FreeTw.TailSeq.cons_ rfl ?_
  go_simp
  refine FreeTw.TailSeq.cons_ rfl ?_
  go_simp
  refine FreeTw.TailSeq.cons_ rfl ?_
  go_simp
  refine FreeTw.TailSeq.nil_gen fun w7 hw7 => ?_
  have U7 := ((U6.put 0 rfl 11 (.int .u64 ((n : Int) + 1))).put 0 rfl 12 (.int .u64 ((n : Int) + 1 + (m3 : Int)))).same hw7
  simp only [List.setIfInBounds_toArray, List.set_cons_succ, List.set_cons_zero, List.eraseIdx_cons_zero] at U7
  clear hw7 U6 e0 e1 e2 e3 e4 e5 e6 e7 e8 e9 e10 e11 e12 ef
  have e0 := (U7.blk 0 rfl).cell (j := 0) (v := .bool true) rfl
  have e1 := (U7.blk 0 rfl).cell (j := 1) (v := .int .u8 0) rfl
  have e2 := (U7.blk 0 rfl).cell (j := 2) (v := .int .u64 0) rfl
  have e3 := (U7.blk 0 rfl).cell (j := 3) (v := .int .u64 0) rfl
  have e4 := (U7.blk 0 rfl).cell (j := 4) (v := .string ⟨#[]⟩) rfl
  have e5 := (U7.blk 0 rfl).cell (j := 5) (v := .slice none 0 0) rfl
  have e6 := (U7.blk 0 rfl).cell (j := 6) (v := .int .u8 0) rfl
  have e7 := (U7.blk 0 rfl).cell (j := 7) (v := .int .u8 0) rfl
  have e8 := (U7.blk 0 rfl).cell (j := 8) (v := .int .i64 0) rfl
  have e9 := (U7.blk 0 rfl).cell (j := 9) (v := .int .u8 0) rfl
  have e10 := (U7.blk 0 rfl).cell (j := 10) (v := .int .u8 o32) rfl
  have e11 := (U7.blk 0 rfl).cell (j := 11) (v := .int .u64 ((n : Int) + 1)) rfl
  have e12 := (U7.blk 0 rfl).cell (j := 12) (v := .int .u64 ((n : Int) + 1 + (m3 : Int))) rfl
  have ef := (U7.blk 0 rfl).frozen
  have z0 := (U7.blk 1 rfl).cell (j := 0) (v := .bool false) rfl
  have z1 := (U7.blk 1 rfl).cell (j := 1) (v := .int .u8 0) rfl
  have z2 := (U7.blk 1 rfl).cell (j := 2) (v := .int .u64 0) rfl
  have z3 := (U7.blk 1 rfl).cell (j := 3) (v := .int .u64 0) rfl
  have z4 := (U7.blk 1 rfl).cell (j := 4) (v := .string ⟨#[]⟩) rfl
  have z5 := (U7.blk 1 rfl).cell (j := 5) (v := .slice none 0 0) rfl
  have z6 := (U7.blk 1 rfl).cell (j := 6) (v := .int .u8 0) rfl
  have z7 := (U7.blk 1 rfl).cell (j := 7) (v := .int .u8 0) rfl
  have z8 := (U7.blk 1 rfl).cell (j := 8) (v := .int .i64 0) rfl
  have z9 := (U7.blk 1 rfl).cell (j := 9) (v := .int .u8 0) rfl
  have z10 := (U7.blk 1 rfl).cell (j := 10) (v := .int .u8 0) rfl
  have z11 := (U7.blk 1 rfl).cell (j := 11) (v := .int .u64 0) rfl
  have z12 := (U7.blk 1 rfl).cell (j := 12) (v := .int .u64 0) rfl
  have zf := (U7.blk 1 rfl).frozen
  go_wp2_with fail
  refine bodyPost_gen fun w8 hw8 => ?_
  have V := ((((((((((((((U7.put 1 rfl 0 (.bool true)).put 0 rfl 1 (.int .u8 0)).put 0 rfl 2 (.int .u64 0)).put 0 rfl 3 (.int .u64 0)).put 0 rfl 4 (.string ⟨#[]⟩)).put 0 rfl 5 (.slice none 0 0)).put 0 rfl 6 (.int .u8 0)).put 0 rfl 7 (.int .u8 0)).put 0 rfl 8 (.int .i64 0)).put 0 rfl 9 (.int .u8 0)).put 0 rfl 10 (.int .u8 o32)).put 0 rfl 11 (.int .u64 ((n : Int) + 1))).put 0 rfl 12 (.int .u64 ((n : Int) + 1 + (m3 : Int))))).same hw8
  simp only [List.setIfInBounds_toArray, List.set_cons_succ, List.set_cons_zero, List.eraseIdx_cons_succ, List.eraseIdx_cons_zero] at V
  clear hw8 U7
  have a0 := (V.blk 0 rfl).cell (j := 0) (v := .bool true) rfl
  have a1 := (V.blk 0 rfl).cell (j := 1) (v := .int .u8 0) rfl
  have a2 := (V.blk 0 rfl).cell (j := 2) (v := .int .u64 0) rfl
  have a3 := (V.blk 0 rfl).cell (j := 3) (v := .int .u64 0) rfl
  have a4 := (V.blk 0 rfl).cell (j := 4) (v := .string ⟨#[]⟩) rfl
  have a5 := (V.blk 0 rfl).cell (j := 5) (v := .slice none 0 0) rfl
  have a6 := (V.blk 0 rfl).cell (j := 6) (v := .int .u8 0) rfl
  have a7 := (V.blk 0 rfl).cell (j := 7) (v := .int .u8 0) rfl
  have a8 := (V.blk 0 rfl).cell (j := 8) (v := .int .i64 0) rfl
  have a9 := (V.blk 0 rfl).cell (j := 9) (v := .int .u8 0) rfl
  have a10 := (V.blk 0 rfl).cell (j := 10) (v := .int .u8 o32) rfl
  have a11 := (V.blk 0 rfl).cell (j := 11) (v := .int .u64 ((n : Int) + 1)) rfl
  have a12 := (V.blk 0 rfl).cell (j := 12) (v := .int .u64 ((n : Int) + 1 + (m3 : Int))) rfl
  refine bodyPost_ret (v := .agg #[.bool true, .int .u8 0, .int .u64 0, .int .u64 0, .string ⟨#[]⟩, .slice none 0 0, .int .u8 0, .int .u8 0, .int .i64 0, .int .u8 0, .int .u8 o32, .int .u64 ((n : Int) + 1), .int .u64 ((n : Int) + 1 + (m3 : Int))]) ?_ rfl ⟨⟨true, 0, 0, 0, ⟨#[]⟩, .slice none 0 0, [], 0, 0, 0, 0, o32, n + 1, n + 1 + m3⟩, by simp [itV], ⟨?_, HO.out, rfl, show n + 1 + m3 ≤ n + 3 by omega⟩, World.ownsRow_nil w8 w.heap.size 137 2, ⟨by simp, by simp, by simp, show (0 : Nat) ≤ maxLen from Nat.zero_le _, ⟨none, 0, rfl, rfl, Nat.le_refl _, show 0 ≤ maxLen by unfold maxLen; omega, fun h => absurd h (Nat.lt_irrefl 0)⟩, (fun _ h => nomatch h), by simp, by simp, by simp, by simp, show o32 < 256 by omega, show n + 1 < _ by omega, show n + 1 + m3 < _ by omega⟩, V.below⟩
  · simp [results, Tryz.results8, go_sem, a0, a1, a2, a3, a4, a5, a6, a7, a8, a9, a10, a11, a12]
  · show chkGap o32 (n + 1) (n + 1 + m3) = 0
    unfold chkGap
    rw [if_neg (by omega)]
set_option maxHeartbeats 2000000 in
theorem smallNext_false (cl n o p ow sq mo ti ru la va : Nat) (stb : Bool) (w : World) (hn : n ≤ 1000000) (how : ow < 256) (hsq : sq < 65536) (_hmo : mo < 65536) (hti : ti < 65536) (hla : la < 256) (hva : va < 256)
    (KH : ∀ o4, o4 = o % 4 → ∀ w', Below w.heap.size w w' → Calls Tryz.prog 9 #[.int .u8 (o4 : Nat), .pointer (some ⟨cl, 0, none⟩)] w' fun e w'' => e = .returned (.int .u64 (n : Nat)) ∧ Below w'.heap.size w' w'') :
    Calls Tryz.prog 8 #[.agg #[.bool false, .int .u8 o, .int .u8 p, .int .u8 ow, .int .u16 sq, .int .u16 mo, .int .u16 ti, .int .u8 ru, .int .u8 la, .int .u8 va, .bool stb], .func (Fn.func 9) #[] #[.pointer (some ⟨cl, 0, none⟩)]] w fun e w' => ∃ a : ItV, e = .returned (itV a) ∧ NextOk a n o ∧ w'.ownsRow w.heap.size 137 2 a.lv a.ps.length (pairCells a.ps) ∧ a.ok w' ∧ Below w.heap.size w w' := by
  obtain ⟨o4, ho4⟩ : ∃ o4, o4 = o % 4 := ⟨_, rfl⟩
  have KH4 := KH o4 ho4
  clear KH
  have lo : o4 < 4 := by omega
  have HO := Lib.hid ho4
  have t1 : (o : Int).tmod 4 = (o4 : Int) := by rw [ho4]; rfl
  obtain ⟨m3, hm3⟩ : ∃ m3, m3 = mo % 3 := ⟨_, rfl⟩
  have t2 : (mo : Int).tmod 3 = (m3 : Int) := by rw [hm3]; rfl
  have lm : m3 < 3 := by omega
  clear ho4 hm3
  have KS := fun w' => smallItem_event o4 p ow sq m3 ti ru la va stb w' how hsq hti hla hva
  have q1 : IntKind.u64.wrap ((n : Int) + 1) = ((n + 1 : Nat) : Int) := by rw [IntKind.wrap_u64]; omega
  have q2 : IntKind.u64.wrap (m3 : Int) = (m3 : Int) := by rw [IntKind.wrap_u64]; omega
  have q3 : IntKind.u64.wrap ((n : Int) + 1 + (m3 : Int)) = (n : Int) + 1 + (m3 : Int) := by rw [IntKind.wrap_u64]; omega

  go_enter Tryz.func8, Tryz.ntmps8
  go_wp2_with fail
  refine calls_genP fun w2 hw2 => ?_
  have U2 := (((Upd.nil [] w).alloc #[.bool false, .int .u8 o4, .int .u8 p, .int .u8 ow, .int .u16 sq, .int .u16 m3, .int .u16 ti, .int .u8 ru, .int .u8 la, .int .u8 va, .bool stb] 27).alloc #[.bool false, .int .u8 0, .int .u64 0, .int .u64 0, .string ⟨#[]⟩, .slice none 0 0, .int .u8 0, .int .u8 0, .int .i64 0, .int .u8 0, .int .u8 0, .int .u64 0, .int .u64 0] 36).same hw2
  simp only [World.size_alloc] at U2
  clear hw2
  (with_reducible refine (KS w2).mono ?_)
  rintro e w3 ⟨a, he, hg, hao, hrow, hok, hb3⟩
  have U3 := U2.call ((Upd.nil [] w2).addRow hb3 hrow (Nat.le_refl _))
  simp only [List.cons_append, List.nil_append] at U3
  clear hb3 U2 KS
  have hgap := hg.gap
  have hchk := hg.chk (n + 1) (by omega) (by omega)
  obtain ⟨Al, acl, hal⟩ := owns_slice hrow
  clear hrow hg
  obtain ⟨ag, ao, asq, atm, aru, alv, aps, ast, apr, ava, aow, ago, agf, agt⟩ := a
  simp only at hgap hao hchk hal U3
  subst hgap hal
  have he2 : e = .returned (.agg #[.bool false, .int .u8 ao, .int .u64 asq, .int .u64 atm, .string aru, .slice Al aps.length acl, .int .u8 ast, .int .u8 apr, .int .i64 ava, .int .u8 aow, .int .u8 ago, .int .u64 agf, .int .u64 agt]) := he
  subst he2
  clear he
  have hao4 : ao = o4 := by omega
  subst hao4
  clear hao
  have U4 := U3.alloc #[.bool false, .int .u8 ao, .int .u64 asq, .int .u64 atm, .string aru, .slice Al aps.length acl, .int .u8 ast, .int .u8 apr, .int .i64 ava, .int .u8 aow, .int .u8 ago, .int .u64 agf, .int .u64 agt] 36
  have c1 := (U4.blk 3 rfl).cell (j := 1) (v := .int .u8 ao) rfl
  go_wp2_with fail
  (with_reducible refine (KH4 _ U4.below).mono ?_)
  rintro e w5 ⟨rfl, hb5⟩
  have U5 := U4.grow hb5
  clear hb5 U4 U3 c1 KH4
  have e0 := (U5.blk 0 rfl).cell (j := 0) (v := .bool false) rfl
  have e1 := (U5.blk 0 rfl).cell (j := 1) (v := .int .u8 ao) rfl
  have e2 := (U5.blk 0 rfl).cell (j := 2) (v := .int .u64 asq) rfl
  have e3 := (U5.blk 0 rfl).cell (j := 3) (v := .int .u64 atm) rfl
  have e4 := (U5.blk 0 rfl).cell (j := 4) (v := .string aru) rfl
  have e5 := (U5.blk 0 rfl).cell (j := 5) (v := .slice Al aps.length acl) rfl
  have e6 := (U5.blk 0 rfl).cell (j := 6) (v := .int .u8 ast) rfl
  have e7 := (U5.blk 0 rfl).cell (j := 7) (v := .int .u8 apr) rfl
  have e8 := (U5.blk 0 rfl).cell (j := 8) (v := .int .i64 ava) rfl
  have e9 := (U5.blk 0 rfl).cell (j := 9) (v := .int .u8 aow) rfl
  have e10 := (U5.blk 0 rfl).cell (j := 10) (v := .int .u8 ago) rfl
  have e11 := (U5.blk 0 rfl).cell (j := 11) (v := .int .u64 agf) rfl
  have e12 := (U5.blk 0 rfl).cell (j := 12) (v := .int .u64 agt) rfl
  have ef := (U5.blk 0 rfl).frozen
  have z0 := (U5.blk 2 rfl).cell (j := 0) (v := .bool false) rfl
  have z1 := (U5.blk 2 rfl).cell (j := 1) (v := .int .u8 0) rfl
  have z2 := (U5.blk 2 rfl).cell (j := 2) (v := .int .u64 0) rfl
  have z3 := (U5.blk 2 rfl).cell (j := 3) (v := .int .u64 0) rfl
  have z4 := (U5.blk 2 rfl).cell (j := 4) (v := .string ⟨#[]⟩) rfl
  have z5 := (U5.blk 2 rfl).cell (j := 5) (v := .slice none 0 0) rfl
  have z6 := (U5.blk 2 rfl).cell (j := 6) (v := .int .u8 0) rfl
  have z7 := (U5.blk 2 rfl).cell (j := 7) (v := .int .u8 0) rfl
  have z8 := (U5.blk 2 rfl).cell (j := 8) (v := .int .i64 0) rfl
  have z9 := (U5.blk 2 rfl).cell (j := 9) (v := .int .u8 0) rfl
  have z10 := (U5.blk 2 rfl).cell (j := 10) (v := .int .u8 0) rfl
  have z11 := (U5.blk 2 rfl).cell (j := 11) (v := .int .u64 0) rfl
  have z12 := (U5.blk 2 rfl).cell (j := 12) (v := .int .u64 0) rfl
  have zf := (U5.blk 2 rfl).frozen
  have c5 := (U5.blk 3 rfl).cell (j := 5) (v := .int .u16 m3) rfl
  have hne : w3.heap.size ≠ w.heap.size + 1 := fun h => U5.apartAt 0 2 (by decide) rfl rfl w3.heap.size (chBlk_fp.2 rfl) (chBlk_fp.2 h)
  have hne2 : w.heap.size + 1 ≠ w3.heap.size := fun h => hne h.symm
  go_wp2_with fail
  refine bodyPost_gen fun w6 hw6 => ?_
  have V := (((((((((((((((U5.put 0 rfl 2 (.int .u64 ((n : Int) + 1))).put 2 rfl 0 (.bool false)).put 0 rfl 1 (.int .u8 ao)).put 0 rfl 2 (.int .u64 ((n : Int) + 1))).put 0 rfl 3 (.int .u64 atm)).put 0 rfl 4 (.string aru)).put 0 rfl 5 (.slice Al aps.length acl)).put 0 rfl 6 (.int .u8 ast)).put 0 rfl 7 (.int .u8 apr)).put 0 rfl 8 (.int .i64 ava)).put 0 rfl 9 (.int .u8 aow)).put 0 rfl 10 (.int .u8 ago)).put 0 rfl 11 (.int .u64 agf)).put 0 rfl 12 (.int .u64 agt))).same hw6
  simp only [List.setIfInBounds_toArray, List.set_cons_succ, List.set_cons_zero, List.eraseIdx_cons_succ, List.eraseIdx_cons_zero] at V
  clear hw6 U5
  have a0 := (V.blk 0 rfl).cell (j := 0) (v := .bool false) rfl
  have a1 := (V.blk 0 rfl).cell (j := 1) (v := .int .u8 ao) rfl
  have a2 := (V.blk 0 rfl).cell (j := 2) (v := .int .u64 ((n : Int) + 1)) rfl
  have a3 := (V.blk 0 rfl).cell (j := 3) (v := .int .u64 atm) rfl
  have a4 := (V.blk 0 rfl).cell (j := 4) (v := .string aru) rfl
  have a5 := (V.blk 0 rfl).cell (j := 5) (v := .slice Al aps.length acl) rfl
  have a6 := (V.blk 0 rfl).cell (j := 6) (v := .int .u8 ast) rfl
  have a7 := (V.blk 0 rfl).cell (j := 7) (v := .int .u8 apr) rfl
  have a8 := (V.blk 0 rfl).cell (j := 8) (v := .int .i64 ava) rfl
  have a9 := (V.blk 0 rfl).cell (j := 9) (v := .int .u8 aow) rfl
  have a10 := (V.blk 0 rfl).cell (j := 10) (v := .int .u8 ago) rfl
  have a11 := (V.blk 0 rfl).cell (j := 11) (v := .int .u64 agf) rfl
  have a12 := (V.blk 0 rfl).cell (j := 12) (v := .int .u64 agt) rfl
  have hrow := V.row 2 rfl
  have hge := V.own _ (.tail _ (.tail _ (.head _)))
  have hrow' := owns_base (base' := w.heap.size) hrow (fun g hg => (hge g (by simpa [chRow] using hg)).resolve_left (fun h => nomatch h))
  refine bodyPost_ret (v := .agg #[.bool false, .int .u8 ao, .int .u64 ((n : Int) + 1), .int .u64 atm, .string aru, .slice Al aps.length acl, .int .u8 ast, .int .u8 apr, .int .i64 ava, .int .u8 aow, .int .u8 ago, .int .u64 agf, .int .u64 agt]) ?_ rfl ⟨⟨false, ao, n + 1, atm, aru, .slice Al aps.length acl, aps, ast, apr, ava, aow, ago, agf, agt⟩, by simp [itV], ⟨hchk, HO.out, rfl, show n + 1 ≤ n + 3 by omega⟩, hrow', ⟨hok.o, show n + 1 < _ by omega, hok.tm, hok.ru, rd_of_owns hrow, hok.pz, hok.st, hok.pr, hok.va, hok.ow, hok.go, hok.gf, hok.gt⟩, V.below⟩
  simp [results, Tryz.results8, go_sem, a0, a1, a2, a3, a4, a5, a6, a7, a8, a9, a10, a11, a12]
end Go.Proofs.YtdmdfccadjfpiaaGreat
