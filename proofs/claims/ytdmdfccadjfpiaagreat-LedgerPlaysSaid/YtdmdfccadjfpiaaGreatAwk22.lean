/-
  watchfirelaw22.Awake.
-/
import Derived.Test.YtdmdfccadjfpiaaGreatLOp
import Derived.Test.YtdmdfccadjfpiaaGreatNew
namespace Go.Proofs.YtdmdfccadjfpiaaGreat
open Go.RowKit FreeOrd
set_option maxRecDepth 100000
attribute [local go_sem] out

/-- The events of Awake. -/
def awI (n : Nat) : ItV := ⟨false, 0, n, 0, ⟨#[120]⟩, .slice none 0 0, [], 0, 0, 0, 0, 0, 0, 0⟩
theorem awI_ok (n : Nat) (hn : n ≤ 1000) (w : World) : (awI n).ok w :=
  ⟨by simp [awI], show n < _ by omega, by simp [awI], show (1 : Nat) ≤ maxLen by unfold maxLen; omega, ⟨none, 0, rfl, rfl, Nat.le_refl _, show 0 ≤ maxLen by unfold maxLen; omega, fun h => absurd h (Nat.lt_irrefl 0)⟩, (fun _ h => nomatch h), by simp [awI], by simp [awI], by simp [awI], by simp [awI], by simp [awI], by simp [awI], by simp [awI]⟩
theorem awI_chk (n : Nat) (h1 : 1 ≤ n) (h2 : n ≤ 1000) : chkIt (awI n) = 0 := by
  show chkE 0 n 0 ⟨#[120]⟩ [] 0 0 0 = 0
  unfold chkE
  rw [if_neg (by omega), if_neg (by decide +kernel), if_neg (by decide), if_neg (by decide +kernel)]
  rfl
theorem awI_put (n : Nat) (h : n ≤ 100) : (recL 1 (awI n)).length ≤ 100 := by
  show ((1 :: uvar 1) ++ (0 :: putE 0 n 0 ⟨#[120]⟩ [] 0 0 0 0)).length ≤ 100
  unfold putE
  rw [uvar_small (by omega : n < 128), uvar_small (by decide : (1 : Nat) < 128), uvar_small (by decide : (0 : Nat) < 128)]
  have : textP ⟨#[120]⟩ = [1, 120] := by unfold textP; rw [uvar_small (by decide), ByteArray.toList_eq]; rfl
  rw [this, show zig 0 = 0 from rfl, show ([] : List Pr).length = 0 from rfl, uvar_small (by decide : (0 : Nat) < 128)]
  show (_ : Nat) ≤ 100
  simp [pairsP]
theorem awX (ni : Int) (w : World) : Calls Tryz.prog 32 #[.int .u64 ni] w fun e w' => e = .returned (.agg #[.bool false, .int .u8 0, .int .u64 ni, .int .u64 0, .string ⟨#[120]⟩, .slice none 0 0, .int .u8 0, .int .u8 0, .int .i64 0, .int .u8 0, .int .u8 0, .int .u64 0, .int .u64 0]) ∧ Below w.heap.size w w' := by
  have K := fun w' => itemOf 0 ni 0 ⟨#[120]⟩ none 0 0 0 0 0 0 w'
  go_enter Tryz.func32, Tryz.ntmps32
  go_wp2_with fail
  refine calls_genP fun w2 hw2 => ?_
  have U2 := ((Upd.nil [] w).alloc #[.bool false, .int .u8 0, .int .u64 0, .int .u64 0, .string ⟨#[]⟩, .slice none 0 0, .int .u8 0, .int .u8 0, .int .i64 0, .int .u8 0, .int .u8 0, .int .u64 0, .int .u64 0] 36).same hw2
  clear hw2
  (with_reducible refine (K w2).mono ?_)
  rintro e w3 ⟨rfl, hb3⟩
  have U3 := U2.grow hb3
  clear U2 hb3 K
  have z0 := (U3.blk 0 rfl).cell (j := 0) (v := .bool false) rfl
  have z1 := (U3.blk 0 rfl).cell (j := 1) (v := .int .u8 0) rfl
  have z2 := (U3.blk 0 rfl).cell (j := 2) (v := .int .u64 0) rfl
  have z3 := (U3.blk 0 rfl).cell (j := 3) (v := .int .u64 0) rfl
  have z4 := (U3.blk 0 rfl).cell (j := 4) (v := .string ⟨#[]⟩) rfl
  have z5 := (U3.blk 0 rfl).cell (j := 5) (v := .slice none 0 0) rfl
  have z6 := (U3.blk 0 rfl).cell (j := 6) (v := .int .u8 0) rfl
  have z7 := (U3.blk 0 rfl).cell (j := 7) (v := .int .u8 0) rfl
  have z8 := (U3.blk 0 rfl).cell (j := 8) (v := .int .i64 0) rfl
  have z9 := (U3.blk 0 rfl).cell (j := 9) (v := .int .u8 0) rfl
  have z10 := (U3.blk 0 rfl).cell (j := 10) (v := .int .u8 0) rfl
  have z11 := (U3.blk 0 rfl).cell (j := 11) (v := .int .u64 0) rfl
  have z12 := (U3.blk 0 rfl).cell (j := 12) (v := .int .u64 0) rfl
  have zf := (U3.blk 0 rfl).frozen
  go_wp2_with fail
  refine bodyPost_gen fun w6 hw6 => ?_
  have V := ((((((((((((((U3.put 0 rfl 0 (.bool false)).put 0 rfl 1 (.int .u8 0)).put 0 rfl 2 (.int .u64 ni)).put 0 rfl 3 (.int .u64 0)).put 0 rfl 4 (.string ⟨#[120]⟩)).put 0 rfl 5 (.slice none 0 0)).put 0 rfl 6 (.int .u8 0)).put 0 rfl 7 (.int .u8 0)).put 0 rfl 8 (.int .i64 0)).put 0 rfl 9 (.int .u8 0)).put 0 rfl 10 (.int .u8 0)).put 0 rfl 11 (.int .u64 0)).put 0 rfl 12 (.int .u64 0))).same hw6
  simp only [List.setIfInBounds_toArray, List.set_cons_succ, List.set_cons_zero, List.eraseIdx_cons_zero] at V
  clear hw6
  have a0 := (V.blk 0 rfl).cell (j := 0) (v := .bool false) rfl
  have a1 := (V.blk 0 rfl).cell (j := 1) (v := .int .u8 0) rfl
  have a2 := (V.blk 0 rfl).cell (j := 2) (v := .int .u64 ni) rfl
  have a3 := (V.blk 0 rfl).cell (j := 3) (v := .int .u64 0) rfl
  have a4 := (V.blk 0 rfl).cell (j := 4) (v := .string ⟨#[120]⟩) rfl
  have a5 := (V.blk 0 rfl).cell (j := 5) (v := .slice none 0 0) rfl
  have a6 := (V.blk 0 rfl).cell (j := 6) (v := .int .u8 0) rfl
  have a7 := (V.blk 0 rfl).cell (j := 7) (v := .int .u8 0) rfl
  have a8 := (V.blk 0 rfl).cell (j := 8) (v := .int .i64 0) rfl
  have a9 := (V.blk 0 rfl).cell (j := 9) (v := .int .u8 0) rfl
  have a10 := (V.blk 0 rfl).cell (j := 10) (v := .int .u8 0) rfl
  have a11 := (V.blk 0 rfl).cell (j := 11) (v := .int .u64 0) rfl
  have a12 := (V.blk 0 rfl).cell (j := 12) (v := .int .u64 0) rfl
  refine bodyPost_ret (v := .agg #[.bool false, .int .u8 0, .int .u64 ni, .int .u64 0, .string ⟨#[120]⟩, .slice none 0 0, .int .u8 0, .int .u8 0, .int .i64 0, .int .u8 0, .int .u8 0, .int .u64 0, .int .u64 0]) ?_ rfl ⟨rfl, V.below⟩
  simp [results, Tryz.results32, go_sem, a0, a1, a2, a3, a4, a5, a6, a7, a8, a9, a10, a11, a12]
theorem layL_lenA (l : List UInt8) : (layL l).length = l.length + 8 := by simp [layL, four]
theorem awAdm (g j d m b k ks : Nat) (lv : Value) (h : Nat → Nat) (li la : Nat) (es : List (Nat × ItV)) (fs : List FileV) (acc : List UInt8) (n : Nat) (ni : Int) (hni : ni = (n : Nat)) (w : World) (hP : (chL g j d m b lv h li la es k fs).P w) (hj : hasJ fs nmL acc ks)
    (hn : h 0 + 1 = n) (hn9 : n ≤ 100) (hla : la ≤ 1) (hes : es.length ≤ 1000) (hk : k ≤ 1000) (hacc : acc.length ≤ 1000) :
    Calls Tryz.prog 14 #[.pointer (some ⟨g, 0, none⟩), .int .u64 1, .agg #[.bool false, .int .u8 0, .int .u64 ni, .int .u64 0, .string ⟨#[120]⟩, .slice none 0 0, .int .u8 0, .int .u8 0, .int .i64 0, .int .u8 0, .int .u8 0, .int .u64 0, .int .u64 0]] w fun e w' => ∃ lv' es' fs' acc' k', e = .returned (.tuple #[.agg #[.bool false, .int .u8 0, .int .u64 ni, .int .u64 0, .string ⟨#[120]⟩, .slice none 0 0, .int .u8 0, .int .u8 0, .int .i64 0, .int .u8 0, .int .u8 0, .int .u64 0, .int .u64 0], .int .i64 0]) ∧ hasJ fs' nmL acc' ks ∧ acc'.length ≤ acc.length + 200 ∧ k' ≤ k + 200 ∧ es'.length = es.length + 1 ∧
      Upd (chL g j d m b lv h li la es k fs).fp w [chL g j d m b lv' (fun p => if p = 0 then n else h p) li 1 es' k' fs'] w' := by
  subst hni
  have hf : fitV h la 1 (awI n) = 0 := fitV_of (awI_chk n (by omega) (by omega)) (by decide) hla (show h 0 < n by omega) (show n ≤ h 0 + 1 by omega)
  have ht : trimA (awI n) (h (spanO (awI n))) = awI n := by
    show ({ awI n with gf := if h 0 < n then 0 else h 0 + 1 } : ItV) = _
    rw [if_pos (by omega)]
    rfl
  have hr := awI_put n hn9
  have K := admitOk g j d m b k ks lv h li la 1 es fs acc (awI n) w hP hj (awI_ok n (by omega) w) (fun x hx => by simp [rdFp, awI] at hx) hf (show h 0 < _ by omega) (by omega) (by omega) (Nat.zero_le _) (by rw [ht]; omega) (by rw [ht]; omega)
  rw [ht] at K
  refine Calls.mono (show Calls _ _ #[.pointer (some ⟨g, 0, none⟩), .int .u64 1, .agg #[.bool false, .int .u8 0, .int .u64 (n : Nat), .int .u64 0, .string ⟨#[120]⟩, .slice none 0 0, .int .u8 0, .int .u8 0, .int .i64 0, .int .u8 0, .int .u8 0, .int .u64 0, .int .u64 0]] w _ from K) ?_
  rintro e w' ⟨lv', A4, c4, fs', rfl, hj', hU⟩
  exact ⟨lv', _, fs', _, _, rfl, hj', by rw [List.length_append, layL_lenA]; omega, by omega, by simp, hU⟩
theorem awErr (g j d m b k : Nat) (lv : Value) (h : Nat → Nat) (li : Nat) (es : List (Nat × ItV)) (fs : List FileV) (n : Nat) (ni : Int) (hni : ni = (n : Nat)) (w : World) (hP : (chL g j d m b lv h li 1 es k fs).P w) (hn : h 0 = n) (h1 : 1 ≤ n) (hn9 : n ≤ 100) :
    Calls Tryz.prog 14 #[.pointer (some ⟨g, 0, none⟩), .int .u64 1, .agg #[.bool false, .int .u8 0, .int .u64 ni, .int .u64 0, .string ⟨#[120]⟩, .slice none 0 0, .int .u8 0, .int .u8 0, .int .i64 0, .int .u8 0, .int .u8 0, .int .u64 0, .int .u64 0]] w fun e w' => e = .returned (.tuple #[.agg #[.bool false, .int .u8 0, .int .u64 0, .int .u64 0, .string ⟨#[]⟩, .slice none 0 0, .int .u8 0, .int .u8 0, .int .i64 0, .int .u8 0, .int .u8 0, .int .u64 0, .int .u64 0], .int .i64 17]) ∧ Below w.heap.size w w' := by
  subst hni
  have hB := (two_open (two_open (two_open hP |>.get 0 rfl) |>.get 0 rfl)).blk 0 rfl
  have hv : fitV h 1 1 (awI n) = 17 := by
    unfold fitV fitC
    rw [awI_chk n h1 (by omega)]
    show (if (0 : Nat) ≠ 0 then 0 else if 1099511627776 < 1 then 6 else if 1 < 1 then 9 else if n ≤ h 0 then 17 else if h 0 + 1 < n then 16 else 0) = 17
    rw [if_neg (by omega), if_neg (by omega), if_neg (by omega), if_pos (by omega)]
  have K := admitErr g _ lv h li 1 1 (awI n) w hB (awI_ok n (by omega) w) (show h 0 < _ by omega) (by rw [hv]; decide)
  rw [hv] at K
  exact K
set_option maxHeartbeats 4000000 in
theorem awake22 (w : World) : Calls Tryz.prog 7 #[] w fun e w' => e = .returned (.bool true) ∧ Below w.heap.size w w' := by
  have KD := diskNew w
  go_enter Tryz.func7, Tryz.ntmps7
  go_wp2_with fail
  (with_reducible refine KD.mono ?_)
  rintro e w1 ⟨d, m, rfl, hd, hm, hD1, hb1⟩
  have hdm := hD1.innA
  go_wp2_with fail
  (with_reducible refine (crcNew w1).mono ?_)
  rintro e w2 ⟨rfl, hT2, hb2⟩
  obtain ⟨b, hbb⟩ : ∃ b, b = w1.heap.size := ⟨_, rfl⟩
  rw [← hbb] at hT2 ⊢
  have hd1 : d < w1.heap.size := hdm d (.head _)
  have hm1 : m < w1.heap.size := hdm m (.tail _ (.head _))
  have hsz := hb1.size
  have U2 := (Upd.nil [] w).add (hb1.trans (hb2.mono hb1.size)) (chDT d m b []) ⟨hT2, hD1.below hb2, by simp only [List.mem_cons, List.not_mem_nil, or_false]; omega⟩ (fun x hx => by
    rcases List.mem_cons.1 hx with rfl | hx
    · omega
    rcases List.mem_cons.1 hx with rfl | hx
    · exact hd
    rcases List.mem_cons.1 hx with rfl | hx
    · exact hm
    · cases hx)
  clear hbb hD1 hb1 hb2 hT2 hd hm hdm hd1 hm1 hsz KD
  have KO := lOpen0 d m b w2 (U2.get 0 rfl)
  go_wp2_with fail
  (with_reducible refine KO.mono ?_)
  rintro e w3 ⟨g, j, fs3, rfl, hj3, h3⟩
  have U3 := U2.turn 0 rfl h3
  simp only [List.eraseIdx_cons_zero, List.append_nil] at U3
  have hl3 : (layL [2, 1]).length ≤ 100 := by rw [layL_lenA]; decide
  clear h3 U2 KO
  go_wp2_with fail
  (with_reducible refine (awX 1 w3).mono ?_)
  rintro e w4 ⟨rfl, hb4⟩
  have U4 := U3.grow hb4
  clear hb4 U3
  have K1 := awAdm g j d m b 10 _ (.slice none 0 0) (fun _ => 0) 1 0 [] fs3 _ 1 1 rfl w4 (U4.get 0 rfl) hj3 rfl (by decide) (by decide) (by decide) (by decide) (by omega)
  go_wp2_with fail
  (with_reducible refine K1.mono ?_)
  rintro e w5 ⟨lv5, es5, fs5, acc5, k5, rfl, hj5, ha5, hk5, he5, h5⟩
  have U5 := U4.turn 0 rfl h5
  simp only [List.eraseIdx_cons_zero, List.append_nil] at U5
  clear K1 h5 U4 hj3
  go_wp2_with fail
  refine calls_genP fun w6 hw6 => ?_
  have U6 := ((U5.alloc #[.bool false, .int .u8 0, .int .u64 1, .int .u64 0, .string ⟨#[120]⟩, .slice none 0 0, .int .u8 0, .int .u8 0, .int .i64 0, .int .u8 0, .int .u8 0, .int .u64 0, .int .u64 0] 36).drop 0).same hw6
  simp only [List.eraseIdx_cons_zero] at U6
  clear hw6 U5
  (with_reducible refine (awX 2 w6).mono ?_)
  rintro e w7 ⟨rfl, hb7⟩
  have U7 := U6.grow hb7
  clear hb7 U6
  have K2 := awAdm g j d m b k5 _ lv5 (fun p => if p = 0 then 1 else 0) 1 1 es5 fs5 acc5 2 2 rfl w7 (U7.get 0 rfl) hj5 rfl (by decide) (by decide) (by rw [he5]; decide) (by omega) (by omega)
  go_wp2_with fail
  (with_reducible refine K2.mono ?_)
  rintro e w8 ⟨lv8, es8, fs8, acc8, k8, rfl, hj8, ha8, hk8, he8, h8⟩
  have U8 := U7.turn 0 rfl h8
  simp only [List.eraseIdx_cons_zero, List.append_nil] at U8
  clear K2 h8 U7 hj5
  go_wp2_with fail
  refine calls_genP fun w9 hw9 => ?_
  have U9 := ((U8.alloc #[.bool false, .int .u8 0, .int .u64 2, .int .u64 0, .string ⟨#[120]⟩, .slice none 0 0, .int .u8 0, .int .u8 0, .int .i64 0, .int .u8 0, .int .u8 0, .int .u64 0, .int .u64 0] 36).drop 0).same hw9
  simp only [List.eraseIdx_cons_zero] at U9
  clear hw9 U8
  (with_reducible refine (awX 2 w9).mono ?_)
  rintro e w10 ⟨rfl, hb10⟩
  have U10 := U9.grow hb10
  clear hb10 U9
  have K3 := awErr g j d m b k8 lv8 (fun p => if p = 0 then 2 else if p = 0 then 1 else 0) 1 es8 fs8 2 2 rfl w10 (U10.get 0 rfl) rfl (by decide) (by decide)
  go_wp2_with fail
  (with_reducible refine K3.mono ?_)
  rintro e w11 ⟨rfl, hb11⟩
  have U11 := U10.grow hb11
  clear hb11 U10 K3
  have hrow := (two_open (two_open (two_open (U11.get 0 rfl) |>.get 0 rfl) |>.get 0 rfl)).row 1 rfl
  obtain ⟨A, c, rfl⟩ := owns_slice hrow
  obtain ⟨n, hn⟩ : ∃ n, n = es8.length := ⟨_, rfl⟩
  have hn2 : n = 2 := by rw [hn, he8, he5]; rfl
  go_wp2_with fail
  refine calls_genP fun w12 hw12 => ?_
  have U12 := ((U11.alloc #[.bool false, .int .u8 0, .int .u64 0, .int .u64 0, .string ⟨#[]⟩, .slice none 0 0, .int .u8 0, .int .u8 0, .int .i64 0, .int .u8 0, .int .u8 0, .int .u64 0, .int .u64 0] 36).drop 0).same hw12
  simp only [List.eraseIdx_cons_zero] at U12
  clear hw12 U11 hrow
  have hB := (two_open (two_open (two_open (U12.get 0 rfl) |>.get 0 rfl) |>.get 0 rfl)).blk 0 rfl
  have hB2 : Blk w12 g (ledA (.pointer (some ⟨j, 0, none⟩)) (.slice A n c) (fun p => if p = 0 then 2 else if p = 0 then 1 else 0) 1 1) 93 := by rw [hn]; exact hB
  clear hB
  have KL := lLen g n _ A c _ 1 1 w12 hB2
  have KH := lHigh g _ _ _ 1 1 w12 hB2 0 (by decide)
  subst hn2
  clear hn hB2
  have HB := Lib.hid U12.below
  clear U12
  (with_reducible refine KL.mono ?_)
  rintro e w13 ⟨rfl, rfl⟩
  go_wp2_with fail
  (with_reducible refine (show Calls _ _ #[.pointer (some ⟨g, 0, none⟩), .int .u8 0] _ _ from KH).mono ?_)
  rintro e w14 ⟨rfl, rfl⟩
  go_wp2_with fail
  go_ret
  exact ⟨rfl, HB.out⟩
end Go.Proofs.YtdmdfccadjfpiaaGreat
