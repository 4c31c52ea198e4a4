/-
  Nil ledgers' lists; pack.Reader's first calls; ledger.Open of a file with a record of no kind.
-/
import Derived.Test.YtdmdfccadjfpiaaGreatLOp
namespace Go.Proofs.YtdmdfccadjfpiaaGreat
open Go.RowKit FreeOrd
set_option maxRecDepth 100000
attribute [local go_sem] out

theorem lListNil (w : World) : Calls Tryz.prog 25 #[.pointer none] w fun e w' => e = .returned (.slice none 0 0) ∧ w' = w := by
  go_enter Tryz.func25, Tryz.ntmps25
  go_wp2_with fail
  go_ret
  exact ⟨rfl, rfl⟩
theorem ixNil (f : Value) (w : World) : Calls Tryz.prog 81 #[.slice none 0 0, f] w fun e w' => e = .returned (.int .i64 (-1)) ∧ w' = w := by
  go_enter Tryz.func81, Tryz.ntmps81
  go_wp2_with fail
  go_loopw [8] (fun i wr => i = .int .i64 0 ∧ wr = w) (fun _ _ => 0)
  case atStart => exact ⟨rfl, rfl⟩
  case round =>
    obtain ⟨rfl, rfl⟩ := hrel
    go_wp2_with fail
    go_ret
    exact ⟨rfl, rfl⟩
theorem delNil (f : Value) (w : World) : Calls Tryz.prog 54 #[.slice none 0 0, f] w fun e w' => e = .returned (.slice none 0 0) ∧ w' = w := by
  have K := fun w' => ixNil f w'
  go_enter Tryz.func54, Tryz.ntmps54
  go_wp2_with fail
  (with_reducible refine (K _).mono ?_)
  rintro e w1 ⟨rfl, rfl⟩
  go_wp2_with fail
  go_ret
  exact ⟨rfl, rfl⟩
theorem lOfNil (o : Nat) (w : World) : Calls Tryz.prog 26 #[.pointer none, .int .u8 o] w fun e w' => e = .returned (.slice none 0 0) ∧ Below w.heap.size w w' := by
  have hb : Below w.heap.size w (w.alloc (.cells #[.int .u8 o] 5)) := (Below.refl _ _).alloc (Nat.le_refl _) _
  go_enter Tryz.func26, Tryz.ntmps26
  go_wp2_with fail
  (with_reducible refine (lListNil _).mono ?_)
  rintro e w1 ⟨rfl, rfl⟩
  go_wp2_with fail
  (with_reducible refine (delNil _ _).mono ?_)
  rintro e w2 ⟨rfl, rfl⟩
  go_wp2_with fail
  go_ret
  exact ⟨rfl, hb⟩
theorem rdRead (A : Option Addr) (n c : Nat) (w : World) : Calls Tryz.prog 73 #[.slice A n c] w fun e w' => ∃ g, e = .returned (.pointer (some ⟨g, 0, none⟩)) ∧ Upd [] w [chBlk g #[.slice A n c, .int .i64 0] 174] w' := by
  go_enter Tryz.func73, Tryz.ntmps73
  go_wp2_with fail
  refine bodyPost_gen fun w2 hw2 => ?_
  have U := ((Upd.nil [] w).alloc #[.slice A n c, .int .i64 0] 174).same hw2
  clear hw2
  go_ret
  exact ⟨_, rfl, U⟩
theorem rdOk (g : Nat) (v : Value) (c : Nat) (w : World) (hB : Blk w g #[v, .int .i64 (c : Nat)] 174) : Calls Tryz.prog 93 #[.pointer (some ⟨g, 0, none⟩)] w fun e w' => e = .returned (.bool (decide (c = 0))) ∧ w' = w := by
  have c1 := hB.cell (j := 1) (v := .int .i64 c) rfl
  clear hB
  by_cases h : c = 0
  · subst h
    go_enter Tryz.func93, Tryz.ntmps93
    go_wp2_with fail
    go_ret
    exact ⟨rfl, rfl⟩
  · have d : ((c : Int) == 0) = false := by simp; omega
    rw [decide_eq_false h]
    clear h
    go_enter Tryz.func93, Tryz.ntmps93
    go_wp2_with fail
    go_ret
    exact ⟨rfl, rfl⟩
theorem rdByte (g : Nat) (v : Value) (x : UInt8) (r : List UInt8) (w : World) (hB : Blk w g #[v, .int .i64 0] 174) (hr : Rd w 1 v (r.length + 1) (u8L (x :: r))) (hd : ∀ q ∈ rdFp v (r.length + 1), q ≠ g) :
    Calls Tryz.prog 74 #[.pointer (some ⟨g, 0, none⟩)] w fun e w' => ∃ v', e = .returned (.int .u8 x.toNat) ∧ Upd [g] w [chBlk g #[v', .int .i64 0] 174] w' ∧ Rd w' 1 v' r.length (u8L r) ∧ (∀ q, v'.ownBlock = some q → v.ownBlock = some q) := by
  have K := fun w' (hB' : Blk w' g #[v, .int .i64 ((0 : Nat) : Int)] 174) => rdOk g v 0 w' hB'
  have hr0 := hr
  obtain ⟨A, c, rfl, h1, h2, h3, h4⟩ := hr
  obtain ⟨b, oo, rfl, hat⟩ := h4 (by omega)
  have x0 : w.cell? ⟨b, oo, none⟩ = some (.int .u8 x.toNat) := hat 0 _ rfl
  have U0 := Upd.one (chBlk g #[.slice (some ⟨b, oo, none⟩) (r.length + 1) c, .int .i64 0] 174) w hB
  have c0 := hB.cell (j := 0) (v := .slice (some ⟨b, oo, none⟩) (r.length + 1) c) rfl
  have c1 := hB.cell (j := 1) (v := .int .i64 0) rfl
  have cf := hB.frozen
  have hcut := Rd.cutAt (k := 1) hr0 (by omega)
  have K1 := K w hB
  have hbg : b ≠ g := hd b (by unfold rdFp; rw [if_neg (by omega)]; exact .head _)
  have stay : ∀ (A' : Option Addr) (n' c' : Nat) (xs : List Value) (u : Value), (∀ q, (Value.slice A' n' c').ownBlock = some q → q = b) → Rd w 1 (.slice A' n' c') n' xs → Rd (w.setCell ⟨g, 0, none⟩ u) 1 (.slice A' n' c') n' xs := fun A' n' c' xs u hq hrd =>
    (chRd 1 (.slice A' n' c') n' xs (by decide)).loc w _ (fun q hm => Below.heap_setCell w _ _ q (by
      have hm : q ∈ rdFp (.slice A' n' c') n' := hm
      unfold rdFp at hm
      split at hm
      · cases hm
      · rw [hq q (by simpa using hm)]; exact hbg)) hrd
  rw [show (u8L (x :: r)).drop 1 = u8L r from rfl, Nat.add_sub_cancel] at hcut
  unfold maxLen at h3
  have d0 : ((r.length : Int) + 1 == 0) = false := by simp; omega
  have d1 : (0 : Int) < (r.length : Int) + 1 := by omega
  have d2 : (1 : Int) ≤ (r.length : Int) + 1 := by omega
  have HST := Lib.hid stay
  clear h1 h4 hat hB K hr0 stay hd hbg
  by_cases hc1 : c = 1
  · rw [if_pos hc1] at hcut
    subst hc1
    obtain rfl : r = [] := List.eq_nil_of_length_eq_zero (by omega)
    have HC := Lib.hid hcut
    clear hcut
    go_enter Tryz.func74, Tryz.ntmps74
    go_wp2_with fail
    (with_reducible refine K1.mono ?_)
    rintro e w1 ⟨rfl, rfl⟩
    go_wp2_with fail
    refine bodyPost_gen fun w2 hw2 => ?_
    have U2 := (U0.put 0 rfl 0 (.slice (some ⟨b, oo, none⟩) 0 0)).same hw2
    simp only [List.setIfInBounds_toArray, List.set_cons_zero, List.eraseIdx_cons_zero] at U2
    have hr2 := HST.out (some ⟨b, oo, none⟩) 0 0 (u8L []) (.slice (some ⟨b, oo, none⟩) 0 0) (fun q hq => (Option.some.inj hq).symm) HC.out
    rw [← hw2] at hr2
    clear hw2 U0
    go_ret
    exact ⟨_, rfl, U2, hr2, fun q hq => hq⟩
  · rw [if_neg hc1] at hcut
    have HC := Lib.hid hcut
    clear hcut
    go_enter Tryz.func74, Tryz.ntmps74
    go_wp2_with fail
    (with_reducible refine K1.mono ?_)
    rintro e w1 ⟨rfl, rfl⟩
    go_wp2_with fail
    refine bodyPost_gen fun w2 hw2 => ?_
    have U2 := (U0.put 0 rfl 0 (.slice (some ⟨b, oo + 1, none⟩) r.length (c - 1))).same hw2
    simp only [List.setIfInBounds_toArray, List.set_cons_zero, List.eraseIdx_cons_zero] at U2
    have hr2 := HST.out (some ⟨b, oo + 1, none⟩) r.length (c - 1) (u8L r) (.slice (some ⟨b, oo + 1, none⟩) r.length (c - 1)) (fun q hq => (Option.some.inj hq).symm) HC.out
    rw [← hw2] at hr2
    clear hw2 U0
    go_ret
    exact ⟨_, rfl, U2, hr2, fun q hq => hq⟩
theorem repKind (g0 : Value) (v : Value) (x : UInt8) (r : List UInt8) (w : World) (hr : Rd w 1 v (r.length + 1) (u8L (x :: r))) (hx : 3 ≤ x.toNat) :
    Calls Tryz.prog 45 #[g0, v] w fun e w' => e = .returned (.int .i64 12) ∧ Below w.heap.size w w' := by
  have hlt := (chRd 1 v (r.length + 1) (u8L (x :: r)) (by decide)).inn w hr
  have hr0 := hr
  obtain ⟨A, c, rfl, _⟩ := hr
  have HR := Lib.hid hr0
  have HLT := Lib.hid hlt
  have d1 : ((x.toNat : Int) == 2) = false := by simp; omega
  have d2 : ((x.toNat : Int) == 1) = false := by simp; omega
  clear hr0 hx hlt
  go_enter Tryz.func45, Tryz.ntmps45
  go_wp2_with fail
  (with_reducible refine (rdRead _ _ _ _).mono ?_)
  rintro e w1 ⟨g, rfl, U1⟩
  have KB := rdByte g _ x r w1 (U1.blk 0 rfl) (U1.rd0 HR.out) (fun q hq e => by
    have h1 := HLT.out q hq
    have h2 := U1.own _ (.head _) g (chBlk_fp.2 rfl)
    rcases h2 with h2 | h2
    · cases h2
    · omega)
  go_wp2_with fail
  (with_reducible refine KB.mono ?_)
  rintro e w2 ⟨v', rfl, U2, _, _⟩
  have U3 := U1.turn 0 rfl U2
  simp only [List.eraseIdx_cons_zero, List.append_nil] at U3
  have HB := Lib.hid U3.below
  clear KB U1 U2 U3
  go_wp2_with fail
  go_ret
  exact ⟨rfl, HB.out⟩
set_option maxHeartbeats 2000000 in
theorem lOpenKind (d m b : Nat) (v : Value) (x : UInt8) (k : Nat) (w : World) (hP : (chDT d m b [⟨nmL, v, layL [x], k⟩]).P w) (hx : 3 ≤ x.toNat) :
    Calls Tryz.prog 15 #[.pointer (some ⟨d, 0, none⟩), .pointer (some ⟨b, 0, none⟩)] w fun e w' => e = .returned (.tuple #[.pointer none, .int .i64 12]) ∧ Upd (chDT d m b [⟨nmL, v, layL [x], k⟩]).fp w [] w' := by
  have hsc : scanL (layL [x]) = [[x]] := by
    have := scanL_all [[x]] [] (by intro r hr; rw [List.mem_singleton.1 hr]; show 1 ≤ 524288; decide)
    rw [List.append_nil, scanL_nil, List.append_nil] at this
    rw [← this]
    simp [layAll]
  have hJ : Calls Tryz.prog 44 #[.pointer (some ⟨d, 0, none⟩), .pointer (some ⟨b, 0, none⟩), .string ⟨#[108, 101, 100, 103, 101, 114]⟩] w fun e w' => ∃ j A c v1, e = .returned (.tuple #[.pointer (some ⟨j, 0, none⟩), .slice A 1 c, .int .i64 0]) ∧ Rd w' 1 (.slice A 1 c) 1 [v1] ∧ Rd w' 1 v1 1 (u8L [x]) ∧ Upd (chDT d m b [⟨nmL, v, layL [x], k⟩]).fp w [] w' := by
    refine (jOpenSome d m b [⟨nmL, v, layL [x], k⟩] nmL ⟨nmL, v, layL [x], k⟩ w hP.2.1 (by simp [findF]) hP.1).mono ?_
    rintro e w' ⟨j, vv, ps, fs', f', rfl, hps, hv, hall, _, _, _, _, _, _, _, _, hM⟩
    rw [hsc] at hps
    match ps, hps with
    | [(v1, l1)], hps =>
      simp only [List.map_cons, List.map_nil, List.cons.injEq, and_true] at hps
      subst hps
      obtain ⟨A, c, rfl⟩ := owns_slice hv
      refine ⟨j, A, c, v1, rfl, rd_of_owns hv, rd_of_owns (hall _ (.head _)), hM.os, hM.tape, hM.output, hM.size, fun q hq hne => hM.block q hq fun hm => hne ?_, (fun _ h => nomatch h), (fun _ h => nomatch h), List.Pairwise.nil⟩
      simp only [List.mem_cons, List.mem_nil_iff, or_false] at hm
      show q ∈ b :: d :: m :: filesFp _
      simp only [List.mem_cons]
      rcases hm with h | h | h <;> simp [h]
  obtain ⟨S, hS⟩ : ∃ S, S = (chDT d m b [⟨nmL, v, layL [x], k⟩]).fp := ⟨_, rfl⟩
  rw [← hS] at hJ ⊢
  clear hS hP hsc
  go_enter Tryz.func15, Tryz.ntmps15
  go_wp2_with fail
  (with_reducible refine hJ.mono ?_)
  rintro e w1 ⟨j, A, c, v1, rfl, hr1, hr2, U1⟩
  clear hJ
  obtain ⟨A', c', hA, _, h2, h3, h4⟩ := hr1
  injection hA with hA1 hA2 hA3
  subst hA1 hA3
  obtain ⟨q, oo, rfl, hat⟩ := h4 (by omega)
  go_wp2_with fail
  refine wp_gen fun w2 hw2 => ?_
  obtain ⟨cs, hcs, hw⟩ : ∃ cs, cs = ledA (.pointer (some ⟨j, 0, none⟩)) (.slice none 0 0) (fun _ => 0) 0 0 ∧ w2 = w1.alloc (.cells cs 93) := ⟨_, (ledA_new _).symm, hw2⟩
  subst hcs
  have hb2 : Below w1.heap.size w1 w2 := by rw [hw]; exact (Below.refl _ _).alloc (Nat.le_refl _) _
  have U2 := U1.grow hb2
  have hr3 := hr2.below hb2
  have x0 : w2.cell? ⟨q, oo, none⟩ = some v1 := hat.below hb2 0 v1 rfl
  clear hw2 hw U1 hat hr2 h4 hb2
  have KR := fun g0 => repKind g0 v1 x [] w2 hr3 hx
  obtain ⟨A1, c1, rfl, _⟩ := hr3
  go_loopw [30] (fun i wr => i = .int .i64 0 ∧ wr = w2) (fun _ _ => 0)
  case atStart => exact ⟨rfl, rfl⟩
  case round =>
    obtain ⟨rfl, rfl⟩ := hrel
    go_wp2_with fail
    (with_reducible refine (KR _).mono ?_)
    rintro e w3 ⟨rfl, hb3⟩
    have HU := Lib.hid (U2.grow hb3)
    clear U2 KR hb3
    go_wp2_with fail
    go_ret2
    exact ⟨rfl, HU.out⟩
end Go.Proofs.YtdmdfccadjfpiaaGreat
