/-
  match.Names: an alert's labels, then rule and origin where it has none.
-/
import Derived.Test.YteiocplfmjkbkaaGreatDoorMg19
namespace Go.Proofs.YteiocplfmjkbkaaGreatDoor
open Go.RowKit
set_option maxRecDepth 100000
attribute [local go_sem] FreeSl.out

/-- names up to the k-th key of the two -/
def namesP (ls : List Pr) (rule : ByteArray) (org : Nat) : Nat → List Pr
  | 0 => ls
  | 1 => ls ++ (if (getL ls ruleK).2 = true then [] else [(ruleK, rule)])
  | _ => namesL ls rule org
theorem namesP_step (ls : List Pr) (rule : ByteArray) (org k : Nat) (hk : k < 2) : ∃ q : Pr, (#[Value.string ⟨#[114, 117, 108, 101]⟩, .string rule, .string ⟨#[111, 114, 105, 103, 105, 110]⟩, .string (decB org)] : Array Value)[k * 2]? = some (.string q.1) ∧
    (#[Value.string ⟨#[114, 117, 108, 101]⟩, .string rule, .string ⟨#[111, 114, 105, 103, 105, 110]⟩, .string (decB org)] : Array Value)[k * 2 + 1]? = some (.string q.2) ∧ namesP ls rule org (k + 1) = namesP ls rule org k ++ (if (getL ls q.1).2 = true then [] else [q]) := by
  obtain rfl | rfl : k = 0 ∨ k = 1 := by omega
  · exact ⟨(ruleK, rule), rfl, rfl, rfl⟩
  · exact ⟨(originK, decB org), rfl, rfl, rfl⟩
theorem namesP_len (ls : List Pr) (rule : ByteArray) (org k : Nat) : (namesP ls rule org k).length ≤ ls.length + 2 := by
  unfold namesP
  split
  · omega
  · rw [List.length_append]; split <;> simp
  · unfold namesL; rw [List.length_append, List.length_append]; split <;> split <;> simp
set_option maxHeartbeats 4000000 in
theorem mNames (org : Nat) (rule : ByteArray) (lv st sn pr vl : Value) (ls : List Pr) (w : World) (ho : org ≤ 9) (hl : ls.length ≤ 100) (hr : Rd w 2 lv ls.length (pairCells ls)) :
    Calls Tryz.prog 28 #[.agg #[.int .u8 org, .string rule, lv, st, sn, pr, vl]] w fun e w' => ∃ v, e = .returned v ∧ w'.ownsRow w.heap.size 71 2 v (namesL ls rule org).length (pairCells (namesL ls rule org)) ∧ Below w.heap.size w w' := by
  have U0 := (Upd.nil [] w).alloc #[.int .u8 org, .string rule, lv, st, sn, pr, vl] 37
  have KG := fun k w' (h : Below w.heap.size w w') => lGet lv ls k w' (hr.below h)
  have KN := fun w' => mNumber org w' ho
  have HR := Lib.hid hr
  obtain ⟨i0, hi, hz0, hz1, hz2⟩ := info_parts infoPair
  clear hr
  go_enter Tryz.func28, Tryz.ntmps28
  go_wp2_with (at_builtin; refine wpl_stop fun W hW => ?_)
  refine Stopped.mk ?_
  have U1 := (U0.alloc #[] 71).same hW
  have UZ := ((Upd.nil [] (w.alloc (.cells #[.int .u8 org, .string rule, lv, st, sn, pr, vl] 37))).alloc #[] 71).same hW
  rw [allocSzR] at U1
  clear hW
  refine wpl_append_copy rfl (.tmp 8) (.tmp 10) 33 rfl (w.heap.size + 1) 71 i0 _ 2 32 Tryz.underlying33 hi hz0 hz1 hz2 rfl (by decide) _ (U1.blk 0 rfl) (Nat.le_refl _) rfl _ _ _ rfl (HR.out.below U1.below) (by unfold maxLen; omega) (by omega) fun v2 w2 h2 h3 => ?_
  have U3 := U0.addRow (UZ.below.trans (h3.mono UZ.below.size)) h2 (by rw [allocSzR]; exact Nat.le_refl _)
  obtain ⟨A2, c2', rfl⟩ := owns_slice h2
  clear UZ h2 h3 U1
  go_upto_region 2 with fail
  refine wp_gen fun W9 hW9 => ?_
  have U9 := U3.same hW9
  clear hW9 U3 U0
  have F : ∀ w', Below W9.heap.size W9 w' → w'.cell? ⟨w.heap.size, 0, none⟩ = some (.int .u8 org) ∧ w'.cell? ⟨w.heap.size, 1, none⟩ = some (.string rule) := fun w' h => ⟨((U9.grow h).blk 1 rfl).cell (j := 0) (v := .int .u8 org) rfl, ((U9.grow h).blk 1 rfl).cell (j := 1) (v := .string rule) rfl⟩
  have ext : ∀ w' w'', Below W9.heap.size W9 w' → Below w'.heap.size w' w'' → Below W9.heap.size W9 w'' := fun w' w'' h h2 => h.trans (h2.mono h.size)
  refine FreeSl.region_free (fun w' => Below W9.heap.size W9 w') [] [7, 8] [0, 1, 2, 3, 4, 5, 6, 9] (by kernel_rfl) (by kernel_rfl) (by kernel_rfl) (Below.refl _ _).drew ?_
  repeat (first
    | (refine FreeSl.RelSeq.pure_ (c := ?_) rfl rfl ?_ ?_; rotate_left; (focus (intro x w'; dsimp only; go_simp; (repeat' apply And.intro) <;> first | with_reducible rfl | assumption)); simp only [Act.put, List.setIfInBounds_toArray, List.set_cons_zero, List.set_cons_succ])
    | (refine FreeSl.RelSeq.skip_ rfl (fun _ => rfl) ?_; simp only [Act.put, List.setIfInBounds_toArray, List.set_cons_zero, List.set_cons_succ])
    | (refine FreeSl.RelSeq.pureG_ (c := ?_) rfl (fun _ => rfl) rfl ?_ ?_; rotate_left; (focus (intro x w'; dsimp only; go_simp; (repeat' apply And.intro) <;> first | with_reducible rfl | assumption)); simp only [Act.put, List.setIfInBounds_toArray, List.set_cons_zero, List.set_cons_succ])
    | (refine FreeSl.RelSeq.grow_ (c := ?_) rfl rfl ?_ ?_; rotate_left; (focus (intro x w' hw _; dsimp only; obtain ⟨d0, d1⟩ := F w' hw; have hbr := Below.refl w'.heap.size w'; go_simp; (repeat' apply And.intro) <;> first | with_reducible rfl | assumption)); simp only [Act.put, List.setIfInBounds_toArray, List.set_cons_zero, List.set_cons_succ])
    | (refine FreeSl.RelSeq.growG_ (c := ?_) rfl (fun _ => rfl) rfl ?_ ?_; rotate_left; (focus (intro x w' hw _; dsimp only; obtain ⟨d0, d1⟩ := F w' hw; have hbr := Below.refl w'.heap.size w'; go_simp; (repeat' apply And.intro) <;> first | with_reducible rfl | assumption)); simp only [Act.put, List.setIfInBounds_toArray, List.set_cons_zero, List.set_cons_succ])
    | (refine FreeSl.RelSeq.grow_ (c := ?_) rfl rfl ?_ ?_; rotate_left; (focus (intro x w' hw _; dsimp only; go_simp; (with_reducible refine (KN w').mono ?_); rintro e w2 ⟨rfl, hb2⟩; have hI := ext w' w2 hw hb2; go_simp; (repeat' apply And.intro) <;> first | with_reducible rfl | assumption)); simp only [Act.put, List.setIfInBounds_toArray, List.set_cons_zero, List.set_cons_succ]))
  refine FreeSl.RelSeq.nil_ fun x9 w10 hw _ _ => ?_
  have U10 := U9.grow hw
  refine FreeSl.TailSeq.cons_ rfl ?_
  dsimp only
  go_simp
  refine FreeSl.TailSeq.cons_ rfl ?_
  dsimp only
  go_simp
  refine FreeSl.TailSeq.nil_gen fun w11 hw11 => ?_
  have U11 := (U10.alloc #[.string ⟨#[114, 117, 108, 101]⟩, .string rule, .string ⟨#[111, 114, 105, 103, 105, 110]⟩, .string (decB org)] 71).same hw11
  clear F ext hw hw11 U9 U10 KN
  obtain ⟨g4, hg4⟩ : ∃ g, g = w10.heap.size := ⟨_, rfl⟩
  rw [← hg4] at U11 ⊢
  clear hg4
  go_wp2_with fail
  go_loopw [3, 21] (fun o i wr => ∃ (k : Nat) (acc : List Pr), k ≤ 2 ∧ i = .int .i64 k ∧ Hid (acc = namesP ls rule org k) ∧ Upd [] w [chRow 71 2 o acc.length (pairCells acc), chBlk g4 #[.string ⟨#[114, 117, 108, 101]⟩, .string rule, .string ⟨#[111, 114, 105, 103, 105, 110]⟩, .string (decB org)] 71, chBlk w.heap.size #[.int .u8 org, .string rule, lv, st, sn, pr, vl] 37] wr) (fun _ i _ => 2 - (intOf i).toNat)
  case atStart => exact ⟨0, ls, by omega, rfl, Lib.hid rfl, U11.pick [1, 0, 2] (by decide)⟩
  case round =>
    obtain ⟨k, acc, hk, rfl, HA, V0⟩ := hrel
    clear U11
    have hlen : acc.length ≤ ls.length + 2 := by rw [HA.out]; exact namesP_len _ _ _ _
    obtain ⟨Ao, co, rfl⟩ := owns_slice (V0.row 0 rfl)
    by_cases hlt : k < 2
    · obtain ⟨q, hq0, hq1, hst⟩ := namesP_step ls rule org k hlt
      rw [← HA.out] at hst
      have c0 := (V0.blk 1 rfl).cell hq0
      have c1 := (V0.blk 1 rfl).cell hq1
      have K := KG q.1
      obtain ⟨⟨g1, b1⟩, e1⟩ : ∃ y, y = getL ls q.1 := ⟨_, rfl⟩
      rw [← e1] at K hst
      dsimp only at K hst
      have V1 := V0.alloc #[.string q.1, .string q.2] 71
      have y2 := (V1.blk 3 rfl).cell (j := 2) (v := lv) rfl
      obtain ⟨q1, q2⟩ := q
      dsimp only at c0 c1 K hst V1 y2
      clear hq0 hq1 e1
      cases b1 with
      | true =>
        rw [if_pos rfl, List.append_nil] at hst
        have HS := Lib.hid hst.symm
        clear hst
        go_wp2_with fail
        refine calls_genP fun w3 hw3 => ?_
        have V2 := V1.same hw3
        clear hw3 V1
        (with_reducible refine (K _ V2.below).mono ?_)
        rintro e w4 ⟨rfl, hb4⟩
        have V4 := V2.grow hb4
        clear V2 hb4
        go_wp2_with fail
        go_roundw
        case rel => exact ⟨k + 1, acc, by omega, by go_num, HS, V4.drop 0⟩
        case measure => simp [intOf]; omega
      | false =>
        rw [if_neg (by decide)] at hst
        have HS := Lib.hid hst.symm
        clear hst
        go_wp2_with fail
        refine calls_genP fun w3 hw3 => ?_
        have V2 := V1.same hw3
        clear hw3 V1
        (with_reducible refine (K _ V2.below).mono ?_)
        rintro e w4 ⟨rfl, hb4⟩
        have V4 := V2.grow hb4
        clear V2 hb4
        have z0 := (V4.blk 0 rfl).cell (j := 0) (v := .string q1) rfl
        have z1 := (V4.blk 0 rfl).cell (j := 1) (v := .string q2) rfl
        go_wp2_with (at_builtin; refine wpl_stop fun W5 hW5 => ?_)
        refine Stopped.mk ?_
        have T5 := (V4.alloc #[.string q1, .string q2] 71).same hW5
        clear hW5 V4
        refine wpl_append_rd rfl (.tmp 35) (.tmp 37) 33 rfl 0 71 i0 _ 2 32 Tryz.underlying33 hi hz0 hz1 hz2 rfl (by decide) _ acc.length _ rfl (T5.row 2 rfl) _ 1 _ rfl (rd_pair (p := (q1, q2)) (T5.blk 0 rfl)) (by intro u hu; simp [pairCells] at hu; rcases hu with rfl | rfl <;> rfl) (by unfold maxLen; omega) (by omega) (Nat.zero_le _) fun v5 w5 ho5 hg5 hv5 => ?_
        have T6 := T5.app 2 rfl ho5 hg5 hv5
        simp only [List.eraseIdx_cons_succ, List.eraseIdx_cons_zero] at T6
        obtain ⟨A5, c5', rfl⟩ := owns_slice ho5
        clear ho5 hg5 hv5 T5 z0 z1
        go_wp2_with fail
        go_roundw
        case rel => exact ⟨k + 1, acc ++ [(q1, q2)], by omega, by go_num, HS, by have := T6.pick [0, 3, 4] (by decide); simpa [pairCells] using this⟩
        case measure => simp [intOf]; omega
    · obtain rfl : k = 2 := by omega
      have hE : acc = namesL ls rule org := HA.out
      have HE := Lib.hid hE
      clear hE
      go_wp2_with fail
      go_ret
      refine ⟨_, rfl, ?_, V0.below⟩
      rw [← HE.out]
      exact rowBaseR V0 0 rfl
end Go.Proofs.YteiocplfmjkbkaaGreatDoor
