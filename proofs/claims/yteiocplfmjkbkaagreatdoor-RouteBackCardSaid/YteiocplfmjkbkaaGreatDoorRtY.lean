/-
  Questions as texts; a number as a text: route.printed, match.Ask.Text, match.Asks.Text.
-/
import Derived.Test.YteiocplfmjkbkaaGreatDoorRtJ
namespace Go.Proofs.YteiocplfmjkbkaaGreatDoor
open Go.RowKit
set_option maxRecDepth 100000

theorem tPrinted_small (n : Nat) (w : World) (h9 : n ≤ 9) :
    Calls Tryz.prog 38 #[.int .u64 n] w fun e w' => e = .returned (.string (decB n)) ∧ Below w.heap.size w w' := by
  have hcv := fun (W : World) => conv_one (P := Tryz.prog) 80 9 5 Tryz.underlying80 Tryz.underlying5 Tryz.underlying9 (W.alloc (.cells #[.int .u8 (48 + (n:Int))] 5)) ⟨W.heap.size, 0, none⟩ 1 (48 + n) (by simp)
  go_enter Tryz.func38, Tryz.ntmps38
  go_wp2_with fail
  go_ret
  exact ⟨by rw [decB_small n h9]; rfl, (Below.refl _ _).alloc (Nat.le_refl _) _⟩
theorem tPrinted_any : ∀ (k n : Nat) (w : World), n < 10 ^ (k+1) → n < 18446744073709551616 →
    Calls Tryz.prog 38 #[.int .u64 n] w fun e w' => e = .returned (.string (decB n)) ∧ Below w.heap.size w w' := by
  intro k
  induction k with
  | zero => intro n w h _; exact tPrinted_small n w (by omega)
  | succ k ih =>
    intro n w h h2
    by_cases h9 : n ≤ 9
    · exact tPrinted_small n w h9
    have hq : n / 10 < 10 ^ (k+1) := by rw [Nat.pow_succ] at h; omega
    have e1 := Lib.hid (decB_big n (by omega))
    have s1 := decB_size (n/10) (by omega)
    have s2 := decB_size (n%10) (by omega)
    clear h
    go_enter Tryz.func38, Tryz.ntmps38
    go_wp2_with fail
    refine (ih (n/10) _ hq (by omega)).mono ?_
    rintro e w1 ⟨rfl, hb1⟩
    go_wp2_with fail
    refine (tPrinted_small (n%10) _ (by omega)).mono ?_
    rintro e w2 ⟨rfl, hb2⟩
    go_wp2_with fail
    go_ret
    exact ⟨by rw [e1.out]; rfl, hb1.trans (hb2.mono hb1.size)⟩
theorem tPrinted (n : Nat) (w : World) (h : n < 18446744073709551616) :
    Calls Tryz.prog 38 #[.int .u64 n] w fun e w' => e = .returned (.string (decB n)) ∧ Below w.heap.size w w' :=
  tPrinted_any 19 n w (by omega) h

set_option maxHeartbeats 4000000 in
/-- match.Ask.Text of a right question. -/
theorem askText (key : ByteArray) (op : Nat) (x : ByteArray) (w : World) (hc : chkA (key, op, x) = 0) :
    Calls Tryz.prog 58 #[.agg #[.string key, .int .u8 (op : Nat), .string x]] w fun e w' => e = .returned (.string (aqT (key, op, x))) ∧ Below w.heap.size w w' := by
  obtain ⟨_, h1, h5, _⟩ := chkA_parts hc
  obtain ⟨z1, z2, _⟩ := ask_size hc
  dsimp only at h1 h5 z1 z2
  clear hc
  obtain rfl | rfl | rfl | rfl | rfl : op = 1 ∨ op = 2 ∨ op = 3 ∨ op = 4 ∨ op = 5 := by omega
  · go_enter Tryz.func58, Tryz.ntmps58
    go_wp2_with fail
    go_ret
    refine ⟨congrArg (fun s => Ending.returned (.string s)) (ba_ext ?_), (Below.refl _ _).alloc (Nat.le_refl _) _⟩
    rw [aqT_list]
    simp [aqL, ByteArray.data_append]
  · go_enter Tryz.func58, Tryz.ntmps58
    go_wp2_with fail
    go_ret
    refine ⟨congrArg (fun s => Ending.returned (.string s)) (ba_ext ?_), (Below.refl _ _).alloc (Nat.le_refl _) _⟩
    rw [aqT_list]
    simp [aqL, ByteArray.data_append]
  · go_enter Tryz.func58, Tryz.ntmps58
    go_wp2_with fail
    go_ret
    refine ⟨congrArg (fun s => Ending.returned (.string s)) (ba_ext ?_), (Below.refl _ _).alloc (Nat.le_refl _) _⟩
    rw [aqT_list]
    simp [aqL, ByteArray.data_append]
  · go_enter Tryz.func58, Tryz.ntmps58
    go_wp2_with fail
    go_ret
    refine ⟨congrArg (fun s => Ending.returned (.string s)) (ba_ext ?_), (Below.refl _ _).alloc (Nat.le_refl _) _⟩
    rw [aqT_list]
    simp [aqL]
  · go_enter Tryz.func58, Tryz.ntmps58
    go_wp2_with fail
    go_ret
    refine ⟨congrArg (fun s => Ending.returned (.string s)) (ba_ext ?_), (Below.refl _ _).alloc (Nat.le_refl _) _⟩
    rw [aqT_list]
    simp [aqL, ByteArray.data_append]
theorem asksT_join (l : List Aq) (h : l ≠ []) : (⟨(joinC ((l.map aqT).map (·.data.toList))).toArray⟩ : ByteArray) = asksT l := by
  unfold asksT
  rw [if_neg h, List.map_map]
  have e : (fun x : ByteArray => x.data.toList) ∘ aqT = aqL := by funext a; exact aqT_list a
  rw [e]
set_option maxHeartbeats 4000000 in
/-- match.Asks.Text of right questions. -/
theorem asksText (l : List Aq) (v : Value) (w : World) (hr : Rd w 3 v l.length (l.flatMap aqC)) (hl : l.length ≤ 8) (hc : ∀ a ∈ l, chkA a = 0) :
    Calls Tryz.prog 37 #[v] w fun e w' => e = .returned (.string (asksT l)) ∧ Below w.heap.size w w' := by
  obtain ⟨j0, ji, jz0, jz1, jz2⟩ := info_parts infoStrC
  obtain ⟨A, c, rfl, h1, h2, h3, h4⟩ := hr
  unfold maxLen at h3
  by_cases h0 : l = []
  · subst h0
    clear h4 hc
    go_enter Tryz.func37, Tryz.ntmps37
    go_wp2_with fail
    go_ret
    exact ⟨rfl, Below.refl _ _⟩
  have HA := Lib.hid h4
  have HC := Lib.hid hc
  have H0 := Lib.hid h0
  have hpos : 0 < l.length := List.length_pos_iff.2 h0
  obtain ⟨nl, hnl⟩ : ∃ n, n = l.length := ⟨_, rfl⟩
  rw [← hnl] at h2 hl hpos ⊢
  have HNL := Lib.hid hnl
  have b0 : ((nl : Int) == 0) = false := by
    have : ¬ (nl : Int) = 0 := by omega
    simpa using this
  have U0 := (Upd.nil [] w).nilRow 9 1
  clear h4 hc h1 hnl h0
  go_enter Tryz.func37, Tryz.ntmps37
  go_wp2_with fail
  go_loopw [3, 11] (fun o i wr => ∃ k : Nat, k ≤ nl ∧ i = .int .i64 k ∧ Upd [] w [chRow 9 1 o k (((l.take k).map aqT).map Value.string)] wr) (fun _ i _ => nl - (intOf i).toNat)
  case atStart => exact ⟨0, Nat.zero_le _, rfl, U0⟩
  case round =>
    obtain ⟨k, hk, rfl, U1⟩ := hrel
    clear U0
    obtain ⟨Ao, co, rfl⟩ := owns_slice (U1.row 0 rfl)
    by_cases hlt : k < nl
    · obtain ⟨b, o, rfl, hat⟩ := HA.out (by rw [← HNL.out]; omega)
      obtain ⟨a, ha⟩ : ∃ a, l[k]? = some a := ⟨_, List.getElem?_eq_getElem (by rw [← HNL.out]; omega)⟩
      have c0 := hat.nth0 U1.below (k*3) _ (flatN aqC 3 aqC_len l k a ha 0 _ rfl)
      have c1 := hat.nth U1.below (k*3) 1 _ (flatN aqC 3 aqC_len l k a ha 1 _ rfl)
      have c2 := hat.nth U1.below (k*3) 2 _ (flatN aqC 3 aqC_len l k a ha 2 _ rfl)
      have hca := HC.out a (List.mem_of_getElem? ha)
      have K := fun w' => askText a.1 a.2.1 a.2.2 w' hca
      have HT := Lib.hid (show ((l.take (k + 1)).map aqT).map Value.string = ((l.take k).map aqT).map Value.string ++ [.string (aqT a)] by rw [List.take_add_one, ha]; simp)
      have U2 := U1.alloc #[.string a.1, .int .u8 (a.2.1 : Nat), .string a.2.2] 68
      obtain ⟨ta, hta⟩ : ∃ z, z = aqT a := ⟨_, rfl⟩
      rw [show aqT (a.1, a.2.1, a.2.2) = ta from hta.symm] at K
      rw [← hta] at HT
      clear ha hat hca hta U1
      go_wp2_with fail
      refine calls_genP fun w3 hw3 => ?_
      have U3 := U2.same hw3
      clear hw3 U2
      (with_reducible refine (K _).mono ?_)
      rintro e w4 ⟨rfl, hb4⟩
      have U4 := U3.grow hb4
      clear U3 hb4 c0 c1 c2 K
      go_wp2_with (at_builtin; refine wpl_stop fun W hW => ?_)
      refine Stopped.mk ?_
      have U5 := (U4.alloc #[.string ta] 9).same hW
      clear hW U4
      refine wpl_append_rd rfl (.tmp 15) (.tmp 18) 46 rfl 0 9 j0 _ 1 16 Tryz.underlying46 ji jz0 jz1 jz2 rfl (by decide) _ k _ rfl (U5.row 2 rfl) _ 1 _ rfl (rd_oneR (U5.blk 0 rfl) (n := 1) rfl) (by intro u hu; simp at hu; subst hu; rfl) (by unfold maxLen; omega) (by omega) (Nat.zero_le _) fun v7 w7 hown7 hgr7 hv7 => ?_
      have U7 := U5.app 2 rfl hown7 hgr7 hv7
      simp only [List.eraseIdx_cons_succ, List.eraseIdx_cons_zero] at U7
      obtain ⟨A7, c7, rfl⟩ := owns_slice hown7
      clear hown7 hgr7 hv7 U5
      go_wp2_with fail
      go_roundw
      case rel => exact ⟨k + 1, by omega, by go_num, by rw [HT.out]; exact (U7.drop 1).drop 1⟩
      case measure => simp [intOf]; omega
    · obtain rfl : k = nl := by omega
      have hrd : Rd wr 1 (.slice Ao (l.map aqT).length co) (l.map aqT).length ((l.map aqT).map Value.string) := by
        have := rd_of_owns (U1.row 0 rfl)
        rw [List.length_map]
        rw [HNL.out, List.take_length] at this
        exact this
      have hsz : (joinC ((l.map aqT).map (·.data.toList))).length ≤ 140737488355328 := by
        have h5 := joinC_len 32 ((l.map aqT).map (·.data.toList)) fun y hy => by
          rw [List.map_map] at hy
          obtain ⟨a, ha, rfl⟩ := List.mem_map.1 hy
          have := aqT_size (HC.out a ha)
          rw [Lib.size_eq] at this
          exact this
        rw [List.length_map, List.length_map, ← HNL.out] at h5
        omega
      have KJ := strJoin (.slice Ao (l.map aqT).length co) (l.map aqT) wr hrd hsz (by rw [List.length_map, ← HNL.out]; omega)
      rw [asksT_join l H0.out, List.length_map, ← HNL.out] at KJ
      obtain ⟨ta, hta⟩ : ∃ z, z = asksT l := ⟨_, rfl⟩
      rw [← hta] at KJ
      have HTA := Lib.hid hta
      clear hrd hsz hta
      go_wp2_with fail
      (with_reducible refine KJ.mono ?_)
      rintro e w5 ⟨rfl, hb5⟩
      go_wp2_with fail
      go_ret
      exact ⟨by rw [← HTA.out]; rfl, (U1.grow hb5).below⟩
end Go.Proofs.YteiocplfmjkbkaaGreatDoor
