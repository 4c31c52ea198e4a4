/-
  The law's own texts of an alert: the reference's Text and Signed, a node's name, a state's word.
-/
import Derived.Test.YtdghpjkjhlankaaTopo
import Derived.Test.YtdghpjkjhlankaaFreeS
namespace Go.Proofs.Ytdghpjkjhlankaa
open Go.RowKit
set_option maxRecDepth 100000

theorem ba_inj {a b : ByteArray} (h : a.data.toList = b.data.toList) : a = b := by cases a; cases b; simp only at h; congr; exact Array.toList_inj.1 h
section
open FreeSl
attribute [local go_sem] out
theorem refText (v : Value) (ps : List (ByteArray × ByteArray)) (w : World) (hr : Rd w 2 v ps.length (pairCells ps)) (hz : (textL ps).length ≤ 140737488355328) :
    Calls Try.prog 12 #[v] w fun e w' => e = .returned (.string ⟨(textL ps).toArray⟩) ∧ Below w.heap.size w w' := by
  obtain ⟨A, c, rfl, h1, h2, h3, h4⟩ := hr
  unfold maxLen at h3
  go_enter Try.func12, Try.ntmps12
  go_wp2_with fail
  go_loopw [3, 4] (fun s i wr => ∃ (k : Nat) (x : ByteArray), k ≤ ps.length ∧ i = .int .i64 k ∧ s = .string x ∧ x.data.toList = textL (ps.take k) ∧ Below w.heap.size w wr) (fun _ i _ => ps.length - (intOf i).toNat)
  case atStart => exact ⟨0, ⟨#[]⟩, Nat.zero_le _, rfl, rfl, by simp [textL], Below.refl _ _⟩
  case round =>
    obtain ⟨k, x, hk, rfl, rfl, hx, hB⟩ := hrel
    by_cases hlt : k < ps.length
    · obtain ⟨p, hp⟩ : ∃ p, ps[k]? = some p := ⟨_, List.getElem?_eq_getElem hlt⟩
      obtain ⟨b, o, rfl, hat⟩ := h4 (by omega)
      have F : ∀ w', Below wr.heap.size wr w' → w'.cell? ⟨b, o + k * 2, none⟩ = some (.string p.1) ∧ w'.cell? ⟨b, o + k * 2 + 1, none⟩ = some (.string p.2) := fun w' h => by
        have hb2 := hB.trans (h.mono hB.size)
        obtain ⟨e1, e2⟩ := pairCells_at ps k p hp
        exact ⟨hat.nth0 hb2 (k * 2) _ e1, hat.nth hb2 (k * 2) 1 _ e2⟩
      have hxs : x.size = (textL (ps.take k)).length := by rw [← hx]; rfl
      have hts := textL_take_succ ps k p hp
      have htl := textL_take ps (k + 1)
      rw [hts, List.length_append, pairL_len] at htl
      have hpz : p.1.size + p.2.size + 1 ≤ 140737488355328 := by omega
      have hx9 : x.size ≤ 140737488355328 := by have := textL_take ps k; omega
      have c0 : ¬ 9223372036854775807 < x.size + 1 := by omega
      clear h4 h1 hat hts htl hxs
      by_cases hk0 : k = 0
      · have hx2 : textL (ps.take k) = [] := by subst hk0; simp [textL]
        have hkp : ¬ 0 < k := by omega
        rw [hx2] at hx
        have HK0 := Lib.hid hk0
        clear hx2 hk0
        go_wp2_with fail
        have c1 : ¬ 9223372036854775807 < x.size + p.1.size := by omega
        have c2 : ¬ 9223372036854775807 < x.size + p.1.size + 1 := by omega
        have c3 : ¬ 9223372036854775807 < x.size + p.1.size + 1 + p.2.size := by omega
        refine region_free (fun w' => Below wr.heap.size wr w') [] [] (List.range 15) (by kernel_rfl) (by kernel_rfl) (by kernel_rfl) (Below.refl _ _).drew ?_
        simp only [List.range, List.range.loop]
        repeat (first
          | (refine RelSeq.pure_ (c := ?_) rfl rfl ?_ ?_; rotate_left; (focus (intro x w'; dsimp only; go_simp; (repeat' apply And.intro) <;> first | with_reducible rfl | assumption)); simp only [Act.put, List.setIfInBounds_toArray, List.set_cons_zero, List.set_cons_succ])
          | (refine RelSeq.grow_ (c := ?_) rfl rfl ?_ ?_; rotate_left; (focus (intro x w' hw _; dsimp only; obtain ⟨d0, d1⟩ := F w' hw; have hbr := Below.refl w'.heap.size w'; go_simp; (repeat' apply And.intro) <;> first | with_reducible rfl | assumption)); simp only [Act.put, List.setIfInBounds_toArray, List.set_cons_zero, List.set_cons_succ]))
        refine RelSeq.nil_ fun x2 w6 hw6 _ _ => ?_
        refine TailSeq.nil_ ?_
        go_wp2_with fail
        go_roundw
        case rel => exact ⟨k + 1, _, by omega, by go_num, rfl, by rw [textL_take_succ ps k p hp]; rw [if_pos HK0.out]; simp [hx, ByteArray.data_append, pairL], hB.trans (hw6.mono hB.size)⟩
        case measure => simp [intOf]; omega
      · have hkp : 0 < k := Nat.pos_of_ne_zero hk0
        have HK0 := Lib.hid hk0
        clear hk0
        go_wp2_with fail
        generalize hX : x ++ ⟨#[44]⟩ = X
        have hX9 : X.size ≤ 140737488355329 := by rw [← hX, ByteArray.size_append]; show x.size + 1 ≤ _; omega
        have hXd : X.data.toList = textL (ps.take k) ++ [44] := by rw [← hX, ByteArray.data_append, Array.toList_append, hx]
        clear hX c0 hx hx9
        have c1 : ¬ 9223372036854775807 < X.size + p.1.size := by omega
        have c2 : ¬ 9223372036854775807 < X.size + p.1.size + 1 := by omega
        have c3 : ¬ 9223372036854775807 < X.size + p.1.size + 1 + p.2.size := by omega
        refine region_free (fun w' => Below wr.heap.size wr w') [] [] (List.range 15) (by kernel_rfl) (by kernel_rfl) (by kernel_rfl) (Below.refl _ _).drew ?_
        simp only [List.range, List.range.loop]
        repeat (first
          | (refine RelSeq.pure_ (c := ?_) rfl rfl ?_ ?_; rotate_left; (focus (intro x w'; dsimp only; go_simp; (repeat' apply And.intro) <;> first | with_reducible rfl | assumption)); simp only [Act.put, List.setIfInBounds_toArray, List.set_cons_zero, List.set_cons_succ])
          | (refine RelSeq.grow_ (c := ?_) rfl rfl ?_ ?_; rotate_left; (focus (intro x w' hw _; dsimp only; obtain ⟨d0, d1⟩ := F w' hw; have hbr := Below.refl w'.heap.size w'; go_simp; (repeat' apply And.intro) <;> first | with_reducible rfl | assumption)); simp only [Act.put, List.setIfInBounds_toArray, List.set_cons_zero, List.set_cons_succ]))
        refine RelSeq.nil_ fun x2 w6 hw6 _ _ => ?_
        refine TailSeq.nil_ ?_
        go_wp2_with fail
        go_roundw
        case rel => exact ⟨k + 1, _, by omega, by go_num, rfl, by rw [textL_take_succ ps k p hp]; rw [if_neg HK0.out]; simp [hXd, ByteArray.data_append, pairL], hB.trans (hw6.mono hB.size)⟩
        case measure => simp [intOf]; omega
    · obtain rfl : k = ps.length := by omega
      rw [List.take_length] at hx
      go_wp2_with fail
      go_ret
      refine ⟨?_, hB⟩
      have hx3 := ba_inj (b := ⟨(textL ps).toArray⟩) hx
      subst hx3
      rfl
end
section
open FreeOrd
attribute [local go_sem] out
theorem refSigned (n : Int) (w : World) (h0 : -9223372036854775808 ≤ n) (h1 : n ≤ 9223372036854775807) :
    Calls Try.prog 22 #[.int .i64 n] w fun e w' => e = .returned (.string (sdecB n)) ∧ Below w.heap.size w w' := by
  by_cases h : n < 0
  · have e := Lib.hid (show sdecB n = ⟨#[45]⟩ ++ decB n.natAbs by unfold sdecB; rw [if_pos h])
    have hs := decB_size n.natAbs (by omega)
    go_enter Try.func22, Try.ntmps22
    go_wp2_with fail
    rw [show (-(n + 1) + 1) = ((n.natAbs : Nat) : Int) from by omega]
    refine (refItoa n.natAbs _ (by omega)).mono ?_
    rintro e w1 ⟨rfl, hb⟩
    have h45 : (⟨#[45]⟩ : ByteArray).size = 1 := rfl
    go_wp2_with fail
    go_ret
    exact ⟨by rw [e.out]; rfl, hb⟩
  · have e := Lib.hid (show sdecB n = decB n.toNat by unfold sdecB; rw [if_neg h])
    have hs := decB_size n.toNat (by omega)
    obtain ⟨m, rfl⟩ := Int.eq_ofNat_of_zero_le (by omega : 0 ≤ n)
    go_enter Try.func22, Try.ntmps22
    go_wp2_with fail
    refine (refItoa m _ (by omega)).mono ?_
    rintro e w1 ⟨rfl, hb⟩
    go_wp2_with fail
    go_ret
    exact ⟨by rw [e.out]; rfl, hb⟩
theorem lawName (v0 v1 v2 v3 v4 v5 v6 v7 : Value) (names : List ByteArray) (o : Nat) (w : World) (hn : Named w v0 names) (ho : o < 256) :
    Calls Try.prog 21 #[.agg #[v0, v1, v2, v3, v4, v5, v6, v7], .int .u8 o] w fun e w' => e = .returned (.string (originB names o)) ∧ Below w.heap.size w w' := by
  obtain ⟨xs, ⟨A, c, rfl, h1, h2, h3, h4⟩, h5⟩ := hn
  unfold maxLen at h3
  by_cases hlt : o < names.length
  · obtain ⟨b, of, rfl, hat⟩ := h4 (by omega)
    obtain ⟨s, hs⟩ : ∃ s, names[o]? = some s := ⟨_, List.getElem?_eq_getElem hlt⟩
    have c0 := hat _ _ (h5 o s hs)
    have hb := World.block_lt_of_cell? w _ c0
    have e := Lib.hid (show originB names o = s by unfold originB; rw [hs]; rfl)
    clear h4 hs h5
    have c0' : ∀ ob : Obj, (w.alloc ob).cell? ⟨b, of + o * 5, none⟩ = some (.string s) := fun ob => by rw [World.cell?_alloc_lt w ob _ hb]; exact c0
    go_enter Try.func21, Try.ntmps21
    go_wp2_with fail
    go_ret
    exact ⟨by rw [e.out]; rfl, (Below.refl _ _).alloc (Nat.le_refl _) _⟩
  · have e := Lib.hid (show originB names o = decB o by unfold originB; rw [List.getElem?_eq_none (by omega)]; rfl)
    go_enter Try.func21, Try.ntmps21
    go_wp2_with fail
    refine (refItoa o _ (by omega)).mono ?_
    rintro e w1 ⟨rfl, hb⟩
    go_wp2_with fail
    go_ret
    exact ⟨by rw [e.out]; rfl, ((Below.refl _ _).alloc (Nat.le_refl _) _).trans (hb.mono (by simp))⟩


theorem lawWord (s : Nat) (hs : s < 256) (w : World) : Calls Try.prog 17 #[.int .u8 s] w fun e w' => e = .returned (.string (stateB s)) ∧ Below w.heap.size w w' := by
  by_cases h3 : 3 < s
  · have e : stateB (s : Int) = ⟨#[63]⟩ := by
      unfold stateB
      rw [if_neg (by omega), if_neg (by omega), if_neg (by omega), if_neg (by omega)]
    rw [e]
    have k : decide ((3 : Int) < (s : Int)) = true := by simp; omega
    clear e
    go_enter Try.func17, Try.ntmps17
    go_wp2_with fail
    go_ret
    exact ⟨rfl, Below.refl _ _⟩
  · have h : s = 0 ∨ s = 1 ∨ s = 2 ∨ s = 3 := by omega
    rcases h with rfl | rfl | rfl | rfl
    all_goals
      go_enter Try.func17, Try.ntmps17
      go_wp2_with fail
      go_ret
      exact ⟨rfl, (Below.refl _ _).alloc (Nat.le_refl _) _⟩
theorem lawAlert (v0 v1 v2 v3 v4 v5 v6 v7 : Value) (names : List ByteArray) (o : Nat) (rule : ByteArray) (lv : Value) (ps : List (ByteArray × ByteArray)) (st : Nat) (since : Nat) (pv : Value) (val : Int) (w : World)
    (hn : Named w v0 names) (ho : o < 256) (hl : Rd w 2 lv ps.length (pairCells ps)) (hst : st < 256) (hsince : since < 18446744073709551616) (hv0 : -9223372036854775808 ≤ val) (hv1 : val ≤ 9223372036854775807)
    (hz1 : ∀ s ∈ names, s.size ≤ 1000000000) (hz2 : rule.size ≤ 1000000000) (hz3 : (textL ps).length ≤ 1000000000) :
    Calls Try.prog 13 #[.agg #[v0, v1, v2, v3, v4, v5, v6, v7], .agg #[.int .u8 o, .string rule, lv, .int .u8 st, .int .u64 since, pv, .int .i64 val]] w fun e w' =>
      e = .returned (.string (alertB names o rule ps st since val)) ∧ Below w.heap.size w w' := by
  have k1 : (originB names o).size ≤ 1000000000 := by
    unfold originB
    cases h : names[o]? with
    | none => have := decB_size o (by omega); simp only [Option.getD_none]; omega
    | some s => exact hz1 s (List.mem_of_getElem? h)
  have k2 : (⟨(textL ps).toArray⟩ : ByteArray).size ≤ 1000000000 := by simpa [ByteArray.size] using hz3
  have k3 := stateB_size st
  have k4 := decB_size since hsince
  have k5 := sdecB_size val hv0 hv1
  have l1 : (⟨#[32]⟩ : ByteArray).size ≤ 1 := by decide
  have l2 : (⟨#[123]⟩ : ByteArray).size ≤ 1 := by decide
  have l3 : (⟨#[125, 32]⟩ : ByteArray).size ≤ 2 := by decide
  have l4 : (⟨#[32, 115, 105, 110, 99, 101, 32]⟩ : ByteArray).size ≤ 7 := by decide
  have l5 : (⟨#[32, 118, 97, 108, 117, 101, 32]⟩ : ByteArray).size ≤ 7 := by decide
  go_enter Try.func13, Try.ntmps13
  go_wp2_with fail
  have k2' : (textL ps).length ≤ 1000000000 := hz3
  clear l1 l2 l3 l4 l5 hz1
  obtain ⟨Inv, I0, F, S⟩ : ∃ Inv : World → Prop, Inv ((w.alloc (Obj.cells #[v0, v1, v2, v3, v4, v5, v6, v7] 33)).alloc (Obj.cells #[Value.int IntKind.u8 ↑o, Value.string rule, lv, Value.int IntKind.u8 ↑st, Value.int IntKind.u64 ↑since, pv, Value.int IntKind.i64 val] 45)).drew ∧
      (∀ w', Inv w' → w'.cell? ⟨w.heap.size, 0, none⟩ = some v0 ∧ w'.cell? ⟨w.heap.size, 1, none⟩ = some v1 ∧ w'.cell? ⟨w.heap.size, 2, none⟩ = some v2 ∧ w'.cell? ⟨w.heap.size, 3, none⟩ = some v3
     ∧ w'.cell? ⟨w.heap.size, 4, none⟩ = some v4 ∧ w'.cell? ⟨w.heap.size, 5, none⟩ = some v5 ∧ w'.cell? ⟨w.heap.size, 6, none⟩ = some v6 ∧ w'.cell? ⟨w.heap.size, 7, none⟩ = some v7
     ∧ w'.cell? ⟨w.heap.size + 1, 0, none⟩ = some (.int .u8 o) ∧ w'.cell? ⟨w.heap.size + 1, 1, none⟩ = some (.string rule) ∧ w'.cell? ⟨w.heap.size + 1, 2, none⟩ = some lv ∧ w'.cell? ⟨w.heap.size + 1, 3, none⟩ = some (.int .u8 st)
     ∧ w'.cell? ⟨w.heap.size + 1, 4, none⟩ = some (.int .u64 since) ∧ w'.cell? ⟨w.heap.size + 1, 6, none⟩ = some (.int .i64 val)) ∧
      (∀ w' w'', Inv w' → Below w'.heap.size w' w'' → Inv w'' ∧ Below w.heap.size w w'') := by
    refine ⟨Holds w _, ((Holds.nil w).new _ _ _ rfl).new (w.heap.size + 1) _ _ (by simp) |>.drew, fun w' h => ?_, fun w' w'' h hb => ⟨h.grow hb, (h.grow hb).1⟩⟩
    refine ⟨?_, ?_, ?_, ?_, ?_, ?_, ?_, ?_, ?_, ?_, ?_, ?_, ?_, ?_⟩
    all_goals first | exact h.cell (.head _) rfl | exact h.cell (.tail _ (.head _)) rfl
  have I1 : ∀ w', Inv w' → Below w.heap.size w w' := fun w' h => (S w' w' h (Below.refl _ _)).2
  refine region_free Inv [] [] (List.range 29) (by kernel_rfl) (by kernel_rfl) (by kernel_rfl) I0 ?_
  clear I0
  simp only [List.range, List.range.loop]
  repeat (first
    | (refine RelSeq.pure_ (c := ?_) rfl rfl ?_ ?_; rotate_left; (focus (intro x w'; dsimp only; go_simp; (try (split; (focus (exfalso; omega)); go_simp)); (repeat' apply And.intro) <;> first | with_reducible rfl | assumption)); simp only [Act.put, List.setIfInBounds_toArray, List.set_cons_zero, List.set_cons_succ])
    | (refine RelSeq.grow_ (c := ?_) rfl rfl ?_ ?_; rotate_left; (focus (intro x w' hw _; dsimp only; obtain ⟨c0, c1, c2, c3, c4, c5, c6, c7, d0, d1, d2, d3, d4, d6⟩ := F w' hw; have hbr := Below.refl w'.heap.size w'; go_simp; (repeat' apply And.intro) <;> first | with_reducible rfl | assumption)); simp only [Act.put, List.setIfInBounds_toArray, List.set_cons_zero, List.set_cons_succ])
    | (refine RelSeq.grow_ (c := ?_) rfl rfl ?_ ?_; rotate_left
       (focus (intro x w' hw _; dsimp only
               have hbw := I1 w' hw
               go_simp
               first
                 | (go_at_call 21; refine (lawName _ _ _ _ _ _ _ _ names o _ (hn.below hbw) ho).mono ?_; rintro e w1 ⟨rfl, hb1⟩; have hI1 := (S w' w1 hw hb1).1; go_simp; (repeat' apply And.intro) <;> first | with_reducible rfl | assumption)
                 | (go_at_call 12; refine (refText _ ps _ (hl.below hbw) (by omega)).mono ?_; rintro e w1 ⟨rfl, hb1⟩; have hI1 := (S w' w1 hw hb1).1; go_simp; (repeat' apply And.intro) <;> first | with_reducible rfl | assumption)
                 | (go_at_call 17; refine (lawWord _ hst _).mono ?_; rintro e w1 ⟨rfl, hb1⟩; have hI1 := (S w' w1 hw hb1).1; go_simp; (repeat' apply And.intro) <;> first | with_reducible rfl | assumption)
                 | (go_at_call 11; refine (refItoa _ _ hsince).mono ?_; rintro e w1 ⟨rfl, hb1⟩; have hI1 := (S w' w1 hw hb1).1; go_simp; (repeat' apply And.intro) <;> first | with_reducible rfl | assumption)
                 | (go_at_call 22; refine (refSigned _ _ hv0 hv1).mono ?_; rintro e w1 ⟨rfl, hb1⟩; have hI1 := (S w' w1 hw hb1).1; go_simp; (repeat' apply And.intro) <;> first | with_reducible rfl | assumption)))
       simp only [Act.put, List.setIfInBounds_toArray, List.set_cons_zero, List.set_cons_succ]))
  refine RelSeq.nil_ fun x w' hw _ => TailSeq.nil_ ?_
  have hbw := I1 w' hw
  go_wp2
  go_ret
  exact ⟨rfl, hbw⟩
end
end Go.Proofs.Ytdghpjkjhlankaa
