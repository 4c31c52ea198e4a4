/-
  match.parse at the text of a right question.
-/
import Derived.Test.YteiocplfmjkbkaaGreatDoorRt2
import Derived.Deep.CutRange
namespace Go.Proofs.YteiocplfmjkbkaaGreatDoor
open Go.RowKit
set_option maxRecDepth 100000

theorem mSigns (w : World) : Calls Tryz.prog 83 #[] w fun e w' => e = .returned (.slice (some ⟨w.heap.size, 0, none⟩) 3 3) ∧ w' = w.alloc (.cells #[.string ⟨#[33, 61]⟩, .string ⟨#[94, 61]⟩, .string ⟨#[61]⟩] 9) := by
  go_enter Tryz.func83, Tryz.ntmps83
  go_wp2_with fail
  go_ret
  exact ⟨rfl, rfl⟩
theorem cutR (x sep : ByteArray) (l r : List UInt8) (b : Bool) (mx : Int) (w : World) (hs : x.size < 4294967281) (hm : w.cell? ⟨2, 0, none⟩ = some (.int .i64 mx)) (h : Lib.cut x.data.toList sep.data.toList = (l, r, b)) :
    Calls Tryz.prog 84 #[.string x, .string sep] w fun e w' => e = .returned (.tuple #[.string ⟨l.toArray⟩, .string ⟨r.toArray⟩, .bool b]) ∧ Below w.heap.size w w' :=
  (Tryz.strings_Cut x sep mx w hs hm).mono fun _ _ ⟨h1, n, hw⟩ => ⟨by rw [h1, h], by rw [hw]; exact ⟨rfl, rfl, rfl, Nat.le_refl _, fun _ _ => rfl⟩⟩
theorem cell_updR {S : List Nat} {w w' : World} {C : List Chunk} {b o : Nat} {v : Value} (h : Upd S w C w') (hb : b ∉ S) (hc : w.cell? ⟨b, o, none⟩ = some v) : w'.cell? ⟨b, o, none⟩ = some v := by
  rw [World.cell?_of_block (h.block b (World.block_lt_of_cell? w _ hc) hb)]
  exact hc
theorem allocSzR (w : World) (o : Obj) : (w.alloc o).heap.size = w.heap.size + 1 := by show (w.heap.push _).size = _; exact Array.size_push _
theorem askChkI (key : ByteArray) (op : Nat) (ki : Int) (e : ki = (op : Int)) (x : ByteArray) (w : World) (hk : key.size ≤ maxLen) (hx : x.size ≤ maxLen) (hop : op < 256) :
    Calls Tryz.prog 63 #[.agg #[.string key, .int .u8 ki, .string x]] w fun e w' => e = .returned (.int .i64 (chkA (key, op, x) : Nat)) ∧ Below w.heap.size w w' := by
  subst e
  exact askChk key op x w hk hx hop
theorem aqT_size {a : Aq} (h : chkA a = 0) : (aqT a).size ≤ 32 := by
  obtain ⟨h1, h2, h3, h4, h5⟩ := chkA_parts h
  have z1 := word_size h1
  rw [Lib.size_eq, aqT_list]
  have e1 : a.1.data.toList.length = a.1.size := (Lib.size_eq _).symm
  have e2 : a.2.2.data.toList.length = a.2.2.size := (Lib.size_eq _).symm
  unfold aqL
  by_cases h6 : a.2.1 < 4
  · have z2 := word_size (h4 h6)
    repeat' split
    all_goals simp
    all_goals omega
  · repeat' split
    all_goals simp
    all_goals omega
theorem begB_ext {s : ByteArray} {c : UInt8} {l : List UInt8} (h : s.data.toList = c :: l) (d : UInt8) : begB s ⟨#[d]⟩ = decide (c = d) := by
  have h1 : s.size = (c :: l).length := by rw [← h]; exact Lib.size_eq s
  have e : (s.extract 0 1).toList = [c] := by
    rw [Lib.toList_data, ByteArray.data_extract, Array.toList_extract, h]
    simp
  unfold begB
  rw [show (⟨#[d]⟩ : ByteArray).size = 1 from rfl, e, decide_eq_true (by rw [h1]; simp), Lib.toList_data]
  simp
  by_cases hc : c = d <;> simp [hc]
theorem word_ok1 {s : ByteArray} {m : Nat} {a : Bool} (h : wordB s m a = true) : s.data.toList ≠ [] := fun e => by
  unfold wordB at h
  rw [Bool.and_eq_true, Bool.and_eq_true] at h
  have h1 : 1 ≤ s.size := by simpa using h.1.1
  have h2 : s.size = s.data.toList.length := Lib.size_eq s
  rw [e, List.length_nil] at h2
  omega
attribute [local go_sem] FreeSl.out

set_option maxHeartbeats 4000000 in
theorem mParse1 (key x : ByteArray) (mx : Int) (w : World) (hm : w.cell? ⟨2, 0, none⟩ = some (.int .i64 mx)) (hc : chkA (key, 1, x) = 0) :
    Calls Tryz.prog 75 #[.string (aqT (key, 1, x))] w fun e w' => e = .returned (.tuple #[.agg #[.string key, .int .u8 1, .string x], .int .i64 0]) ∧ Below w.heap.size w w' := by
  obtain ⟨hk, _, _, hv, hx⟩ := chkA_parts hc
  dsimp only at hk hv hx
  have hz := aqT_size hc
  have hkz := word_size hk
  have hkc := key_ch hk
  have hv := hv (by decide : 1 < 4)
  have hvz := word_size hv
  have hvc := val_ch hv
  have KC := fun w' => askChkI key 1 1 rfl x w' (by unfold maxLen; omega) (by unfold maxLen; omega) (by decide)
  rw [hc] at KC
  obtain ⟨T, hT⟩ : ∃ y, y = aqT (key, 1, x) := ⟨_, rfl⟩
  have hl : T.data.toList = key.data.toList ++ 61 :: x.data.toList := by rw [hT, aqT_list]; rfl
  rw [← hT] at hz ⊢
  clear hT hc
  have hkne : ∃ c l, key.data.toList = c :: l ∧ c ≠ 33 := by
    have h1 := (word_ok1 hk)
    cases hd : key.data.toList with
    | nil => exact absurd hd h1
    | cons c l => exact ⟨c, l, rfl, by rintro rfl; have := (hkc 33 (by rw [hd]; exact .head _)).1; exact absurd this (by decide)⟩
  obtain ⟨c0, l0, hk0, hc0⟩ := hkne
  have hb : begB T ⟨#[33]⟩ = false := by
    rw [begB_ext (c := c0) (l := l0 ++ 61 :: x.data.toList) (by rw [hl, hk0]; rfl)]
    exact decide_eq_false hc0
  have KP := fun w' => cutPre T ⟨#[33]⟩ w' (by unfold maxLen; omega) (by decide)
  rw [hb, if_neg (by decide)] at KP
  have C0 : Lib.cut T.data.toList (⟨#[33, 61]⟩ : ByteArray).data.toList = (T.data.toList, [], false) := cut_no 33 [61] _ (fun h => by
      rw [hl] at h
      rcases List.mem_append.1 h with h | h
      · exact absurd (hkc 33 h) (by decide)
      · rcases List.mem_cons.1 h with h | h
        · exact absurd h (by decide)
        · exact absurd (hvc 33 h) (by decide))
  have C1 : Lib.cut T.data.toList (⟨#[94, 61]⟩ : ByteArray).data.toList = (T.data.toList, [], false) := cut_no 94 [61] _ (fun h => by
      rw [hl] at h
      rcases List.mem_append.1 h with h | h
      · exact absurd (hkc 94 h) (by decide)
      · rcases List.mem_cons.1 h with h | h
        · exact absurd h (by decide)
        · exact absurd (hvc 94 h) (by decide))
  have C2 : Lib.cut T.data.toList (⟨#[61]⟩ : ByteArray).data.toList = (key.data.toList, x.data.toList, true) := by
    rw [hl]
    have h := cut_mid 61 [] key.data.toList x.data.toList (fun h => by have := hkc 61 h; exact absurd this (by decide))
    simpa using h
  have K0 := fun w' (h : w'.cell? ⟨2, 0, none⟩ = some (.int .i64 mx)) => cutR T ⟨#[33, 61]⟩ _ _ _ mx w' (by omega) h C0
  rw [show (⟨T.data.toList.toArray⟩ : ByteArray) = T from rfl] at K0
  have K1 := fun w' (h : w'.cell? ⟨2, 0, none⟩ = some (.int .i64 mx)) => cutR T ⟨#[94, 61]⟩ _ _ _ mx w' (by omega) h C1
  rw [show (⟨T.data.toList.toArray⟩ : ByteArray) = T from rfl] at K1
  have K2 := fun w' (h : w'.cell? ⟨2, 0, none⟩ = some (.int .i64 mx)) => cutR T ⟨#[61]⟩ _ _ _ mx w' (by omega) h C2
  rw [show (⟨key.data.toList.toArray⟩ : ByteArray) = key from rfl, show (⟨x.data.toList.toArray⟩ : ByteArray) = x from rfl] at K2
  have HM := Lib.hid hm
  clear hb hk0 hc0 hkc hl hm C0 C1 C2 hvc
  go_enter Tryz.func75, Tryz.ntmps75
  go_wp2_with fail
  (with_reducible refine (KP _).mono ?_)
  rintro e w1 ⟨rfl, hw1⟩
  have U1 := ((Upd.nil [] w).alloc #[.string ⟨#[]⟩, .int .u8 0, .string ⟨#[]⟩] 68).same hw1
  clear hw1 KP
  have KS := mSigns w1
  go_wp2_with fail
  (with_reducible refine KS.mono ?_)
  rintro e w2 ⟨rfl, hw2⟩
  have U2 := (U1.alloc #[.string ⟨#[33, 61]⟩, .string ⟨#[94, 61]⟩, .string ⟨#[61]⟩] 9).same hw2
  obtain ⟨sb, hsb⟩ : ∃ b, b = w1.heap.size := ⟨_, rfl⟩
  rw [← hsb] at U2 ⊢
  clear hw2 KS U1 hsb
  go_wp2_with fail
  go_loopw [27] (fun i wr => ∃ k : Nat, k ≤ 2 ∧ i = .int .i64 k ∧ Upd [] w [chBlk sb #[.string ⟨#[33, 61]⟩, .string ⟨#[94, 61]⟩, .string ⟨#[61]⟩] 9, chBlk w.heap.size #[.string ⟨#[]⟩, .int .u8 0, .string ⟨#[]⟩] 68] wr) (fun i _ => 3 - (intOf i).toNat)
  case atStart => exact ⟨0, by omega, rfl, U2⟩
  case round =>
    obtain ⟨k, hk9, rfl, U3⟩ := hrel
    have hm3 := cell_updR U3 (by simp) HM.out
    obtain rfl | rfl | rfl : k = 0 ∨ k = 1 ∨ k = 2 := by omega
    · have KX := K0 wr hm3
      have s0 := (U3.blk 0 rfl).cell (j := 0) (v := .string ⟨#[33, 61]⟩) rfl
      clear K0 K1 K2
      go_wp2_with fail
      (with_reducible refine KX.mono ?_)
      rintro e w4 ⟨rfl, hb4⟩
      have U4 := U3.grow hb4
      clear KX hb4 U3 s0 hm3
      go_wp2_with fail
      go_roundw
      case rel => exact ⟨1, by decide, by first | rfl | go_num, U4⟩
      case measure => simp [intOf]
    · have KX := K1 wr hm3
      have s0 := (U3.blk 0 rfl).cell (j := 1) (v := .string ⟨#[94, 61]⟩) rfl
      clear K0 K1 K2
      go_wp2_with fail
      (with_reducible refine KX.mono ?_)
      rintro e w4 ⟨rfl, hb4⟩
      have U4 := U3.grow hb4
      clear KX hb4 U3 s0 hm3
      go_wp2_with fail
      go_roundw
      case rel => exact ⟨2, by decide, by first | rfl | go_num, U4⟩
      case measure => simp [intOf]
    · have KX := K2 wr hm3
      have s0 := (U3.blk 0 rfl).cell (j := 2) (v := .string ⟨#[61]⟩) rfl
      clear K0 K1 K2
      go_wp2_with fail
      (with_reducible refine KX.mono ?_)
      rintro e w4 ⟨rfl, hb4⟩
      have U4 := U3.grow hb4
      clear KX hb4 U3 s0 hm3
      go_upto_region 11 with fail
      refine wp_gen fun W9 hW9 => ?_
      have U9 := ((U4.alloc #[.int .u8 2, .int .u8 3, .int .u8 1] 66).alloc #[.string key, .int .u8 1, .string x] 68).same hW9
      try rw [allocSzR] at U9
      clear hW9
      have FC : ∀ w', Below W9.heap.size W9 w' → w'.cell? ⟨(w4.heap.size + 1), 0, none⟩ = some (.string key) ∧ w'.cell? ⟨(w4.heap.size + 1), 1, none⟩ = some (.int .u8 1) ∧ w'.cell? ⟨(w4.heap.size + 1), 2, none⟩ = some (.string x) := fun w' h => ⟨((U9.grow h).blk 0 rfl).cell (j := 0) (v := .string key) rfl, ((U9.grow h).blk 0 rfl).cell (j := 1) (v := .int .u8 1) rfl, ((U9.grow h).blk 0 rfl).cell (j := 2) (v := .string x) rfl⟩
      have ext : ∀ w' w'', Below W9.heap.size W9 w' → Below w'.heap.size w' w'' → Below W9.heap.size W9 w'' := fun w' w'' h h2 => h.trans (h2.mono h.size)
      refine FreeSl.region_free (fun w' => Below W9.heap.size W9 w') [] [3, 4] (List.range 3) (by kernel_rfl) (by kernel_rfl) (by kernel_rfl) (Below.refl _ _).drew ?_
      simp only [List.range, List.range.loop]
      repeat (first
        | (refine FreeSl.RelSeq.grow_ (c := ?_) rfl rfl ?_ ?_; rotate_left; (focus (intro x w' hw _; dsimp only; obtain ⟨d0, d1, d2⟩ := FC w' hw; have hbr := Below.refl w'.heap.size w'; go_simp; (repeat' apply And.intro) <;> first | with_reducible rfl | assumption)); simp only [Act.put, List.setIfInBounds_toArray, List.set_cons_zero, List.set_cons_succ])
        | (refine FreeSl.RelSeq.grow_ (c := ?_) rfl rfl ?_ ?_; rotate_left; (focus (intro x w' hw _; dsimp only; go_simp; (with_reducible refine (KC w').mono ?_); rintro e w2 ⟨rfl, hb2⟩; have hI := ext w' w2 hw hb2; go_simp; (repeat' apply And.intro) <;> first | with_reducible rfl | assumption)); simp only [Act.put, List.setIfInBounds_toArray, List.set_cons_zero, List.set_cons_succ]))
      refine FreeSl.RelSeq.nil_ fun x9 w10 hw _ _ => ?_
      have U10 := U9.grow hw
      clear FC ext KC hw U9
      refine FreeSl.TailSeq.cons_ rfl ?_
      have z0 := (U10.blk 3 rfl).cell (j := 0) (v := .string ⟨#[]⟩) rfl
      have f0 := (U10.blk 3 rfl).frozen 0
      have z1 := (U10.blk 3 rfl).cell (j := 1) (v := .int .u8 0) rfl
      have f1 := (U10.blk 3 rfl).frozen 1
      have z2 := (U10.blk 3 rfl).cell (j := 2) (v := .string ⟨#[]⟩) rfl
      have f2 := (U10.blk 3 rfl).frozen 2
      dsimp only
      go_simp
      refine FreeSl.TailSeq.cons_ rfl ?_
      dsimp only
      go_simp
      refine FreeSl.TailSeq.nil_gen fun w11 hw11 => ?_
      have U11 := ((((U10.put 3 rfl 0 (.string key)).put 0 rfl 1 (.int .u8 1)).put 0 rfl 2 (.string x))).same hw11
      simp only [List.setIfInBounds_toArray, List.set_cons_zero, List.set_cons_succ, List.eraseIdx_cons_zero, List.eraseIdx_cons_succ] at U11
      clear hw11 U10 z0 z1 z2 f0 f1 f2
      go_wp2_with fail
      have a0 := (U11.blk 0 rfl).cell (j := 0) (v := .string key) rfl
      have a1 := (U11.blk 0 rfl).cell (j := 1) (v := .int .u8 1) rfl
      have a2 := (U11.blk 0 rfl).cell (j := 2) (v := .string x) rfl
      refine bodyPost_ret (v := .tuple #[.agg #[.string key, .int .u8 1, .string x], .int .i64 0]) ?_ rfl ⟨rfl, U11.below⟩
      simp [results, Tryz.results75, go_sem, a0, a1, a2]

set_option maxHeartbeats 4000000 in
theorem mParse2 (key x : ByteArray) (mx : Int) (w : World) (hm : w.cell? ⟨2, 0, none⟩ = some (.int .i64 mx)) (hc : chkA (key, 2, x) = 0) :
    Calls Tryz.prog 75 #[.string (aqT (key, 2, x))] w fun e w' => e = .returned (.tuple #[.agg #[.string key, .int .u8 2, .string x], .int .i64 0]) ∧ Below w.heap.size w w' := by
  obtain ⟨hk, _, _, hv, hx⟩ := chkA_parts hc
  dsimp only at hk hv hx
  have hz := aqT_size hc
  have hkz := word_size hk
  have hkc := key_ch hk
  have hv := hv (by decide : 2 < 4)
  have hvz := word_size hv
  have hvc := val_ch hv
  have KC := fun w' => askChkI key 2 2 rfl x w' (by unfold maxLen; omega) (by unfold maxLen; omega) (by decide)
  rw [hc] at KC
  obtain ⟨T, hT⟩ : ∃ y, y = aqT (key, 2, x) := ⟨_, rfl⟩
  have hl : T.data.toList = key.data.toList ++ 33 :: 61 :: x.data.toList := by rw [hT, aqT_list]; rfl
  rw [← hT] at hz ⊢
  clear hT hc
  have hkne : ∃ c l, key.data.toList = c :: l ∧ c ≠ 33 := by
    have h1 := (word_ok1 hk)
    cases hd : key.data.toList with
    | nil => exact absurd hd h1
    | cons c l => exact ⟨c, l, rfl, by rintro rfl; have := (hkc 33 (by rw [hd]; exact .head _)).1; exact absurd this (by decide)⟩
  obtain ⟨c0, l0, hk0, hc0⟩ := hkne
  have hb : begB T ⟨#[33]⟩ = false := by
    rw [begB_ext (c := c0) (l := l0 ++ 33 :: 61 :: x.data.toList) (by rw [hl, hk0]; rfl)]
    exact decide_eq_false hc0
  have KP := fun w' => cutPre T ⟨#[33]⟩ w' (by unfold maxLen; omega) (by decide)
  rw [hb, if_neg (by decide)] at KP
  have C0 : Lib.cut T.data.toList (⟨#[33, 61]⟩ : ByteArray).data.toList = (key.data.toList, x.data.toList, true) := by
    rw [hl]
    have h := cut_mid 33 [61] key.data.toList x.data.toList (fun h => by have := hkc 33 h; exact absurd this (by decide))
    simpa using h
  have K0 := fun w' (h : w'.cell? ⟨2, 0, none⟩ = some (.int .i64 mx)) => cutR T ⟨#[33, 61]⟩ _ _ _ mx w' (by omega) h C0
  rw [show (⟨key.data.toList.toArray⟩ : ByteArray) = key from rfl, show (⟨x.data.toList.toArray⟩ : ByteArray) = x from rfl] at K0
  have HM := Lib.hid hm
  clear hb hk0 hc0 hkc hl hm C0 hvc
  go_enter Tryz.func75, Tryz.ntmps75
  go_wp2_with fail
  (with_reducible refine (KP _).mono ?_)
  rintro e w1 ⟨rfl, hw1⟩
  have U1 := ((Upd.nil [] w).alloc #[.string ⟨#[]⟩, .int .u8 0, .string ⟨#[]⟩] 68).same hw1
  clear hw1 KP
  have KS := mSigns w1
  go_wp2_with fail
  (with_reducible refine KS.mono ?_)
  rintro e w2 ⟨rfl, hw2⟩
  have U2 := (U1.alloc #[.string ⟨#[33, 61]⟩, .string ⟨#[94, 61]⟩, .string ⟨#[61]⟩] 9).same hw2
  obtain ⟨sb, hsb⟩ : ∃ b, b = w1.heap.size := ⟨_, rfl⟩
  rw [← hsb] at U2 ⊢
  clear hw2 KS U1 hsb
  go_wp2_with fail
  go_loopw [27] (fun i wr => ∃ k : Nat, k ≤ 0 ∧ i = .int .i64 k ∧ Upd [] w [chBlk sb #[.string ⟨#[33, 61]⟩, .string ⟨#[94, 61]⟩, .string ⟨#[61]⟩] 9, chBlk w.heap.size #[.string ⟨#[]⟩, .int .u8 0, .string ⟨#[]⟩] 68] wr) (fun i _ => 3 - (intOf i).toNat)
  case atStart => exact ⟨0, by omega, rfl, U2⟩
  case round =>
    obtain ⟨k, hk9, rfl, U3⟩ := hrel
    have hm3 := cell_updR U3 (by simp) HM.out
    obtain rfl : k = 0 := by omega
    · have KX := K0 wr hm3
      have s0 := (U3.blk 0 rfl).cell (j := 0) (v := .string ⟨#[33, 61]⟩) rfl
      clear K0
      go_wp2_with fail
      (with_reducible refine KX.mono ?_)
      rintro e w4 ⟨rfl, hb4⟩
      have U4 := U3.grow hb4
      clear KX hb4 U3 s0 hm3
      go_upto_region 11 with fail
      refine wp_gen fun W9 hW9 => ?_
      have U9 := ((U4.alloc #[.int .u8 2, .int .u8 3, .int .u8 1] 66).alloc #[.string key, .int .u8 2, .string x] 68).same hW9
      try rw [allocSzR] at U9
      clear hW9
      have FC : ∀ w', Below W9.heap.size W9 w' → w'.cell? ⟨(w4.heap.size + 1), 0, none⟩ = some (.string key) ∧ w'.cell? ⟨(w4.heap.size + 1), 1, none⟩ = some (.int .u8 2) ∧ w'.cell? ⟨(w4.heap.size + 1), 2, none⟩ = some (.string x) := fun w' h => ⟨((U9.grow h).blk 0 rfl).cell (j := 0) (v := .string key) rfl, ((U9.grow h).blk 0 rfl).cell (j := 1) (v := .int .u8 2) rfl, ((U9.grow h).blk 0 rfl).cell (j := 2) (v := .string x) rfl⟩
      have ext : ∀ w' w'', Below W9.heap.size W9 w' → Below w'.heap.size w' w'' → Below W9.heap.size W9 w'' := fun w' w'' h h2 => h.trans (h2.mono h.size)
      refine FreeSl.region_free (fun w' => Below W9.heap.size W9 w') [] [3, 4] (List.range 3) (by kernel_rfl) (by kernel_rfl) (by kernel_rfl) (Below.refl _ _).drew ?_
      simp only [List.range, List.range.loop]
      repeat (first
        | (refine FreeSl.RelSeq.grow_ (c := ?_) rfl rfl ?_ ?_; rotate_left; (focus (intro x w' hw _; dsimp only; obtain ⟨d0, d1, d2⟩ := FC w' hw; have hbr := Below.refl w'.heap.size w'; go_simp; (repeat' apply And.intro) <;> first | with_reducible rfl | assumption)); simp only [Act.put, List.setIfInBounds_toArray, List.set_cons_zero, List.set_cons_succ])
        | (refine FreeSl.RelSeq.grow_ (c := ?_) rfl rfl ?_ ?_; rotate_left; (focus (intro x w' hw _; dsimp only; go_simp; (with_reducible refine (KC w').mono ?_); rintro e w2 ⟨rfl, hb2⟩; have hI := ext w' w2 hw hb2; go_simp; (repeat' apply And.intro) <;> first | with_reducible rfl | assumption)); simp only [Act.put, List.setIfInBounds_toArray, List.set_cons_zero, List.set_cons_succ]))
      refine FreeSl.RelSeq.nil_ fun x9 w10 hw _ _ => ?_
      have U10 := U9.grow hw
      clear FC ext KC hw U9
      refine FreeSl.TailSeq.cons_ rfl ?_
      have z0 := (U10.blk 3 rfl).cell (j := 0) (v := .string ⟨#[]⟩) rfl
      have f0 := (U10.blk 3 rfl).frozen 0
      have z1 := (U10.blk 3 rfl).cell (j := 1) (v := .int .u8 0) rfl
      have f1 := (U10.blk 3 rfl).frozen 1
      have z2 := (U10.blk 3 rfl).cell (j := 2) (v := .string ⟨#[]⟩) rfl
      have f2 := (U10.blk 3 rfl).frozen 2
      dsimp only
      go_simp
      refine FreeSl.TailSeq.cons_ rfl ?_
      dsimp only
      go_simp
      refine FreeSl.TailSeq.nil_gen fun w11 hw11 => ?_
      have U11 := ((((U10.put 3 rfl 0 (.string key)).put 0 rfl 1 (.int .u8 2)).put 0 rfl 2 (.string x))).same hw11
      simp only [List.setIfInBounds_toArray, List.set_cons_zero, List.set_cons_succ, List.eraseIdx_cons_zero, List.eraseIdx_cons_succ] at U11
      clear hw11 U10 z0 z1 z2 f0 f1 f2
      go_wp2_with fail
      have a0 := (U11.blk 0 rfl).cell (j := 0) (v := .string key) rfl
      have a1 := (U11.blk 0 rfl).cell (j := 1) (v := .int .u8 2) rfl
      have a2 := (U11.blk 0 rfl).cell (j := 2) (v := .string x) rfl
      refine bodyPost_ret (v := .tuple #[.agg #[.string key, .int .u8 2, .string x], .int .i64 0]) ?_ rfl ⟨rfl, U11.below⟩
      simp [results, Tryz.results75, go_sem, a0, a1, a2]

set_option maxHeartbeats 4000000 in
theorem mParse3 (key x : ByteArray) (mx : Int) (w : World) (hm : w.cell? ⟨2, 0, none⟩ = some (.int .i64 mx)) (hc : chkA (key, 3, x) = 0) :
    Calls Tryz.prog 75 #[.string (aqT (key, 3, x))] w fun e w' => e = .returned (.tuple #[.agg #[.string key, .int .u8 3, .string x], .int .i64 0]) ∧ Below w.heap.size w w' := by
  obtain ⟨hk, _, _, hv, hx⟩ := chkA_parts hc
  dsimp only at hk hv hx
  have hz := aqT_size hc
  have hkz := word_size hk
  have hkc := key_ch hk
  have hv := hv (by decide : 3 < 4)
  have hvz := word_size hv
  have hvc := val_ch hv
  have KC := fun w' => askChkI key 3 3 rfl x w' (by unfold maxLen; omega) (by unfold maxLen; omega) (by decide)
  rw [hc] at KC
  obtain ⟨T, hT⟩ : ∃ y, y = aqT (key, 3, x) := ⟨_, rfl⟩
  have hl : T.data.toList = key.data.toList ++ 94 :: 61 :: x.data.toList := by rw [hT, aqT_list]; rfl
  rw [← hT] at hz ⊢
  clear hT hc
  have hkne : ∃ c l, key.data.toList = c :: l ∧ c ≠ 33 := by
    have h1 := (word_ok1 hk)
    cases hd : key.data.toList with
    | nil => exact absurd hd h1
    | cons c l => exact ⟨c, l, rfl, by rintro rfl; have := (hkc 33 (by rw [hd]; exact .head _)).1; exact absurd this (by decide)⟩
  obtain ⟨c0, l0, hk0, hc0⟩ := hkne
  have hb : begB T ⟨#[33]⟩ = false := by
    rw [begB_ext (c := c0) (l := l0 ++ 94 :: 61 :: x.data.toList) (by rw [hl, hk0]; rfl)]
    exact decide_eq_false hc0
  have KP := fun w' => cutPre T ⟨#[33]⟩ w' (by unfold maxLen; omega) (by decide)
  rw [hb, if_neg (by decide)] at KP
  have C0 : Lib.cut T.data.toList (⟨#[33, 61]⟩ : ByteArray).data.toList = (T.data.toList, [], false) := cut_no 33 [61] _ (fun h => by
      rw [hl] at h
      rcases List.mem_append.1 h with h | h
      · exact absurd (hkc 33 h) (by decide)
      · rcases List.mem_cons.1 h with h | h
        · exact absurd h (by decide)
        · rcases List.mem_cons.1 h with h | h
          · exact absurd h (by decide)
          exact absurd (hvc 33 h) (by decide))
  have C1 : Lib.cut T.data.toList (⟨#[94, 61]⟩ : ByteArray).data.toList = (key.data.toList, x.data.toList, true) := by
    rw [hl]
    have h := cut_mid 94 [61] key.data.toList x.data.toList (fun h => by have := hkc 94 h; exact absurd this (by decide))
    simpa using h
  have K0 := fun w' (h : w'.cell? ⟨2, 0, none⟩ = some (.int .i64 mx)) => cutR T ⟨#[33, 61]⟩ _ _ _ mx w' (by omega) h C0
  rw [show (⟨T.data.toList.toArray⟩ : ByteArray) = T from rfl] at K0
  have K1 := fun w' (h : w'.cell? ⟨2, 0, none⟩ = some (.int .i64 mx)) => cutR T ⟨#[94, 61]⟩ _ _ _ mx w' (by omega) h C1
  rw [show (⟨key.data.toList.toArray⟩ : ByteArray) = key from rfl, show (⟨x.data.toList.toArray⟩ : ByteArray) = x from rfl] at K1
  have HM := Lib.hid hm
  clear hb hk0 hc0 hkc hl hm C0 C1 hvc
  go_enter Tryz.func75, Tryz.ntmps75
  go_wp2_with fail
  (with_reducible refine (KP _).mono ?_)
  rintro e w1 ⟨rfl, hw1⟩
  have U1 := ((Upd.nil [] w).alloc #[.string ⟨#[]⟩, .int .u8 0, .string ⟨#[]⟩] 68).same hw1
  clear hw1 KP
  have KS := mSigns w1
  go_wp2_with fail
  (with_reducible refine KS.mono ?_)
  rintro e w2 ⟨rfl, hw2⟩
  have U2 := (U1.alloc #[.string ⟨#[33, 61]⟩, .string ⟨#[94, 61]⟩, .string ⟨#[61]⟩] 9).same hw2
  obtain ⟨sb, hsb⟩ : ∃ b, b = w1.heap.size := ⟨_, rfl⟩
  rw [← hsb] at U2 ⊢
  clear hw2 KS U1 hsb
  go_wp2_with fail
  go_loopw [27] (fun i wr => ∃ k : Nat, k ≤ 1 ∧ i = .int .i64 k ∧ Upd [] w [chBlk sb #[.string ⟨#[33, 61]⟩, .string ⟨#[94, 61]⟩, .string ⟨#[61]⟩] 9, chBlk w.heap.size #[.string ⟨#[]⟩, .int .u8 0, .string ⟨#[]⟩] 68] wr) (fun i _ => 3 - (intOf i).toNat)
  case atStart => exact ⟨0, by omega, rfl, U2⟩
  case round =>
    obtain ⟨k, hk9, rfl, U3⟩ := hrel
    have hm3 := cell_updR U3 (by simp) HM.out
    obtain rfl | rfl : k = 0 ∨ k = 1 := by omega
    · have KX := K0 wr hm3
      have s0 := (U3.blk 0 rfl).cell (j := 0) (v := .string ⟨#[33, 61]⟩) rfl
      clear K0 K1
      go_wp2_with fail
      (with_reducible refine KX.mono ?_)
      rintro e w4 ⟨rfl, hb4⟩
      have U4 := U3.grow hb4
      clear KX hb4 U3 s0 hm3
      go_wp2_with fail
      go_roundw
      case rel => exact ⟨1, by decide, by first | rfl | go_num, U4⟩
      case measure => simp [intOf]
    · have KX := K1 wr hm3
      have s0 := (U3.blk 0 rfl).cell (j := 1) (v := .string ⟨#[94, 61]⟩) rfl
      clear K0 K1
      go_wp2_with fail
      (with_reducible refine KX.mono ?_)
      rintro e w4 ⟨rfl, hb4⟩
      have U4 := U3.grow hb4
      clear KX hb4 U3 s0 hm3
      go_upto_region 11 with fail
      refine wp_gen fun W9 hW9 => ?_
      have U9 := ((U4.alloc #[.int .u8 2, .int .u8 3, .int .u8 1] 66).alloc #[.string key, .int .u8 3, .string x] 68).same hW9
      try rw [allocSzR] at U9
      clear hW9
      have FC : ∀ w', Below W9.heap.size W9 w' → w'.cell? ⟨(w4.heap.size + 1), 0, none⟩ = some (.string key) ∧ w'.cell? ⟨(w4.heap.size + 1), 1, none⟩ = some (.int .u8 3) ∧ w'.cell? ⟨(w4.heap.size + 1), 2, none⟩ = some (.string x) := fun w' h => ⟨((U9.grow h).blk 0 rfl).cell (j := 0) (v := .string key) rfl, ((U9.grow h).blk 0 rfl).cell (j := 1) (v := .int .u8 3) rfl, ((U9.grow h).blk 0 rfl).cell (j := 2) (v := .string x) rfl⟩
      have ext : ∀ w' w'', Below W9.heap.size W9 w' → Below w'.heap.size w' w'' → Below W9.heap.size W9 w'' := fun w' w'' h h2 => h.trans (h2.mono h.size)
      refine FreeSl.region_free (fun w' => Below W9.heap.size W9 w') [] [3, 4] (List.range 3) (by kernel_rfl) (by kernel_rfl) (by kernel_rfl) (Below.refl _ _).drew ?_
      simp only [List.range, List.range.loop]
      repeat (first
        | (refine FreeSl.RelSeq.grow_ (c := ?_) rfl rfl ?_ ?_; rotate_left; (focus (intro x w' hw _; dsimp only; obtain ⟨d0, d1, d2⟩ := FC w' hw; have hbr := Below.refl w'.heap.size w'; go_simp; (repeat' apply And.intro) <;> first | with_reducible rfl | assumption)); simp only [Act.put, List.setIfInBounds_toArray, List.set_cons_zero, List.set_cons_succ])
        | (refine FreeSl.RelSeq.grow_ (c := ?_) rfl rfl ?_ ?_; rotate_left; (focus (intro x w' hw _; dsimp only; go_simp; (with_reducible refine (KC w').mono ?_); rintro e w2 ⟨rfl, hb2⟩; have hI := ext w' w2 hw hb2; go_simp; (repeat' apply And.intro) <;> first | with_reducible rfl | assumption)); simp only [Act.put, List.setIfInBounds_toArray, List.set_cons_zero, List.set_cons_succ]))
      refine FreeSl.RelSeq.nil_ fun x9 w10 hw _ _ => ?_
      have U10 := U9.grow hw
      clear FC ext KC hw U9
      refine FreeSl.TailSeq.cons_ rfl ?_
      have z0 := (U10.blk 3 rfl).cell (j := 0) (v := .string ⟨#[]⟩) rfl
      have f0 := (U10.blk 3 rfl).frozen 0
      have z1 := (U10.blk 3 rfl).cell (j := 1) (v := .int .u8 0) rfl
      have f1 := (U10.blk 3 rfl).frozen 1
      have z2 := (U10.blk 3 rfl).cell (j := 2) (v := .string ⟨#[]⟩) rfl
      have f2 := (U10.blk 3 rfl).frozen 2
      dsimp only
      go_simp
      refine FreeSl.TailSeq.cons_ rfl ?_
      dsimp only
      go_simp
      refine FreeSl.TailSeq.nil_gen fun w11 hw11 => ?_
      have U11 := ((((U10.put 3 rfl 0 (.string key)).put 0 rfl 1 (.int .u8 3)).put 0 rfl 2 (.string x))).same hw11
      simp only [List.setIfInBounds_toArray, List.set_cons_zero, List.set_cons_succ, List.eraseIdx_cons_zero, List.eraseIdx_cons_succ] at U11
      clear hw11 U10 z0 z1 z2 f0 f1 f2
      go_wp2_with fail
      have a0 := (U11.blk 0 rfl).cell (j := 0) (v := .string key) rfl
      have a1 := (U11.blk 0 rfl).cell (j := 1) (v := .int .u8 3) rfl
      have a2 := (U11.blk 0 rfl).cell (j := 2) (v := .string x) rfl
      refine bodyPost_ret (v := .tuple #[.agg #[.string key, .int .u8 3, .string x], .int .i64 0]) ?_ rfl ⟨rfl, U11.below⟩
      simp [results, Tryz.results75, go_sem, a0, a1, a2]

set_option maxHeartbeats 4000000 in
theorem mParse4 (key x : ByteArray) (mx : Int) (w : World) (hm : w.cell? ⟨2, 0, none⟩ = some (.int .i64 mx)) (hc : chkA (key, 4, x) = 0) :
    Calls Tryz.prog 75 #[.string (aqT (key, 4, x))] w fun e w' => e = .returned (.tuple #[.agg #[.string key, .int .u8 4, .string x], .int .i64 0]) ∧ Below w.heap.size w w' := by
  obtain ⟨hk, _, _, hv, hx⟩ := chkA_parts hc
  dsimp only at hk hv hx
  have hz := aqT_size hc
  have hkz := word_size hk
  have hkc := key_ch hk
  obtain rfl := hx (by decide : 4 ≤ 4)
  have KC := fun w' => askChkI key 4 4 rfl ⟨#[]⟩ w' (by unfold maxLen; omega) (by decide) (by decide)
  rw [hc] at KC
  obtain ⟨T, hT⟩ : ∃ y, y = aqT (key, 4, ⟨#[]⟩) := ⟨_, rfl⟩
  have hl : T.data.toList = key.data.toList := by rw [hT, aqT_list]; rfl
  rw [← hT] at hz ⊢
  clear hT hc
  have hkne : ∃ c l, key.data.toList = c :: l ∧ c ≠ 33 := by
    have h1 := (word_ok1 hk)
    cases hd : key.data.toList with
    | nil => exact absurd hd h1
    | cons c l => exact ⟨c, l, rfl, by rintro rfl; have := (hkc 33 (by rw [hd]; exact .head _)).1; exact absurd this (by decide)⟩
  obtain ⟨c0, l0, hk0, hc0⟩ := hkne
  have hb : begB T ⟨#[33]⟩ = false := by
    rw [begB_ext (c := c0) (l := l0) (by rw [hl, hk0])]
    exact decide_eq_false hc0
  have KP := fun w' => cutPre T ⟨#[33]⟩ w' (by unfold maxLen; omega) (by decide)
  rw [hb, if_neg (by decide)] at KP
  have C0 : Lib.cut T.data.toList (⟨#[33, 61]⟩ : ByteArray).data.toList = (T.data.toList, [], false) := cut_no 33 [61] _ (fun h => by
      rw [hl] at h
      exact absurd (hkc 33 h) (by decide))
  have C1 : Lib.cut T.data.toList (⟨#[94, 61]⟩ : ByteArray).data.toList = (T.data.toList, [], false) := cut_no 94 [61] _ (fun h => by
      rw [hl] at h
      exact absurd (hkc 94 h) (by decide))
  have C2 : Lib.cut T.data.toList (⟨#[61]⟩ : ByteArray).data.toList = (T.data.toList, [], false) := cut_no 61 [] _ (fun h => by
      rw [hl] at h
      exact absurd (hkc 61 h) (by decide))
  have K0 := fun w' (h : w'.cell? ⟨2, 0, none⟩ = some (.int .i64 mx)) => cutR T ⟨#[33, 61]⟩ _ _ _ mx w' (by omega) h C0
  rw [show (⟨T.data.toList.toArray⟩ : ByteArray) = T from rfl] at K0
  have K1 := fun w' (h : w'.cell? ⟨2, 0, none⟩ = some (.int .i64 mx)) => cutR T ⟨#[94, 61]⟩ _ _ _ mx w' (by omega) h C1
  rw [show (⟨T.data.toList.toArray⟩ : ByteArray) = T from rfl] at K1
  have K2 := fun w' (h : w'.cell? ⟨2, 0, none⟩ = some (.int .i64 mx)) => cutR T ⟨#[61]⟩ _ _ _ mx w' (by omega) h C2
  rw [show (⟨T.data.toList.toArray⟩ : ByteArray) = T from rfl] at K2
  have hTk : T = key := ba_inj hl
  subst hTk
  have HM := Lib.hid hm
  clear hb hk0 hc0 hkc hl hm C0 C1 C2
  go_enter Tryz.func75, Tryz.ntmps75
  go_wp2_with fail
  (with_reducible refine (KP _).mono ?_)
  rintro e w1 ⟨rfl, hw1⟩
  have U1 := ((Upd.nil [] w).alloc #[.string ⟨#[]⟩, .int .u8 0, .string ⟨#[]⟩] 68).same hw1
  clear hw1 KP
  have KS := mSigns w1
  go_wp2_with fail
  (with_reducible refine KS.mono ?_)
  rintro e w2 ⟨rfl, hw2⟩
  have U2 := (U1.alloc #[.string ⟨#[33, 61]⟩, .string ⟨#[94, 61]⟩, .string ⟨#[61]⟩] 9).same hw2
  obtain ⟨sb, hsb⟩ : ∃ b, b = w1.heap.size := ⟨_, rfl⟩
  rw [← hsb] at U2 ⊢
  clear hw2 KS U1 hsb
  go_wp2_with fail
  go_loopw [27] (fun i wr => ∃ k : Nat, k ≤ 3 ∧ i = .int .i64 k ∧ Upd [] w [chBlk sb #[.string ⟨#[33, 61]⟩, .string ⟨#[94, 61]⟩, .string ⟨#[61]⟩] 9, chBlk w.heap.size #[.string ⟨#[]⟩, .int .u8 0, .string ⟨#[]⟩] 68] wr) (fun i _ => 3 - (intOf i).toNat)
  case atStart => exact ⟨0, by omega, rfl, U2⟩
  case round =>
    obtain ⟨k, hk9, rfl, U3⟩ := hrel
    have hm3 := cell_updR U3 (by simp) HM.out
    obtain rfl | rfl | rfl | rfl : k = 0 ∨ k = 1 ∨ k = 2 ∨ k = 3 := by omega
    · have KX := K0 wr hm3
      have s0 := (U3.blk 0 rfl).cell (j := 0) (v := .string ⟨#[33, 61]⟩) rfl
      clear K0 K1 K2
      go_wp2_with fail
      (with_reducible refine KX.mono ?_)
      rintro e w4 ⟨rfl, hb4⟩
      have U4 := U3.grow hb4
      clear KX hb4 U3 s0 hm3
      go_wp2_with fail
      go_roundw
      case rel => exact ⟨1, by decide, by first | rfl | go_num, U4⟩
      case measure => simp [intOf]
    · have KX := K1 wr hm3
      have s0 := (U3.blk 0 rfl).cell (j := 1) (v := .string ⟨#[94, 61]⟩) rfl
      clear K0 K1 K2
      go_wp2_with fail
      (with_reducible refine KX.mono ?_)
      rintro e w4 ⟨rfl, hb4⟩
      have U4 := U3.grow hb4
      clear KX hb4 U3 s0 hm3
      go_wp2_with fail
      go_roundw
      case rel => exact ⟨2, by decide, by first | rfl | go_num, U4⟩
      case measure => simp [intOf]
    · have KX := K2 wr hm3
      have s0 := (U3.blk 0 rfl).cell (j := 2) (v := .string ⟨#[61]⟩) rfl
      clear K0 K1 K2
      go_wp2_with fail
      (with_reducible refine KX.mono ?_)
      rintro e w4 ⟨rfl, hb4⟩
      have U4 := U3.grow hb4
      clear KX hb4 U3 s0 hm3
      go_wp2_with fail
      go_roundw
      case rel => exact ⟨3, by decide, by first | rfl | go_num, U4⟩
      case measure => simp [intOf]
    · clear K0 K1 K2 hm3
      go_upto_region 14 with fail
      refine wp_gen fun W9 hW9 => ?_
      have U9 := (U3.alloc #[.string T, .int .u8 4, .string ⟨#[]⟩] 68).same hW9
      try rw [allocSzR] at U9
      clear hW9
      have FC : ∀ w', Below W9.heap.size W9 w' → w'.cell? ⟨wr.heap.size, 0, none⟩ = some (.string T) ∧ w'.cell? ⟨wr.heap.size, 1, none⟩ = some (.int .u8 4) ∧ w'.cell? ⟨wr.heap.size, 2, none⟩ = some (.string ⟨#[]⟩) := fun w' h => ⟨((U9.grow h).blk 0 rfl).cell (j := 0) (v := .string T) rfl, ((U9.grow h).blk 0 rfl).cell (j := 1) (v := .int .u8 4) rfl, ((U9.grow h).blk 0 rfl).cell (j := 2) (v := .string ⟨#[]⟩) rfl⟩
      have ext : ∀ w' w'', Below W9.heap.size W9 w' → Below w'.heap.size w' w'' → Below W9.heap.size W9 w'' := fun w' w'' h h2 => h.trans (h2.mono h.size)
      refine FreeSl.region_free (fun w' => Below W9.heap.size W9 w') [] [3, 4] (List.range 3) (by kernel_rfl) (by kernel_rfl) (by kernel_rfl) (Below.refl _ _).drew ?_
      simp only [List.range, List.range.loop]
      repeat (first
        | (refine FreeSl.RelSeq.grow_ (c := ?_) rfl rfl ?_ ?_; rotate_left; (focus (intro x w' hw _; dsimp only; obtain ⟨d0, d1, d2⟩ := FC w' hw; have hbr := Below.refl w'.heap.size w'; go_simp; (repeat' apply And.intro) <;> first | with_reducible rfl | assumption)); simp only [Act.put, List.setIfInBounds_toArray, List.set_cons_zero, List.set_cons_succ])
        | (refine FreeSl.RelSeq.grow_ (c := ?_) rfl rfl ?_ ?_; rotate_left; (focus (intro x w' hw _; dsimp only; go_simp; (with_reducible refine (KC w').mono ?_); rintro e w2 ⟨rfl, hb2⟩; have hI := ext w' w2 hw hb2; go_simp; (repeat' apply And.intro) <;> first | with_reducible rfl | assumption)); simp only [Act.put, List.setIfInBounds_toArray, List.set_cons_zero, List.set_cons_succ]))
      refine FreeSl.RelSeq.nil_ fun x9 w10 hw _ _ => ?_
      have U10 := U9.grow hw
      clear FC ext KC hw U9
      refine FreeSl.TailSeq.cons_ rfl ?_
      have z0 := (U10.blk 2 rfl).cell (j := 0) (v := .string ⟨#[]⟩) rfl
      have f0 := (U10.blk 2 rfl).frozen 0
      have z1 := (U10.blk 2 rfl).cell (j := 1) (v := .int .u8 0) rfl
      have f1 := (U10.blk 2 rfl).frozen 1
      have z2 := (U10.blk 2 rfl).cell (j := 2) (v := .string ⟨#[]⟩) rfl
      have f2 := (U10.blk 2 rfl).frozen 2
      dsimp only
      go_simp
      refine FreeSl.TailSeq.cons_ rfl ?_
      dsimp only
      go_simp
      refine FreeSl.TailSeq.nil_gen fun w11 hw11 => ?_
      have U11 := ((((U10.put 2 rfl 0 (.string T)).put 0 rfl 1 (.int .u8 4)).put 0 rfl 2 (.string ⟨#[]⟩))).same hw11
      simp only [List.setIfInBounds_toArray, List.set_cons_zero, List.set_cons_succ, List.eraseIdx_cons_zero, List.eraseIdx_cons_succ] at U11
      clear hw11 U10 z0 z1 z2 f0 f1 f2
      go_wp2_with fail
      have a0 := (U11.blk 0 rfl).cell (j := 0) (v := .string T) rfl
      have a1 := (U11.blk 0 rfl).cell (j := 1) (v := .int .u8 4) rfl
      have a2 := (U11.blk 0 rfl).cell (j := 2) (v := .string ⟨#[]⟩) rfl
      refine bodyPost_ret (v := .tuple #[.agg #[.string T, .int .u8 4, .string ⟨#[]⟩], .int .i64 0]) ?_ rfl ⟨rfl, U11.below⟩
      simp [results, Tryz.results75, go_sem, a0, a1, a2]

set_option maxHeartbeats 4000000 in
theorem mParse5 (key x : ByteArray) (mx : Int) (w : World) (_ : w.cell? ⟨2, 0, none⟩ = some (.int .i64 mx)) (hc : chkA (key, 5, x) = 0) :
    Calls Tryz.prog 75 #[.string (aqT (key, 5, x))] w fun e w' => e = .returned (.tuple #[.agg #[.string key, .int .u8 5, .string x], .int .i64 0]) ∧ Below w.heap.size w w' := by
  obtain ⟨hk, _, _, hv, hx⟩ := chkA_parts hc
  dsimp only at hk hv hx
  have hz := aqT_size hc
  have hkz := word_size hk
  have hkc := key_ch hk
  obtain rfl := hx (by decide : 4 ≤ 5)
  have KC := fun w' => askChkI key 5 5 rfl ⟨#[]⟩ w' (by unfold maxLen; omega) (by decide) (by decide)
  rw [hc] at KC
  obtain ⟨T, hT⟩ : ∃ y, y = aqT (key, 5, ⟨#[]⟩) := ⟨_, rfl⟩
  have hl : T.data.toList = 33 :: key.data.toList := by rw [hT, aqT_list]; rfl
  rw [← hT] at hz ⊢
  clear hT hc
  have hb : begB T ⟨#[33]⟩ = true := by rw [begB_ext hl]; rfl
  have hex : T.extract 1 T.size = key := ba_inj (by rw [Lib.extract_to_end, hl]; rfl)
  have KP := fun w' => cutPre T ⟨#[33]⟩ w' (by unfold maxLen; omega) (by decide)
  rw [hb, if_pos rfl, show (⟨#[33]⟩ : ByteArray).size = 1 from rfl, hex] at KP
  clear hb hex hl hkc
  go_enter Tryz.func75, Tryz.ntmps75
  go_wp2_with fail
  (with_reducible refine (KP _).mono ?_)
  rintro e w1 ⟨rfl, hw1⟩
  have U1 := ((Upd.nil [] w).alloc #[.string ⟨#[]⟩, .int .u8 0, .string ⟨#[]⟩] 68).same hw1
  clear hw1 KP
  go_upto_region 4 with fail
  refine wp_gen fun W9 hW9 => ?_
  have U9 := (U1.alloc #[.string key, .int .u8 5, .string ⟨#[]⟩] 68).same hW9
  try rw [allocSzR] at U9
  clear hW9
  have FC : ∀ w', Below W9.heap.size W9 w' → w'.cell? ⟨w1.heap.size, 0, none⟩ = some (.string key) ∧ w'.cell? ⟨w1.heap.size, 1, none⟩ = some (.int .u8 5) ∧ w'.cell? ⟨w1.heap.size, 2, none⟩ = some (.string ⟨#[]⟩) := fun w' h => ⟨((U9.grow h).blk 0 rfl).cell (j := 0) (v := .string key) rfl, ((U9.grow h).blk 0 rfl).cell (j := 1) (v := .int .u8 5) rfl, ((U9.grow h).blk 0 rfl).cell (j := 2) (v := .string ⟨#[]⟩) rfl⟩
  have ext : ∀ w' w'', Below W9.heap.size W9 w' → Below w'.heap.size w' w'' → Below W9.heap.size W9 w'' := fun w' w'' h h2 => h.trans (h2.mono h.size)
  refine FreeSl.region_free (fun w' => Below W9.heap.size W9 w') [] [3, 4] (List.range 3) (by kernel_rfl) (by kernel_rfl) (by kernel_rfl) (Below.refl _ _).drew ?_
  simp only [List.range, List.range.loop]
  repeat (first
    | (refine FreeSl.RelSeq.grow_ (c := ?_) rfl rfl ?_ ?_; rotate_left; (focus (intro x w' hw _; dsimp only; obtain ⟨d0, d1, d2⟩ := FC w' hw; have hbr := Below.refl w'.heap.size w'; go_simp; (repeat' apply And.intro) <;> first | with_reducible rfl | assumption)); simp only [Act.put, List.setIfInBounds_toArray, List.set_cons_zero, List.set_cons_succ])
    | (refine FreeSl.RelSeq.grow_ (c := ?_) rfl rfl ?_ ?_; rotate_left; (focus (intro x w' hw _; dsimp only; go_simp; (with_reducible refine (KC w').mono ?_); rintro e w2 ⟨rfl, hb2⟩; have hI := ext w' w2 hw hb2; go_simp; (repeat' apply And.intro) <;> first | with_reducible rfl | assumption)); simp only [Act.put, List.setIfInBounds_toArray, List.set_cons_zero, List.set_cons_succ]))
  refine FreeSl.RelSeq.nil_ fun x9 w10 hw _ _ => ?_
  have U10 := U9.grow hw
  clear FC ext KC hw U9
  refine FreeSl.TailSeq.cons_ rfl ?_
  have z0 := (U10.blk 1 rfl).cell (j := 0) (v := .string ⟨#[]⟩) rfl
  have f0 := (U10.blk 1 rfl).frozen 0
  have z1 := (U10.blk 1 rfl).cell (j := 1) (v := .int .u8 0) rfl
  have f1 := (U10.blk 1 rfl).frozen 1
  have z2 := (U10.blk 1 rfl).cell (j := 2) (v := .string ⟨#[]⟩) rfl
  have f2 := (U10.blk 1 rfl).frozen 2
  dsimp only
  go_simp
  refine FreeSl.TailSeq.cons_ rfl ?_
  dsimp only
  go_simp
  refine FreeSl.TailSeq.nil_gen fun w11 hw11 => ?_
  have U11 := ((((U10.put 1 rfl 0 (.string key)).put 0 rfl 1 (.int .u8 5)).put 0 rfl 2 (.string ⟨#[]⟩))).same hw11
  simp only [List.setIfInBounds_toArray, List.set_cons_zero, List.set_cons_succ, List.eraseIdx_cons_zero, List.eraseIdx_cons_succ] at U11
  clear hw11 U10 z0 z1 z2 f0 f1 f2
  go_wp2_with fail
  have a0 := (U11.blk 0 rfl).cell (j := 0) (v := .string key) rfl
  have a1 := (U11.blk 0 rfl).cell (j := 1) (v := .int .u8 5) rfl
  have a2 := (U11.blk 0 rfl).cell (j := 2) (v := .string ⟨#[]⟩) rfl
  refine bodyPost_ret (v := .tuple #[.agg #[.string key, .int .u8 5, .string ⟨#[]⟩], .int .i64 0]) ?_ rfl ⟨rfl, U11.below⟩
  simp [results, Tryz.results75, go_sem, a0, a1, a2]
end Go.Proofs.YteiocplfmjkbkaaGreatDoor
