/-
  ledger.Open on an empty disk; a ledger's Sync, High, Len, Life, Last.
-/
import Derived.Test.YtdmdfccadjfpiaaGreatAdmT
namespace Go.Proofs.YtdmdfccadjfpiaaGreat
open Go.RowKit FreeOrd
set_option maxRecDepth 100000
attribute [local go_sem] out

theorem nmL_word : nmL.size ≤ maxLen ∧ wordB nmL 16 true = true := ⟨by unfold maxLen; decide, by decide +kernel⟩
theorem lSyncNil (w : World) : Calls Tryz.prog 20 #[.pointer none] w fun e w' => e = .returned (.int .i64 1) ∧ w' = w := by
  go_enter Tryz.func20, Tryz.ntmps20
  go_wp2_with fail
  go_ret
  exact ⟨rfl, rfl⟩
theorem lHighNil (o : Nat) (w : World) : Calls Tryz.prog 21 #[.pointer none, .int .u8 o] w fun e w' => e = .returned (.int .u64 0) ∧ w' = w := by
  go_enter Tryz.func21, Tryz.ntmps21
  go_wp2_with fail
  go_ret
  exact ⟨rfl, rfl⟩
theorem lLenNil (w : World) : Calls Tryz.prog 24 #[.pointer none] w fun e w' => e = .returned (.int .i64 0) ∧ w' = w := by
  go_enter Tryz.func24, Tryz.ntmps24
  go_wp2_with fail
  go_ret
  exact ⟨rfl, rfl⟩
theorem lLifeNil (w : World) : Calls Tryz.prog 22 #[.pointer none] w fun e w' => e = .returned (.int .u64 0) ∧ w' = w := by
  go_enter Tryz.func22, Tryz.ntmps22
  go_wp2_with fail
  go_ret
  exact ⟨rfl, rfl⟩
theorem lLastNil (w : World) : Calls Tryz.prog 23 #[.pointer none] w fun e w' => e = .returned (.int .u64 0) ∧ w' = w := by
  go_enter Tryz.func23, Tryz.ntmps23
  go_wp2_with fail
  go_ret
  exact ⟨rfl, rfl⟩
theorem lLife (g : Nat) (jv lv : Value) (h : Nat → Nat) (li la : Nat) (w : World) (hB : Blk w g (ledA jv lv h li la) 93)  : Calls Tryz.prog 22 #[.pointer (some ⟨g, 0, none⟩)] w fun e w' => e = .returned (.int .u64 li) ∧ w' = w := by
  have c0 := hB.cell (ledA_34 jv lv h li la)
  clear hB
  go_enter Tryz.func22, Tryz.ntmps22
  go_wp2_with fail
  go_ret
  exact ⟨rfl, rfl⟩
theorem lLast (g : Nat) (jv lv : Value) (h : Nat → Nat) (li la : Nat) (w : World) (hB : Blk w g (ledA jv lv h li la) 93)  : Calls Tryz.prog 23 #[.pointer (some ⟨g, 0, none⟩)] w fun e w' => e = .returned (.int .u64 la) ∧ w' = w := by
  have c0 := hB.cell (ledA_35 jv lv h li la)
  clear hB
  go_enter Tryz.func23, Tryz.ntmps23
  go_wp2_with fail
  go_ret
  exact ⟨rfl, rfl⟩
theorem lHigh (g : Nat) (jv lv : Value) (h : Nat → Nat) (li la : Nat) (w : World) (hB : Blk w g (ledA jv lv h li la) 93) (o : Nat) (ho : o < 32) : Calls Tryz.prog 21 #[.pointer (some ⟨g, 0, none⟩), .int .u8 o] w fun e w' => e = .returned (.int .u64 (h o : Nat)) ∧ w' = w := by
  have hI : (o : Int) < 32 := by omega
  have d : decide ((32 : Int) ≤ (o : Int)) = false := by simp; omega
  have c0 := hB.cell (ledA_h jv lv h li la o ho)
  clear hB
  go_enter Tryz.func21, Tryz.ntmps21
  go_wp2_with fail
  go_ret
  exact ⟨rfl, rfl⟩
theorem lLen (g n : Nat) (jv : Value) (A : Option Addr) (c : Nat) (h : Nat → Nat) (li la : Nat) (w : World) (hB : Blk w g (ledA jv (.slice A n c) h li la) 93) : Calls Tryz.prog 24 #[.pointer (some ⟨g, 0, none⟩)] w fun e w' => e = .returned (.int .i64 n) ∧ w' = w := by
  have c0 := hB.cell (ledA_1 jv (.slice A n c) h li la)
  clear hB
  go_enter Tryz.func24, Tryz.ntmps24
  go_wp2_with fail
  go_ret
  exact ⟨rfl, rfl⟩
theorem lSync (g j d m b k ks : Nat) (lv : Value) (h : Nat → Nat) (li la : Nat) (es : List (Nat × ItV)) (fs : List FileV) (acc : List UInt8) (w : World) (hP : (chL g j d m b lv h li la es k fs).P w) (hj : hasJ fs nmL acc ks) :
    Calls Tryz.prog 20 #[.pointer (some ⟨g, 0, none⟩)] w fun e w' => e = .returned (.int .i64 0) ∧ ∃ fs', hasJ fs' nmL acc acc.length ∧ Upd (chL g j d m b lv h li la es k fs).fp w [chL g j d m b lv h li la es k fs'] w' := by
  have hB := (two_open (two_open hP |>.get 0 rfl)).ledBlk 0 rfl
  have c0 := hB.cell (ledA_0 (.pointer (some ⟨j, 0, none⟩)) lv h li la)
  have hJ := jSyncU j d m b k ks nmL fs acc w ((two_open hP).get 1 rfl) hj
  have U0 := two_open hP
  clear hB
  go_enter Tryz.func20, Tryz.ntmps20
  go_wp2_with fail
  (with_reducible refine hJ.mono ?_)
  rintro e w1 ⟨rfl, fs', hj', h1⟩
  have U1 := U0.turn 1 rfl h1
  simp only [List.eraseIdx_cons_succ, List.eraseIdx_cons_zero, List.cons_append, List.nil_append] at U1
  have HJ := Lib.hid hj'
  have HU := Lib.hid ((U1.pick [1, 0] (by decide)).two)
  clear hJ h1 hj' U0 U1
  go_wp2_with fail
  go_ret
  exact ⟨rfl, fs', HJ.out, HU.out⟩
theorem hiA_zero : hiA (fun _ => 0) = Array.replicate 32 (.int .u64 0) := by
  apply Array.ext_getElem?
  intro i
  by_cases hi : i < 32
  · rw [hiA_at _ _ hi]; simp [hi]
  · rw [Array.getElem?_eq_none (by simp [hiA]; omega), Array.getElem?_eq_none (by simp; omega)]
theorem ledA_new (jv : Value) : ledA jv (.slice none 0 0) (fun _ => 0) 0 0 = #[jv, .slice none 0 0, .int .u64 0, .int .u64 0, .int .u64 0, .int .u64 0, .int .u64 0, .int .u64 0, .int .u64 0, .int .u64 0, .int .u64 0, .int .u64 0, .int .u64 0, .int .u64 0, .int .u64 0, .int .u64 0, .int .u64 0, .int .u64 0, .int .u64 0, .int .u64 0, .int .u64 0, .int .u64 0, .int .u64 0, .int .u64 0, .int .u64 0, .int .u64 0, .int .u64 0, .int .u64 0, .int .u64 0, .int .u64 0, .int .u64 0, .int .u64 0, .int .u64 0, .int .u64 0, .int .u64 0, .int .u64 0] := by
  unfold ledA
  rw [hiA_zero]
  apply Array.ext'
  rw [Array.toList_append, Array.toList_append, Array.toList_replicate]
  rfl
theorem lOpenNil (t : Value) (w : World) : Calls Tryz.prog 15 #[.pointer none, t] w fun e w' => e = .returned (.tuple #[.pointer none, .int .i64 1]) ∧ w' = w := by
  have hJ : ∀ w', Calls Tryz.prog 44 #[.pointer none, t, .string ⟨#[108, 101, 100, 103, 101, 114]⟩] w' fun e w'' => e = .returned (.tuple #[.pointer none, .slice none 0 0, .int .i64 1]) ∧ w'' = w' := fun w' => jOpenNilDisk t _ w'
  go_enter Tryz.func15, Tryz.ntmps15
  go_wp2_with fail
  (with_reducible refine (hJ _).mono ?_)
  rintro e w1 ⟨rfl, rfl⟩
  go_wp2_with fail
  go_ret2
  exact ⟨rfl, rfl⟩
theorem wrUint1 (g : Nat) (v : Value) (bs : List UInt8) (w : World) (hP : (chWr g v bs).P w) (hl : bs.length ≤ 549755813888) :
    Calls Tryz.prog 39 #[.pointer (some ⟨g, 0, none⟩), .int .u64 1] w fun e w' => e = .returned (.tuple #[]) ∧ ∃ v', Upd (chWr g v bs).fp w [chWr g v' (bs ++ [1])] w' := by
  have := wrUint g v bs 1 w hP hl (by decide)
  rw [uvar_small (by decide)] at this
  exact this
set_option maxHeartbeats 4000000 in
theorem lOpen0 (d m b : Nat) (w : World) (hP : (chDT d m b []).P w) :
    Calls Tryz.prog 15 #[.pointer (some ⟨d, 0, none⟩), .pointer (some ⟨b, 0, none⟩)] w fun e w' => ∃ g j fs', e = .returned (.tuple #[.pointer (some ⟨g, 0, none⟩), .int .i64 0]) ∧ hasJ fs' nmL (layL [2, 1]) (layL [2, 1]).length ∧ Upd (chDT d m b []).fp w [chL g j d m b (.slice none 0 0) (fun _ => 0) 1 0 [] 10 fs'] w' := by
  have hJ : Calls Tryz.prog 44 #[.pointer (some ⟨d, 0, none⟩), .pointer (some ⟨b, 0, none⟩), .string ⟨#[108, 101, 100, 103, 101, 114]⟩] w _ := jOpenU0 d m b nmL w hP
  have U0 := Upd.one _ w hP
  obtain ⟨S, hS⟩ : ∃ S, S = (chDT d m b []).fp := ⟨_, rfl⟩
  rw [← hS] at U0 ⊢
  clear hS hP
  have HU0 := Lib.hid U0
  clear U0
  go_enter Tryz.func15, Tryz.ntmps15
  go_wp2_with fail
  (with_reducible refine hJ.mono ?_)
  rintro e w1 ⟨j, A, c, rfl, h1⟩
  have U1 := HU0.out.turn 0 rfl h1
  simp only [List.eraseIdx_cons_zero, List.append_nil] at U1
  clear h1 hJ HU0
  go_wp2_with fail
  refine wp_gen fun w2 hw2 => ?_
  obtain ⟨cs, hcs, hw⟩ : ∃ cs, cs = ledA (.pointer (some ⟨j, 0, none⟩)) (.slice none 0 0) (fun _ => 0) 0 0 ∧ w2 = w1.alloc (.cells cs 93) := ⟨_, (ledA_new _).symm, hw2⟩
  subst hcs
  have U2 := (U1.alloc (ledA (.pointer (some ⟨j, 0, none⟩)) (.slice none 0 0) (fun _ => 0) 0 0) 93).same hw
  clear hw2 hw U1
  go_loopw [30] (fun i wr => i = .int .i64 0 ∧ wr = w2) (fun _ _ => 0)
  case atStart => exact ⟨rfl, rfl⟩
  case round =>
    obtain ⟨rfl, rfl⟩ := hrel
    have g34 := (U2.blk 0 rfl).cell (ledA_34 (.pointer (some ⟨j, 0, none⟩)) (.slice none 0 0) (fun _ => 0) 0 0)
    have gz := (U2.blk 0 rfl).frozen
    go_wp2_with fail
    refine calls_genP fun w4 hw4 => ?_
    have U3 := U2.put 0 rfl 34 (.int .u64 (1 : Nat))
    rw [ledA_put34] at U3
    have U4 := ((U3.alloc #[.slice none 0 0] 86).same hw4).wrNew
    simp only [List.eraseIdx_cons_zero, World.size_setCell] at U4
    clear hw4 U3 U2 g34 gz
    (with_reducible refine (wrByte2 _ _ _ w4 (U4.get 0 rfl) (by simp)).mono ?_)
    rintro e w5 ⟨rfl, v5, h5⟩
    have U5 := U4.turn 0 rfl h5
    simp only [List.eraseIdx_cons_zero, List.cons_append, List.nil_append] at U5
    clear h5 U4
    have g34 := (U5.blk 1 rfl).cell (ledA_34 (.pointer (some ⟨j, 0, none⟩)) (.slice none 0 0) (fun _ => 0) 1 0)
    go_wp2_with fail
    (with_reducible refine (wrUint1 _ _ _ w5 (U5.get 0 rfl) (by simp)).mono ?_)
    rintro e w6 ⟨rfl, v6, h6⟩
    have U6 := U5.turn 0 rfl h6
    simp only [List.eraseIdx_cons_zero, List.cons_append, List.nil_append] at U6
    clear h6 U5 g34
    go_wp2_with fail
    (with_reducible refine (wrBytes _ _ _ w6 (U6.get 0 rfl) (by simp)).mono ?_)
    rintro e w7 ⟨v7, rfl, hrow, hb7⟩
    have U7 := (U6.grow hb7).drop 0
    simp only [List.eraseIdx_cons_zero] at U7
    clear hb7 U6
    have hA := jAppendU j d m b 0 0 nmL [] [] v7 [2, 1] w7 (U7.get 1 rfl) (.inl ⟨rfl, rfl, rfl⟩) (rd_of_owns hrow) (by decide) nmL_word.1 nmL_word.2 (by decide) (by decide)
    clear hrow
    go_wp2_with fail
    (with_reducible refine hA.mono ?_)
    rintro e w8 ⟨rfl, fs8, hj8, h8⟩
    have U8 := U7.turn 1 rfl h8
    simp only [List.eraseIdx_cons_succ, List.eraseIdx_cons_zero, List.cons_append, List.nil_append] at U8
    have hS := jSyncU j d m b _ 0 nmL fs8 _ w8 (U8.get 0 rfl) hj8
    clear hA hj8 h8 U7
    go_wp2_with fail
    (with_reducible refine hS.mono ?_)
    rintro e w9 ⟨rfl, fs9, hj9, h9⟩
    have U9 := (((U8.turn 0 rfl h9).nilRow 41 14).allNil).pick [3, 1, 0, 2] (by decide)
    simp only [List.eraseIdx_cons_zero, List.cons_append, List.nil_append, List.filterMap_cons, List.filterMap_nil, List.getElem?_cons_zero, List.getElem?_cons_succ] at U9
    have HU := Lib.hid (U9.two.pick [0, 1, 2] (by decide)).two.two
    have HJ := Lib.hid hj9
    clear hS hj9 h9 U8 U9
    go_wp2_with fail
    go_ret2
    exact ⟨_, j, fs9, rfl, HJ.out, HU.out⟩
end Go.Proofs.YtdmdfccadjfpiaaGreat
