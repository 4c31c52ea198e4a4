/-
  Nil disks; Awake of the disk's statements; the walk of DiskNone.
-/
import Derived.Test.YtdjdhakmigofmaaCrash
import Derived.Lib.SlBytesConst
namespace Go.Proofs.Ytdjdhakmigofmaa
open Go.RowKit FreeNew
set_option maxRecDepth 100000
attribute [local go_sem] out

theorem diskCountsNil (w : World) : Calls Try.prog 18 #[.pointer none] w fun e w' => e = .returned (.tuple #[.int .i64 0, .int .i64 0]) ∧ w' = w := by
  go_enter Try.func18, Try.ntmps18
  go_wp2_with fail
  go_ret2
  exact ⟨rfl, rfl⟩
theorem diskAppendNil (s : ByteArray) (v : Value) (w : World) : Calls Try.prog 10 #[.pointer none, .string s, v] w fun e w' => e = .returned (.int .i64 1) ∧ w' = w := by
  go_enter Try.func10, Try.ntmps10
  go_wp2_with fail
  go_ret
  exact ⟨rfl, rfl⟩
theorem diskSyncNil (s : ByteArray) (w : World) : Calls Try.prog 11 #[.pointer none, .string s] w fun e w' => e = .returned (.int .i64 1) ∧ w' = w := by
  go_enter Try.func11, Try.ntmps11
  go_wp2_with fail
  go_ret
  exact ⟨rfl, rfl⟩
theorem diskCutNil (s : ByteArray) (n : Int) (w : World) : Calls Try.prog 20 #[.pointer none, .string s, .int .i64 n] w fun e w' => e = .returned (.int .i64 1) ∧ w' = w := by
  go_enter Try.func20, Try.ntmps20
  go_wp2_with fail
  go_ret
  exact ⟨rfl, rfl⟩
theorem diskRenameNil (s t : ByteArray) (w : World) : Calls Try.prog 22 #[.pointer none, .string s, .string t] w fun e w' => e = .returned (.int .i64 1) ∧ w' = w := by
  go_enter Try.func22, Try.ntmps22
  go_wp2_with fail
  go_ret
  exact ⟨rfl, rfl⟩
theorem diskRemoveNil (s : ByteArray) (w : World) : Calls Try.prog 24 #[.pointer none, .string s] w fun e w' => e = .returned (.int .i64 1) ∧ w' = w := by
  go_enter Try.func24, Try.ntmps24
  go_wp2_with fail
  go_ret
  exact ⟨rfl, rfl⟩
theorem diskLooseNil (s : ByteArray) (w : World) : Calls Try.prog 14 #[.pointer none, .string s] w fun e w' => e = .returned (.int .i64 0) ∧ w' = w := by
  go_enter Try.func14, Try.ntmps14
  go_wp2_with fail
  (with_reducible refine (diskHasNil _ _).mono ?_)
  rintro e w1 ⟨rfl, rfl⟩
  go_wp2_with fail
  go_ret
  exact ⟨rfl, rfl⟩
theorem diskCopyNil (w : World) : Calls Try.prog 16 #[.pointer none] w fun e w' => ∃ d m, e = .returned (.pointer (some ⟨d, 0, none⟩)) ∧ DiskAt w' d m [] ∧ Below w.heap.size w w' := by
  go_enter Try.func16, Try.ntmps16
  go_wp2_with fail
  (with_reducible refine (diskNew _).mono ?_)
  rintro e w1 ⟨d, m, rfl, _, _, hD, hb⟩
  go_wp2_with fail
  go_ret
  exact ⟨_, _, rfl, hD, hb⟩
theorem diskSyncNone (d m : Nat) (fs : List FileV) (s : ByteArray) (w : World) (hD : DiskAt w d m fs) (hf : findF fs s = none) :
    Calls Try.prog 11 #[.pointer (some ⟨d, 0, none⟩), .string s] w fun e w' => e = .returned (.int .i64 14) ∧ Below w.heap.size w w' := by
  have hH := diskHas d m fs s w hD
  rw [hf] at hH
  go_enter Try.func11, Try.ntmps11
  go_wp2_with fail
  (with_reducible refine hH.mono ?_)
  rintro e w1 ⟨rfl, hb1⟩
  go_wp2_with fail
  go_ret
  exact ⟨rfl, hb1⟩
theorem wordB_bang (y : ByteArray) : wordB (y ++ ⟨#[33]⟩) 16 true = false := by
  have h : (y ++ ⟨#[33]⟩ : ByteArray).data.toList.all (fun c => okB true c.toNat) = false := by
    rw [List.all_eq_false]
    refine ⟨33, ?_, by decide⟩
    simp [ByteArray.data_append]
  simp only [wordB, h, Bool.and_false]
theorem convSame (w : World) (C : Array Value) (n c : Nat) : (convert 27 27 (.slice (some ⟨w.heap.size, 0, none⟩) n c)).run Try.prog (w.alloc (.cells C 5)) = .ok (.slice (some ⟨w.heap.size, 0, none⟩) n c) (w.alloc (.cells C 5 (C.size, C.size + 1))) :=
  Lib.run_convert_bytes_const w 27 5 C n c Try.underlying27 Try.underlying5
theorem cell_marked (w : World) (C : Array Value) (e : TypeId) (f : Nat × Nat) (j : Nat) (u : Value) (h : C[j]? = some u) : (w.alloc (.cells C e f)).cell? ⟨w.heap.size, j, none⟩ = some u := by
  have hh : (w.alloc (.cells C e f)).heap[w.heap.size]? = some (.cells C e f) := by
    show (w.heap.push (.cells C e f))[w.heap.size]? = _
    exact Array.getElem?_push_size
  rw [Lib.cell_of_heap hh]
  exact h
theorem rdNil2 (w : World) : Rd w 2 (.slice none 0 0) ([] : List (Nat × Nat)).length (tearCells []) := ⟨_, _, rfl, rfl, Nat.le_refl _, Nat.zero_le _, fun h => absurd h (by decide)⟩

set_option maxHeartbeats 1000000 in
theorem dAwake (w : World) : Calls Try.prog 8 #[] w fun e w' => e = .returned (.bool true) ∧ Below w.heap.size w w' := by
  go_enter Try.func8, Try.ntmps8
  have hcs := convSame
  go_wp2_with fail
  (with_reducible refine (diskNew w).mono ?_)
  rintro e w1 ⟨d, m, rfl, hld, hlm, hD1, hb1⟩
  have hin : ∀ x ∈ [d, m], w.heap.size ≤ x := by
    intro x hx
    simp only [List.mem_cons, List.mem_nil_iff, or_false] at hx
    rcases hx with rfl | rfl <;> assumption
  go_wp2_with fail
  refine calls_gen fun w2 hw2 => ?_
  have hb2 : Below w1.heap.size w1 w2 := by rw [hw2]; exact (Below.refl _ _).alloc (Nat.le_refl _) _
  have hB2 : ∀ j u, (#[Value.int .u8 120, .int .u8 121] : Array Value)[j]? = some u → w2.cell? ⟨w1.heap.size, j, none⟩ = some u := fun j u h => by rw [hw2]; exact cell_marked _ _ _ _ _ _ h
  clear hw2
  have hD2 := hD1.below hb2
  have hrd : Rd w2 1 (.slice (some ⟨w1.heap.size, 0, none⟩) 2 2) ([120, 121] : List UInt8).length (u8L [120, 121]) := ⟨_, _, rfl, rfl, Nat.le_refl _, by unfold maxLen; show 2 ≤ _; omega, fun _ => ⟨_, _, rfl, fun j u hj => by
    match j, hj with
    | 0, hj => simp [u8L] at hj; subst hj; exact hB2 _ _ rfl
    | 1, hj => simp [u8L] at hj; subst hj; exact hB2 _ _ rfl
    | j + 2, hj => simp [u8L] at hj⟩⟩
  have hbt : Below w.heap.size w w2 := hb1.trans (hb2.mono hb1.size)
  have hAp := diskAppend d m [] ⟨#[97]⟩ _ [120, 121] w2 hD2 (by decide) (by decide) (.inr (by decide)) hrd (by decide)
  have hp1 : ∀ v', putF [] ⟨(⟨#[97]⟩ : ByteArray), v', (hadF [] ⟨#[97]⟩).1 ++ [120, 121], (hadF [] ⟨#[97]⟩).2⟩ = [⟨⟨#[97]⟩, v', [120, 121], 0⟩] := fun v' => rfl
  clear hb1 hb2 hB2 hD1 hrd hld hlm
  (with_reducible refine hAp.mono ?_)
  rintro e w3 ⟨rfl, ⟨v3, hD3⟩, hM3⟩
  rw [hp1] at hD3
  have hb3 := hM3.below hbt (Nat.le_refl _) hin
  have hSy := diskSync d m _ ⟨#[97]⟩ ⟨⟨#[97]⟩, v3, [120, 121], 0⟩ w3 hD3 rfl
  have hp2 : putF [⟨(⟨#[97]⟩ : ByteArray), v3, [120, 121], 0⟩] ⟨⟨#[97]⟩, v3, [120, 121], 2⟩ = [⟨⟨#[97]⟩, v3, [120, 121], 2⟩] := rfl
  clear hAp hp1 hD2 hM3 hbt
  go_wp2_with fail
  (with_reducible refine hSy.mono ?_)
  rintro e w4 ⟨rfl, hD4, hM4⟩
  have hD4' : DiskAt w4 d m [⟨⟨#[97]⟩, v3, [120, 121], 2⟩] := hD4
  have hb4 := hM4.below hb3 (Nat.le_refl _) hin
  clear hSy hp2 hD3 hM4 hb3 hD4
  go_wp2_with fail
  refine calls_gen fun w5 hw5 => ?_
  have hb5 : Below w4.heap.size w4 w5 := by rw [hw5]; exact (Below.refl _ _).alloc (Nat.le_refl _) _
  have hB5 : ∀ j u, (#[Value.int .u8 122] : Array Value)[j]? = some u → w5.cell? ⟨w4.heap.size, j, none⟩ = some u := fun j u h => by rw [hw5]; exact cell_marked _ _ _ _ _ _ h
  clear hw5
  have hD5 := hD4'.below hb5
  have hrd : Rd w5 1 (.slice (some ⟨w4.heap.size, 0, none⟩) 1 1) ([122] : List UInt8).length (u8L [122]) := ⟨_, _, rfl, rfl, Nat.le_refl _, by unfold maxLen; show 1 ≤ _; omega, fun _ => ⟨_, _, rfl, fun j u hj => by
    match j, hj with
    | 0, hj => simp [u8L] at hj; subst hj; exact hB5 _ _ rfl
    | j + 1, hj => simp [u8L] at hj⟩⟩
  have hbt5 : Below w.heap.size w w5 := hb4.trans (hb5.mono hb4.size)
  have hAp := diskAppend d m [⟨⟨#[97]⟩, v3, [120, 121], 2⟩] ⟨#[97]⟩ _ [122] w5 hD5 (by decide) (by decide) (.inl rfl) hrd (by show 2 + 1 ≤ 1048576; decide)
  clear hb5 hB5 hb4 hrd hD4'
  (with_reducible refine hAp.mono ?_)
  rintro e w6 ⟨rfl, ⟨v6, hD6⟩, hM6⟩
  have hD6' : DiskAt w6 d m [⟨⟨#[97]⟩, v6, [120, 121, 122], 2⟩] := hD6
  have hb6 := hM6.below hbt5 (Nat.le_refl _) hin
  have hCr := diskCrashOne d m ⟨⟨#[97]⟩, v6, [120, 121, 122], 2⟩ _ [] w6 hD6' (rdNil2 w6) rfl
  clear hAp hD5 hM6 hbt5 hD6
  go_wp2_with fail
  (with_reducible refine hCr.mono ?_)
  rintro e w7 ⟨rfl, ⟨v7, hD7⟩, hM7⟩
  have hD7' : DiskAt w7 d m [⟨⟨#[97]⟩, v7, [120, 121], 2⟩] := hD7
  have hb7 := hM7.below hb6 (Nat.le_refl _) hin
  have hRe := diskReadSome d m _ ⟨#[97]⟩ ⟨⟨#[97]⟩, v7, [120, 121], 2⟩ w7 hD7' rfl
  clear hCr hD6' hM7 hb6 hD7 hin
  go_wp2_with fail
  (with_reducible refine hRe.mono ?_)
  rintro e w8 ⟨v8, rfl, hv8, hb8⟩
  have hbe := hb7.trans (hb8.mono hb7.size)
  obtain ⟨A8, c8, rfl⟩ := owns_slice hv8
  have hcv : (convert 27 9 (.slice A8 2 c8)).run Try.prog w8 = .ok (.string ⟨#[120, 121]⟩) w8 := conv8 (rd_of_owns hv8)
  clear hRe hD7' hb7 hb8 hv8
  go_wp2_with fail
  go_ret
  exact ⟨rfl, hbe⟩

end Go.Proofs.Ytdjdhakmigofmaa
