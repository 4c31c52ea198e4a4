/-
  lab.Text: labels as a text.
-/
import Derived.Test.YtgpojkofegajeaaGreatDoorMg20
import Derived.Test.YtgpojkofegajeaaGreatDoorMg8
import Derived.WalkKit
import Derived.Lib.Hide
import Derived.Laws.BytesString
namespace Go.Proofs.YtgpojkofegajeaaGreatDoor
open Go.RowKit
set_option maxRecDepth 100000
def pairL (p : ByteArray × ByteArray) : List UInt8 := p.1.data.toList ++ 61 :: p.2.data.toList
def textL : List (ByteArray × ByteArray) → List UInt8
  | [] => []
  | p :: r => pairL p ++ r.flatMap fun q => 44 :: pairL q
theorem textL_snoc (ps : List (ByteArray × ByteArray)) (p : ByteArray × ByteArray) (h : ps ≠ []) : textL (ps ++ [p]) = textL ps ++ 44 :: pairL p := by
  cases ps with
  | nil => exact absurd rfl h
  | cons q r => simp [textL]
theorem textL_length (ps qs : List (ByteArray × ByteArray)) : (textL ps).length ≤ (textL (ps ++ qs)).length := by
  cases ps with
  | nil => simp [textL]
  | cons p r => simp [textL]
theorem textL_take (ps : List (ByteArray × ByteArray)) (k : Nat) : (textL (ps.take k)).length ≤ (textL ps).length := by
  have := textL_length (ps.take k) (ps.drop k)
  rwa [List.take_append_drop] at this
theorem textL_take_succ (ps : List (ByteArray × ByteArray)) (k : Nat) (p : ByteArray × ByteArray) (h : ps[k]? = some p) :
    textL (ps.take (k+1)) = (if k = 0 then [] else textL (ps.take k) ++ [44]) ++ pairL p := by
  have hk : k < ps.length := (List.getElem?_eq_some_iff.1 h).1
  rw [List.take_succ_eq_append_getElem hk]
  have e : ps[k] = p := (List.getElem?_eq_some_iff.1 h).2
  rw [e]
  by_cases h0 : k = 0
  · subst h0; simp [textL]
  · rw [textL_snoc _ _ (by intro e; have := congrArg List.length e; rw [List.length_take, List.length_nil] at this; omega), if_neg h0]; simp
theorem pairL_len (p : ByteArray × ByteArray) : (pairL p).length = p.1.size + p.2.size + 1 := by
  unfold pairL; rw [List.length_append, List.length_cons, Array.length_toList, Array.length_toList]; rfl
theorem cells_pair (p : ByteArray × ByteArray) : Lib.strCells (p.1 ++ ⟨#[61]⟩ ++ p.2) = Lib.byteCells (pairL p) := by
  rw [Lib.strCells_eq]; simp [pairL, ByteArray.data_append]
theorem byteCells_cons (l : List UInt8) (c : UInt8) (r : List UInt8) : Lib.byteCells (l ++ c :: r) = Lib.byteCells l ++ [.int .u8 c.toNat] ++ Lib.byteCells r := by
  simp [Lib.byteCells]
theorem lt_of_builder {T e B b : Nat} {bs : List Value} {w : World} (h : Lib.IsBuilderF T e B b bs w) : b < w.heap.size := h.elim (·.lt) (·.lt)
theorem labText (v : Value) (ps : List (ByteArray × ByteArray)) (w : World) (hr : Rd w 2 v ps.length (pairCells ps)) (hz : (textL ps).length ≤ 140737488355328) :
    Calls Tryz.prog 23 #[v] w fun e w' => e = .returned (.string ⟨(textL ps).toArray⟩) ∧ Below w.heap.size w w' := by
  obtain ⟨A, c, rfl, h1, h2, h3, h4⟩ := hr
  unfold maxLen at h3
  go_enter Tryz.func23, Tryz.ntmps23
  go_wp2_with fail
  go_loopw [8] (fun i wr => ∃ k : Nat, k ≤ ps.length ∧ i = .int .i64 k ∧ Lib.IsBuilderF 131 5 w.heap.size w.heap.size (Lib.byteCells (textL (ps.take k))) wr ∧ Below w.heap.size w wr)
    (fun i _ => ps.length - (intOf i).toNat)
  case atStart =>
    exact ⟨0, Nat.zero_le _, rfl, by simpa [textL, Lib.byteCells] using Lib.IsBuilderF.of (Lib.fresh_isBuilder 131 5 w), (Below.refl _ _).alloc (Nat.le_refl _) _⟩
  case round =>
    obtain ⟨k, hk, rfl, hbl, hb⟩ := hrel
    by_cases hlt : k < ps.length
    · obtain ⟨b, o, rfl, hat⟩ := h4 (by omega)
      obtain ⟨p, hp⟩ : ∃ p, ps[k]? = some p := ⟨_, List.getElem?_eq_getElem hlt⟩
      obtain ⟨hp1, hp2⟩ := (pairCells_at ps k p hp)
      have c0 := hat.nth0 hb (k*2) _ hp1
      have c1 := hat.nth hb (k*2) 1 _ hp2
      clear h4 hp1 hp2
      have hlen : (textL (ps.take (k+1))).length ≤ (textL ps).length := textL_take ps (k+1)
      have hstep : textL (ps.take (k+1)) = (if k = 0 then [] else textL (ps.take k) ++ [44]) ++ pairL p := textL_take_succ ps k p hp
      have hs := Lib.hid hstep; clear hstep
      have hsp := pairL_len p
      have hcat := cells_pair p
      by_cases h0 : 0 < k
      · have hs2 : textL (ps.take (k+1)) = textL (ps.take k) ++ 44 :: pairL p := by rw [hs.out, if_neg (by omega)]; simp
        have hl2 := congrArg List.length hs2
        rw [List.length_append, List.length_cons, hsp] at hl2
        have hl3 : (textL (ps.take k)).length + 1 + (p.1.size + p.2.size + 1) ≤ 140737488355328 := by omega
        have hS := Lib.hid hs2; have hC := Lib.hid hcat
        clear hs2 hcat hsp hl2 hs
        go_wp2_with fail
        refine (bld_WriteByte _ _ _ _ _ (hbl.alloc _) ?_ ?_).mono ?_
        · rw [Lib.byteCells_length]; omega
        · have := hb.size; simp; omega
        rintro e w2 ⟨rfl, hat2, hb2, hk2⟩
        have hB := hk2 wr.heap.size _ (heap_alloc_new wr _) (by intro e; have := lt_of_builder hbl; simp at e; omega) (by intro c f e; cases e)
        have q0 : w2.cell? ⟨wr.heap.size, 0, none⟩ = some (.string p.1) := by rw [Lib.cell_of_heap hB]; rfl
        have q1 : w2.cell? ⟨wr.heap.size, 1, none⟩ = some (.string p.2) := by rw [Lib.cell_of_heap hB]; rfl
        have hsz := hb2.size
        clear hB
        go_wp2_with fail
        refine (bld_WriteString _ _ _ _ _ (.inr hat2) ?_ ?_).mono ?_
        · rw [List.length_append, Lib.byteCells_length, ← Lib.strCells_length, hC.out, Lib.byteCells_length, pairL_len, List.length_singleton]; omega
        · have := hb.size; simp at hsz; omega
        rintro e w3 ⟨rfl, hat3, hb3, hk3⟩
        go_wp2_with fail
        go_roundw
        case rel =>
          refine ⟨k+1, by omega, by go_num, ?_, ((hb.alloc hb.size _).trans hb2).trans hb3⟩
          rw [hS.out, byteCells_cons]
          refine .inr ?_
          rw [hC.out] at hat3
          simpa using hat3
        case measure => simp [intOf]; omega
      · have hs2 : textL (ps.take (k+1)) = pairL p := by rw [hs.out, if_pos (by omega)]; simp
        have e0 : textL (ps.take k) = [] := by rw [show k = 0 from by omega]; rfl
        rw [e0] at hbl
        have hl2 := congrArg List.length hs2
        rw [hsp] at hl2
        have hl3 : (p.1.size + p.2.size + 1) ≤ 140737488355328 := by omega
        have hS := Lib.hid hs2; have hC := Lib.hid hcat
        clear hs2 hcat hsp hl2 hs e0
        go_wp2_with fail
        refine (bld_WriteString _ _ _ _ _ (hbl.alloc _) ?_ ?_).mono ?_
        · rw [← Lib.strCells_length, hC.out, Lib.byteCells_length, Lib.byteCells_length, pairL_len]; simp; omega
        · have := hb.size; simp; omega
        rintro e w3 ⟨rfl, hat3, hb3, hk3⟩
        go_wp2_with fail
        go_roundw
        case rel =>
          refine ⟨k+1, by omega, by go_num, ?_, ((hb.alloc hb.size _)).trans hb3⟩
          rw [hS.out]
          refine .inr ?_
          rw [hC.out] at hat3
          simpa [Lib.byteCells] using hat3
        case measure => simp [intOf]; omega
    · obtain rfl : k = ps.length := by omega
      rw [List.take_length] at hbl
      go_wp2_with fail
      refine (bld_String _ _ _ _ hbl hb.size).mono ?_
      rintro e w2 ⟨rfl, _, hb2, _⟩
      go_wp2_with fail
      go_ret
      exact ⟨rfl, hb.trans hb2⟩
end Go.Proofs.YtgpojkofegajeaaGreatDoor
