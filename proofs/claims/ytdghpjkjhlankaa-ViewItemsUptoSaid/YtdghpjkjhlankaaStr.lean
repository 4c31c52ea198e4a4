/-
  Texts: numbers in decimal, labels as a text: what view.printed and lab.Text return, for every number of 64 bits and for every list of pairs whose text has room.
-/
import Derived.Test.YtdghpjkjhlankaaBld
import Derived.Test.YtdghpjkjhlankaaMem
import Derived.WalkKit
import Derived.Lib.ItoaNum
import Derived.Lib.Hide
import Derived.Laws.BytesString
namespace Go.Proofs.Ytdghpjkjhlankaa
open Go.RowKit
set_option maxRecDepth 100000
theorem decDigits_len (n : Nat) : ∀ k, n < 10 ^ (k+1) → (Lib.decDigits n).length ≤ k + 1 := by
  intro k
  induction k generalizing n with
  | zero => intro h; unfold Lib.decDigits; rw [dif_pos (by omega)]; simp
  | succ k ih =>
    intro h
    unfold Lib.decDigits
    split
    · simp
    · have := ih (n / 10) (by rw [Nat.pow_succ] at h; omega)
      simp; omega
def decB (n : Nat) : ByteArray := ⟨(Lib.decDigits n).toArray⟩
theorem decB_size (n : Nat) (h : n < 18446744073709551616) : (decB n).size ≤ 20 := by
  have := decDigits_len n 19 (by omega)
  simpa [decB, ByteArray.size] using this
theorem decB_small (n : Nat) (h : n ≤ 9) : decB n = ⟨#[(48 + n).toUInt8]⟩ := by
  unfold decB Lib.decDigits; rw [dif_pos (by omega)]
theorem decB_big (n : Nat) (h : 9 < n) : decB n = decB (n / 10) ++ decB (n % 10) := by
  rw [decB_small (n % 10) (by omega)]
  unfold decB; rw [Lib.decDigits, dif_neg (by omega)]
  rw [show (⟨#[(48 + n % 10).toUInt8]⟩ : ByteArray) = ⟨[(48 + n % 10).toUInt8].toArray⟩ from rfl, ByteArray.mk_append_mk]

theorem infoByte : (Try.prog.info? 5).map (fun i => (i.zero, i.size, i.bytes)) = some (some (.int .u8 0), 1, 1) := by kernel_rfl

theorem conv_one {P : Program} (src dst e : TypeId) (hs : P.underlying src = some (.slice e)) (he : P.underlying e = some (.int .u8)) (hd : P.underlying dst = some .string)
   (w : World) (a : Addr) (c : Nat) (x : Int) (hc : w.cell? a = some (.int .u8 x)) : (convert src dst (.slice (some a) 1 c)).run P w = .ok (.string ⟨#[UInt8.ofNat x.toNat]⟩) w := by
  rw [run_convert_bytes_string w src dst e _ 1 c hs he hd]
  refine run_bytesToString w a 1 c [x] ?_
  have h0 : a.add 0 = a := rfl
  simp [loadCells, loadCellsFrom, load, Sem.run, hc, h0, go_sem]

theorem printed_small (n : Nat) (w : World) (h9 : n ≤ 9) :
    Calls Try.prog 33 #[.int .u64 n] w fun e w' => e = .returned (.string (decB n)) ∧ Below w.heap.size w w' := by
  have hcv := fun (W : World) => conv_one (P := Try.prog) 34 9 5 Try.underlying34 Try.underlying5 Try.underlying9 (W.alloc (.cells #[.int .u8 (48 + (n:Int))] 5)) ⟨W.heap.size, 0, none⟩ 1 (48 + n) (by simp)
  go_enter Try.func33, Try.ntmps33
  go_wp2_with fail
  go_ret
  exact ⟨by rw [decB_small n h9]; rfl, (Below.refl _ _).alloc (Nat.le_refl _) _⟩

theorem printed_any : ∀ (k n : Nat) (w : World), n < 10 ^ (k+1) → n < 18446744073709551616 →
    Calls Try.prog 33 #[.int .u64 n] w fun e w' => e = .returned (.string (decB n)) ∧ Below w.heap.size w w' := by
  intro k
  induction k with
  | zero => intro n w h _; exact printed_small n w (by omega)
  | succ k ih =>
    intro n w h h2
    by_cases h9 : n ≤ 9
    · exact printed_small n w h9
    have hq : n / 10 < 10 ^ (k+1) := by rw [Nat.pow_succ] at h; omega
    have e1 := Lib.hid (decB_big n (by omega))
    have s1 := decB_size (n/10) (by omega)
    have s2 := decB_size (n%10) (by omega)
    clear h
    go_enter Try.func33, Try.ntmps33
    go_wp2_with fail
    refine (ih (n/10) _ hq (by omega)).mono ?_
    rintro e w1 ⟨rfl, hb1⟩
    go_wp2_with fail
    refine (printed_small (n%10) _ (by omega)).mono ?_
    rintro e w2 ⟨rfl, hb2⟩
    go_wp2_with fail
    go_ret
    exact ⟨by rw [e1.out]; rfl, hb1.trans (hb2.mono hb1.size)⟩
theorem printed (n : Nat) (w : World) (h : n < 18446744073709551616) :
    Calls Try.prog 33 #[.int .u64 n] w fun e w' => e = .returned (.string (decB n)) ∧ Below w.heap.size w w' :=
  printed_any 19 n w (by omega) h
def pairCells (ps : List (ByteArray × ByteArray)) : List Value := ps.flatMap fun p => [.string p.1, .string p.2]
def pairL (p : ByteArray × ByteArray) : List UInt8 := p.1.data.toList ++ 61 :: p.2.data.toList
def textL : List (ByteArray × ByteArray) → List UInt8
  | [] => []
  | p :: r => pairL p ++ r.flatMap fun q => 44 :: pairL q
theorem textL_snoc (ps : List (ByteArray × ByteArray)) (p : ByteArray × ByteArray) (h : ps ≠ []) : textL (ps ++ [p]) = textL ps ++ 44 :: pairL p := by
  cases ps with
  | nil => exact absurd rfl h
  | cons q r => simp [textL]
theorem textL_length (ps qs : List (ByteArray × ByteArray)) : (textL ps).length ≤ (textL (ps ++ qs)).length := by
  cases ps with
  | nil => simp [textL]
  | cons p r => simp [textL]
theorem textL_take (ps : List (ByteArray × ByteArray)) (k : Nat) : (textL (ps.take k)).length ≤ (textL ps).length := by
  have := textL_length (ps.take k) (ps.drop k)
  rwa [List.take_append_drop] at this
theorem textL_take_succ (ps : List (ByteArray × ByteArray)) (k : Nat) (p : ByteArray × ByteArray) (h : ps[k]? = some p) :
    textL (ps.take (k+1)) = (if k = 0 then [] else textL (ps.take k) ++ [44]) ++ pairL p := by
  have hk : k < ps.length := (List.getElem?_eq_some_iff.1 h).1
  rw [List.take_succ_eq_append_getElem hk]
  have e : ps[k] = p := (List.getElem?_eq_some_iff.1 h).2
  rw [e]
  by_cases h0 : k = 0
  · subst h0; simp [textL]
  · rw [textL_snoc _ _ (by intro e; have := congrArg List.length e; rw [List.length_take, List.length_nil] at this; omega), if_neg h0]; simp
theorem pairL_len (p : ByteArray × ByteArray) : (pairL p).length = p.1.size + p.2.size + 1 := by
  unfold pairL; rw [List.length_append, List.length_cons, Array.length_toList, Array.length_toList]; rfl
theorem cells_pair (p : ByteArray × ByteArray) : Lib.strCells (p.1 ++ ⟨#[61]⟩ ++ p.2) = Lib.byteCells (pairL p) := by
  rw [Lib.strCells_eq]; simp [pairL, ByteArray.data_append]
theorem byteCells_cons (l : List UInt8) (c : UInt8) (r : List UInt8) : Lib.byteCells (l ++ c :: r) = Lib.byteCells l ++ [.int .u8 c.toNat] ++ Lib.byteCells r := by
  simp [Lib.byteCells]
theorem lt_of_builder {T e B b : Nat} {bs : List Value} {w : World} (h : Lib.IsBuilderF T e B b bs w) : b < w.heap.size := h.elim (·.lt) (·.lt)
theorem pairCells_cons (q : ByteArray × ByteArray) (r : List (ByteArray × ByteArray)) : pairCells (q :: r) = .string q.1 :: .string q.2 :: pairCells r := by simp [pairCells]
theorem pairCells_length (ps : List (ByteArray × ByteArray)) : (pairCells ps).length = ps.length * 2 := by
  induction ps with
  | nil => rfl
  | cons p r ih => rw [pairCells_cons]; simp [ih]; omega
theorem pairCells_at (ps : List (ByteArray × ByteArray)) (k : Nat) (p : ByteArray × ByteArray) (h : ps[k]? = some p) : (pairCells ps)[k * 2]? = some (.string p.1) ∧ (pairCells ps)[k * 2 + 1]? = some (.string p.2) := by
  induction ps generalizing k with
  | nil => simp at h
  | cons q r ih =>
    cases k with
    | zero => simp at h; subst h; simp [pairCells]
    | succ k =>
      have := ih k (by simpa using h)
      have e : pairCells (q :: r) = .string q.1 :: .string q.2 :: pairCells r := by simp [pairCells]
      rw [e, show (k + 1) * 2 = k * 2 + 1 + 1 from by omega, show k * 2 + 1 + 1 + 1 = (k * 2 + 1) + 1 + 1 from by omega]
      simpa using this

theorem labText (v : Value) (ps : List (ByteArray × ByteArray)) (w : World) (hr : Rd w 2 v ps.length (pairCells ps)) (hz : (textL ps).length ≤ 140737488355328) :
    Calls Try.prog 32 #[v] w fun e w' => e = .returned (.string ⟨(textL ps).toArray⟩) ∧ Below w.heap.size w w' := by
  obtain ⟨A, c, rfl, h1, h2, h3, h4⟩ := hr
  unfold maxLen at h3
  go_enter Try.func32, Try.ntmps32
  go_wp2_with fail
  go_loopw [8] (fun i wr => ∃ k : Nat, k ≤ ps.length ∧ i = .int .i64 k ∧ Lib.IsBuilderF 111 5 w.heap.size w.heap.size (Lib.byteCells (textL (ps.take k))) wr ∧ Below w.heap.size w wr)
    (fun i _ => ps.length - (intOf i).toNat)
  case atStart =>
    exact ⟨0, Nat.zero_le _, rfl, by simpa [textL, Lib.byteCells] using Lib.IsBuilderF.of (Lib.fresh_isBuilder 111 5 w), (Below.refl _ _).alloc (Nat.le_refl _) _⟩
  case round =>
    obtain ⟨k, hk, rfl, hbl, hb⟩ := hrel
    by_cases hlt : k < ps.length
    · obtain ⟨b, o, rfl, hat⟩ := h4 (by omega)
      obtain ⟨p, hp⟩ : ∃ p, ps[k]? = some p := ⟨_, List.getElem?_eq_getElem hlt⟩
      obtain ⟨hp1, hp2⟩ := (pairCells_at ps k p hp)
      have c0 := hat.nth0 hb (k*2) _ hp1
      have c1 := hat.nth hb (k*2) 1 _ hp2
      clear h4 hp1 hp2
      have hlen : (textL (ps.take (k+1))).length ≤ (textL ps).length := textL_take ps (k+1)
      have hstep : textL (ps.take (k+1)) = (if k = 0 then [] else textL (ps.take k) ++ [44]) ++ pairL p := textL_take_succ ps k p hp
      have hs := Lib.hid hstep; clear hstep
      have hsp := pairL_len p
      have hcat := cells_pair p
      by_cases h0 : 0 < k
      · have hs2 : textL (ps.take (k+1)) = textL (ps.take k) ++ 44 :: pairL p := by rw [hs.out, if_neg (by omega)]; simp
        have hl2 := congrArg List.length hs2
        rw [List.length_append, List.length_cons, hsp] at hl2
        have hl3 : (textL (ps.take k)).length + 1 + (p.1.size + p.2.size + 1) ≤ 140737488355328 := by omega
        have hS := Lib.hid hs2; have hC := Lib.hid hcat
        clear hs2 hcat hsp hl2 hs
        go_wp2_with fail
        refine (bld_WriteByte _ _ _ _ _ (hbl.alloc _) ?_ ?_).mono ?_
        · rw [Lib.byteCells_length]; omega
        · have := hb.size; simp; omega
        rintro e w2 ⟨rfl, hat2, hb2, hk2⟩
        have hB := hk2 wr.heap.size _ (heap_alloc_new wr _) (by intro e; have := lt_of_builder hbl; simp at e; omega) (by intro c f e; cases e)
        have q0 : w2.cell? ⟨wr.heap.size, 0, none⟩ = some (.string p.1) := by rw [Lib.cell_of_heap hB]; rfl
        have q1 : w2.cell? ⟨wr.heap.size, 1, none⟩ = some (.string p.2) := by rw [Lib.cell_of_heap hB]; rfl
        have hsz := hb2.size
        clear hB
        go_wp2_with fail
        refine (bld_WriteString _ _ _ _ _ (.inr hat2) ?_ ?_).mono ?_
        · rw [List.length_append, Lib.byteCells_length, ← Lib.strCells_length, hC.out, Lib.byteCells_length, pairL_len, List.length_singleton]; omega
        · have := hb.size; simp at hsz; omega
        rintro e w3 ⟨rfl, hat3, hb3, hk3⟩
        go_wp2_with fail
        go_roundw
        case rel =>
          refine ⟨k+1, by omega, by go_num, ?_, ((hb.alloc hb.size _).trans hb2).trans hb3⟩
          rw [hS.out, byteCells_cons]
          refine .inr ?_
          rw [hC.out] at hat3
          simpa using hat3
        case measure => simp [intOf]; omega
      · have hs2 : textL (ps.take (k+1)) = pairL p := by rw [hs.out, if_pos (by omega)]; simp
        have e0 : textL (ps.take k) = [] := by rw [show k = 0 from by omega]; rfl
        rw [e0] at hbl
        have hl2 := congrArg List.length hs2
        rw [hsp] at hl2
        have hl3 : (p.1.size + p.2.size + 1) ≤ 140737488355328 := by omega
        have hS := Lib.hid hs2; have hC := Lib.hid hcat
        clear hs2 hcat hsp hl2 hs e0
        go_wp2_with fail
        refine (bld_WriteString _ _ _ _ _ (hbl.alloc _) ?_ ?_).mono ?_
        · rw [← Lib.strCells_length, hC.out, Lib.byteCells_length, Lib.byteCells_length, pairL_len]; simp; omega
        · have := hb.size; simp; omega
        rintro e w3 ⟨rfl, hat3, hb3, hk3⟩
        go_wp2_with fail
        go_roundw
        case rel =>
          refine ⟨k+1, by omega, by go_num, ?_, ((hb.alloc hb.size _)).trans hb3⟩
          rw [hS.out]
          refine .inr ?_
          rw [hC.out] at hat3
          simpa [Lib.byteCells] using hat3
        case measure => simp [intOf]; omega
    · obtain rfl : k = ps.length := by omega
      rw [List.take_length] at hbl
      go_wp2_with fail
      refine (bld_String _ _ _ _ hbl hb.size).mono ?_
      rintro e w2 ⟨rfl, _, hb2, _⟩
      go_wp2_with fail
      go_ret
      exact ⟨rfl, hb.trans hb2⟩
end Go.Proofs.Ytdghpjkjhlankaa
