/-
  Labels of few (watchfirelaw15.labels).
-/
import Derived.Test.YtgpojkofegajeaaGreatDoorLParse
import Derived.Test.YtgpojkofegajeaaGreatDoorFree
import Derived.Lib.Hide
namespace Go.Proofs.YtgpojkofegajeaaGreatDoor
open Go.RowKit FreeOrd
set_option maxRecDepth 100000
attribute [local go_sem] out

def allLab : List (ByteArray × ByteArray) := [(⟨#[97]⟩, ⟨#[120]⟩), (⟨#[98]⟩, ⟨#[121]⟩), (⟨#[99]⟩, ⟨#[122, 46, 49]⟩)]
def otherB : ByteArray := ⟨#[111, 116, 104, 101, 114]⟩
def labBit (n k : Nat) : Bool := bits BinOp.and IntKind.u8 ((n : Int) / 2 ^ k) 1 == 1
def labF (n k : Nat) : List (ByteArray × ByteArray) := match allLab[k]? with
  | some p => if labBit n k = true then [(p.1, if 128 < n then otherB else p.2)] else []
  | none => []
def labL (n : Nat) : List (ByteArray × ByteArray) := (List.range 3).flatMap (labF n)
def labTo (n k : Nat) : List (ByteArray × ByteArray) := (List.range k).flatMap (labF n)
theorem labTo_succ (n k : Nat) : labTo n (k + 1) = labTo n k ++ labF n k := by simp [labTo, List.range_succ]
theorem lab17len (n k : Nat) : (labF n k).length ≤ 1 := by
  unfold labF
  split
  · split <;> simp
  · simp
theorem labTo_len (n : Nat) : ∀ k, (labTo n k).length ≤ k := by
  intro k
  induction k with
  | zero => simp [labTo]
  | succ k ih => rw [labTo_succ, List.length_append]; have := lab17len n k; omega
theorem allLab_at (k : Nat) (h : k < 3) : ∃ p, allLab[k]? = some p ∧ (#[Value.string ⟨#[97]⟩, .string ⟨#[120]⟩, .string ⟨#[98]⟩, .string ⟨#[121]⟩, .string ⟨#[99]⟩, .string ⟨#[122, 46, 49]⟩] : Array Value)[k * 2]? = some (.string p.1) ∧ (#[Value.string ⟨#[97]⟩, .string ⟨#[120]⟩, .string ⟨#[98]⟩, .string ⟨#[121]⟩, .string ⟨#[99]⟩, .string ⟨#[122, 46, 49]⟩] : Array Value)[k * 2 + 1]? = some (.string p.2) := by
  have h : k = 0 ∨ k = 1 ∨ k = 2 := by omega
  rcases h with rfl | rfl | rfl
  · exact ⟨_, rfl, rfl, rfl⟩
  · exact ⟨_, rfl, rfl, rfl⟩
  · exact ⟨_, rfl, rfl, rfl⟩

theorem smallLabels (n : Nat) (w : World) (hn : n < 256) :
    Calls Tryz.prog 17 #[.int .u8 n] w fun e w' => ∃ v', e = .returned v' ∧ w'.ownsRow w.heap.size 92 2 v' (labL n).length (pairCells (labL n)) ∧ Below w.heap.size w w' := by
  obtain ⟨i0, hi, hz0, hz1, hz2⟩ := info_parts infoPair
  go_enter Tryz.func17, Tryz.ntmps17
  go_wp2_with fail
  go_loopw [4, 13] (fun v i wr => ∃ k : Nat, k ≤ 3 ∧ i = .int .i64 k ∧ wr.ownsRow (w.heap.size + 1) 92 2 v (labTo n k).length (pairCells (labTo n k)) ∧ Blk wr w.heap.size #[.string ⟨#[97]⟩, .string ⟨#[120]⟩, .string ⟨#[98]⟩, .string ⟨#[121]⟩, .string ⟨#[99]⟩, .string ⟨#[122, 46, 49]⟩] 92 ∧ Below w.heap.size w wr) (fun _ i _ => 3 - (intOf i).toNat)
  case atStart => exact ⟨0, Nat.zero_le _, rfl, World.ownsRow_nil _ _ _ _, Blk.new _ _ _, (Below.refl _ _).alloc (Nat.le_refl _) _⟩
  case round =>
    obtain ⟨k, hk, rfl, hv, hL, hB⟩ := hrel
    by_cases hlt : k < 3
    · obtain ⟨p, hp, hp1, hp2⟩ := allLab_at k hlt
      have c0 := hL.cell hp1
      have c1 := hL.cell hp2
      obtain ⟨Av, cv, rfl⟩ := owns_slice hv
      have hlen := labTo_len n k
      have hs0 := labTo_succ n k
      have hf0 : labF n k = if labBit n k = true then [(p.1, if 128 < n then otherB else p.2)] else [] := by unfold labF; rw [hp]
      rw [hf0] at hs0
      generalize labTo n k = L at hv hlen hs0 ⊢
      clear hp hp1 hp2 hf0
      cases hbit : labBit n k with
      | true =>
        rw [hbit, if_pos rfl] at hs0
        have hbit' : (bits BinOp.and IntKind.u8 ((n : Int) / 2 ^ k) 1 == 1) = true := hbit
        clear hbit
        by_cases h8 : 128 < n
        · have hstep : labTo n (k + 1) = L ++ [(p.1, otherB)] := by rw [hs0, if_pos h8]
          have h8' : (128 : Int) < (n : Int) := by omega
          clear hs0
          have hba : Below wr.heap.size wr (wr.alloc (.cells #[.string p.1, .string ⟨#[111, 116, 104, 101, 114]⟩] 92)) := (Below.refl _ _).alloc (Nat.le_refl _) _
          have hsz := hB.size
          have HE := Lib.hid hstep
          clear hstep
          go_wp2_with (at_builtin; refine wpl_stop fun W hW => ?_)
          refine Stopped.mk ?_
          (try rw [← hW])
          have hbW : Below wr.heap.size wr W := by rw [hW]; exact ((hba.alloc (by simp) _))
          have hBW : Blk W (wr.heap.size + 1) #[.string p.1, .string otherB] 92 := by rw [hW]; exact (by unfold otherB; have := Blk.new (wr.alloc (.cells #[.string p.1, .string ⟨#[111, 116, 104, 101, 114]⟩] 92)) #[.string p.1, .string ⟨#[111, 116, 104, 101, 114]⟩] 92; simpa using this)
          clear hW
          have hvW := owns_below hv hbW
          have hLW := hL.below hbW hL.lt
          have hnx : Rd W 2 (.slice (some ⟨wr.heap.size + 1, 0, none⟩) 1 1) 1 (pairCells [(p.1, otherB)]) := ⟨_, _, rfl, rfl, Nat.le_refl _, by unfold maxLen; omega, fun _ => ⟨_, _, rfl, fun j u hj => by
            match j, hj with
            | 0, hj => simp [pairCells] at hj; subst hj; exact hBW.cell rfl
            | 1, hj => simp [pairCells] at hj; subst hj; exact hBW.cell rfl
            | j + 2, hj => simp [pairCells] at hj⟩⟩
          refine wpl_append_rd rfl (.tmp 26) (.tmp 28) 24 rfl (w.heap.size + 1) 92 i0 _ 2 32 Tryz.underlying24 hi hz0 hz1 hz2 rfl (by decide) _ L.length _ rfl hvW _ 1 _ rfl hnx (by intro u hu; simp [pairCells] at hu; rcases hu with rfl | rfl <;> rfl) (by unfold maxLen; omega) (by omega) (Nat.le_trans hL.lt hbW.size) fun v4 w4 hown4 hgr4 _ => ?_
          have hB4 := (hB.trans (hbW.mono hsz)).grown hgr4 (Nat.le_trans hsz hbW.size) (fun gg hg => Nat.le_trans (Nat.le_succ _) (hvW.lt gg hg).1)
          have hL4 := hLW.grown hgr4 (fun h => by have := (hvW.lt _ h.symm).1; omega)
          obtain ⟨A4, c4, rfl⟩ := owns_slice hown4
          clear hv hvW hnx hBW hbW hgr4 hB hL hLW
          go_wp2_with fail
          go_roundw
          case rel => exact ⟨k + 1, by omega, by go_num, by rw [HE.out, List.length_append, pairCells_append]; exact hown4, hL4, hB4⟩
          case measure => simp [intOf]; omega
        · have hstep : labTo n (k + 1) = L ++ [(p.1, p.2)] := by rw [hs0, if_neg h8]
          have h8' : ¬ (128 : Int) < (n : Int) := by omega
          clear hs0
          have hba : Below wr.heap.size wr (wr.alloc (.cells #[.string p.1, .string p.2] 92)) := (Below.refl _ _).alloc (Nat.le_refl _) _
          have hsz := hB.size
          have HE := Lib.hid hstep
          clear hstep
          go_wp2_with (at_builtin; refine wpl_stop fun W hW => ?_)
          refine Stopped.mk ?_
          (try rw [← hW])
          have hbW : Below wr.heap.size wr W := by rw [hW]; exact (hba.alloc (by simp) _)
          have hBW : Blk W (wr.heap.size + 1) #[.string p.1, .string p.2] 92 := by rw [hW]; exact (by have := Blk.new (wr.alloc (.cells #[.string p.1, .string p.2] 92)) #[.string p.1, .string p.2] 92; simpa using this)
          clear hW
          have hvW := owns_below hv hbW
          have hLW := hL.below hbW hL.lt
          have hnx : Rd W 2 (.slice (some ⟨wr.heap.size + 1, 0, none⟩) 1 1) 1 (pairCells [(p.1, p.2)]) := ⟨_, _, rfl, rfl, Nat.le_refl _, by unfold maxLen; omega, fun _ => ⟨_, _, rfl, fun j u hj => by
            match j, hj with
            | 0, hj => simp [pairCells] at hj; subst hj; exact hBW.cell rfl
            | 1, hj => simp [pairCells] at hj; subst hj; exact hBW.cell rfl
            | j + 2, hj => simp [pairCells] at hj⟩⟩
          refine wpl_append_rd rfl (.tmp 26) (.tmp 28) 24 rfl (w.heap.size + 1) 92 i0 _ 2 32 Tryz.underlying24 hi hz0 hz1 hz2 rfl (by decide) _ L.length _ rfl hvW _ 1 _ rfl hnx (by intro u hu; simp [pairCells] at hu; rcases hu with rfl | rfl <;> rfl) (by unfold maxLen; omega) (by omega) (Nat.le_trans hL.lt hbW.size) fun v4 w4 hown4 hgr4 _ => ?_
          have hB4 := (hB.trans (hbW.mono hsz)).grown hgr4 (Nat.le_trans hsz hbW.size) (fun gg hg => Nat.le_trans (Nat.le_succ _) (hvW.lt gg hg).1)
          have hL4 := hLW.grown hgr4 (fun h => by have := (hvW.lt _ h.symm).1; omega)
          obtain ⟨A4, c4, rfl⟩ := owns_slice hown4
          clear hv hvW hnx hBW hbW hgr4 hB hL hLW
          go_wp2_with fail
          go_roundw
          case rel => exact ⟨k + 1, by omega, by go_num, by rw [HE.out, List.length_append, pairCells_append]; exact hown4, hL4, hB4⟩
          case measure => simp [intOf]; omega
      | false =>
        rw [hbit, if_neg (by decide), List.append_nil] at hs0
        have hbit' : (bits BinOp.and IntKind.u8 ((n : Int) / 2 ^ k) 1 == 1) = false := hbit
        have hba : Below wr.heap.size wr (wr.alloc (.cells #[.string p.1, .string p.2] 92)) := (Below.refl _ _).alloc (Nat.le_refl _) _
        have hv2 := owns_below hv hba
        have hL2 := hL.below hba hL.lt
        have hB2 := hB.trans (hba.mono hB.size)
        have HE := Lib.hid hs0
        clear hbit hs0 hv hL hB
        go_wp2_with fail
        go_roundw
        case rel => exact ⟨k + 1, by omega, by go_num, by rw [HE.out]; exact hv2, hL2, hB2⟩
        case measure => simp [intOf]; omega
    · obtain rfl : k = 3 := by omega
      obtain ⟨Av, cv, rfl⟩ := owns_slice hv
      go_wp2_with fail
      go_ret
      exact ⟨_, rfl, ⟨hv.1, hv.2.imp id fun ⟨g, cap, cur, q1, q2, q3⟩ => ⟨g, cap, cur, q1, by omega, q3⟩⟩, hB⟩
end Go.Proofs.YtgpojkofegajeaaGreatDoor
