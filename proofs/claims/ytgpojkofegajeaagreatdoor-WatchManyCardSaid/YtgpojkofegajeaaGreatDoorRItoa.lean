/-
  watchfireref01.Itoa.
-/
import Derived.Test.YtgpojkofegajeaaGreatDoorMem
import Derived.WalkKit
import Derived.Lib.ItoaNum
import Derived.Lib.Hide
import Derived.Laws.BytesString
namespace Go.Proofs.YtgpojkofegajeaaGreatDoor
open Go.RowKit
set_option maxRecDepth 100000

theorem decDigits_len (n : Nat) : ∀ k, n < 10 ^ (k+1) → (Lib.decDigits n).length ≤ k + 1 := by
  intro k
  induction k generalizing n with
  | zero => intro h; unfold Lib.decDigits; rw [dif_pos (by omega)]; simp
  | succ k ih =>
    intro h
    unfold Lib.decDigits
    split
    · simp
    · have := ih (n / 10) (by rw [Nat.pow_succ] at h; omega)
      simp; omega
def decB (n : Nat) : ByteArray := ⟨(Lib.decDigits n).toArray⟩
theorem decB_size (n : Nat) (h : n < 18446744073709551616) : (decB n).size ≤ 20 := by
  have := decDigits_len n 19 (by omega)
  simpa [decB, ByteArray.size] using this
theorem decB_small (n : Nat) (h : n ≤ 9) : decB n = ⟨#[(48 + n).toUInt8]⟩ := by
  unfold decB Lib.decDigits; rw [dif_pos (by omega)]
theorem decB_big (n : Nat) (h : 9 < n) : decB n = decB (n / 10) ++ decB (n % 10) := by
  rw [decB_small (n % 10) (by omega)]
  unfold decB; rw [Lib.decDigits, dif_neg (by omega)]
  rw [show (⟨#[(48 + n % 10).toUInt8]⟩ : ByteArray) = ⟨[(48 + n % 10).toUInt8].toArray⟩ from rfl, ByteArray.mk_append_mk]

theorem infoByte : (Tryz.prog.info? 5).map (fun i => (i.zero, i.size, i.bytes)) = some (some (.int .u8 0), 1, 1) := by kernel_rfl

theorem conv_one {P : Program} (src dst e : TypeId) (hs : P.underlying src = some (.slice e)) (he : P.underlying e = some (.int .u8)) (hd : P.underlying dst = some .string)
   (w : World) (a : Addr) (c : Nat) (x : Int) (hc : w.cell? a = some (.int .u8 x)) : (convert src dst (.slice (some a) 1 c)).run P w = .ok (.string ⟨#[UInt8.ofNat x.toNat]⟩) w := by
  rw [run_convert_bytes_string w src dst e _ 1 c hs he hd]
  refine run_bytesToString w a 1 c [x] ?_
  have h0 : a.add 0 = a := rfl
  simp [loadCells, loadCellsFrom, load, Sem.run, hc, h0, go_sem]
theorem refItoa_any : ∀ (k n : Nat) (w : World), n < 10 ^ (k+1) → n < 18446744073709551616 →
    Calls Tryz.prog 11 #[.int .u64 n] w fun e w' => e = .returned (.string (decB n)) ∧ Below w.heap.size w w' := by
  intro k
  induction k with
  | zero =>
    intro n w h _
    have h9 : n ≤ 9 := by omega
    have t1 : (n : Int).tmod 10 = (n : Int) := by rw [Int.tmod_eq_of_lt (by omega) (by omega)]
    have hcv := fun (W : World) => conv_one (P := Tryz.prog) 117 9 5 Tryz.underlying117 Tryz.underlying5 Tryz.underlying9 (W.alloc (.cells #[.int .u8 (48 + (n:Int))] 5)) ⟨W.heap.size, 0, none⟩ 1 (48 + n) (by simp)
    clear h
    go_enter Tryz.func11, Tryz.ntmps11
    go_wp2_with fail
    go_ret
    exact ⟨by rw [decB_small n h9]; rfl, (Below.refl _ _).alloc (Nat.le_refl _) _⟩
  | succ k ih =>
    intro n w h h2
    by_cases h9 : n ≤ 9
    · have t1 : (n : Int).tmod 10 = (n : Int) := by rw [Int.tmod_eq_of_lt (by omega) (by omega)]
      have hcv := fun (W : World) => conv_one (P := Tryz.prog) 117 9 5 Tryz.underlying117 Tryz.underlying5 Tryz.underlying9 (W.alloc (.cells #[.int .u8 (48 + (n:Int))] 5)) ⟨W.heap.size, 0, none⟩ 1 (48 + n) (by simp)
      clear h ih
      go_enter Tryz.func11, Tryz.ntmps11
      go_wp2_with fail
      go_ret
      exact ⟨by rw [decB_small n h9]; rfl, (Below.refl _ _).alloc (Nat.le_refl _) _⟩
    · obtain ⟨m, hm⟩ : ∃ m, m = n % 10 := ⟨_, rfl⟩
      have t1 : (n : Int).tmod 10 = (m : Int) := by rw [hm]; rfl
      have hq : n / 10 < 10 ^ (k+1) := by rw [Nat.pow_succ] at h; omega
      have hm9 : m ≤ 9 := by omega
      have hcv := fun (W : World) => conv_one (P := Tryz.prog) 117 9 5 Tryz.underlying117 Tryz.underlying5 Tryz.underlying9 (W.alloc (.cells #[.int .u8 (48 + (m:Int))] 5)) ⟨W.heap.size, 0, none⟩ 1 (48 + m) (by simp)
      have e1 := Lib.hid (show decB n = decB (n / 10) ++ decB m by rw [decB_big n (by omega), hm])
      have s1 := decB_size (n/10) (by omega)
      have e2 := Lib.hid (show decB m = ⟨#[48 + UInt8.ofNat m]⟩ by rw [decB_small m hm9, Nat.toUInt8, UInt8.ofNat_add]; rfl)
      have HM := Lib.hid hm
      clear h hm
      go_enter Tryz.func11, Tryz.ntmps11
      go_wp2_with fail
      refine (ih (n/10) _ hq (by omega)).mono ?_
      rintro e w1 ⟨rfl, hb1⟩
      go_wp2_with fail
      go_ret
      exact ⟨by rw [e1.out, e2.out]; rfl, ((Below.refl _ _).alloc (Nat.le_refl _) _).trans (hb1.mono (by simp))⟩
theorem refItoa (n : Nat) (w : World) (h : n < 18446744073709551616) : Calls Tryz.prog 11 #[.int .u64 n] w fun e w' => e = .returned (.string (decB n)) ∧ Below w.heap.size w w' :=
  refItoa_any 19 n w (by omega) h
end Go.Proofs.YtgpojkofegajeaaGreatDoor
