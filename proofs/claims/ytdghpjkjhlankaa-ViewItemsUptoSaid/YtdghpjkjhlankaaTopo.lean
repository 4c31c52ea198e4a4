/-
  A topology of small numbers without rules, routes, curbs, edges and quotas: the functions that watchfirelaw24.Size's method Topo calls.
-/
import Derived.Test.YtdghpjkjhlankaaView
namespace Go.Proofs.Ytdghpjkjhlankaa
open Go.RowKit FreeOrd
set_option maxRecDepth 100000
attribute [local go_sem] out

theorem listNil (w : World) : Calls Try.prog 26 #[.slice none 0 0] w fun e w' => e = .returned (.slice none 0 0) ∧ Below w.heap.size w w' := by
  have hmm := @run_makeMap Try.prog
  go_enter Try.func26, Try.ntmps26
  go_wp2_with fail
  refine wp_loop_rounds 1 ?_
  rw [rounds_succ]
  go_wp2_with fail
  go_ret
  exact ⟨rfl, (Below.refl _ _).alloc (Nat.le_refl _) _⟩

theorem quotaNil (s0 s1 s3 s4 s5 s6 s7 s8 s9 s10 : Value) (b : Nat) (i : Nat) (w : World) (hB : Blk w b #[s0, s1, .slice none 0 0, s3, s4, s5, s6, s7, s8, s9, s10] 40) :
    Calls Try.prog 25 #[.int .i64 i, .pointer (some ⟨b, 0, none⟩)] w fun e w' => e = .returned (.int .i64 1000) ∧ w = w' := by
  have c2 := hB.cell (j := 2) (v := .slice none 0 0) rfl
  go_enter Try.func25, Try.ntmps25
  go_wp2_with fail
  go_ret
  exact ⟨rfl, rfl⟩

theorem nodesNil (w : World) : Calls Try.prog 27 #[.slice none 0 0] w fun e w' => ∃ A n c, e = .returned (.slice A n c) ∧ Below w.heap.size w w' := by
  go_enter Try.func27, Try.ntmps27
  go_wp2_with fail
  refine wp_loop_rounds 1 ?_
  rw [rounds_succ]
  go_wp2_with fail
  go_ret
  exact ⟨_, _, _, rfl, ((((Below.refl _ _).alloc (Nat.le_refl _) _).alloc (by simp) _).alloc (by simp; omega) _).drew⟩

theorem refItoa_any : ∀ (k n : Nat) (w : World), n < 10 ^ (k+1) → n < 18446744073709551616 →
    Calls Try.prog 11 #[.int .u64 n] w fun e w' => e = .returned (.string (decB n)) ∧ Below w.heap.size w w' := by
  intro k
  induction k with
  | zero =>
    intro n w h _
    have h9 : n ≤ 9 := by omega
    have t1 : (n : Int).tmod 10 = (n : Int) := by rw [Int.tmod_eq_of_lt (by omega) (by omega)]
    have hcv := fun (W : World) => conv_one (P := Try.prog) 34 9 5 Try.underlying34 Try.underlying5 Try.underlying9 (W.alloc (.cells #[.int .u8 (48 + (n:Int))] 5)) ⟨W.heap.size, 0, none⟩ 1 (48 + n) (by simp)
    clear h
    go_enter Try.func11, Try.ntmps11
    go_wp2_with fail
    go_ret
    exact ⟨by rw [decB_small n h9]; rfl, (Below.refl _ _).alloc (Nat.le_refl _) _⟩
  | succ k ih =>
    intro n w h h2
    by_cases h9 : n ≤ 9
    · have t1 : (n : Int).tmod 10 = (n : Int) := by rw [Int.tmod_eq_of_lt (by omega) (by omega)]
      have hcv := fun (W : World) => conv_one (P := Try.prog) 34 9 5 Try.underlying34 Try.underlying5 Try.underlying9 (W.alloc (.cells #[.int .u8 (48 + (n:Int))] 5)) ⟨W.heap.size, 0, none⟩ 1 (48 + n) (by simp)
      clear h ih
      go_enter Try.func11, Try.ntmps11
      go_wp2_with fail
      go_ret
      exact ⟨by rw [decB_small n h9]; rfl, (Below.refl _ _).alloc (Nat.le_refl _) _⟩
    · obtain ⟨m, hm⟩ : ∃ m, m = n % 10 := ⟨_, rfl⟩
      have t1 : (n : Int).tmod 10 = (m : Int) := by rw [hm]; rfl
      have hq : n / 10 < 10 ^ (k+1) := by rw [Nat.pow_succ] at h; omega
      have hm9 : m ≤ 9 := by omega
      have hcv := fun (W : World) => conv_one (P := Try.prog) 34 9 5 Try.underlying34 Try.underlying5 Try.underlying9 (W.alloc (.cells #[.int .u8 (48 + (m:Int))] 5)) ⟨W.heap.size, 0, none⟩ 1 (48 + m) (by simp)
      have e1 := Lib.hid (show decB n = decB (n / 10) ++ decB m by rw [decB_big n (by omega), hm])
      have s1 := decB_size (n/10) (by omega)
      have e2 := Lib.hid (show decB m = ⟨#[48 + UInt8.ofNat m]⟩ by rw [decB_small m hm9, Nat.toUInt8, UInt8.ofNat_add]; rfl)
      have HM := Lib.hid hm
      clear h hm
      go_enter Try.func11, Try.ntmps11
      go_wp2_with fail
      refine (ih (n/10) _ hq (by omega)).mono ?_
      rintro e w1 ⟨rfl, hb1⟩
      go_wp2_with fail
      go_ret
      exact ⟨by rw [e1.out, e2.out]; rfl, ((Below.refl _ _).alloc (Nat.le_refl _) _).trans (hb1.mono (by simp))⟩
theorem refItoa (n : Nat) (w : World) (h : n < 18446744073709551616) : Calls Try.prog 11 #[.int .u64 n] w fun e w' => e = .returned (.string (decB n)) ∧ Below w.heap.size w w' :=
  refItoa_any 19 n w (by omega) h
def u8s (l : List Nat) : List Value := l.map fun n => .int .u8 (n : Nat)
def hubB (i : Nat) : ByteArray := ⟨#[104, 117, 98]⟩ ++ decB i
def edgeB (i : Nat) : ByteArray := ⟨#[101, 100, 103, 101]⟩ ++ decB i
def mainB : ByteArray := ⟨#[109, 97, 105, 110]⟩
/-- Cells of nodes with these names. -/
def NamesOf (xs : List Value) (names : List ByteArray) : Prop := xs.length = names.length * 5 ∧ ∀ (i : Nat) (s : ByteArray), names[i]? = some s → xs[i * 5]? = some (.string s)

theorem infoNode : (Try.prog.info? 85).map (fun i => (i.zero, i.size, i.bytes)) = some (some (.agg #[.string ⟨#[]⟩, .int .u8 0, .int .i64 0, .int .i64 0, .slice none 0 0]), 5, 64) := by kernel_rfl
theorem NamesOf.snoc {xs : List Value} {names : List ByteArray} (h : NamesOf xs names) (s : ByteArray) (a b c d : Value) : NamesOf (xs ++ [.string s, a, b, c, d]) (names ++ [s]) := by
  refine ⟨by simp [h.1]; omega, fun i t hi => ?_⟩
  rcases Nat.lt_or_ge i names.length with hlt | hge
  · rw [List.getElem?_append_left hlt] at hi
    rw [List.getElem?_append_left (by rw [h.1]; omega)]
    exact h.2 i t hi
  · rw [List.getElem?_append_right hge] at hi
    have h0 : i - names.length = 0 := by
      cases hk : i - names.length with
      | zero => rfl
      | succ k => rw [hk] at hi; simp at hi
    rw [h0] at hi
    simp at hi
    subst hi
    rw [List.getElem?_append_right (by rw [h.1]; omega), h.1, show i * 5 - names.length * 5 = 0 from by omega]
    rfl
def mainCells : List Value := [.string mainB, .int .u8 1, .int .i64 (-1), .int .i64 0, .slice none 0 0]

end Go.Proofs.Ytdghpjkjhlankaa
