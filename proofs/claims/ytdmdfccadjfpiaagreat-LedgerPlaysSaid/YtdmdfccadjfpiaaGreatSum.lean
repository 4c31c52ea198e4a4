/-
  A table's sums: Add, and Sum of parts.
-/
import Derived.Test.YtdmdfccadjfpiaaGreatOnce
import Derived.Test.YtdmdfccadjfpiaaGreatCrcLaw
import Derived.Lib.Hide
namespace Go.Proofs.YtdmdfccadjfpiaaGreat
open Go.RowKit
set_option maxRecDepth 100000

/-- A table as it is between calls. -/
def TabOk (w : World) (b : Nat) : Prop := ∃ d ws s t, s < 18446744073709551616 ∧ t < 18446744073709551616 ∧ (d = 0 ∨ (d = 1 ∧ ∀ i, i < 256 → ws i = tabW i)) ∧ Tab w b d 0 ws s t
def u8L (l : List UInt8) : List Value := l.map fun c => .int .u8 c.toNat

theorem add64 (b j s n : Nat) (w : World) (hc : w.cell? ⟨b, j, none⟩ = some (.int .u64 s)) (hz : w.frozen? ⟨b, j, none⟩ = false) :
    Calls Tryz.prog 105 #[.pointer (some ⟨b, j, none⟩), .int .u64 n] w fun e w' => e = .returned (.int .u64 ((s + n) % 18446744073709551616 : Nat)) ∧ w' = w.setCell ⟨b, j, none⟩ (.int .u64 ((s + n) % 18446744073709551616 : Nat)) := by
  have hadd := run_call_add (P := Tryz.prog) Tryz.func123 (by kernel_rfl) (by kernel_rfl) (by kernel_rfl) .u64 (by kernel_rfl) (y := n) (s := ((s + n) % 18446744073709551616 : Nat)) hc hz (by simp [go_sem, IntKind.wrap_u64])
  go_enter Tryz.func105, Tryz.ntmps105
  go_wp2_with fail
  go_ret
  exact ⟨rfl, rfl⟩

theorem add64_one (b j s : Nat) (w : World) (hc : w.cell? ⟨b, j, none⟩ = some (.int .u64 s)) (hz : w.frozen? ⟨b, j, none⟩ = false) :
    Calls Tryz.prog 105 #[.pointer (some ⟨b, j, none⟩), .int .u64 1] w fun e w' => e = .returned (.int .u64 ((s + 1) % 18446744073709551616 : Nat)) ∧ w' = w.setCell ⟨b, j, none⟩ (.int .u64 ((s + 1) % 18446744073709551616 : Nat)) := add64 b j s 1 w hc hz
theorem crcSum_nil : crcSum [] = 0 := by simp [crcSum, crcOver]
theorem crcSum_lt (l : List UInt8) : crcSum l < 4294967296 := by unfold crcSum; omega
theorem crcSum_back (l : List UInt8) : 4294967295 - crcSum l = crcOver 4294967295 l := by
  have := crcOver_lt l 4294967295 (by decide)
  unfold crcSum
  omega
theorem not32 (m : Nat) (h : m < 4294967296) : bits .xor .u32 IntKind.u32.max (m : Int) = ((4294967295 - m : Nat) : Int) := by
  have h1 := u32_xor_nat 4294967295 m (by decide) h
  rw [Nat.xor_comm, xor_ones m h] at h1
  exact h1

theorem tabAdd (b n : Nat) (v : Value) (l : List UInt8) (w : World) (hT : TabOk w b) (hl : Rd w 1 v l.length (u8L l)) (hn : n < 4294967296) :
    Calls Tryz.prog 104 #[.pointer (some ⟨b, 0, none⟩), .int .u32 n, v] w fun e w' => e = .returned (.int .u32 (4294967295 - crcOver (4294967295 - n) l : Nat)) ∧ TabOk w' b ∧ But b w w' := by
  obtain ⟨d, ws, s, t, hs, ht, hd, hT⟩ := hT
  obtain ⟨A, c, rfl, h1, h2, h3, h4⟩ := hl
  unfold maxLen at h3
  obtain ⟨m0, hm0⟩ : ∃ m0, m0 = 4294967295 - n := ⟨_, rfl⟩
  have e0 := not32 n hn
  rw [← hm0] at e0 ⊢
  have lm0 : m0 < 4294967296 := by omega
  clear hm0
  go_enter Tryz.func104, Tryz.ntmps104
  go_wp2_with fail
  (with_reducible refine (once_do b d ws s t w hd hT).mono ?_)
  rintro e w1 ⟨rfl, hT1, hB1⟩
  have hbyte : ∀ (k : Nat) (x : UInt8), l[k]? = some x → ∃ q o, A = some ⟨q, o, none⟩ ∧ w1.cell? ⟨q, o + k, none⟩ = some (.int .u8 x.toNat) := by
    intro k x hk
    have hlt : k < l.length := by
      rcases Nat.lt_or_ge k l.length with h | h
      · exact h
      · rw [List.getElem?_eq_none h] at hk; cases hk
    obtain ⟨q, o, rfl, hr⟩ := h4 (by omega)
    have c0 := hr k (.int .u8 x.toNat) (by simp [u8L, hk])
    have hne := hT.far c0 (fun n => by simp)
    exact ⟨q, o, rfl, by rw [World.cell?_of_block (w := w) (hB1.block q (World.block_lt_of_cell? w _ c0) hne)]; exact c0⟩
  clear hT h1 h4 hd
  go_wp2_with fail
  go_loopw [7, 22] (fun m i wr => ∃ k : Nat, k ≤ l.length ∧ i = .int .i64 k ∧ m = .int .u32 (crcOver m0 (l.take k)) ∧ wr = w1) (fun _ i _ => l.length - (intOf i).toNat)
  case atStart => exact ⟨0, Nat.zero_le _, rfl, rfl, rfl⟩
  case round =>
    obtain ⟨k, hk, rfl, rfl, rfl⟩ := hrel
    have hlm := crcOver_lt (l.take k) m0 lm0
    by_cases hlt : k < l.length
    · obtain ⟨x, hx⟩ : ∃ x, l[k]? = some x := ⟨_, List.getElem?_eq_getElem hlt⟩
      obtain ⟨q, o, rfl, hc⟩ := hbyte k x hx
      have hsucc := crcOver_take_succ m0 l k x hx
      clear hbyte
      generalize crcOver m0 (l.take k) = m at hlm hsucc
      have hx8 := x.toNat_lt
      have wu : IntKind.u8.wrap (m : Int) = ((m % 256 : Nat) : Int) := by rw [IntKind.wrap_u8']; omega
      obtain ⟨i, hi⟩ : ∃ i, i = m % 256 ^^^ x.toNat := ⟨_, rfl⟩
      have li : i < 256 := by rw [hi]; exact Nat.xor_lt_two_pow (n := 8) (by omega) (by omega)
      have e1 : bits .xor .u8 ((m : Int) % 256) (x.toNat : Int) = (i : Int) := by rw [hi]; exact u8_xor_nat (m % 256) x.toNat (by omega) (by omega)
      have e2 : bits .xor .u32 (tabW i : Int) ((m : Int) / 256) = (crcUp m x : Int) := by
        have := u32_xor_nat (tabW i) (m / 256) (crcSteps_lt (n := i) (by omega) 8) (by omega)
        rw [hi, crcUp_table] at this
        rw [hi]
        exact this
      have c2 := hT1.word li
      have HI := Lib.hid hi
      clear hi hx
      go_wp2_with fail
      go_roundw
      case rel => exact ⟨k + 1, by omega, by go_num, by rw [hsucc], trivial⟩
      case measure => simp [intOf]; omega
    · have hk2 : k = l.length := by omega
      go_wp2_with fail
      (with_reducible refine (add64 b 260 t l.length _ hT1.bytes (hT1.frozen 260)).mono ?_)
      rintro e w4 ⟨rfl, rfl⟩
      have hT4 := hT1.putBytes ((t + l.length) % 18446744073709551616)
      have hB4 := hB1.trans (But.set b 260 (.int .u64 ((t + l.length) % 18446744073709551616 : Nat)) _)
      have hfull : l.take k = l := by rw [hk2, List.take_length]
      rw [hfull] at hlm ⊢
      have e9 := not32 (crcOver m0 l) hlm
      go_wp2_with fail
      go_ret
      exact ⟨rfl, ⟨1, tabW, s, _, hs, Nat.mod_lt _ (by decide), .inr ⟨rfl, fun _ _ => rfl⟩, hT4⟩, hB4⟩

theorem TabOk.far {w : World} {b : Nat} (h : TabOk w b) {g o : Nat} {v : Value} (hc : w.cell? ⟨g, o, none⟩ = some v) (hv : ∀ n, v ≠ .int .u32 n ∧ v ≠ .int .i32 n ∧ v ≠ .int .u64 n) : g ≠ b :=
  let ⟨_, _, _, _, _, _, _, h⟩ := h; h.far hc hv
theorem TabOk.below {w w' : World} {b : Nat} (h : TabOk w b) (hb : Below w.heap.size w w') : TabOk w' b :=
  let ⟨d, ws, s, t, h1, h2, h3, h4⟩ := h; ⟨d, ws, s, t, h1, h2, h3, h4.below hb⟩
theorem TabOk.lt {w : World} {b : Nat} (h : TabOk w b) : b < w.heap.size := let ⟨_, _, _, _, _, _, _, h⟩ := h; h.lt
/-- What is no table's cell stays readable. -/
theorem Rd.but {w w' : World} {b size n : Nat} {v : Value} {xs : List Value} (h : Rd w size v n xs) (hT : TabOk w b) (hb : But b w w') (hx : ∀ u ∈ xs, ∀ n, u ≠ .int .u32 n ∧ u ≠ .int .i32 n ∧ u ≠ .int .u64 n) : Rd w' size v n xs := by
  obtain ⟨A, c, rfl, h1, h2, h3, h4⟩ := h
  refine ⟨A, c, rfl, h1, h2, h3, fun hn => ?_⟩
  obtain ⟨q, o, rfl, hr⟩ := h4 hn
  refine ⟨q, o, rfl, fun j u hu => ?_⟩
  have c0 := hr j u hu
  have hne := hT.far c0 (hx u (List.mem_of_getElem? hu))
  rw [World.cell?_of_block (w := w) (hb.block q (World.block_lt_of_cell? w _ c0) hne)]
  exact c0
theorem u8L_no (l : List UInt8) : ∀ u ∈ u8L l, ∀ n, u ≠ .int .u32 n ∧ u ≠ .int .i32 n ∧ u ≠ .int .u64 n := by
  intro u hu n
  obtain ⟨c, _, rfl⟩ := List.mem_map.1 hu
  simp
theorem Rd.but8 {w w' : World} {b : Nat} {v : Value} {l : List UInt8} (h : Rd w 1 v l.length (u8L l)) (hT : TabOk w b) (hb : But b w w') : Rd w' 1 v l.length (u8L l) := Rd.but h hT hb (u8L_no l)

/-- Sum: of the parts, one behind the other. -/
theorem tabSum (b : Nat) (v : Value) (ps : List (Value × List UInt8)) (w : World) (hT : TabOk w b) (hl : Rd w 1 v ps.length (ps.map (·.1))) (hp : ∀ p ∈ ps, Rd w 1 p.1 p.2.length (u8L p.2)) :
    Calls Tryz.prog 91 #[.pointer (some ⟨b, 0, none⟩), v] w fun e w' => e = .returned (.int .u32 (crcSum (ps.flatMap (·.2)) : Nat)) ∧ TabOk w' b ∧ But b w w' := by
  obtain ⟨A, c, rfl, h1, h2, h3, h4⟩ := hl
  unfold maxLen at h3
  go_enter Tryz.func91, Tryz.ntmps91
  go_wp2_with fail
  go_loopw [5, 12] (fun n i wr => ∃ k : Nat, k ≤ ps.length ∧ i = .int .i64 k ∧ n = .int .u32 (crcSum ((ps.take k).flatMap (·.2)) : Nat) ∧ TabOk wr b ∧ But b w wr) (fun _ i _ => ps.length - (intOf i).toNat)
  case atStart => exact ⟨0, Nat.zero_le _, rfl, by rw [List.take_zero, List.flatMap_nil, crcSum_nil]; rfl, hT, But.refl b w⟩
  case round =>
    obtain ⟨k, hk, rfl, rfl, hTr, hB⟩ := hrel
    by_cases hlt : k < ps.length
    · obtain ⟨p, hpk⟩ : ∃ p, ps[k]? = some p := ⟨_, List.getElem?_eq_getElem hlt⟩
      have hmem := List.mem_of_getElem? hpk
      obtain ⟨q, o, rfl, hr⟩ := h4 (by omega)
      have c0 := hr k p.1 (by simp [hpk])
      obtain ⟨A1, c1, hp1, _⟩ := hp p hmem
      have hne := hT.far c0 (fun n => by rw [hp1]; simp)
      have c2 : wr.cell? ⟨q, o + k, none⟩ = some p.1 := by rw [World.cell?_of_block (w := w) (hB.block q (World.block_lt_of_cell? w _ c0) hne)]; exact c0
      have hrd := (hp p hmem).but8 hT hB
      have hsucc : crcSum ((ps.take (k + 1)).flatMap (·.2)) = 4294967295 - crcOver (4294967295 - crcSum ((ps.take k).flatMap (·.2))) p.2 := by
        rw [crcSum_back, ← crcOver_append, List.take_add_one, hpk]
        simp [crcSum]
      clear h4 hr hp c0 hpk hmem
      have lm1 : crcSum ((ps.take k).flatMap (·.2)) < 4294967296 := crcSum_lt _
      generalize crcSum ((ps.take k).flatMap (·.2)) = m1 at lm1 hsucc
      rw [hp1] at c2 hrd
      go_wp2_with fail
      (with_reducible refine (tabAdd b m1 _ p.2 wr hTr hrd lm1).mono ?_)
      rintro e w3 ⟨rfl, hT3, hB3⟩
      go_wp2_with fail
      go_roundw
      case rel => exact ⟨k + 1, by omega, by go_num, by rw [hsucc], hT3, hB.trans hB3⟩
      case measure => simp [intOf]; omega
    · have hk2 : k = ps.length := by omega
      obtain ⟨d, ws, s, t, hs, ht, hd, hTk⟩ := hTr
      go_wp2_with fail
      (with_reducible refine (add64_one b 259 s _ hTk.sums (hTk.frozen 259)).mono ?_)
      rintro e w4 ⟨rfl, rfl⟩
      have hT4 := hTk.putSums ((s + 1) % 18446744073709551616)
      have hB4 := hB.trans (But.set b 259 (.int .u64 ((s + 1) % 18446744073709551616 : Nat)) _)
      have hfull : ps.take k = ps := by rw [hk2, List.take_length]
      rw [hfull]
      go_wp2_with fail
      go_ret
      exact ⟨rfl, ⟨d, ws, _, t, Nat.mod_lt _ (by decide), ht, hd, hT4⟩, hB4⟩
end Go.Proofs.YtdmdfccadjfpiaaGreat
