/-
  What is handed in, opened piece by piece: cells that read as data.
-/
import Derived.Test.YtgpojkofegajeaaGreatDoorSt
import Derived.Test.YtgpojkofegajeaaGreatDoorLiftG
namespace Go.Proofs.YtgpojkofegajeaaGreatDoor
open Go.Joins Go.ChangeShapes Go.WideShapes Go.ChangeAt Go.RowKit Go.Deep
set_option maxRecDepth 100000
section
variable {H : Type} {enc : TypeId × Value → H} {P : Program} {W : World} {base fuel : Nat} {spare : Nat → Bool} {held : Bool} {t : TypeId} {cs : List Value} {x : DataW H × List MemPlace}

theorem op_u8 (ht : P.underlying t = some (.int .u8)) (h : DataW.trod enc P W base spare held fuel t cs = some x) : ∃ n : Nat, n < 256 ∧ cs = [.int .u8 n] := by
  obtain ⟨k, e, _, hw⟩ := DataW.trod_int ht h
  have hx : 0 ≤ k ∧ k ≤ 255 := by simpa [Lit.wf, IntKind.min, IntKind.max, IntKind.signed, IntKind.bits] using hw
  obtain ⟨m, rfl⟩ := Int.eq_ofNat_of_zero_le hx.1
  exact ⟨m, by omega, e⟩
theorem op_u64 (ht : P.underlying t = some (.int .u64)) (h : DataW.trod enc P W base spare held fuel t cs = some x) : ∃ n : Nat, n < 18446744073709551616 ∧ cs = [.int .u64 n] := by
  obtain ⟨k, e, _, hw⟩ := DataW.trod_int ht h
  have hx : 0 ≤ k ∧ k ≤ 18446744073709551615 := by simpa [Lit.wf, IntKind.min, IntKind.max, IntKind.signed, IntKind.bits] using hw
  obtain ⟨m, rfl⟩ := Int.eq_ofNat_of_zero_le hx.1
  exact ⟨m, by omega, e⟩
theorem op_i64 (ht : P.underlying t = some (.int .i64)) (h : DataW.trod enc P W base spare held fuel t cs = some x) : ∃ n : Int, -9223372036854775808 ≤ n ∧ n ≤ 9223372036854775807 ∧ cs = [.int .i64 n] := by
  obtain ⟨k, e, _, hw⟩ := DataW.trod_int ht h
  have hx : -9223372036854775808 ≤ k ∧ k ≤ 9223372036854775807 := by simpa [Lit.wf, IntKind.min, IntKind.max, IntKind.signed, IntKind.bits] using hw
  exact ⟨k, hx.1, hx.2, e⟩
theorem op_str (ht : P.underlying t = some .string) (h : DataW.trod enc P W base spare held fuel t cs = some x) : ∃ s : ByteArray, s.size ≤ maxLen ∧ cs = [.string s] :=
  let ⟨s, e, _, hs⟩ := DataW.trod_string ht h; ⟨s, hs, e⟩
theorem op_fields {fs : Array Field} (ht : P.underlying t = some (.struct fs)) (h : DataW.trod enc P W base spare held fuel t cs = some x) :
    cs.length = P.cellsOf t ∧ ∃ n, ∀ (i : Nat) (t' : TypeId) (o : Nat), (fs[i]?.map fun f => (f.type, f.offset)) = some (t', o) → ∃ y, DataW.trod enc P W base spare held n t' ((cs.drop o).take (P.cellsOf t')) = some y := by
  obtain ⟨xs, n, _, _, hl, hlen, hg⟩ := DataW.trod_struct ht h
  refine ⟨hl, n, fun i t' o hf => ?_⟩
  have hi : i < fs.size := by
    rcases Nat.lt_or_ge i fs.size with h | h
    · exact h
    · rw [Array.getElem?_eq_none h] at hf; cases hf
  rw [Array.getElem?_eq_getElem hi] at hf
  simp only [Option.map_some, Option.some.injEq, Prod.mk.injEq] at hf
  obtain ⟨rfl, rfl⟩ := hf
  have := hg i fs[i] (Array.getElem?_eq_getElem hi)
  rw [List.getElem?_eq_getElem (by rw [hlen]; exact hi)] at this
  exact ⟨_, this⟩
theorem op_rows {α : Type} (f : α → List Value) (sz : Nat) (hsz : 0 < sz) (hf : ∀ a, (f a).length = sz) {e : TypeId} (ht : P.underlying t = some (.slice e)) (hc : P.cellsOf e = sz)
    (h : DataW.trod enc P W 0 (fun _ => true) true fuel t cs = some x) (Φ : α → Prop) (hΦ : ∀ n cs y, DataW.trod enc P W 0 (fun _ => true) true n e cs = some y → ∃ a, cs = f a ∧ Φ a) :
    ∃ (v : Value) (qs : List α), cs = [v] ∧ Rd W sz v qs.length (qs.flatMap f) ∧ ∀ q ∈ qs, Φ q := by
  rcases open_slice ht h with ⟨h0, _⟩ | ⟨a, len, cap, m, k, D, Pl, h0, _, hl, hm, hmm, _, hx⟩
  · exact ⟨_, [], h0, ⟨_, _, rfl, by simp, Nat.le_refl _, by unfold maxLen; omega, fun h => absurd h (by simp)⟩, fun q hq => by cases hq⟩
  · have hm' : m = cap := by simpa using hmm
    subst hm'
    have hex : ∀ i, i < m → ∃ p : α, Φ p ∧ ∀ j, j < sz → W.cell? ((a.add (i * sz)).add j) = (f p)[j]? := fun i hi => by
      obtain ⟨cs', h1, h2⟩ := hx i hi
      rw [hc] at h1
      obtain ⟨p, rfl, hp⟩ := hΦ _ _ _ h2
      obtain ⟨_, _, h3⟩ := World.cells?_some h1
      exact ⟨p, hp, h3⟩
    rcases Nat.eq_zero_or_pos m with hm0 | hm0
    · subst hm0
      obtain rfl : len = 0 := by omega
      exact ⟨_, [], h0, ⟨_, _, rfl, by simp, Nat.le_refl _, by unfold maxLen; omega, fun h => absurd h (by simp)⟩, fun q hq => by cases hq⟩
    have : Inhabited α := ⟨(hex 0 hm0).choose⟩
    obtain ⟨V, hV⟩ := choose_lt (α := α) hex
    have hqs : ∀ i p, ((List.range len).map V)[i]? = some p → i < len ∧ p = V i := by
      intro i p hp
      have hi : i < len := by
        rcases Nat.lt_or_ge i len with h | h
        · exact h
        · rw [List.getElem?_eq_none (by simpa using h)] at hp; cases hp
      exact ⟨hi, by simpa [hi] using hp.symm⟩
    refine ⟨.slice (some a) len m, (List.range len).map V, h0, ⟨some a, m, by simp, by rw [flat_len f sz hf], by simpa using hl, hm, fun h0 => ?_⟩, fun q hq => ?_⟩
    · obtain ⟨b, off, spot⟩ := a
      have hspot : spot = none := by
        have h1 := (hV 0 hm0).2 0 hsz
        have h2 : (f (V 0))[0]? = some ((f (V 0))[0]'(by rw [hf]; exact hsz)) := List.getElem?_eq_getElem _
        rw [h2] at h1
        simpa [Addr.add] using World.cell?_spot h1
      subst hspot
      refine ⟨b, off, rfl, fun j u hj => ?_⟩
      have hjl : j < len * sz := by
        have := flat_len f sz hf ((List.range len).map V)
        rcases Nat.lt_or_ge j (len * sz) with h | h
        · exact h
        · rw [List.getElem?_eq_none (by rw [this]; simpa using h)] at hj; cases hj
      have hd : j / sz < len := by rw [Nat.div_lt_iff_lt_mul hsz]; exact hjl
      have hr : j % sz < sz := Nat.mod_lt _ hsz
      have ej : j / sz * sz + j % sz = j := by rw [Nat.mul_comm]; exact Nat.div_add_mod j sz
      have hq : ((List.range len).map V)[j / sz]? = some (V (j / sz)) := by simp [hd]
      have h1 := flat_at f sz hf _ (j / sz) _ hq (j % sz) hr
      rw [ej] at h1
      rw [h1] at hj
      have h2 := (hV (j / sz) (by omega)).2 (j % sz) hr
      rw [addr_add, addr_add, Nat.add_assoc, ej, hj] at h2
      exact h2
    · obtain ⟨i, hi, rfl⟩ := List.mem_map.1 hq
      exact (hV i (by have := List.mem_range.1 hi; omega)).1
end
end Go.Proofs.YtgpojkofegajeaaGreatDoor
