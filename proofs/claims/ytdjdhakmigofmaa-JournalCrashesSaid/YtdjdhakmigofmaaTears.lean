/-
  Tears handed in, opened.
-/
import Derived.Test.YtdjdhakmigofmaaCrash
import Derived.Test.YtdjdhakmigofmaaLift
import Derived.ChangeMaps5
import Derived.Deep.Slices
namespace Go.Proofs.Ytdjdhakmigofmaa
open Go.Joins Go.ChangeShapes Go.WideShapes Go.ChangeAt Go.RowKit Go.Deep Go.ChangeMaps
set_option maxRecDepth 100000

theorem tearCells_get : ∀ (ts : List (Nat × Nat)) (j : Nat) (u : Value), (tearCells ts)[j]? = some u → ∃ i t, ts[i]? = some t ∧ ((j = i * 2 ∧ u = .int .u16 t.1) ∨ (j = i * 2 + 1 ∧ u = .int .u16 t.2)) := by
  intro ts
  induction ts with
  | nil => intro j u h; simp [tearCells] at h
  | cons t r ih =>
    intro j u h
    have e : tearCells (t :: r) = .int .u16 t.1 :: .int .u16 t.2 :: tearCells r := rfl
    rw [e] at h
    match j, h with
    | 0, h => simp at h; exact ⟨0, t, rfl, .inl ⟨rfl, h.symm⟩⟩
    | 1, h => simp at h; exact ⟨0, t, rfl, .inr ⟨rfl, h.symm⟩⟩
    | j + 2, h =>
      obtain ⟨i, t', h1, h2⟩ := ih j u (by simpa using h)
      refine ⟨i + 1, t', by simpa using h1, ?_⟩
      rcases h2 with ⟨h2, h3⟩ | ⟨h2, h3⟩
      · exact .inl ⟨by omega, h3⟩
      · exact .inr ⟨by omega, h3⟩
section
variable {H : Type} {enc : TypeId × Value → H}
theorem cellsTear : Try.prog.cellsOf 57 = 2 := by kernel_rfl
theorem cellsU16 : Try.prog.cellsOf 55 = 1 := by kernel_rfl
theorem open_u16 {W : World} {base : Nat} {spare : Nat → Bool} {held : Bool} {n : Nat} {cs : List Value} {y : DataW H × List MemPlace} (h : DataW.trod enc Try.prog W base spare held n 55 cs = some y) : ∃ c : Nat, c < 65536 ∧ cs = [.int .u16 c] := by
  obtain ⟨k, e, rfl, hw⟩ := DataW.trod_int Try.underlying55 h
  have hx : 0 ≤ k ∧ k ≤ 65535 := by simpa [Lit.wf, IntKind.min, IntKind.max, IntKind.signed, IntKind.bits] using hw
  obtain ⟨m, rfl⟩ := Int.eq_ofNat_of_zero_le hx.1
  exact ⟨m, by omega, e⟩
theorem open_tear {W : World} {base : Nat} {spare : Nat → Bool} {held : Bool} {n : Nat} {cs : List Value} {y : DataW H × List MemPlace} (h : DataW.trod enc Try.prog W base spare held n 57 cs = some y) : ∃ p : Nat × Nat, p.1 < 65536 ∧ p.2 < 65536 ∧ cs = [.int .u16 p.1, .int .u16 p.2] := by
  obtain ⟨y0, y1, k, _, hl, g0, g1⟩ := trod_struct2 Try.underlying57 h
  rw [cellsTear] at hl
  match cs, hl with
  | [c0, c1], _ =>
    dsimp only at g0 g1
    rw [cellsU16] at g0 g1
    obtain ⟨x0, b0, e0⟩ := open_u16 g0
    obtain ⟨x1, b1, e1⟩ := open_u16 g1
    simp only [List.drop, List.take, List.cons.injEq, and_true] at e0 e1
    exact ⟨(x0, x1), b0, b1, by rw [e0, e1]⟩
theorem open_tear1 {W : World} {base : Nat} {spare : Nat → Bool} {held : Bool} {v : Value} {d : DataW H} {p : List MemPlace} (h : DataW.Trod enc Try.prog W base spare held 57 v d p) : ∃ t1 t2 : Nat, t1 < 65536 ∧ t2 < 65536 ∧ v = .agg #[.int .u16 t1, .int .u16 t2] := by
  obtain ⟨n, h⟩ := h
  obtain ⟨q, b0, b1, e⟩ := open_tear h
  refine ⟨q.1, q.2, b0, b1, ?_⟩
  cases v <;> simp [Value.cells] at e
  rename_i cells
  obtain rfl : cells = #[.int .u16 q.1, .int .u16 q.2] := Array.toList_inj.1 e
  rfl
theorem open_tears {W : World} {n : Nat} {v : Value} {x : DataW H × List MemPlace} (h : DataW.trod enc Try.prog W 0 (fun _ => true) true n 23 [v] = some x) :
    ∃ ts : List (Nat × Nat), Rd W 2 v ts.length (tearCells ts) ∧ ∀ t ∈ ts, t.1 < 65536 ∧ t.2 < 65536 := by
  rcases open_slice Try.underlying23 h with ⟨h0, _⟩ | ⟨a, len, cap, m, k, D, Pl, h0, _, hl, hm, hmm, _, hx⟩
  · obtain rfl : v = .slice none 0 0 := by simpa using h0
    exact ⟨[], ⟨_, _, rfl, rfl, Nat.le_refl _, by unfold maxLen; omega, fun h => absurd h (by simp)⟩, fun q hq => by cases hq⟩
  · obtain rfl : v = .slice (some a) len cap := by simpa using h0
    have hm' : m = cap := by simpa using hmm
    subst hm'
    obtain ⟨V, hV⟩ := choose_lt (α := Nat × Nat) (n := m) (p := fun i p => p.1 < 65536 ∧ p.2 < 65536 ∧ W.cell? ((a.add (i * 2)).add 0) = some (.int .u16 p.1) ∧ W.cell? ((a.add (i * 2)).add 1) = some (.int .u16 p.2)) (fun i hi => by
      obtain ⟨cs', h1, h2⟩ := hx i hi
      rw [cellsTear] at h1
      obtain ⟨p, b0, b1, rfl⟩ := open_tear h2
      obtain ⟨_, _, h3⟩ := World.cells?_some h1
      exact ⟨p, b0, b1, h3 0 (by decide), h3 1 (by decide)⟩)
    refine ⟨(List.range len).map V, ⟨some a, m, by simp, by rw [tearCells_len], by simpa using hl, hm, fun h0 => ?_⟩, fun t ht => ?_⟩
    · have hlen : 0 < len := by simpa using h0
      obtain ⟨b, off, spot⟩ := a
      have hspot : spot = none := by simpa [Addr.add] using World.cell?_spot (hV 0 (by omega)).2.2.1
      subst hspot
      refine ⟨b, off, rfl, fun j u hj => ?_⟩
      obtain ⟨i, t, h1, h2⟩ := tearCells_get _ j u hj
      have hi : i < len := by
        rcases Nat.lt_or_ge i len with h | h
        · exact h
        · rw [List.getElem?_eq_none (by simpa using h)] at h1; cases h1
      have ht : V i = t := by
        simpa [hi] using h1
      subst ht
      obtain ⟨_, _, c0, c1⟩ := hV i (by omega)
      rw [addr_add, addr_add] at c0 c1
      rcases h2 with ⟨rfl, rfl⟩ | ⟨rfl, rfl⟩
      · exact c0
      · exact c1
    · obtain ⟨i, hi, rfl⟩ := List.mem_map.1 ht
      have := hV i (by have := List.mem_range.1 hi; omega)
      exact ⟨this.1, this.2.1⟩
end
end Go.Proofs.Ytdjdhakmigofmaa
