/-
  Pairs opened under a bound on their bulk; the lift of a row with a bound of its own, that lists variables.
-/
import Derived.Test.YtfmehjdlpfijbaaDoorLLift
import Derived.Deep.DeepHandedRow
namespace Go.Proofs.YtfmehjdlpfijbaaDoor
open Go.Joins Go.ChangeShapes Go.WideShapes Go.ChangeAt Go.RowKit Go.Deep Go.ChangeMaps
set_option maxRecDepth 100000

section
variable {H : Type} {enc : TypeId × Value → H}
theorem bulk_part {d : DataW H} {l : List (DataW H)} (h : d ∈ l) : Rows.uptoBulk d ≤ Rows.uptoBulkAll l := by
  induction l with
  | nil => cases h
  | cons x r ih =>
    simp only [Rows.uptoBulkAll]
    cases List.mem_cons.1 h with
    | inl e => subst e; omega
    | inr e => have := ih e; omega
theorem bulk_of_small {ds : List (DataW H)} (h : Rows.uptoSmall H ds = true) : Rows.uptoBulkAll ds ≤ 1048576 := of_decide_eq_true h
theorem bulk_arg {ds : List (DataW H)} (h : Rows.uptoSmall H ds = true) {d : DataW H} (hd : d ∈ ds) : Rows.uptoBulk d ≤ 1048576 := Nat.le_trans (bulk_part hd) (bulk_of_small h)
theorem open_pair_bulk {W : World} {base : Nat} {spare : Nat → Bool} {held : Bool} {n : Nat} {cs : List Value} {y : DataW H × List MemPlace} (h : DataW.trod enc Tryd.prog W base spare held n 41 cs = some y) :
    ∃ p : Pr, p.1.size ≤ maxLen ∧ p.2.size ≤ maxLen ∧ cs = [.string p.1, .string p.2] ∧ p.1.size + p.2.size + 3 ≤ Rows.uptoBulk y.1 := by
  obtain ⟨y0, y1, k, rfl, hl, g0, g1⟩ := trod_struct2 Tryd.underlying41 h
  rw [cellsPair] at hl
  match cs, hl with
  | [c0, c1], _ =>
    dsimp only at g0 g1
    rw [cellsStr] at g0 g1
    obtain ⟨x0, e0, f0, b0⟩ := DataW.trod_string Tryd.underlying9 g0
    obtain ⟨x1, e1, f1, b1⟩ := DataW.trod_string Tryd.underlying9 g1
    simp only [List.drop, List.take, List.cons.injEq, and_true] at e0 e1
    refine ⟨(x0, x1), b0, b1, by rw [e0, e1], ?_⟩
    rw [f0, f1]
    simp only [Rows.uptoBulk, Rows.uptoBulkAll, Array.length_toList]
    show x0.size + x1.size + 3 ≤ _
    have h0 : x0.data.size = x0.size := rfl
    have h1 : x1.data.size = x1.size := rfl
    omega
theorem open_pairs_bulk {W : World} {n : Nat} {v : Value} {d : DataW H} {p : List MemPlace} (h : DataW.trod enc Tryd.prog W 0 (fun _ => true) true n 24 [v] = some (d, p)) :
    ∃ ps : List Pr, Rd W 2 v ps.length (pairCells ps) ∧ (∀ p ∈ ps, p.1.size ≤ maxLen ∧ p.2.size ≤ maxLen) ∧ ∀ p ∈ ps, p.1.size + p.2.size + 4 ≤ Rows.uptoBulk d := by
  rcases open_slice Tryd.underlying24 h with ⟨h0, _⟩ | ⟨a, len, cap, m, k, D, Pl, h0, _, hl, hm, hmm, hd, hx⟩
  · obtain rfl : v = .slice none 0 0 := by simpa using h0
    exact ⟨[], ⟨_, _, rfl, rfl, Nat.le_refl _, by unfold maxLen; omega, fun h => absurd h (by simp)⟩, (fun q hq => by cases hq), fun q hq => by cases hq⟩
  · obtain rfl : v = .slice (some a) len cap := by simpa using h0
    have hm' : m = cap := by simpa using hmm
    subst hm'
    have hdd : d = .slice ((List.range len).map D) ((List.range (m - len)).map fun j => D (len + j)) := congrArg Prod.fst hd
    have hpart : ∀ i, i < len → Rows.uptoBulk (D i) + 1 ≤ Rows.uptoBulk d := fun i hi => by
      have := bulk_part (List.mem_map_of_mem (f := D) (List.mem_range.2 hi))
      rw [hdd]
      simp only [Rows.uptoBulk]
      omega
    obtain ⟨V, hV⟩ := choose_lt (α := Pr) (n := m) (p := fun i p => p.1.size ≤ maxLen ∧ p.2.size ≤ maxLen ∧ p.1.size + p.2.size + 3 ≤ Rows.uptoBulk (D i) ∧ W.cell? ((a.add (i * 2)).add 0) = some (.string p.1) ∧ W.cell? ((a.add (i * 2)).add 1) = some (.string p.2)) (fun i hi => by
      obtain ⟨cs', h1, h2⟩ := hx i hi
      rw [cellsPair] at h1
      obtain ⟨p, b0, b1, rfl, bb⟩ := open_pair_bulk h2
      obtain ⟨_, _, h3⟩ := World.cells?_some h1
      exact ⟨p, b0, b1, bb, h3 0 (by decide), h3 1 (by decide)⟩)
    refine ⟨(List.range len).map V, ⟨some a, m, by simp, by rw [pairCells_length], by simpa using hl, hm, fun h0 => ?_⟩, fun t ht => ?_, fun t ht => ?_⟩
    · have hlen : 0 < len := by simpa using h0
      obtain ⟨b, off, spot⟩ := a
      have hspot : spot = none := by simpa [Addr.add] using World.cell?_spot (hV 0 (by omega)).2.2.2.1
      subst hspot
      refine ⟨b, off, rfl, fun j u hj => ?_⟩
      obtain ⟨i, t, h1, h2⟩ := pairCells_get _ j u hj
      have hi : i < len := by
        rcases Nat.lt_or_ge i len with h | h
        · exact h
        · rw [List.getElem?_eq_none (by simpa using h)] at h1; cases h1
      have ht : V i = t := by
        simpa [hi] using h1
      subst ht
      obtain ⟨_, _, _, c0, c1⟩ := hV i (by omega)
      rw [addr_add, addr_add] at c0 c1
      rcases h2 with ⟨rfl, rfl⟩ | ⟨rfl, rfl⟩
      · exact c0
      · exact c1
    · obtain ⟨i, hi, rfl⟩ := List.mem_map.1 ht
      have := hV i (by have := List.mem_range.1 hi; omega)
      exact ⟨this.1, this.2.1⟩
    · obtain ⟨i, hi, rfl⟩ := List.mem_map.1 ht
      have hi' := List.mem_range.1 hi
      have h1 := (hV i (by omega)).2.2.1
      have h2 := hpart i hi'
      omega

/-- The lift of a row that lists variables and has a condition of its own, the world's shape at hand. -/
theorem returns_upto {C : Checked} {os : Os} {f : FuncId} {fn : Func} {s : OpenSpec} {F : Stop.Interp} {conds : List PathCond} {apart fresh handsOn again : Bool} {laid : List (String × DataW Unit)}
    (own : ownKnob C.prog.godebug = none) (started : os.Started) (noInit : C.prog.inits.idxOf? f = none) (hfn : C.prog.funcs[f]? = some fn) (w0 : World) (args0 : Array Value) (hos : w0.os = os)
    (hsh : (w0.forCall (fun _ _ => 0) ⟨#[], args0, []⟩).Shaped C.prog)
    (hok : Input.okWideB C.prog (w0.forCall (fun _ _ => 0) ⟨#[], args0, []⟩) f ⟨#[], args0, []⟩ = true)
    (hrow : s.preRow enc C.prog fn conds apart laid (w0.forCall (fun _ _ => 0) ⟨#[], args0, []⟩).memory args0)
    (walk : ∀ (W : World) (base : Nat) (args : Array Value) (ds gs : List (DataW H)) (before : List MemPlace), (∀ (j : Nat) t v, fn.params[j]? = some t → args[j]? = some v → Value.okWide C.prog W .any base t v) →
      DataW.Whole enc C.prog fn.params.toList s.vars apart W args.toList ds gs before → (∀ k, s.cond = some k → k H (ds ++ gs) = true) → W.ShapedOpen C.prog → Calls C.prog f args W fun e W' => ∃ v, e = .returned v ∧ (s.at F).post enc C.prog fn apart fresh handsOn again W args v W') :
    ReturnsInHanded {} C os f .any (s.preRow enc C.prog fn conds apart laid) ((s.at F).post enc C.prog fn apart fresh handsOn again) := by
  refine returnsInHanded_of_row own started noInit hfn ⟨w0, fun _ _ => 0, ⟨#[], args0, []⟩, hos, hsh, (Input.okWide_of_okWideB (base := 0) hok).1, (Input.okWide_of_okWideB hok).2, hrow, by
    simp only [Assume.holds]
    exact ⟨by simp, by simp, fun _ => Modest.zero, by simp, by simp⟩⟩ ?_
  intro W base args ds gs before hval hW _ hcond _ _ hs _
  exact walk W base args ds gs before hval hW hcond hs
end
end Go.Proofs.YtfmehjdlpfijbaaDoor
