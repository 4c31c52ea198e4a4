/-
  Lifting, for rows that list variables: a law that returns true and leaves all old memory alone; arguments opened as lists.
-/
import Derived.Test.YtfmehjdlpfijbaaDoorLPair
import Derived.ProofKit
import Derived.OpenShut
import Derived.Lib.SmallJoins
import Derived.ChangeSame
import Derived.JoinedOf
import Derived.JoinedAt
import Derived.Carry
import Derived.Deep.Slices
import Derived.ChangeMaps5
import Derived.Handed
import Derived.HandedShaped
import Derived.Shelf.Vars
import Derived.LaidLaws
import Derived.Lay
import Derived.PinnedBridge
namespace Go.Proofs.YtfmehjdlpfijbaaDoor
open Go.Joins Go.ChangeShapes Go.WideShapes Go.ChangeAt Go.RowKit Go.Deep Go.ChangeMaps
set_option maxRecDepth 100000

theorem addr_add (b off j : Nat) : (⟨b, off, none⟩ : Addr).add j = ⟨b, off + j, none⟩ := by unfold Addr.add; split <;> simp_all
section
variable {H : Type} {enc : TypeId × Value → H} {P : Program}

theorem trodAll_stays {W W' : World} {B : Nat} (hl : laidOutB P = true) (hb : Below W.heap.size W W') (hB : B = W.heap.size) : ∀ {ts : List TypeId} {vs : List Value} {ds : List (DataW H)} {ps : List MemPlace}, (∀ t ∈ ts, P.readableRec t = true ∧ t < P.types.size) →
    DataW.TrodAll enc P W 0 (fun _ => true) true ts vs ds ps → (∀ x ∈ ps, x.block < W.heap.size) → DataW.TrodAll enc P W' 0 (fun b => decide (b < B)) true ts vs ds ps := by
  subst hB
  intro ts
  induction ts with
  | nil =>
    intro vs ds ps _ h _
    cases vs <;> cases ds <;> simp_all [DataW.TrodAll]
  | cons t ts ih =>
    intro vs ds ps ht h hlt
    cases vs with
    | nil => simp [DataW.TrodAll] at h
    | cons v vs =>
      cases ds with
      | nil => simp [DataW.TrodAll] at h
      | cons d ds =>
        obtain ⟨p, q, h1, h2, rfl⟩ := h
        have h0 := ht t (.head _)
        exact ⟨p, q, Below.trod hl h0.1 h0.2 h1 hb (fun x hx => hlt x (List.mem_append_left _ hx)), ih (fun t hm => ht t (.tail _ hm)) h2 (fun x hx => hlt x (List.mem_append_right _ hx)), rfl⟩

/-- A law returned true, and nothing that was there has turned. -/
theorem post_true {f : Func} {s : ChangeSpec} {tb : TypeId} {W W' : World} {args : Array Value} {ds gs : List (DataW H)} {before : List MemPlace} (hl : laidOutB P = true)
    (hts : (f.params.toList.all fun t => P.readableRec t && decide (t < P.types.size)) = true) (hvars : s.vars = [])
    (hW : DataW.Whole enc P f.params.toList s.vars false W args.toList ds gs before) (hsp : s.fn H (ds ++ gs) = { results := [.lit (.bool true)], args := ds })
    (hrt : f.resultTypes = #[tb]) (hub : P.underlying tb = some .bool) (hb : Below W.heap.size W W') :
    s.post enc P f false true false false W args (.bool true) W' := by
  have hlt : ∀ p ∈ before, p.block < W.heap.size := fun p hp => hW.lt p hp
  have hW' := hW
  obtain ⟨p, q, hA, hV, hpq, hfz, hnd⟩ := hW
  rw [hvars] at hV
  obtain ⟨rfl, rfl⟩ := trodVars_none hV
  rw [List.append_nil] at hpq
  subst hpq
  refine ⟨ds, [], before, [], before, [], hW', ?_, ?_, ?_, World.keptBut_mono (fun p hp => ⟨hp, .inr (.inl hp)⟩) (hb.frame (· ∈ before)), fun h => by cases h⟩
  · rw [hsp, hrt]
    exact trodAll_cons_mk (shut_bool hub true) trodAll_mk0
  · rw [hsp]
    refine trodAll_stays hl hb rfl (fun t ht => ?_) hA hlt
    have := List.all_eq_true.1 hts t ht
    simpa using this
  · rw [hsp, hvars]
    rfl

/-- A slice argument's cells. -/
theorem rows_of {W : World} {base : Nat} {t e : TypeId} {v : Value} {d : DataW H} {p : List MemPlace} (ht : P.underlying t = some (.slice e)) (hok : Value.okWide P W .any base t v)
    (h : DataW.Trod enc P W 0 (fun _ => true) true t v d p) : ∃ n, DataW.trod enc P W 0 (fun _ => true) true n t [v] = some (d, p) := by
  obtain ⟨n, h⟩ := h
  obtain ⟨a, l, c, rfl⟩ := okWide_slice ht hok
  exact ⟨n, h⟩
/-- A slice whose elements are of one cell, opened as a list. -/
theorem open_list {α : Type} {W : World} {t e : TypeId} {fuel : Nat} {v : Value} {x : DataW H × List MemPlace} (ht : P.underlying t = some (.slice e)) (hc : P.cellsOf e = 1)
    (h : DataW.trod enc P W 0 (fun _ => true) true fuel t [v] = some x) (Φ : Value → α → Prop)
    (hΦ : ∀ n u y, DataW.trod enc P W 0 (fun _ => true) true n e [u] = some y → ∃ a, Φ u a) :
    ∃ qs : List (Value × α), Rd W 1 v qs.length (qs.map (·.1)) ∧ ∀ q ∈ qs, Φ q.1 q.2 := by
  rcases open_slice1 ht hc h with ⟨h0, _⟩ | ⟨a, len, cap, m, n, V, D, Pl, h0, _, hlen, hcap, hm, _, hV⟩
  · obtain rfl : v = .slice none 0 0 := by simpa using h0
    exact ⟨[], ⟨_, _, rfl, rfl, Nat.le_refl _, by unfold maxLen; omega, fun h => absurd h (by simp)⟩, fun q hq => by cases hq⟩
  · obtain rfl : v = .slice (some a) len cap := by simpa using h0
    have hm' : m = cap := by simpa using hm
    subst hm'
    have hex : ∀ i, i < m → ∃ y, Φ (V i) y := fun i hi => hΦ _ _ _ (hV i hi).2
    have key : ∀ k, k ≤ len → ∃ qs : List (Value × α), qs.length = k ∧ (∀ q ∈ qs, Φ q.1 q.2) ∧ ∀ j u, (qs.map (·.1))[j]? = some u → j < k ∧ u = V j := by
      intro k
      induction k with
      | zero => exact fun _ => ⟨[], rfl, (fun q hq => by cases hq), (fun j u hj => by simp at hj)⟩
      | succ k ih =>
        intro hk
        obtain ⟨qs, h1, h2, h3⟩ := ih (by omega)
        obtain ⟨y, hy⟩ := hex k (by omega)
        refine ⟨qs ++ [(V k, y)], by simp [h1], fun q hq => ?_, fun j u hj => ?_⟩
        · rcases List.mem_append.1 hq with h | h
          · exact h2 q h
          · rw [List.mem_singleton] at h; subst h; exact hy
        · rw [List.map_append] at hj
          by_cases hjk : j < k
          · rw [List.getElem?_append_left (by simpa [h1] using hjk)] at hj
            exact ⟨by omega, (h3 j u hj).2⟩
          · rw [List.getElem?_append_right (by simp [h1]; omega)] at hj
            simp only [List.map_cons, List.map_nil, List.length_map, h1] at hj
            have : j = k := by
              rcases Nat.lt_or_ge (j - k) 1 with h | h
              · omega
              · rw [List.getElem?_eq_none (by simpa using h)] at hj; cases hj
            subst this
            simp at hj
            exact ⟨by omega, hj.symm⟩
    obtain ⟨qs, h1, h2, h3⟩ := key len (Nat.le_refl _)
    subst h1
    refine ⟨qs, ⟨_, _, rfl, by simp, by omega, hcap, fun h0 => ?_⟩, h2⟩
    obtain ⟨b, off, spot⟩ := a
    have hspot : spot = none := by simpa [Addr.add] using World.cell?_spot (hV 0 (by omega)).1
    subst hspot
    refine ⟨b, off, rfl, fun j u hj => ?_⟩
    obtain ⟨hj1, rfl⟩ := h3 j u hj
    have hc := (hV j (by omega)).1
    rw [addr_add] at hc
    exact hc
end
section
variable {H : Type} {enc : TypeId × Value → H}
/-- The lift of a row that lists variables, the world's shape at hand. -/
theorem returns_listed {a : Assume} {C : Checked} {os : Os} {f : FuncId} {fn : Func} {s : ChangeSpec} {conds : List PathCond} {apart fresh handsOn again : Bool} {X : World → Array Value → Prop}
    (hX : ∀ (w w' : World) (args : Array Value), w.heap = w'.heap → X w args → X w' args) (own : ownKnob C.prog.godebug = none) (started : os.Started) (noInit : C.prog.inits.idxOf? f = none) (hfn : C.prog.funcs[f]? = some fn)
    (wit : ∃ (w : World) (tape : Tape) (i : Input), w.os = os ∧ (w.forCall tape i).Shaped C.prog ∧ i.vars = [] ∧ Input.okWide C.prog (w.forCall tape i) .any w.heap.size f i ∧
      ((s.pre enc C.prog fn conds apart (w.forCall tape i).memory i.args ∧ X (w.forCall tape i).memory i.args) ∧ sizedMet enc C.prog fn (OpenSpec.ofChange s) apart (w.forCall tape i).memory i.args) ∧ a.holds C.prog (lone (Frame.enter C.prog f i.args .normal) [] (w.forCall tape i)))
    (walk : ∀ (W : World) (base : Nat) (args : Array Value) (ds gs : List (DataW H)) (before : List MemPlace), (∀ (j : Nat) t v, fn.params[j]? = some t → args[j]? = some v → Value.okWide C.prog W .any base t v) →
      DataW.Whole enc C.prog fn.params.toList s.vars apart W args.toList ds gs before → X W args → W.ShapedOpen C.prog → Calls C.prog f args W fun e W' => ∃ v, e = .returned v ∧ s.post enc C.prog fn apart fresh handsOn again W args v W') :
    ReturnsInHanded a C os f .any (fun w args => (s.pre enc C.prog fn conds apart w args ∧ X w args) ∧ sizedMet enc C.prog fn (OpenSpec.ofChange s) apart w args) (s.post enc C.prog fn apart fresh handsOn again) := by
  refine returnsInHanded_of_calls own started noInit wit fun w tape i _ hsh _ hok hpre _ => ?_
  obtain ⟨_, _, _, fn', hfn', _, _, _, _, hval⟩ := hok
  obtain rfl : fn' = fn := Option.some.inj (hfn'.symm.trans hfn)
  obtain ⟨⟨⟨ds, gs, before, hw, _⟩, hx⟩, _⟩ := hpre
  refine (walk (w.forCall tape i) w.heap.size i.args ds gs before hval (DataW.Whole.of_heap (w' := w.forCall tape i) (by rfl) hw) (hX _ _ _ (by rfl) hx) hsh).mono ?_
  rintro e W' ⟨v, rfl, hp⟩
  exact ChangeSpec.post_blind hp

theorem cellsPair : Tryd.prog.cellsOf 41 = 2 := by kernel_rfl
theorem cellsStr : Tryd.prog.cellsOf 9 = 1 := by kernel_rfl
theorem open_str1 {W : World} {base : Nat} {spare : Nat → Bool} {held : Bool} {n : Nat} {cs : List Value} {y : DataW H × List MemPlace} (h : DataW.trod enc Tryd.prog W base spare held n 9 cs = some y) : ∃ s : ByteArray, s.size ≤ maxLen ∧ cs = [.string s] := by
  obtain ⟨b, e, _, hw⟩ := DataW.trod_string Tryd.underlying9 h
  exact ⟨b, hw, e⟩
theorem open_pair {W : World} {base : Nat} {spare : Nat → Bool} {held : Bool} {n : Nat} {cs : List Value} {y : DataW H × List MemPlace} (h : DataW.trod enc Tryd.prog W base spare held n 41 cs = some y) : ∃ p : Pr, p.1.size ≤ maxLen ∧ p.2.size ≤ maxLen ∧ cs = [.string p.1, .string p.2] := by
  obtain ⟨y0, y1, k, _, hl, g0, g1⟩ := trod_struct2 Tryd.underlying41 h
  rw [cellsPair] at hl
  match cs, hl with
  | [c0, c1], _ =>
    dsimp only at g0 g1
    rw [cellsStr] at g0 g1
    obtain ⟨x0, b0, e0⟩ := open_str1 g0
    obtain ⟨x1, b1, e1⟩ := open_str1 g1
    simp only [List.drop, List.take, List.cons.injEq, and_true] at e0 e1
    exact ⟨(x0, x1), b0, b1, by rw [e0, e1]⟩
theorem open_pair1 {W : World} {base : Nat} {spare : Nat → Bool} {held : Bool} {v : Value} {d : DataW H} {p : List MemPlace} (h : DataW.Trod enc Tryd.prog W base spare held 41 v d p) : ∃ q : Pr, (q.1.size ≤ maxLen ∧ q.2.size ≤ maxLen) ∧ v = .agg #[.string q.1, .string q.2] := by
  obtain ⟨n, h⟩ := h
  obtain ⟨q, b0, b1, e⟩ := open_pair h
  refine ⟨q, ⟨b0, b1⟩, ?_⟩
  cases v <;> simp [Value.cells] at e
  rename_i cells
  obtain rfl : cells = #[.string q.1, .string q.2] := Array.toList_inj.1 e
  rfl
theorem pairCells_get : ∀ (ts : List Pr) (j : Nat) (u : Value), (pairCells ts)[j]? = some u → ∃ i t, ts[i]? = some t ∧ ((j = i * 2 ∧ u = .string t.1) ∨ (j = i * 2 + 1 ∧ u = .string t.2)) := by
  intro ts
  induction ts with
  | nil => intro j u h; simp [pairCells] at h
  | cons t r ih =>
    intro j u h
    rw [pairCells_cons] at h
    match j, h with
    | 0, h => simp at h; exact ⟨0, t, rfl, .inl ⟨rfl, h.symm⟩⟩
    | 1, h => simp at h; exact ⟨0, t, rfl, .inr ⟨rfl, h.symm⟩⟩
    | j + 2, h =>
      obtain ⟨i, t', h1, h2⟩ := ih j u (by simpa using h)
      refine ⟨i + 1, t', by simpa using h1, ?_⟩
      rcases h2 with ⟨h2, h3⟩ | ⟨h2, h3⟩
      · exact .inl ⟨by omega, h3⟩
      · exact .inr ⟨by omega, h3⟩
theorem open_pairs {W : World} {n : Nat} {v : Value} {x : DataW H × List MemPlace} (h : DataW.trod enc Tryd.prog W 0 (fun _ => true) true n 24 [v] = some x) :
    ∃ ps : List Pr, Rd W 2 v ps.length (pairCells ps) ∧ ∀ p ∈ ps, p.1.size ≤ maxLen ∧ p.2.size ≤ maxLen := by
  rcases open_slice Tryd.underlying24 h with ⟨h0, _⟩ | ⟨a, len, cap, m, k, D, Pl, h0, _, hl, hm, hmm, _, hx⟩
  · obtain rfl : v = .slice none 0 0 := by simpa using h0
    exact ⟨[], ⟨_, _, rfl, rfl, Nat.le_refl _, by unfold maxLen; omega, fun h => absurd h (by simp)⟩, fun q hq => by cases hq⟩
  · obtain rfl : v = .slice (some a) len cap := by simpa using h0
    have hm' : m = cap := by simpa using hmm
    subst hm'
    obtain ⟨V, hV⟩ := choose_lt (α := Pr) (n := m) (p := fun i p => p.1.size ≤ maxLen ∧ p.2.size ≤ maxLen ∧ W.cell? ((a.add (i * 2)).add 0) = some (.string p.1) ∧ W.cell? ((a.add (i * 2)).add 1) = some (.string p.2)) (fun i hi => by
      obtain ⟨cs', h1, h2⟩ := hx i hi
      rw [cellsPair] at h1
      obtain ⟨p, b0, b1, rfl⟩ := open_pair h2
      obtain ⟨_, _, h3⟩ := World.cells?_some h1
      exact ⟨p, b0, b1, h3 0 (by decide), h3 1 (by decide)⟩)
    refine ⟨(List.range len).map V, ⟨some a, m, by simp, by rw [pairCells_length], by simpa using hl, hm, fun h0 => ?_⟩, fun t ht => ?_⟩
    · have hlen : 0 < len := by simpa using h0
      obtain ⟨b, off, spot⟩ := a
      have hspot : spot = none := by simpa [Addr.add] using World.cell?_spot (hV 0 (by omega)).2.2.1
      subst hspot
      refine ⟨b, off, rfl, fun j u hj => ?_⟩
      obtain ⟨i, t, h1, h2⟩ := pairCells_get _ j u hj
      have hi : i < len := by
        rcases Nat.lt_or_ge i len with h | h
        · exact h
        · rw [List.getElem?_eq_none (by simpa using h)] at h1; cases h1
      have ht : V i = t := by
        simpa [hi] using h1
      subst ht
      obtain ⟨_, _, c0, c1⟩ := hV i (by omega)
      rw [addr_add, addr_add] at c0 c1
      rcases h2 with ⟨rfl, rfl⟩ | ⟨rfl, rfl⟩
      · exact c0
      · exact c1
    · obtain ⟨i, hi, rfl⟩ := List.mem_map.1 ht
      have := hV i (by have := List.mem_range.1 hi; omega)
      exact ⟨this.1, this.2.1⟩
theorem open_strs {W : World} {n : Nat} {v : Value} {x : DataW H × List MemPlace} (h : DataW.trod enc Tryd.prog W 0 (fun _ => true) true n 46 [v] = some x) :
    ∃ ss : List ByteArray, Rd W 1 v ss.length (ss.map Value.string) ∧ ∀ s ∈ ss, s.size ≤ maxLen := by
  obtain ⟨qs, h1, h2⟩ := open_list Tryd.underlying46 cellsStr h (fun u (c : ByteArray) => c.size ≤ maxLen ∧ u = .string c) (fun _ u _ h => by
    obtain ⟨s, hs, e⟩ := open_str1 h
    exact ⟨s, hs, by simpa using e⟩)
  refine ⟨qs.map (·.2), ?_, fun s hs => ?_⟩
  · have e : (qs.map (·.2)).map Value.string = qs.map (·.1) := by
      rw [List.map_map]
      exact List.map_congr_left fun q hq => (h2 q hq).2.symm
    rw [e, List.length_map]
    exact h1
  · obtain ⟨q, hq, rfl⟩ := List.mem_map.1 hs
    exact (h2 q hq).1
end
/-- What the variable MaxLen of the library's holds: some number. -/
theorem maxLen_cell {W : World} (h : W.ShapedOpen Tryd.prog) : ∃ m : Int, W.cell? ⟨0, 0, none⟩ = some (.int .i64 m) :=
  cell_of_shapedOpen_int (P := Tryd.prog) (g := 0) (t := 3) (zero := #[.int .i64 0]) h (of_decide_eq_true (by kernel_rfl)) (by kernel_rfl) rfl (by kernel_rfl) (by kernel_rfl) Tryd.underlying3
end Go.Proofs.YtfmehjdlpfijbaaDoor
