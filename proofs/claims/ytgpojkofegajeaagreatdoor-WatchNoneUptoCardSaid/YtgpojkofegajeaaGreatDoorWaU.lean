/-
  What WatchNone is handed, opened, under a bound on its bulk; the lift of a row with a bound of its own and listed variables.
-/
import Derived.Test.YtgpojkofegajeaaGreatDoorMg50
import Derived.Deep.DeepHandedRow
namespace Go.Proofs.YtgpojkofegajeaaGreatDoor
open Go.Joins Go.ChangeShapes Go.WideShapes Go.ChangeAt Go.RowKit Go.Deep Go.ChangeMaps
set_option maxRecDepth 100000
theorem addr_addU (b off j : Nat) : (⟨b, off, none⟩ : Addr).add j = ⟨b, off + j, none⟩ := by unfold Addr.add; split <;> simp_all
section
variable {H : Type} {enc : TypeId × Value → H}
theorem bulk_part {d : DataW H} {l : List (DataW H)} (h : d ∈ l) : Rows.uptoBulk d ≤ Rows.uptoBulkAll l := by
  induction l with
  | nil => cases h
  | cons x r ih =>
    simp only [Rows.uptoBulkAll]
    cases List.mem_cons.1 h with
    | inl e => subst e; omega
    | inr e => have := ih e; omega
theorem bulk_pos (d : DataW H) : 1 ≤ Rows.uptoBulk d := by
  unfold Rows.uptoBulk
  split <;> omega
theorem bulk_len (l : List (DataW H)) : l.length ≤ Rows.uptoBulkAll l := by
  induction l with
  | nil => simp [Rows.uptoBulkAll]
  | cons d r ih => simp only [Rows.uptoBulkAll, List.length_cons]; have := bulk_pos d; omega
theorem bulk_of_small {ds : List (DataW H)} (h : Rows.uptoSmall H ds = true) : Rows.uptoBulkAll ds ≤ 1048576 := of_decide_eq_true h
theorem bulk_arg {ds : List (DataW H)} (h : Rows.uptoSmall H ds = true) {d : DataW H} (hd : d ∈ ds) : Rows.uptoBulk d ≤ 1048576 := Nat.le_trans (bulk_part hd) (bulk_of_small h)
variable {P : Program} {W : World} {base fuel : Nat} {spare : Nat → Bool} {held : Bool} {t : TypeId} {cs : List Value} {x : DataW H × List MemPlace}
theorem opb_fields {fs : Array Field} (ht : P.underlying t = some (.struct fs)) (h : DataW.trod enc P W base spare held fuel t cs = some x) :
    cs.length = P.cellsOf t ∧ ∃ n, ∀ (i : Nat) (t' : TypeId) (o : Nat), (fs[i]?.map fun f => (f.type, f.offset)) = some (t', o) → ∃ y, DataW.trod enc P W base spare held n t' ((cs.drop o).take (P.cellsOf t')) = some y ∧ Rows.uptoBulk y.1 ≤ Rows.uptoBulk x.1 := by
  obtain ⟨xs, n, _, rfl, hl, hlen, hg⟩ := DataW.trod_struct ht h
  refine ⟨hl, n, fun i t' o hf => ?_⟩
  have hi : i < fs.size := by
    rcases Nat.lt_or_ge i fs.size with h | h
    · exact h
    · rw [Array.getElem?_eq_none h] at hf; cases hf
  rw [Array.getElem?_eq_getElem hi] at hf
  simp only [Option.map_some, Option.some.injEq, Prod.mk.injEq] at hf
  obtain ⟨rfl, rfl⟩ := hf
  have := hg i fs[i] (Array.getElem?_eq_getElem hi)
  rw [List.getElem?_eq_getElem (by rw [hlen]; exact hi)] at this
  refine ⟨_, this, ?_⟩
  have h1 := bulk_part (List.mem_map_of_mem (f := Prod.fst) (List.getElem_mem (by rw [hlen]; exact hi) : xs[i] ∈ xs))
  rw [Rows.uptoBulk]
  exact Nat.le_succ_of_le h1
theorem opb_rows {α : Type} (f : α → List Value) (sz : Nat) (hsz : 0 < sz) (hf : ∀ a, (f a).length = sz) {e : TypeId} (ht : P.underlying t = some (.slice e)) (hc : P.cellsOf e = sz)
    (h : DataW.trod enc P W 0 (fun _ => true) true fuel t cs = some x) (hb : Rows.uptoBulk x.1 ≤ 1048576) (Φ : α → Prop) (hΦ : ∀ n cs (y : DataW H × List MemPlace), DataW.trod enc P W 0 (fun _ => true) true n e cs = some y → Rows.uptoBulk y.1 ≤ 1048576 → ∃ a, cs = f a ∧ Φ a) :
    ∃ (v : Value) (qs : List α), cs = [v] ∧ Rd W sz v qs.length (qs.flatMap f) ∧ (∀ q ∈ qs, Φ q) ∧ qs.length ≤ 1048576 := by
  rcases open_slice ht h with ⟨h0, _⟩ | ⟨a, len, cap, m, k, D, Pl, h0, _, hl, hm, hmm, hxd, hx⟩
  · exact ⟨_, [], h0, ⟨_, _, rfl, by simp, Nat.le_refl _, by unfold maxLen; omega, fun h => absurd h (by simp)⟩, (fun q hq => by cases hq), by simp⟩
  · have hm' : m = cap := by simpa using hmm
    subst hm'
    have hxe : x.1 = .slice ((List.range len).map D) ((List.range (m - len)).map fun j => D (len + j)) := congrArg Prod.fst hxd
    rw [hxe] at hb
    simp only [Rows.uptoBulk] at hb
    have hDb : ∀ i, i < m → Rows.uptoBulk (D i) ≤ 1048576 := fun i hi => by
      rcases Nat.lt_or_ge i len with h | h
      · have := bulk_part (List.mem_map_of_mem (f := D) (List.mem_range.2 h))
        omega
      · have h2 : D i ∈ (List.range (m - len)).map fun j => D (len + j) := List.mem_map.2 ⟨i - len, List.mem_range.2 (by omega), by congr 1; omega⟩
        have := bulk_part h2
        omega
    have hlen : len ≤ 1048576 := by
      have := bulk_len ((List.range len).map D)
      rw [List.length_map, List.length_range] at this
      omega
    have hex : ∀ i, i < m → ∃ p : α, Φ p ∧ ∀ j, j < sz → W.cell? ((a.add (i * sz)).add j) = (f p)[j]? := fun i hi => by
      obtain ⟨cs', h1, h2⟩ := hx i hi
      rw [hc] at h1
      obtain ⟨p, rfl, hp⟩ := hΦ _ _ _ h2 (hDb i hi)
      obtain ⟨_, _, h3⟩ := World.cells?_some h1
      exact ⟨p, hp, h3⟩
    rcases Nat.eq_zero_or_pos m with hm0 | hm0
    · subst hm0
      obtain rfl : len = 0 := by omega
      exact ⟨_, [], h0, ⟨_, _, rfl, by simp, Nat.le_refl _, by unfold maxLen; omega, fun h => absurd h (by simp)⟩, (fun q hq => by cases hq), by simp⟩
    have : Inhabited α := ⟨(hex 0 hm0).choose⟩
    obtain ⟨V, hV⟩ := choose_lt (α := α) hex
    refine ⟨.slice (some a) len m, (List.range len).map V, h0, ⟨some a, m, by simp, by rw [flat_len f sz hf], by simpa using hl, hm, fun h0 => ?_⟩, fun q hq => ?_, by simpa using hlen⟩
    · obtain ⟨b, off, spot⟩ := a
      have hspot : spot = none := by
        have h1 := (hV 0 hm0).2 0 hsz
        have h2 : (f (V 0))[0]? = some ((f (V 0))[0]'(by rw [hf]; exact hsz)) := List.getElem?_eq_getElem _
        rw [h2] at h1
        simpa [Addr.add] using World.cell?_spot h1
      subst hspot
      refine ⟨b, off, rfl, fun j u hj => ?_⟩
      have hjl : j < len * sz := by
        have := flat_len f sz hf ((List.range len).map V)
        rcases Nat.lt_or_ge j (len * sz) with h | h
        · exact h
        · rw [List.getElem?_eq_none (by rw [this]; simpa using h)] at hj; cases hj
      have hd : j / sz < len := by rw [Nat.div_lt_iff_lt_mul hsz]; exact hjl
      have hr : j % sz < sz := Nat.mod_lt _ hsz
      have ej : j / sz * sz + j % sz = j := by rw [Nat.mul_comm]; exact Nat.div_add_mod j sz
      have hq : ((List.range len).map V)[j / sz]? = some (V (j / sz)) := by simp [hd]
      have h1 := flat_at f sz hf _ (j / sz) _ hq (j % sz) hr
      rw [ej] at h1
      rw [h1] at hj
      have h2 := (hV (j / sz) (by omega)).2 (j % sz) hr
      rw [addr_addU, addr_addU, Nat.add_assoc, ej, hj] at h2
      exact h2
    · obtain ⟨i, hi, rfl⟩ := List.mem_map.1 hq
      exact (hV i (by have := List.mem_range.1 hi; omega)).1
theorem opb_str (ht : P.underlying t = some .string) (h : DataW.trod enc P W base spare held fuel t cs = some x) : ∃ s : ByteArray, cs = [.string s] ∧ s.size + 1 ≤ Rows.uptoBulk x.1 := by
  obtain ⟨s, e, f, _⟩ := DataW.trod_string ht h
  refine ⟨s, e, ?_⟩
  rw [f]
  simp only [Rows.uptoBulk, Array.length_toList]
  show s.size + 1 ≤ s.data.size + 1
  exact Nat.le_refl _
theorem opb_pair (h : DataW.trod enc Tryz.prog W 0 (fun _ => true) true fuel 92 cs = some x) : ∃ p : Pr, cs = [.string p.1, .string p.2] ∧ p.1.size ≤ Rows.uptoBulk x.1 ∧ p.2.size ≤ Rows.uptoBulk x.1 := by
  obtain ⟨hl, n, hg⟩ := opb_fields Tryz.underlying92 h
  rw [nPairO] at hl
  match cs, hl with
  | [c0, c1], _ =>
    obtain ⟨y0, g0, b0⟩ := hg 0 9 0 rfl
    rw [nStrO] at g0
    dsimp only [List.drop, List.take] at g0
    obtain ⟨s0, e0, f0⟩ := opb_str Tryz.underlying9 g0
    obtain ⟨y1, g1, b1⟩ := hg 1 9 1 rfl
    rw [nStrO] at g1
    dsimp only [List.drop, List.take] at g1
    obtain ⟨s1, e1, f1⟩ := opb_str Tryz.underlying9 g1
    clear hg h
    simp only [List.cons.injEq, and_true] at e0 e1
    exact ⟨(s0, s1), by rw [e0, e1], Nat.le_trans (Nat.le_of_succ_le f0) b0, Nat.le_trans (Nat.le_of_succ_le f1) b1⟩
theorem nSampleW : Tryz.prog.cellsOf 46 = 3 := by kernel_rfl
theorem opb_sample (h : DataW.trod enc Tryz.prog W 0 (fun _ => true) true fuel 46 cs = some x) (hb : Rows.uptoBulk x.1 ≤ 1048576) : ∃ (mt : ByteArray) (v : Value) (ps : List Pr) (y : Int), cs = [.string mt, v, .int .i64 y] ∧ Rd W 2 v ps.length (pairCells ps) ∧ ∀ p ∈ ps, p.1.size ≤ 1048576 ∧ p.2.size ≤ 1048576 := by
  obtain ⟨hl, n, hg⟩ := opb_fields Tryz.underlying46 h
  rw [nSampleW] at hl
  match cs, hl with
  | [c0, c1, c2], _ =>
    obtain ⟨y0, g0, _⟩ := hg 0 9 0 rfl
    rw [nStrO] at g0
    dsimp only [List.drop, List.take] at g0
    obtain ⟨s0, e0, _⟩ := opb_str Tryz.underlying9 g0
    obtain ⟨y1, g1, b1⟩ := hg 1 24 1 rfl
    rw [nPairsO] at g1
    dsimp only [List.drop, List.take] at g1
    obtain ⟨v, ps, e1, r1, q1, _⟩ := opb_rows (fun p : Pr => [.string p.1, .string p.2]) 2 (by decide) (fun _ => rfl) Tryz.underlying24 nPairO g1 (Nat.le_trans b1 hb) (fun p => p.1.size ≤ 1048576 ∧ p.2.size ≤ 1048576) (fun _ _ _ h hb => by
      obtain ⟨p, e, f1, f2⟩ := opb_pair h
      exact ⟨p, e, Nat.le_trans f1 hb, Nat.le_trans f2 hb⟩)
    obtain ⟨y2, g2, _⟩ := hg 2 2 2 rfl
    rw [nI64O] at g2
    dsimp only [List.drop, List.take] at g2
    obtain ⟨k2, _, _, e2⟩ := op_i64 Tryz.underlying2 g2
    clear hg h
    simp only [List.cons.injEq, and_true] at e0 e1 e2
    exact ⟨s0, v, ps, k2, by rw [e0, e1, e2], r1, q1⟩
theorem open_sampleU {v : Value} {d : DataW H} {p : List MemPlace} (h : DataW.Trod enc Tryz.prog W 0 (fun _ => true) true 46 v d p) (hb : Rows.uptoBulk d ≤ 1048576) : ∃ (mt : ByteArray) (v3 : Value) (ps : List Pr) (y : Int), v = .agg #[.string mt, v3, .int .i64 y] ∧ Rd W 2 v3 ps.length (pairCells ps) ∧ (ps.length ≤ 12 → (textL ps).length ≤ 140737488355328) := by
  obtain ⟨n, h⟩ := h
  obtain ⟨mt, v3, ps, y, e, hr, hq⟩ := opb_sample h hb
  refine ⟨mt, v3, ps, y, ?_, hr, fun h12 => ?_⟩
  · cases v <;> simp [Value.cells] at e
    rename_i cells
    have e2 : cells.toList = (#[.string mt, v3, .int .i64 y] : Array Value).toList := e
    rw [Array.toList_inj.1 e2]
  · have h1 := text_size ps 2097153 (fun p hp => by
      have := hq p hp
      rw [pairL_len]
      omega)
    have h2 : (2097153 + 1) * ps.length ≤ (2097153 + 1) * 12 := Nat.mul_le_mul_left _ h12
    omega
theorem returns_bound {C : Checked} {os : Os} {f : FuncId} {fn : Func} {s : OpenSpec} {F : Stop.Interp} {conds : List PathCond} {apart fresh handsOn again : Bool} {laid : List (String × DataW Unit)}
    (own : ownKnob C.prog.godebug = none) (started : os.Started) (noInit : C.prog.inits.idxOf? f = none) (hfn : C.prog.funcs[f]? = some fn) (w0 : World) (args0 : Array Value) (hos : w0.os = os)
    (hsh : (w0.forCall (fun _ _ => 0) ⟨#[], args0, []⟩).Shaped C.prog)
    (hok : Input.okWideB C.prog (w0.forCall (fun _ _ => 0) ⟨#[], args0, []⟩) f ⟨#[], args0, []⟩ = true)
    (hrow : s.preRow enc C.prog fn conds apart laid (w0.forCall (fun _ _ => 0) ⟨#[], args0, []⟩).memory args0)
    (walk : ∀ (W : World) (base : Nat) (args : Array Value) (ds gs : List (DataW H)) (before : List MemPlace), (∀ (j : Nat) t v, fn.params[j]? = some t → args[j]? = some v → Value.okWide C.prog W .any base t v) →
      DataW.Whole enc C.prog fn.params.toList s.vars apart W args.toList ds gs before → (∀ k, s.cond = some k → k H (ds ++ gs) = true) → laidMetH C.prog laid W → W.ShapedOpen C.prog → Calls C.prog f args W fun e W' => ∃ v, e = .returned v ∧ (s.at F).post enc C.prog fn apart fresh handsOn again W args v W') :
    ReturnsInHanded {} C os f .any (s.preRow enc C.prog fn conds apart laid) ((s.at F).post enc C.prog fn apart fresh handsOn again) := by
  refine returnsInHanded_of_row own started noInit hfn ⟨w0, fun _ _ => 0, ⟨#[], args0, []⟩, hos, hsh, (Input.okWide_of_okWideB (base := 0) hok).1, (Input.okWide_of_okWideB hok).2, hrow, by
    simp only [Assume.holds]
    exact ⟨by simp, by simp, fun _ => Modest.zero, by simp, by simp⟩⟩ ?_
  intro W base args ds gs before hval hW _ hcond _ hld hs _
  exact walk W base args ds gs before hval hW hcond hld hs
end
end Go.Proofs.YtgpojkofegajeaaGreatDoor
