/-
  What the disk's law of plays is handed, opened, under a bound on its bulk.
-/
import Derived.Test.YtdjdhakmigofmaaDat
import Derived.Test.YtdjdhakmigofmaaAct
namespace Go.Proofs.Ytdjdhakmigofmaa
open Go.Joins Go.ChangeShapes Go.WideShapes Go.ChangeAt Go.RowKit Go.Deep
set_option maxRecDepth 100000
theorem nAct : Try.prog.cellsOf 38 = 8 := by kernel_rfl
theorem nU8 : Try.prog.cellsOf 5 = 1 := by kernel_rfl
theorem nU16 : Try.prog.cellsOf 55 = 1 := by kernel_rfl
theorem nBy : Try.prog.cellsOf 27 = 1 := by kernel_rfl
theorem nInt : Try.prog.cellsOf 3 = 1 := by kernel_rfl
theorem nStr : Try.prog.cellsOf 9 = 1 := by kernel_rfl
theorem nBool : Try.prog.cellsOf 4 = 1 := by kernel_rfl
theorem nTears : Try.prog.cellsOf 23 = 1 := by kernel_rfl
theorem nTear : Try.prog.cellsOf 57 = 2 := by kernel_rfl
section
variable {H : Type} {enc : TypeId × Value → H}
theorem bulk_part {d : DataW H} {l : List (DataW H)} (h : d ∈ l) : Rows.uptoBulk d ≤ Rows.uptoBulkAll l := by
  induction l with
  | nil => cases h
  | cons x r ih =>
    simp only [Rows.uptoBulkAll]
    cases List.mem_cons.1 h with
    | inl e => subst e; omega
    | inr e => have := ih e; omega
theorem bulk_pos (d : DataW H) : 1 ≤ Rows.uptoBulk d := by
  unfold Rows.uptoBulk
  split <;> omega
theorem bulk_len (l : List (DataW H)) : l.length ≤ Rows.uptoBulkAll l := by
  induction l with
  | nil => simp [Rows.uptoBulkAll]
  | cons d r ih => simp only [Rows.uptoBulkAll, List.length_cons]; have := bulk_pos d; omega
theorem bulk_of_small {ds : List (DataW H)} (h : Rows.uptoSmall H ds = true) : Rows.uptoBulkAll ds ≤ 1048576 := of_decide_eq_true h
theorem bulk_arg {ds : List (DataW H)} (h : Rows.uptoSmall H ds = true) {d : DataW H} (hd : d ∈ ds) : Rows.uptoBulk d ≤ 1048576 := Nat.le_trans (bulk_part hd) (bulk_of_small h)
variable {P : Program} {W : World} {base fuel : Nat} {spare : Nat → Bool} {held : Bool} {t : TypeId} {cs : List Value} {x : DataW H × List MemPlace}
theorem opb_fields {fs : Array Field} (ht : P.underlying t = some (.struct fs)) (h : DataW.trod enc P W base spare held fuel t cs = some x) :
    cs.length = P.cellsOf t ∧ ∃ n, ∀ (i : Nat) (t' : TypeId) (o : Nat), (fs[i]?.map fun f => (f.type, f.offset)) = some (t', o) → ∃ y, DataW.trod enc P W base spare held n t' ((cs.drop o).take (P.cellsOf t')) = some y ∧ Rows.uptoBulk y.1 ≤ Rows.uptoBulk x.1 := by
  obtain ⟨xs, n, _, rfl, hl, hlen, hg⟩ := DataW.trod_struct ht h
  refine ⟨hl, n, fun i t' o hf => ?_⟩
  have hi : i < fs.size := by
    rcases Nat.lt_or_ge i fs.size with h | h
    · exact h
    · rw [Array.getElem?_eq_none h] at hf; cases hf
  rw [Array.getElem?_eq_getElem hi] at hf
  simp only [Option.map_some, Option.some.injEq, Prod.mk.injEq] at hf
  obtain ⟨rfl, rfl⟩ := hf
  have := hg i fs[i] (Array.getElem?_eq_getElem hi)
  rw [List.getElem?_eq_getElem (by rw [hlen]; exact hi)] at this
  refine ⟨_, this, ?_⟩
  have h1 := bulk_part (List.mem_map_of_mem (f := Prod.fst) (List.getElem_mem (by rw [hlen]; exact hi) : xs[i] ∈ xs))
  rw [Rows.uptoBulk]
  exact Nat.le_succ_of_le h1
theorem opb_rows {α : Type} (f : α → List Value) (sz : Nat) (hsz : 0 < sz) (hf : ∀ a, (f a).length = sz) {e : TypeId} (ht : P.underlying t = some (.slice e)) (hc : P.cellsOf e = sz)
    (h : DataW.trod enc P W 0 (fun _ => true) true fuel t cs = some x) (hb : Rows.uptoBulk x.1 ≤ 1048576) (Φ : α → Prop) (hΦ : ∀ n cs (y : DataW H × List MemPlace), DataW.trod enc P W 0 (fun _ => true) true n e cs = some y → Rows.uptoBulk y.1 ≤ 1048576 → ∃ a, cs = f a ∧ Φ a) :
    ∃ (v : Value) (qs : List α), cs = [v] ∧ Rd W sz v qs.length (qs.flatMap f) ∧ (∀ q ∈ qs, Φ q) ∧ qs.length ≤ 1048576 := by
  rcases open_slice ht h with ⟨h0, _⟩ | ⟨a, len, cap, m, k, D, Pl, h0, _, hl, hm, hmm, hxd, hx⟩
  · exact ⟨_, [], h0, ⟨_, _, rfl, by simp, Nat.le_refl _, by unfold maxLen; omega, fun h => absurd h (by simp)⟩, (fun q hq => by cases hq), by simp⟩
  · have hm' : m = cap := by simpa using hmm
    subst hm'
    have hxe : x.1 = .slice ((List.range len).map D) ((List.range (m - len)).map fun j => D (len + j)) := congrArg Prod.fst hxd
    rw [hxe] at hb
    simp only [Rows.uptoBulk] at hb
    have hDb : ∀ i, i < m → Rows.uptoBulk (D i) ≤ 1048576 := fun i hi => by
      rcases Nat.lt_or_ge i len with h | h
      · have := bulk_part (List.mem_map_of_mem (f := D) (List.mem_range.2 h))
        omega
      · have h2 : D i ∈ (List.range (m - len)).map fun j => D (len + j) := List.mem_map.2 ⟨i - len, List.mem_range.2 (by omega), by congr 1; omega⟩
        have := bulk_part h2
        omega
    have hlen : len ≤ 1048576 := by
      have := bulk_len ((List.range len).map D)
      rw [List.length_map, List.length_range] at this
      omega
    have hex : ∀ i, i < m → ∃ p : α, Φ p ∧ ∀ j, j < sz → W.cell? ((a.add (i * sz)).add j) = (f p)[j]? := fun i hi => by
      obtain ⟨cs', h1, h2⟩ := hx i hi
      rw [hc] at h1
      obtain ⟨p, rfl, hp⟩ := hΦ _ _ _ h2 (hDb i hi)
      obtain ⟨_, _, h3⟩ := World.cells?_some h1
      exact ⟨p, hp, h3⟩
    rcases Nat.eq_zero_or_pos m with hm0 | hm0
    · subst hm0
      obtain rfl : len = 0 := by omega
      exact ⟨_, [], h0, ⟨_, _, rfl, by simp, Nat.le_refl _, by unfold maxLen; omega, fun h => absurd h (by simp)⟩, (fun q hq => by cases hq), by simp⟩
    have : Inhabited α := ⟨(hex 0 hm0).choose⟩
    obtain ⟨V, hV⟩ := choose_lt (α := α) hex
    refine ⟨.slice (some a) len m, (List.range len).map V, h0, ⟨some a, m, by simp, by rw [flat_len f sz hf], by simpa using hl, hm, fun h0 => ?_⟩, fun q hq => ?_, by simpa using hlen⟩
    · obtain ⟨b, off, spot⟩ := a
      have hspot : spot = none := by
        have h1 := (hV 0 hm0).2 0 hsz
        have h2 : (f (V 0))[0]? = some ((f (V 0))[0]'(by rw [hf]; exact hsz)) := List.getElem?_eq_getElem _
        rw [h2] at h1
        simpa [Addr.add] using World.cell?_spot h1
      subst hspot
      refine ⟨b, off, rfl, fun j u hj => ?_⟩
      have hjl : j < len * sz := by
        have := flat_len f sz hf ((List.range len).map V)
        rcases Nat.lt_or_ge j (len * sz) with h | h
        · exact h
        · rw [List.getElem?_eq_none (by rw [this]; simpa using h)] at hj; cases hj
      have hd : j / sz < len := by rw [Nat.div_lt_iff_lt_mul hsz]; exact hjl
      have hr : j % sz < sz := Nat.mod_lt _ hsz
      have ej : j / sz * sz + j % sz = j := by rw [Nat.mul_comm]; exact Nat.div_add_mod j sz
      have hq : ((List.range len).map V)[j / sz]? = some (V (j / sz)) := by simp [hd]
      have h1 := flat_at f sz hf _ (j / sz) _ hq (j % sz) hr
      rw [ej] at h1
      rw [h1] at hj
      have h2 := (hV (j / sz) (by omega)).2 (j % sz) hr
      rw [addr_add, addr_add, Nat.add_assoc, ej, hj] at h2
      exact h2
    · obtain ⟨i, hi, rfl⟩ := List.mem_map.1 hq
      exact (hV i (by have := List.mem_range.1 hi; omega)).1
theorem op_tear {W : World} {fuel : Nat} {cs : List Value} {x : DataW H × List MemPlace} (h : DataW.trod enc Try.prog W 0 (fun _ => true) true fuel 57 cs = some x) : ∃ p : Nat × Nat, cs = [.int .u16 p.1, .int .u16 p.2] ∧ p.1 < 65536 ∧ p.2 < 65536 := by
  obtain ⟨hl, n, hg⟩ := op_fields Try.underlying57 h
  rw [nTear] at hl
  match cs, hl with
  | [c0, c1], _ =>
    obtain ⟨y0, g0⟩ := hg 0 55 0 rfl
    obtain ⟨y1, g1⟩ := hg 1 55 1 rfl
    rw [nU16] at g0 g1
    simp only [List.take_succ_cons, List.take_zero, List.drop_zero, List.drop_succ_cons] at g0 g1
    obtain ⟨k0, b0, e0⟩ := op_u16 Try.underlying55 g0
    obtain ⟨k1, b1, e1⟩ := op_u16 Try.underlying55 g1
    simp only [List.cons.injEq, and_true] at e0 e1
    exact ⟨(k0, k1), by rw [e0, e1], b0, b1⟩
theorem opb_tears {W : World} {fuel : Nat} {cs : List Value} {x : DataW H × List MemPlace} (h : DataW.trod enc Try.prog W 0 (fun _ => true) true fuel 23 cs = some x) (hb : Rows.uptoBulk x.1 ≤ 1048576) :
    ∃ (v : Value) (ts : List (Nat × Nat)), cs = [v] ∧ Rd W 2 v ts.length (tearCells ts) ∧ (∀ t ∈ ts, t.1 < 65536 ∧ t.2 < 65536) ∧ ts.length ≤ 1048576 :=
  opb_rows (fun p : Nat × Nat => [.int .u16 p.1, .int .u16 p.2]) 2 (by decide) (fun _ => rfl) Try.underlying23 nTear h hb (fun t => t.1 < 65536 ∧ t.2 < 65536) (fun _ _ _ h _ => op_tear h)
theorem opb_act {W : World} {fuel : Nat} {cs : List Value} {x : DataW H × List MemPlace} (h : DataW.trod enc Try.prog W 0 (fun _ => true) true fuel 38 cs = some x) (hb : Rows.uptoBulk x.1 ≤ 1048576) : ∃ a : ActV, cs = actCells a ∧ (a.ok W ∧ a.tears.length ≤ 1048576) := by
  obtain ⟨hl, n, hg⟩ := opb_fields Try.underlying38 h
  rw [nAct] at hl
  match cs, hl with
  | [c0, c1, c2, c3, c4, c5, c6, c7], _ =>
    obtain ⟨y0, g0, _⟩ := hg 0 5 0 rfl
    rw [nU8] at g0
    simp only [List.take_succ_cons, List.take_zero, List.drop_zero] at g0
    obtain ⟨k0, b0, e0⟩ := op_u8 Try.underlying5 g0
    obtain ⟨y1, g1, _⟩ := hg 1 5 1 rfl
    rw [nU8] at g1
    simp only [List.drop_succ_cons, List.take_succ_cons, List.take_zero, List.drop_zero] at g1
    obtain ⟨k1, b1, e1⟩ := op_u8 Try.underlying5 g1
    obtain ⟨y2, g2, _⟩ := hg 2 5 2 rfl
    rw [nU8] at g2
    simp only [List.drop_succ_cons, List.take_succ_cons, List.take_zero, List.drop_zero] at g2
    obtain ⟨k2, b2, e2⟩ := op_u8 Try.underlying5 g2
    obtain ⟨y3, g3, _⟩ := hg 3 27 3 rfl
    rw [nBy] at g3
    simp only [List.drop_succ_cons, List.take_succ_cons, List.take_zero, List.drop_zero] at g3
    obtain ⟨v3, l3, e3, r3⟩ := op_bytes Try.underlying27 Try.underlying5 nU8 g3
    obtain ⟨y4, g4, _⟩ := hg 4 3 4 rfl
    rw [nInt] at g4
    simp only [List.drop_succ_cons, List.take_succ_cons, List.take_zero, List.drop_zero] at g4
    obtain ⟨k4, b4, d4, e4⟩ := op_i64 Try.underlying3 g4
    obtain ⟨y5, g5, _⟩ := hg 5 9 5 rfl
    rw [nStr] at g5
    simp only [List.drop_succ_cons, List.take_succ_cons, List.take_zero, List.drop_zero] at g5
    obtain ⟨s5, b5, e5⟩ := op_str Try.underlying9 g5
    obtain ⟨y6, g6, _⟩ := hg 6 4 6 rfl
    rw [nBool] at g6
    simp only [List.drop_succ_cons, List.take_succ_cons, List.take_zero, List.drop_zero] at g6
    obtain ⟨b6, e6⟩ := op_bool Try.underlying4 g6
    obtain ⟨y7, g7, q7⟩ := hg 7 23 7 rfl
    rw [nTears] at g7
    simp only [List.drop_succ_cons, List.take_succ_cons, List.take_zero, List.drop_zero] at g7
    obtain ⟨v7, l7, e7, r7, d7, z7⟩ := opb_tears g7 (Nat.le_trans q7 hb)
    clear hg h
    simp only [List.cons.injEq, and_true] at e0 e1 e2 e3 e4 e5 e6 e7
    exact ⟨⟨k0, k1, k2, v3, l3, k4, s5, b6, v7, l7⟩, by simp only [actCells, e0, e1, e2, e3, e4, e5, e6, e7], ⟨b0, b1, b2, r3, b4, d4, b5, r7, d7⟩, z7⟩
theorem opb_acts {W : World} {fuel : Nat} {cs : List Value} {x : DataW H × List MemPlace} (h : DataW.trod enc Try.prog W 0 (fun _ => true) true fuel 36 cs = some x) (hb : Rows.uptoBulk x.1 ≤ 1048576) :
    ∃ (v : Value) (l : List ActV), cs = [v] ∧ Rd W 8 v l.length (l.flatMap actCells) ∧ (∀ a ∈ l, a.ok W ∧ a.tears.length ≤ 1048576) ∧ l.length ≤ 1048576 :=
  opb_rows actCells 8 (by decide) (fun _ => rfl) Try.underlying36 nAct h hb (fun a => a.ok W ∧ a.tears.length ≤ 1048576) (fun _ _ _ h b => opb_act h b)
end
end Go.Proofs.Ytdjdhakmigofmaa
