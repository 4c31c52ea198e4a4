/-
  What the law ViewAlerts is handed, opened, under a bound on its bulk.
-/
import Derived.Test.YtdghpjkjhlankaaDat
import Derived.Test.YtdghpjkjhlankaaAlerts
namespace Go.Proofs.Ytdghpjkjhlankaa
open Go.Joins Go.ChangeShapes Go.WideShapes Go.ChangeAt Go.RowKit Go.Deep
set_option maxRecDepth 100000
theorem vU8 : Try.prog.cellsOf 5 = 1 := by kernel_rfl
theorem vU16 : Try.prog.cellsOf 24 = 1 := by kernel_rfl
theorem vU64 : Try.prog.cellsOf 27 = 1 := by kernel_rfl
theorem vI64 : Try.prog.cellsOf 2 = 1 := by kernel_rfl
theorem vI16 : Try.prog.cellsOf 120 = 1 := by kernel_rfl
theorem vStr : Try.prog.cellsOf 9 = 1 := by kernel_rfl
theorem vBool : Try.prog.cellsOf 4 = 1 := by kernel_rfl
theorem vState : Try.prog.cellsOf 43 = 1 := by kernel_rfl
theorem vPair : Try.prog.cellsOf 81 = 2 := by kernel_rfl
theorem vPairs : Try.prog.cellsOf 42 = 1 := by kernel_rfl
theorem vBy : Try.prog.cellsOf 34 = 1 := by kernel_rfl
theorem vU16s : Try.prog.cellsOf 35 = 1 := by kernel_rfl
theorem vAsk : Try.prog.cellsOf 142 = 3 := by kernel_rfl
theorem vAsks : Try.prog.cellsOf 96 = 1 := by kernel_rfl
theorem vCond : Try.prog.cellsOf 122 = 3 := by kernel_rfl
theorem vRule : Try.prog.cellsOf 124 = 10 := by kernel_rfl
theorem vRules : Try.prog.cellsOf 36 = 1 := by kernel_rfl
theorem vNode : Try.prog.cellsOf 128 = 8 := by kernel_rfl
theorem vNodes : Try.prog.cellsOf 37 = 1 := by kernel_rfl
theorem vCurb : Try.prog.cellsOf 98 = 3 := by kernel_rfl
theorem vCurbs : Try.prog.cellsOf 38 = 1 := by kernel_rfl
theorem vSize : Try.prog.cellsOf 40 = 11 := by kernel_rfl
theorem vAlert : Try.prog.cellsOf 45 = 7 := by kernel_rfl
theorem vAlerts : Try.prog.cellsOf 50 = 1 := by kernel_rfl
theorem vNotice : Try.prog.cellsOf 52 = 4 := by kernel_rfl
theorem vAl6 : Try.prog.cellsOf 23 = 6 := by kernel_rfl
theorem vAl6s : Try.prog.cellsOf 53 = 1 := by kernel_rfl
section
variable {H : Type} {enc : TypeId × Value → H}
theorem bulk_part {d : DataW H} {l : List (DataW H)} (h : d ∈ l) : Rows.uptoBulk d ≤ Rows.uptoBulkAll l := by
  induction l with
  | nil => cases h
  | cons x r ih =>
    simp only [Rows.uptoBulkAll]
    cases List.mem_cons.1 h with
    | inl e => subst e; omega
    | inr e => have := ih e; omega
theorem bulk_pos (d : DataW H) : 1 ≤ Rows.uptoBulk d := by
  unfold Rows.uptoBulk
  split <;> omega
theorem bulk_len (l : List (DataW H)) : l.length ≤ Rows.uptoBulkAll l := by
  induction l with
  | nil => simp [Rows.uptoBulkAll]
  | cons d r ih => simp only [Rows.uptoBulkAll, List.length_cons]; have := bulk_pos d; omega
theorem bulk_of_small {ds : List (DataW H)} (h : Rows.uptoSmall H ds = true) : Rows.uptoBulkAll ds ≤ 1048576 := of_decide_eq_true h
theorem bulk_arg {ds : List (DataW H)} (h : Rows.uptoSmall H ds = true) {d : DataW H} (hd : d ∈ ds) : Rows.uptoBulk d ≤ 1048576 := Nat.le_trans (bulk_part hd) (bulk_of_small h)
variable {P : Program} {W : World} {base fuel : Nat} {spare : Nat → Bool} {held : Bool} {t : TypeId} {cs : List Value} {x : DataW H × List MemPlace}
theorem opb_str (ht : P.underlying t = some .string) (h : DataW.trod enc P W base spare held fuel t cs = some x) (hb : Rows.uptoBulk x.1 ≤ 1048576) : ∃ s : ByteArray, s.size ≤ 1048576 ∧ cs = [.string s] := by
  obtain ⟨s, e, rfl, _⟩ := DataW.trod_string ht h
  refine ⟨s, ?_, e⟩
  simp only [Rows.uptoBulk, Array.length_toList] at hb
  show s.data.size ≤ _
  omega
theorem op_i16 (ht : P.underlying t = some (.int .i16)) (h : DataW.trod enc P W base spare held fuel t cs = some x) : ∃ n : Int, -32768 ≤ n ∧ n < 32768 ∧ cs = [.int .i16 n] := by
  obtain ⟨k, e, _, hw⟩ := DataW.trod_int ht h
  have hx : -32768 ≤ k ∧ k ≤ 32767 := by simpa [Lit.wf, IntKind.min, IntKind.max, IntKind.signed, IntKind.bits] using hw
  exact ⟨k, hx.1, by omega, e⟩
theorem opb_fields {fs : Array Field} (ht : P.underlying t = some (.struct fs)) (h : DataW.trod enc P W base spare held fuel t cs = some x) :
    cs.length = P.cellsOf t ∧ ∃ n, ∀ (i : Nat) (t' : TypeId) (o : Nat), (fs[i]?.map fun f => (f.type, f.offset)) = some (t', o) → ∃ y, DataW.trod enc P W base spare held n t' ((cs.drop o).take (P.cellsOf t')) = some y ∧ Rows.uptoBulk y.1 ≤ Rows.uptoBulk x.1 := by
  obtain ⟨xs, n, _, rfl, hl, hlen, hg⟩ := DataW.trod_struct ht h
  refine ⟨hl, n, fun i t' o hf => ?_⟩
  have hi : i < fs.size := by
    rcases Nat.lt_or_ge i fs.size with h | h
    · exact h
    · rw [Array.getElem?_eq_none h] at hf; cases hf
  rw [Array.getElem?_eq_getElem hi] at hf
  simp only [Option.map_some, Option.some.injEq, Prod.mk.injEq] at hf
  obtain ⟨rfl, rfl⟩ := hf
  have := hg i fs[i] (Array.getElem?_eq_getElem hi)
  rw [List.getElem?_eq_getElem (by rw [hlen]; exact hi)] at this
  refine ⟨_, this, ?_⟩
  have h1 := bulk_part (List.mem_map_of_mem (f := Prod.fst) (List.getElem_mem (by rw [hlen]; exact hi) : xs[i] ∈ xs))
  rw [Rows.uptoBulk]
  exact Nat.le_succ_of_le h1
theorem opb_rows {α : Type} (f : α → List Value) (sz : Nat) (hsz : 0 < sz) (hf : ∀ a, (f a).length = sz) {e : TypeId} (ht : P.underlying t = some (.slice e)) (hc : P.cellsOf e = sz)
    (h : DataW.trod enc P W 0 (fun _ => true) true fuel t cs = some x) (hb : Rows.uptoBulk x.1 ≤ 1048576) (Φ : α → Prop) (hΦ : ∀ n cs (y : DataW H × List MemPlace), DataW.trod enc P W 0 (fun _ => true) true n e cs = some y → Rows.uptoBulk y.1 ≤ 1048576 → ∃ a, cs = f a ∧ Φ a) :
    ∃ (v : Value) (qs : List α), cs = [v] ∧ Rd W sz v qs.length (qs.flatMap f) ∧ (∀ q ∈ qs, Φ q) ∧ qs.length ≤ 1048576 := by
  rcases open_slice ht h with ⟨h0, _⟩ | ⟨a, len, cap, m, k, D, Pl, h0, _, hl, hm, hmm, hxd, hx⟩
  · exact ⟨_, [], h0, ⟨_, _, rfl, by simp, Nat.le_refl _, by unfold maxLen; omega, fun h => absurd h (by simp)⟩, (fun q hq => by cases hq), by simp⟩
  · have hm' : m = cap := by simpa using hmm
    subst hm'
    have hxe : x.1 = .slice ((List.range len).map D) ((List.range (m - len)).map fun j => D (len + j)) := congrArg Prod.fst hxd
    rw [hxe] at hb
    simp only [Rows.uptoBulk] at hb
    have hDb : ∀ i, i < m → Rows.uptoBulk (D i) ≤ 1048576 := fun i hi => by
      rcases Nat.lt_or_ge i len with h | h
      · have := bulk_part (List.mem_map_of_mem (f := D) (List.mem_range.2 h))
        omega
      · have h2 : D i ∈ (List.range (m - len)).map fun j => D (len + j) := List.mem_map.2 ⟨i - len, List.mem_range.2 (by omega), by congr 1; omega⟩
        have := bulk_part h2
        omega
    have hlen : len ≤ 1048576 := by
      have := bulk_len ((List.range len).map D)
      rw [List.length_map, List.length_range] at this
      omega
    have hex : ∀ i, i < m → ∃ p : α, Φ p ∧ ∀ j, j < sz → W.cell? ((a.add (i * sz)).add j) = (f p)[j]? := fun i hi => by
      obtain ⟨cs', h1, h2⟩ := hx i hi
      rw [hc] at h1
      obtain ⟨p, rfl, hp⟩ := hΦ _ _ _ h2 (hDb i hi)
      obtain ⟨_, _, h3⟩ := World.cells?_some h1
      exact ⟨p, hp, h3⟩
    rcases Nat.eq_zero_or_pos m with hm0 | hm0
    · subst hm0
      obtain rfl : len = 0 := by omega
      exact ⟨_, [], h0, ⟨_, _, rfl, by simp, Nat.le_refl _, by unfold maxLen; omega, fun h => absurd h (by simp)⟩, (fun q hq => by cases hq), by simp⟩
    have : Inhabited α := ⟨(hex 0 hm0).choose⟩
    obtain ⟨V, hV⟩ := choose_lt (α := α) hex
    refine ⟨.slice (some a) len m, (List.range len).map V, h0, ⟨some a, m, by simp, by rw [flat_len f sz hf], by simpa using hl, hm, fun h0 => ?_⟩, fun q hq => ?_, by simpa using hlen⟩
    · obtain ⟨b, off, spot⟩ := a
      have hspot : spot = none := by
        have h1 := (hV 0 hm0).2 0 hsz
        have h2 : (f (V 0))[0]? = some ((f (V 0))[0]'(by rw [hf]; exact hsz)) := List.getElem?_eq_getElem _
        rw [h2] at h1
        simpa [Addr.add] using World.cell?_spot h1
      subst hspot
      refine ⟨b, off, rfl, fun j u hj => ?_⟩
      have hjl : j < len * sz := by
        have := flat_len f sz hf ((List.range len).map V)
        rcases Nat.lt_or_ge j (len * sz) with h | h
        · exact h
        · rw [List.getElem?_eq_none (by rw [this]; simpa using h)] at hj; cases hj
      have hd : j / sz < len := by rw [Nat.div_lt_iff_lt_mul hsz]; exact hjl
      have hr : j % sz < sz := Nat.mod_lt _ hsz
      have ej : j / sz * sz + j % sz = j := by rw [Nat.mul_comm]; exact Nat.div_add_mod j sz
      have hq : ((List.range len).map V)[j / sz]? = some (V (j / sz)) := by simp [hd]
      have h1 := flat_at f sz hf _ (j / sz) _ hq (j % sz) hr
      rw [ej] at h1
      rw [h1] at hj
      have h2 := (hV (j / sz) (by omega)).2 (j % sz) hr
      rw [addr_add, addr_add, Nat.add_assoc, ej, hj] at h2
      exact h2
    · obtain ⟨i, hi, rfl⟩ := List.mem_map.1 hq
      exact (hV i (by have := List.mem_range.1 hi; omega)).1
theorem opb_u8s {W : World} {fuel : Nat} {cs : List Value} {x : DataW H × List MemPlace} (h : DataW.trod enc Try.prog W 0 (fun _ => true) true fuel 34 cs = some x) (hb : Rows.uptoBulk x.1 ≤ 1048576) :
    ∃ (v : Value) (l : List Nat), cs = [v] ∧ Rd W 1 v l.length (u8s l) ∧ (∀ n ∈ l, n < 256) ∧ l.length ≤ 1048576 := by
  obtain ⟨v, l, h1, h2, h3, h4⟩ := opb_rows (fun n : Nat => [.int .u8 (n : Nat)]) 1 (by decide) (fun _ => rfl) Try.underlying34 vU8 h hb (fun n => n < 256) (fun _ _ _ h _ => let ⟨k, hk, e⟩ := op_u8 Try.underlying5 h; ⟨k, e, hk⟩)
  rw [flat_one (fun n : Nat => Value.int .u8 (n : Nat))] at h2
  exact ⟨v, l, h1, h2, h3, h4⟩
theorem opb_u16s {W : World} {fuel : Nat} {cs : List Value} {x : DataW H × List MemPlace} (h : DataW.trod enc Try.prog W 0 (fun _ => true) true fuel 35 cs = some x) (hb : Rows.uptoBulk x.1 ≤ 1048576) :
    ∃ (v : Value) (l : List Nat), cs = [v] ∧ Rd W 1 v l.length (u16s l) := by
  obtain ⟨v, l, h1, h2, _, _⟩ := opb_rows (fun n : Nat => [.int .u16 (n : Nat)]) 1 (by decide) (fun _ => rfl) Try.underlying35 vU16 h hb (fun n => n < 65536) (fun _ _ _ h _ => let ⟨k, hk, e⟩ := op_u16 Try.underlying24 h; ⟨k, e, hk⟩)
  rw [flat_one (fun n : Nat => Value.int .u16 (n : Nat))] at h2
  exact ⟨v, l, h1, h2⟩
theorem opb_pair {W : World} {fuel : Nat} {cs : List Value} {x : DataW H × List MemPlace} (h : DataW.trod enc Try.prog W 0 (fun _ => true) true fuel 81 cs = some x) (_hb : Rows.uptoBulk x.1 ≤ 1048576) : ∃ p : ByteArray × ByteArray, cs = [.string p.1, .string p.2] ∧ p.1.size ≤ 1048576 ∧ p.2.size ≤ 1048576 := by
  obtain ⟨hl, n, hg⟩ := opb_fields Try.underlying81 h
  rw [vPair] at hl
  match cs, hl with
  | [c0, c1], _ =>
    obtain ⟨y0, g0, kb0⟩ := hg 0 9 0 rfl
    have kb0 := Nat.le_trans kb0 _hb
    rw [vStr] at g0
    simp only [List.take_succ_cons, List.take_zero, List.drop_zero] at g0
    obtain ⟨s0, b0, e0⟩ := opb_str Try.underlying9 g0 kb0
    obtain ⟨y1, g1, kb1⟩ := hg 1 9 1 rfl
    have kb1 := Nat.le_trans kb1 _hb
    rw [vStr] at g1
    simp only [List.drop_succ_cons, List.take_succ_cons, List.take_zero, List.drop_zero] at g1
    obtain ⟨s1, b1, e1⟩ := opb_str Try.underlying9 g1 kb1
    clear hg h
    simp only [List.cons.injEq, and_true] at e0 e1
    exact ⟨(s0, s1), by rw [e0, e1], b0, b1⟩
theorem opb_pairs {W : World} {fuel : Nat} {cs : List Value} {x : DataW H × List MemPlace} (h : DataW.trod enc Try.prog W 0 (fun _ => true) true fuel 42 cs = some x) (hb : Rows.uptoBulk x.1 ≤ 1048576) :
    ∃ (v : Value) (l : List (ByteArray × ByteArray)), cs = [v] ∧ Rd W 2 v l.length (l.flatMap (fun p : ByteArray × ByteArray => [.string p.1, .string p.2])) ∧ (∀ q ∈ l, q.1.size ≤ 1048576 ∧ q.2.size ≤ 1048576) ∧ l.length ≤ 1048576 :=
  opb_rows ((fun p : ByteArray × ByteArray => [.string p.1, .string p.2])) 2 (by decide) (fun _ => rfl) Try.underlying42 vPair h hb (fun q => q.1.size ≤ 1048576 ∧ q.2.size ≤ 1048576) (fun _ _ _ h hb => opb_pair h hb)
theorem opb_ask {W : World} {fuel : Nat} {cs : List Value} {x : DataW H × List MemPlace} (h : DataW.trod enc Try.prog W 0 (fun _ => true) true fuel 142 cs = some x) (_hb : Rows.uptoBulk x.1 ≤ 1048576) : ∃ t : Nat × Nat × Nat, cs = ask3 t ∧ True := by
  obtain ⟨hl, n, hg⟩ := opb_fields Try.underlying142 h
  rw [vAsk] at hl
  match cs, hl with
  | [c0, c1, c2], _ =>
    obtain ⟨y0, g0, kb0⟩ := hg 0 5 0 rfl
    have kb0 := Nat.le_trans kb0 _hb
    rw [vU8] at g0
    simp only [List.take_succ_cons, List.take_zero, List.drop_zero] at g0
    obtain ⟨k0, b0, e0⟩ := op_u8 Try.underlying5 g0
    obtain ⟨y1, g1, kb1⟩ := hg 1 5 1 rfl
    have kb1 := Nat.le_trans kb1 _hb
    rw [vU8] at g1
    simp only [List.drop_succ_cons, List.take_succ_cons, List.take_zero, List.drop_zero] at g1
    obtain ⟨k1, b1, e1⟩ := op_u8 Try.underlying5 g1
    obtain ⟨y2, g2, kb2⟩ := hg 2 5 2 rfl
    have kb2 := Nat.le_trans kb2 _hb
    rw [vU8] at g2
    simp only [List.drop_succ_cons, List.take_succ_cons, List.take_zero, List.drop_zero] at g2
    obtain ⟨k2, b2, e2⟩ := op_u8 Try.underlying5 g2
    clear hg h
    simp only [List.cons.injEq, and_true] at e0 e1 e2
    exact ⟨(k0, k1, k2), by simp only [ask3, e0, e1, e2], trivial⟩
theorem opb_asks {W : World} {fuel : Nat} {cs : List Value} {x : DataW H × List MemPlace} (h : DataW.trod enc Try.prog W 0 (fun _ => true) true fuel 96 cs = some x) (hb : Rows.uptoBulk x.1 ≤ 1048576) :
    ∃ (v : Value) (l : List (Nat × Nat × Nat)), cs = [v] ∧ Rd W 3 v l.length (l.flatMap ask3) ∧ (∀ q ∈ l, True) ∧ l.length ≤ 1048576 :=
  opb_rows (ask3) 3 (by decide) (fun _ => rfl) Try.underlying96 vAsk h hb (fun q => True) (fun _ _ _ h hb => opb_ask h hb)
theorem opb_cond {W : World} {fuel : Nat} {cs : List Value} {x : DataW H × List MemPlace} (h : DataW.trod enc Try.prog W 0 (fun _ => true) true fuel 122 cs = some x) (_hb : Rows.uptoBulk x.1 ≤ 1048576) : ∃ (k : Nat) (m : Int) (t : Nat), cs = [.int .u8 k, .int .i16 m, .int .u8 t] ∧ k < 256 ∧ -32768 ≤ m ∧ m < 32768 ∧ t < 256 := by
  obtain ⟨hl, n, hg⟩ := opb_fields Try.underlying122 h
  rw [vCond] at hl
  match cs, hl with
  | [c0, c1, c2], _ =>
    obtain ⟨y0, g0, kb0⟩ := hg 0 5 0 rfl
    have kb0 := Nat.le_trans kb0 _hb
    rw [vU8] at g0
    simp only [List.take_succ_cons, List.take_zero, List.drop_zero] at g0
    obtain ⟨k0, b0, e0⟩ := op_u8 Try.underlying5 g0
    obtain ⟨y1, g1, kb1⟩ := hg 1 120 1 rfl
    have kb1 := Nat.le_trans kb1 _hb
    rw [vI16] at g1
    simp only [List.drop_succ_cons, List.take_succ_cons, List.take_zero, List.drop_zero] at g1
    obtain ⟨k1, b1, d1, e1⟩ := op_i16 Try.underlying120 g1
    obtain ⟨y2, g2, kb2⟩ := hg 2 5 2 rfl
    have kb2 := Nat.le_trans kb2 _hb
    rw [vU8] at g2
    simp only [List.drop_succ_cons, List.take_succ_cons, List.take_zero, List.drop_zero] at g2
    obtain ⟨k2, b2, e2⟩ := op_u8 Try.underlying5 g2
    clear hg h
    simp only [List.cons.injEq, and_true] at e0 e1 e2
    exact ⟨k0, k1, k2, by rw [e0, e1, e2], b0, b1, d1, b2⟩
theorem opb_rule {W : World} {fuel : Nat} {cs : List Value} {x : DataW H × List MemPlace} (h : DataW.trod enc Try.prog W 0 (fun _ => true) true fuel 124 cs = some x) (_hb : Rows.uptoBulk x.1 ≤ 1048576) : ∃ s : SmR, cs = sm10 s ∧ s.ok := by
  obtain ⟨hl, n, hg⟩ := opb_fields Try.underlying124 h
  rw [vRule] at hl
  match cs, hl with
  | [c0, c1, c2, c3, c4, c5, c6, c7, c8, c9], _ =>
    obtain ⟨y0, g0, kb0⟩ := hg 0 5 0 rfl
    have kb0 := Nat.le_trans kb0 _hb
    rw [vU8] at g0
    simp only [List.take_succ_cons, List.take_zero, List.drop_zero] at g0
    obtain ⟨k0, b0, e0⟩ := op_u8 Try.underlying5 g0
    obtain ⟨y1, g1, kb1⟩ := hg 1 5 1 rfl
    have kb1 := Nat.le_trans kb1 _hb
    rw [vU8] at g1
    simp only [List.drop_succ_cons, List.take_succ_cons, List.take_zero, List.drop_zero] at g1
    obtain ⟨k1, b1, e1⟩ := op_u8 Try.underlying5 g1
    obtain ⟨y2, g2, kb2⟩ := hg 2 5 2 rfl
    have kb2 := Nat.le_trans kb2 _hb
    rw [vU8] at g2
    simp only [List.drop_succ_cons, List.take_succ_cons, List.take_zero, List.drop_zero] at g2
    obtain ⟨k2, b2, e2⟩ := op_u8 Try.underlying5 g2
    obtain ⟨y3, g3, kb3⟩ := hg 3 5 3 rfl
    have kb3 := Nat.le_trans kb3 _hb
    rw [vU8] at g3
    simp only [List.drop_succ_cons, List.take_succ_cons, List.take_zero, List.drop_zero] at g3
    obtain ⟨k3, b3, e3⟩ := op_u8 Try.underlying5 g3
    obtain ⟨y4, g4, kb4⟩ := hg 4 122 4 rfl
    have kb4 := Nat.le_trans kb4 _hb
    rw [vCond] at g4
    simp only [List.drop_succ_cons, List.take_succ_cons, List.take_zero, List.drop_zero] at g4
    obtain ⟨k4, m4, t4, e4, b4, p4, q4, r4⟩ := opb_cond g4 kb4
    obtain ⟨y5, g5, kb5⟩ := hg 5 5 7 rfl
    have kb5 := Nat.le_trans kb5 _hb
    rw [vU8] at g5
    simp only [List.drop_succ_cons, List.take_succ_cons, List.take_zero, List.drop_zero] at g5
    obtain ⟨k5, b5, e5⟩ := op_u8 Try.underlying5 g5
    obtain ⟨y6, g6, kb6⟩ := hg 6 5 8 rfl
    have kb6 := Nat.le_trans kb6 _hb
    rw [vU8] at g6
    simp only [List.drop_succ_cons, List.take_succ_cons, List.take_zero, List.drop_zero] at g6
    obtain ⟨k6, b6, e6⟩ := op_u8 Try.underlying5 g6
    obtain ⟨y7, g7, kb7⟩ := hg 7 5 9 rfl
    have kb7 := Nat.le_trans kb7 _hb
    rw [vU8] at g7
    simp only [List.drop_succ_cons, List.take_succ_cons, List.take_zero, List.drop_zero] at g7
    obtain ⟨k7, b7, e7⟩ := op_u8 Try.underlying5 g7
    clear hg h
    simp only [List.cons.injEq, and_true] at e0 e1 e2 e3 e4 e5 e6 e7
    exact ⟨⟨k0, k1, k2, k3, k4, t4, k5, k6, k7, m4⟩, by simp only [sm10, e0, e1, e2, e3, e4.1, e4.2.1, e4.2.2, e5, e6, e7], b3, r4, p4, q4⟩
theorem opb_rules {W : World} {fuel : Nat} {cs : List Value} {x : DataW H × List MemPlace} (h : DataW.trod enc Try.prog W 0 (fun _ => true) true fuel 36 cs = some x) (hb : Rows.uptoBulk x.1 ≤ 1048576) :
    ∃ (v : Value) (l : List (SmR)), cs = [v] ∧ Rd W 10 v l.length (l.flatMap sm10) ∧ (∀ q ∈ l, q.ok) ∧ l.length ≤ 1048576 :=
  opb_rows (sm10) 10 (by decide) (fun _ => rfl) Try.underlying36 vRule h hb (fun q => q.ok) (fun _ _ _ h hb => opb_rule h hb)
theorem opb_node {W : World} {fuel : Nat} {cs : List Value} {x : DataW H × List MemPlace} (h : DataW.trod enc Try.prog W 0 (fun _ => true) true fuel 128 cs = some x) (_hb : Rows.uptoBulk x.1 ≤ 1048576) : ∃ s : SmN, cs = smn8 s ∧ s.ok ∧ Rd W 3 s.v s.asks.length (smallCells s.asks) := by
  obtain ⟨hl, n, hg⟩ := opb_fields Try.underlying128 h
  rw [vNode] at hl
  match cs, hl with
  | [c0, c1, c2, c3, c4, c5, c6, c7], _ =>
    obtain ⟨y0, g0, kb0⟩ := hg 0 96 0 rfl
    have kb0 := Nat.le_trans kb0 _hb
    rw [vAsks] at g0
    simp only [List.take_succ_cons, List.take_zero, List.drop_zero] at g0
    obtain ⟨v0, l0, e0, r0, _, _⟩ := opb_asks g0 kb0
    obtain ⟨y1, g1, kb1⟩ := hg 1 5 1 rfl
    have kb1 := Nat.le_trans kb1 _hb
    rw [vU8] at g1
    simp only [List.drop_succ_cons, List.take_succ_cons, List.take_zero, List.drop_zero] at g1
    obtain ⟨k1, b1, e1⟩ := op_u8 Try.underlying5 g1
    obtain ⟨y2, g2, kb2⟩ := hg 2 5 2 rfl
    have kb2 := Nat.le_trans kb2 _hb
    rw [vU8] at g2
    simp only [List.drop_succ_cons, List.take_succ_cons, List.take_zero, List.drop_zero] at g2
    obtain ⟨k2, b2, e2⟩ := op_u8 Try.underlying5 g2
    obtain ⟨y3, g3, kb3⟩ := hg 3 5 3 rfl
    have kb3 := Nat.le_trans kb3 _hb
    rw [vU8] at g3
    simp only [List.drop_succ_cons, List.take_succ_cons, List.take_zero, List.drop_zero] at g3
    obtain ⟨k3, b3, e3⟩ := op_u8 Try.underlying5 g3
    obtain ⟨y4, g4, kb4⟩ := hg 4 5 4 rfl
    have kb4 := Nat.le_trans kb4 _hb
    rw [vU8] at g4
    simp only [List.drop_succ_cons, List.take_succ_cons, List.take_zero, List.drop_zero] at g4
    obtain ⟨k4, b4, e4⟩ := op_u8 Try.underlying5 g4
    obtain ⟨y5, g5, kb5⟩ := hg 5 5 5 rfl
    have kb5 := Nat.le_trans kb5 _hb
    rw [vU8] at g5
    simp only [List.drop_succ_cons, List.take_succ_cons, List.take_zero, List.drop_zero] at g5
    obtain ⟨k5, b5, e5⟩ := op_u8 Try.underlying5 g5
    obtain ⟨y6, g6, kb6⟩ := hg 6 4 6 rfl
    have kb6 := Nat.le_trans kb6 _hb
    rw [vBool] at g6
    simp only [List.drop_succ_cons, List.take_succ_cons, List.take_zero, List.drop_zero] at g6
    obtain ⟨b6, e6⟩ := op_bool Try.underlying4 g6
    obtain ⟨y7, g7, kb7⟩ := hg 7 5 7 rfl
    have kb7 := Nat.le_trans kb7 _hb
    rw [vU8] at g7
    simp only [List.drop_succ_cons, List.take_succ_cons, List.take_zero, List.drop_zero] at g7
    obtain ⟨k7, b7, e7⟩ := op_u8 Try.underlying5 g7
    clear hg h
    simp only [List.cons.injEq, and_true] at e0 e1 e2 e3 e4 e5 e6 e7
    exact ⟨⟨v0, l0, k1, k2, k3, k4, k5, b6, k7⟩, by simp only [smn8, e0, e1, e2, e3, e4, e5, e6, e7], ⟨b1, b2, b3, b4, b5, b7⟩, r0⟩
theorem opb_nodes {W : World} {fuel : Nat} {cs : List Value} {x : DataW H × List MemPlace} (h : DataW.trod enc Try.prog W 0 (fun _ => true) true fuel 37 cs = some x) (hb : Rows.uptoBulk x.1 ≤ 1048576) :
    ∃ (v : Value) (l : List (SmN)), cs = [v] ∧ Rd W 8 v l.length (l.flatMap smn8) ∧ (∀ q ∈ l, q.ok ∧ Rd W 3 q.v q.asks.length (smallCells q.asks)) ∧ l.length ≤ 1048576 :=
  opb_rows (smn8) 8 (by decide) (fun _ => rfl) Try.underlying37 vNode h hb (fun q => q.ok ∧ Rd W 3 q.v q.asks.length (smallCells q.asks)) (fun _ _ _ h hb => opb_node h hb)
theorem opb_curb {W : World} {fuel : Nat} {cs : List Value} {x : DataW H × List MemPlace} (h : DataW.trod enc Try.prog W 0 (fun _ => true) true fuel 98 cs = some x) (_hb : Rows.uptoBulk x.1 ≤ 1048576) : ∃ s : SmC, cs = smc3 s ∧ s.q < 256 ∧ Rd W 3 s.v1 s.l1.length (smallCells s.l1) ∧ Rd W 3 s.v2 s.l2.length (smallCells s.l2) := by
  obtain ⟨hl, n, hg⟩ := opb_fields Try.underlying98 h
  rw [vCurb] at hl
  match cs, hl with
  | [c0, c1, c2], _ =>
    obtain ⟨y0, g0, kb0⟩ := hg 0 96 0 rfl
    have kb0 := Nat.le_trans kb0 _hb
    rw [vAsks] at g0
    simp only [List.take_succ_cons, List.take_zero, List.drop_zero] at g0
    obtain ⟨v0, l0, e0, r0, _, _⟩ := opb_asks g0 kb0
    obtain ⟨y1, g1, kb1⟩ := hg 1 96 1 rfl
    have kb1 := Nat.le_trans kb1 _hb
    rw [vAsks] at g1
    simp only [List.drop_succ_cons, List.take_succ_cons, List.take_zero, List.drop_zero] at g1
    obtain ⟨v1, l1, e1, r1, _, _⟩ := opb_asks g1 kb1
    obtain ⟨y2, g2, kb2⟩ := hg 2 5 2 rfl
    have kb2 := Nat.le_trans kb2 _hb
    rw [vU8] at g2
    simp only [List.drop_succ_cons, List.take_succ_cons, List.take_zero, List.drop_zero] at g2
    obtain ⟨k2, b2, e2⟩ := op_u8 Try.underlying5 g2
    clear hg h
    simp only [List.cons.injEq, and_true] at e0 e1 e2
    exact ⟨⟨v0, v1, l0, l1, k2⟩, by simp only [smc3, e0, e1, e2], b2, r0, r1⟩
theorem opb_curbs {W : World} {fuel : Nat} {cs : List Value} {x : DataW H × List MemPlace} (h : DataW.trod enc Try.prog W 0 (fun _ => true) true fuel 38 cs = some x) (hb : Rows.uptoBulk x.1 ≤ 1048576) :
    ∃ (v : Value) (l : List (SmC)), cs = [v] ∧ Rd W 3 v l.length (l.flatMap smc3) ∧ (∀ q ∈ l, q.q < 256 ∧ Rd W 3 q.v1 q.l1.length (smallCells q.l1) ∧ Rd W 3 q.v2 q.l2.length (smallCells q.l2)) ∧ l.length ≤ 1048576 :=
  opb_rows (smc3) 3 (by decide) (fun _ => rfl) Try.underlying38 vCurb h hb (fun q => q.q < 256 ∧ Rd W 3 q.v1 q.l1.length (smallCells q.l1) ∧ Rd W 3 q.v2 q.l2.length (smallCells q.l2)) (fun _ _ _ h hb => opb_curb h hb)
theorem opb_size {W : World} {fuel : Nat} {cs : List Value} {x : DataW H × List MemPlace} (h : DataW.trod enc Try.prog W 0 (fun _ => true) true fuel 40 cs = some x) (_hb : Rows.uptoBulk x.1 ≤ 1048576) : ∃ s : SizeV, cs = sizeCells s ∧ s.ok W := by
  obtain ⟨hl, n, hg⟩ := opb_fields Try.underlying40 h
  rw [vSize] at hl
  match cs, hl with
  | [c0, c1, c2, c3, c4, c5, c6, c7, c8, c9, c10], _ =>
    obtain ⟨y0, g0, kb0⟩ := hg 0 34 0 rfl
    have kb0 := Nat.le_trans kb0 _hb
    rw [vBy] at g0
    simp only [List.take_succ_cons, List.take_zero, List.drop_zero] at g0
    obtain ⟨v0, l0, e0, r0, d0, n0⟩ := opb_u8s g0 kb0
    obtain ⟨y1, g1, kb1⟩ := hg 1 34 1 rfl
    have kb1 := Nat.le_trans kb1 _hb
    rw [vBy] at g1
    simp only [List.drop_succ_cons, List.take_succ_cons, List.take_zero, List.drop_zero] at g1
    obtain ⟨v1, l1, e1, r1, d1, n1⟩ := opb_u8s g1 kb1
    obtain ⟨y2, g2, kb2⟩ := hg 2 35 2 rfl
    have kb2 := Nat.le_trans kb2 _hb
    rw [vU16s] at g2
    simp only [List.drop_succ_cons, List.take_succ_cons, List.take_zero, List.drop_zero] at g2
    obtain ⟨v2, l2, e2, r2⟩ := opb_u16s g2 kb2
    obtain ⟨y3, g3, kb3⟩ := hg 3 36 3 rfl
    have kb3 := Nat.le_trans kb3 _hb
    rw [vRules] at g3
    simp only [List.drop_succ_cons, List.take_succ_cons, List.take_zero, List.drop_zero] at g3
    obtain ⟨v3, l3, e3, r3, d3, _⟩ := opb_rules g3 kb3
    obtain ⟨y4, g4, kb4⟩ := hg 4 5 4 rfl
    have kb4 := Nat.le_trans kb4 _hb
    rw [vU8] at g4
    simp only [List.drop_succ_cons, List.take_succ_cons, List.take_zero, List.drop_zero] at g4
    obtain ⟨k4, b4, e4⟩ := op_u8 Try.underlying5 g4
    obtain ⟨y5, g5, kb5⟩ := hg 5 5 5 rfl
    have kb5 := Nat.le_trans kb5 _hb
    rw [vU8] at g5
    simp only [List.drop_succ_cons, List.take_succ_cons, List.take_zero, List.drop_zero] at g5
    obtain ⟨k5, b5, e5⟩ := op_u8 Try.underlying5 g5
    obtain ⟨y6, g6, kb6⟩ := hg 6 5 6 rfl
    have kb6 := Nat.le_trans kb6 _hb
    rw [vU8] at g6
    simp only [List.drop_succ_cons, List.take_succ_cons, List.take_zero, List.drop_zero] at g6
    obtain ⟨k6, b6, e6⟩ := op_u8 Try.underlying5 g6
    obtain ⟨y7, g7, kb7⟩ := hg 7 5 7 rfl
    have kb7 := Nat.le_trans kb7 _hb
    rw [vU8] at g7
    simp only [List.drop_succ_cons, List.take_succ_cons, List.take_zero, List.drop_zero] at g7
    obtain ⟨k7, b7, e7⟩ := op_u8 Try.underlying5 g7
    obtain ⟨y8, g8, kb8⟩ := hg 8 5 8 rfl
    have kb8 := Nat.le_trans kb8 _hb
    rw [vU8] at g8
    simp only [List.drop_succ_cons, List.take_succ_cons, List.take_zero, List.drop_zero] at g8
    obtain ⟨k8, b8, e8⟩ := op_u8 Try.underlying5 g8
    obtain ⟨y9, g9, kb9⟩ := hg 9 37 9 rfl
    have kb9 := Nat.le_trans kb9 _hb
    rw [vNodes] at g9
    simp only [List.drop_succ_cons, List.take_succ_cons, List.take_zero, List.drop_zero] at g9
    obtain ⟨v9, l9, e9, r9, d9, _⟩ := opb_nodes g9 kb9
    obtain ⟨y10, g10, kb10⟩ := hg 10 38 10 rfl
    have kb10 := Nat.le_trans kb10 _hb
    rw [vCurbs] at g10
    simp only [List.drop_succ_cons, List.take_succ_cons, List.take_zero, List.drop_zero] at g10
    obtain ⟨v10, l10, e10, r10, d10, _⟩ := opb_curbs g10 kb10
    clear hg h
    simp only [List.cons.injEq, and_true] at e0 e1 e2 e3 e4 e5 e6 e7 e8 e9 e10
    exact ⟨⟨v0, v1, v2, v3, v9, v10, l0, l1, l2, l3, l9, l10, k4, k5, k6, k7, k8⟩, by simp only [sizeCells, e0, e1, e2, e3, e4, e5, e6, e7, e8, e9, e10], ⟨⟨r0, d0⟩, ⟨r1, d1⟩, r2, ⟨r3, d3⟩, ⟨r9, d9⟩, ⟨r10, d10⟩, ⟨n0, n1⟩, ⟨b4, b5, b6, b7, b8⟩⟩⟩
/-- An alert as it is handed in. -/
def AlV.pre (a : AlV) (W : World) : Prop := (a.ps.length ≤ 12 → a.fit) ∧ Rd W 2 a.lv a.ps.length (pairCells a.ps)
theorem opb_alert {W : World} {fuel : Nat} {cs : List Value} {x : DataW H × List MemPlace} (h : DataW.trod enc Try.prog W 0 (fun _ => true) true fuel 45 cs = some x) (_hb : Rows.uptoBulk x.1 ≤ 1048576) : ∃ a : AlV, cs = al7 a ∧ a.pre W := by
  obtain ⟨hl, n, hg⟩ := opb_fields Try.underlying45 h
  rw [vAlert] at hl
  match cs, hl with
  | [c0, c1, c2, c3, c4, c5, c6], _ =>
    obtain ⟨y0, g0, kb0⟩ := hg 0 5 0 rfl
    have kb0 := Nat.le_trans kb0 _hb
    rw [vU8] at g0
    simp only [List.take_succ_cons, List.take_zero, List.drop_zero] at g0
    obtain ⟨k0, b0, e0⟩ := op_u8 Try.underlying5 g0
    obtain ⟨y1, g1, kb1⟩ := hg 1 9 1 rfl
    have kb1 := Nat.le_trans kb1 _hb
    rw [vStr] at g1
    simp only [List.drop_succ_cons, List.take_succ_cons, List.take_zero, List.drop_zero] at g1
    obtain ⟨s1, b1, e1⟩ := opb_str Try.underlying9 g1 kb1
    obtain ⟨y2, g2, kb2⟩ := hg 2 42 2 rfl
    have kb2 := Nat.le_trans kb2 _hb
    rw [vPairs] at g2
    simp only [List.drop_succ_cons, List.take_succ_cons, List.take_zero, List.drop_zero] at g2
    obtain ⟨v2, l2, e2, r2, d2, _⟩ := opb_pairs g2 kb2
    obtain ⟨y3, g3, kb3⟩ := hg 3 43 3 rfl
    have kb3 := Nat.le_trans kb3 _hb
    rw [vState] at g3
    simp only [List.drop_succ_cons, List.take_succ_cons, List.take_zero, List.drop_zero] at g3
    obtain ⟨k3, b3, e3⟩ := op_u8 Try.underlying43 g3
    obtain ⟨y4, g4, kb4⟩ := hg 4 27 4 rfl
    have kb4 := Nat.le_trans kb4 _hb
    rw [vU64] at g4
    simp only [List.drop_succ_cons, List.take_succ_cons, List.take_zero, List.drop_zero] at g4
    obtain ⟨k4, b4, e4⟩ := op_u64 Try.underlying27 g4
    obtain ⟨y5, g5, kb5⟩ := hg 5 5 5 rfl
    have kb5 := Nat.le_trans kb5 _hb
    rw [vU8] at g5
    simp only [List.drop_succ_cons, List.take_succ_cons, List.take_zero, List.drop_zero] at g5
    obtain ⟨k5, b5, e5⟩ := op_u8 Try.underlying5 g5
    obtain ⟨y6, g6, kb6⟩ := hg 6 2 6 rfl
    have kb6 := Nat.le_trans kb6 _hb
    rw [vI64] at g6
    simp only [List.drop_succ_cons, List.take_succ_cons, List.take_zero, List.drop_zero] at g6
    obtain ⟨k6, b6, d6, e6⟩ := op_i64 Try.underlying2 g6
    clear hg h
    simp only [List.cons.injEq, and_true] at e0 e1 e2 e3 e4 e5 e6
    exact ⟨⟨k0, s1, v2, l2, k3, k4, k5, k6⟩, by simp only [al7, e0, e1, e2, e3, e4, e5, e6], fun h12 => ⟨b0, b1, by
      have h1 := textL_bound 1048576 l2 d2
      have h2 : l2.length ≤ 12 := h12
      calc (textL l2).length ≤ l2.length * (2 * 1048576 + 2) := h1
        _ ≤ 12 * (2 * 1048576 + 2) := Nat.mul_le_mul_right _ h2
        _ ≤ 100000000 := by decide, b3, b4, b6, d6⟩, r2⟩
theorem opb_alerts {W : World} {fuel : Nat} {cs : List Value} {x : DataW H × List MemPlace} (h : DataW.trod enc Try.prog W 0 (fun _ => true) true fuel 50 cs = some x) (hb : Rows.uptoBulk x.1 ≤ 1048576) :
    ∃ (v : Value) (l : List (AlV)), cs = [v] ∧ Rd W 7 v l.length (l.flatMap al7) ∧ (∀ q ∈ l, q.pre W) ∧ l.length ≤ 1048576 :=
  opb_rows (al7) 7 (by decide) (fun _ => rfl) Try.underlying50 vAlert h hb (fun q => q.pre W) (fun _ _ _ h hb => opb_alert h hb)
theorem opb_notice {W : World} {fuel : Nat} {cs : List Value} {x : DataW H × List MemPlace} (h : DataW.trod enc Try.prog W 0 (fun _ => true) true fuel 52 cs = some x) (_hb : Rows.uptoBulk x.1 ≤ 1048576) : ∃ (nt : Nat) (to : ByteArray) (gv : Value) (gp : List (ByteArray × ByteArray)) (nv : Value) (L : List AlV), cs = [.int .u64 nt, .string to, gv, nv] ∧ nt < 18446744073709551616 ∧ to.size ≤ 1048576 ∧ Rd W 2 gv gp.length (pairCells gp) ∧ (∀ p ∈ gp, p.1.size ≤ 1048576 ∧ p.2.size ≤ 1048576) ∧ Rd W 7 nv L.length (L.flatMap al7) ∧ ∀ x ∈ L, x.pre W := by
  obtain ⟨hl, n, hg⟩ := opb_fields Try.underlying52 h
  rw [vNotice] at hl
  match cs, hl with
  | [c0, c1, c2, c3], _ =>
    obtain ⟨y0, g0, kb0⟩ := hg 0 27 0 rfl
    have kb0 := Nat.le_trans kb0 _hb
    rw [vU64] at g0
    simp only [List.take_succ_cons, List.take_zero, List.drop_zero] at g0
    obtain ⟨k0, b0, e0⟩ := op_u64 Try.underlying27 g0
    obtain ⟨y1, g1, kb1⟩ := hg 1 9 1 rfl
    have kb1 := Nat.le_trans kb1 _hb
    rw [vStr] at g1
    simp only [List.drop_succ_cons, List.take_succ_cons, List.take_zero, List.drop_zero] at g1
    obtain ⟨s1, b1, e1⟩ := opb_str Try.underlying9 g1 kb1
    obtain ⟨y2, g2, kb2⟩ := hg 2 42 2 rfl
    have kb2 := Nat.le_trans kb2 _hb
    rw [vPairs] at g2
    simp only [List.drop_succ_cons, List.take_succ_cons, List.take_zero, List.drop_zero] at g2
    obtain ⟨v2, l2, e2, r2, d2, _⟩ := opb_pairs g2 kb2
    obtain ⟨y3, g3, kb3⟩ := hg 3 50 3 rfl
    have kb3 := Nat.le_trans kb3 _hb
    rw [vAlerts] at g3
    simp only [List.drop_succ_cons, List.take_succ_cons, List.take_zero, List.drop_zero] at g3
    obtain ⟨v3, l3, e3, r3, d3, _⟩ := opb_alerts g3 kb3
    clear hg h
    simp only [List.cons.injEq, and_true] at e0 e1 e2 e3
    exact ⟨k0, s1, v2, l2, v3, l3, by rw [e0, e1, e2, e3], b0, b1, r2, d2, r3, d3⟩
theorem opb_al6 {W : World} {fuel : Nat} {cs : List Value} {x : DataW H × List MemPlace} (h : DataW.trod enc Try.prog W 0 (fun _ => true) true fuel 23 cs = some x) (_hb : Rows.uptoBulk x.1 ≤ 1048576) : ∃ x : Al6, cs = al6 x ∧ x.ok := by
  obtain ⟨hl, n, hg⟩ := opb_fields Try.underlying23 h
  rw [vAl6] at hl
  match cs, hl with
  | [c0, c1, c2, c3, c4, c5], _ =>
    obtain ⟨y0, g0, kb0⟩ := hg 0 5 0 rfl
    have kb0 := Nat.le_trans kb0 _hb
    rw [vU8] at g0
    simp only [List.take_succ_cons, List.take_zero, List.drop_zero] at g0
    obtain ⟨k0, b0, e0⟩ := op_u8 Try.underlying5 g0
    obtain ⟨y1, g1, kb1⟩ := hg 1 5 1 rfl
    have kb1 := Nat.le_trans kb1 _hb
    rw [vU8] at g1
    simp only [List.drop_succ_cons, List.take_succ_cons, List.take_zero, List.drop_zero] at g1
    obtain ⟨k1, b1, e1⟩ := op_u8 Try.underlying5 g1
    obtain ⟨y2, g2, kb2⟩ := hg 2 5 2 rfl
    have kb2 := Nat.le_trans kb2 _hb
    rw [vU8] at g2
    simp only [List.drop_succ_cons, List.take_succ_cons, List.take_zero, List.drop_zero] at g2
    obtain ⟨k2, b2, e2⟩ := op_u8 Try.underlying5 g2
    obtain ⟨y3, g3, kb3⟩ := hg 3 5 3 rfl
    have kb3 := Nat.le_trans kb3 _hb
    rw [vU8] at g3
    simp only [List.drop_succ_cons, List.take_succ_cons, List.take_zero, List.drop_zero] at g3
    obtain ⟨k3, b3, e3⟩ := op_u8 Try.underlying5 g3
    obtain ⟨y4, g4, kb4⟩ := hg 4 5 4 rfl
    have kb4 := Nat.le_trans kb4 _hb
    rw [vU8] at g4
    simp only [List.drop_succ_cons, List.take_succ_cons, List.take_zero, List.drop_zero] at g4
    obtain ⟨k4, b4, e4⟩ := op_u8 Try.underlying5 g4
    obtain ⟨y5, g5, kb5⟩ := hg 5 5 5 rfl
    have kb5 := Nat.le_trans kb5 _hb
    rw [vU8] at g5
    simp only [List.drop_succ_cons, List.take_succ_cons, List.take_zero, List.drop_zero] at g5
    obtain ⟨k5, b5, e5⟩ := op_u8 Try.underlying5 g5
    clear hg h
    simp only [List.cons.injEq, and_true] at e0 e1 e2 e3 e4 e5
    exact ⟨⟨k0, k1, k2, k3, k4, k5⟩, by simp only [al6, e0, e1, e2, e3, e4, e5], b0, b1, b2, b3, b4, b5⟩
theorem opb_al6s {W : World} {fuel : Nat} {cs : List Value} {x : DataW H × List MemPlace} (h : DataW.trod enc Try.prog W 0 (fun _ => true) true fuel 53 cs = some x) (hb : Rows.uptoBulk x.1 ≤ 1048576) :
    ∃ (v : Value) (l : List (Al6)), cs = [v] ∧ Rd W 6 v l.length (l.flatMap al6) ∧ (∀ q ∈ l, q.ok) ∧ l.length ≤ 1048576 :=
  opb_rows (al6) 6 (by decide) (fun _ => rfl) Try.underlying53 vAl6 h hb (fun q => q.ok) (fun _ _ _ h hb => opb_al6 h hb)
theorem agg_of {W : World} {b0 : Nat} {t : TypeId} {fs : Array Field} {v : Value} {l : List Value} (hs : Try.prog.underlying t = some (.struct fs)) (hv : Value.okWide Try.prog W .any b0 t v) (h : v.cells.toList = l) : v = .agg l.toArray := by
  obtain ⟨cs, rfl, _⟩ := okWide_struct hs hv
  subst h
  simp [Value.cells]
end
end Go.Proofs.Ytdghpjkjhlankaa
