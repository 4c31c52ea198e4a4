/-
  The document's disk as a part of memory.
-/
import Derived.Test.YtdjdhakmigofmaaDisk4
import Derived.Test.YtdjdhakmigofmaaChS
namespace Go.Proofs.Ytdjdhakmigofmaa
open Go.RowKit
set_option maxRecDepth 100000

/-- A file of the document's list, as cells; as it is meant. -/
def rcell (f : FileV) : List Value := [.string f.name, f.val, .int .i64 f.synced]
def rdatF (f : FileV) : RF := (f.name, f.bytes, f.synced)
def goodF (w : World) (f : FileV) : Prop := Rd w 1 f.val f.bytes.length (u8L f.bytes) ∧ f.synced ≤ f.bytes.length ∧ f.bytes.length ≤ 1048576
def chFiles (fs : List FileV) : Chunk :=
  ⟨filesFp fs, fun w => ∀ f ∈ fs, goodF w f, fun w w' h hP f hf => ⟨(chRd 1 f.val f.bytes.length (u8L f.bytes) (by decide)).loc w w' (fun b hb => h b (mem_filesFp.2 ⟨f, hf, hb⟩)) (hP f hf).1, (hP f hf).2⟩, fun w hP b hb => by
    obtain ⟨f, hf, hb⟩ := mem_filesFp.1 hb
    exact (chRd 1 f.val f.bytes.length (u8L f.bytes) (by decide)).inn w (hP f hf).1 b hb⟩
theorem Upd.files {S : List Nat} {w0 w : World} {C : List Chunk} (h : Upd S w0 C w) (i : Nat) {fs : List FileV} (hi : C[i]? = some (chFiles fs)) : ∀ f ∈ fs, goodF w f := h.get i hi
def chDk (g : Nat) (lv : Value) (a b : Int) : Chunk := chBlk g #[lv, .int .i64 a, .int .i64 b] 48
def chFr (lv : Value) (fs : List FileV) : Chunk := chRow 90 3 lv fs.length (fs.flatMap rcell)
/-- The list without what its files' bytes are. -/
def chL (g : Nat) (lv : Value) (a b : Int) (fs : List FileV) : Chunk := chSet [chDk g lv a b, chFr lv fs]
def chM (g : Nat) (lv : Value) (a b : Int) (fs : List FileV) : Chunk := chSet [chDk g lv a b, chFr lv fs, chFiles fs]
theorem chFiles_sub {S : List Nat} {w0 w : World} {C : List Chunk} {fs fs' : List FileV} (h : Upd S w0 (chFiles fs :: C) w) (hs : ∀ f ∈ fs', f ∈ fs) : Upd S w0 (chFiles fs' :: C) w :=
  h.say (chFiles fs') (fun f hf => h.files 0 rfl f (hs f hf)) fun b hb => by
    obtain ⟨f, hf, hb⟩ := mem_filesFp.1 hb
    exact mem_filesFp.2 ⟨f, hs f hf, hb⟩
/-- Each file's bytes are one of the old ones', under whatever name. -/
theorem chFiles_re {S : List Nat} {w0 w : World} {C : List Chunk} {fs fs' : List FileV} (h : Upd S w0 (chFiles fs :: C) w) (hs : ∀ f ∈ fs', ∃ g ∈ fs, f.val = g.val ∧ f.bytes = g.bytes ∧ f.synced ≤ f.bytes.length) : Upd S w0 (chFiles fs' :: C) w :=
  h.say (chFiles fs') (fun f hf => by
    obtain ⟨g, hg, e1, e2, e3⟩ := hs f hf
    have h1 := h.files 0 rfl g hg
    unfold goodF
    rw [e1, e2]
    exact ⟨h1.1, by rw [← e2]; exact e3, h1.2.2⟩) fun b hb => by
    obtain ⟨f, hf, hb⟩ := mem_filesFp.1 hb
    obtain ⟨g, hg, e1, e2, _⟩ := hs f hf
    exact mem_filesFp.2 ⟨g, hg, by rw [← e1, ← e2]; exact hb⟩
/-- A row of bytes that is new becomes a file's. -/
theorem chFiles_row {S : List Nat} {w0 w : World} {C : List Chunk} {fs fs' : List FileV} {v : Value} {l : List UInt8} (h : Upd S w0 (chRow 5 1 v l.length (u8L l) :: chFiles fs :: C) w) (hl : l.length ≤ 1048576)
    (hs : ∀ f ∈ fs', (f.val = v ∧ f.bytes = l ∧ f.synced ≤ l.length) ∨ f ∈ fs) : Upd S w0 (chFiles fs' :: C) w := by
  refine h.join (chFiles fs') (fun f hf => ?_) fun b hb => ?_
  · rcases hs f hf with ⟨e1, e2, e3⟩ | hf
    · unfold goodF
      rw [e1, e2]
      exact ⟨rd_of_owns (h.row 0 rfl), e3, hl⟩
    · exact h.files 1 rfl f hf
  · obtain ⟨f, hf, hb⟩ := mem_filesFp.1 hb
    rcases hs f hf with ⟨e1, e2, _⟩ | hf
    · left
      rw [e1, e2] at hb
      unfold rdFp at hb
      split at hb
      · cases hb
      · exact hb
    · exact .inr (mem_filesFp.2 ⟨f, hf, hb⟩)
/-- A file at its place. -/
def addV : List FileV → FileV → List FileV
  | [], g => [g]
  | f :: r, g => if nameL f.name < nameL g.name then f :: addV r g else g :: f :: r
theorem addV_map (fs : List FileV) (g : FileV) : (addV fs g).map rdatF = addR (fs.map rdatF) (rdatF g) := by
  induction fs with
  | nil => rfl
  | cons f r ih =>
    simp only [addV, List.map_cons, addR, rdatF]
    split
    · simp only [List.map_cons, rdatF]
      rw [show List.map rdatF (addV r g) = _ from ih]
      rfl
    · rfl
theorem addV_mem {fs : List FileV} {g f : FileV} : f ∈ addV fs g ↔ f = g ∨ f ∈ fs := by
  induction fs with
  | nil => simp [addV]
  | cons a r ih =>
    simp only [addV]
    split
    · simp only [List.mem_cons, ih]
      constructor
      · rintro (h | h | h)
        · exact .inr (.inl h)
        · exact .inl h
        · exact .inr (.inr h)
      · rintro (h | h | h)
        · exact .inr (.inl h)
        · exact .inl h
        · exact .inr (.inr h)
    · simp
theorem addV_split {fs : List FileV} {g : FileV} : ∀ {k : Nat}, k ≤ fs.length → (∀ j f, j < k → fs[j]? = some f → nameL f.name < nameL g.name) → (∀ f, fs[k]? = some f → ¬ nameL f.name < nameL g.name) → addV fs g = fs.take k ++ g :: fs.drop k := by
  induction fs with
  | nil => intro k hk _ _; simp [addV]
  | cons a r ih =>
    intro k hk h1 h2
    cases k with
    | zero =>
      have := h2 a rfl
      simp [addV, this]
    | succ k =>
      have := h1 0 a (by omega) rfl
      simp only [addV, if_pos this, List.take_succ_cons, List.drop_succ_cons, List.cons_append]
      rw [ih (k := k) (by simpa using hk) (fun j f hj hf => h1 (j + 1) f (by omega) hf) (fun f hf => h2 f hf)]
theorem flat_rcell (fs : List FileV) : (fs.flatMap rcell).length = fs.length * 3 := flat_len rcell 3 (fun _ => rfl) fs
theorem flat_take {α : Type} (f : α → List Value) (n : Nat) (hn : ∀ x, (f x).length = n) (l : List α) (k : Nat) : (l.flatMap f).take (k * n) = (l.take k).flatMap f := by
  induction l generalizing k with
  | nil => simp
  | cons a r ih =>
    cases k with
    | zero => simp
    | succ k =>
      rw [List.flatMap_cons, List.take_succ_cons, List.flatMap_cons, ← ih k, List.take_append, hn, Nat.succ_mul, Nat.add_sub_cancel, List.take_of_length_le (by rw [hn]; omega)]
theorem flat_drop {α : Type} (f : α → List Value) (n : Nat) (hn : ∀ x, (f x).length = n) (l : List α) (k : Nat) : (l.flatMap f).drop (k * n) = (l.drop k).flatMap f := by
  induction l generalizing k with
  | nil => simp
  | cons a r ih =>
    cases k with
    | zero => simp
    | succ k =>
      rw [List.flatMap_cons, List.drop_succ_cons, ← ih k, List.drop_append, hn, Nat.succ_mul, Nat.add_sub_cancel, List.drop_of_length_le (by rw [hn]; omega), List.nil_append]
/-- Rows of structs, a part of them. -/
theorem Rd.preN {w : World} {A : Option Addr} {n c m size : Nat} {xs : List Value} (h : Rd w size (.slice A n c) n xs) (hm : m ≤ n) : Rd w size (.slice A m c) m (xs.take (m * size)) := by
  obtain ⟨A', c', he, h1, h2, h3, h4⟩ := h
  cases he
  refine ⟨_, _, rfl, ?_, by omega, h3, fun h0 => ?_⟩
  · rw [List.length_take, h1, Nat.min_eq_left (Nat.mul_le_mul_right _ hm)]
  obtain ⟨q, o, rfl, hr⟩ := h4 (by omega)
  refine ⟨q, o, rfl, fun j u hj => hr j u ?_⟩
  rw [List.getElem?_take] at hj
  split at hj
  · exact hj
  · cases hj
theorem Rd.sufN {w : World} {q o n c m size : Nat} {xs : List Value} (h : Rd w size (.slice (some ⟨q, o, none⟩) n c) n xs) (hm : m ≤ n) : Rd w size (.slice (some ⟨q, o + m * size, none⟩) (n - m) (c - m)) (n - m) (xs.drop (m * size)) := by
  obtain ⟨A', c', he, h1, h2, h3, h4⟩ := h
  cases he
  refine ⟨_, _, rfl, ?_, by omega, by omega, fun h0 => ?_⟩
  · rw [List.length_drop, h1, Nat.sub_mul]
  obtain ⟨q', o', hq, hr⟩ := h4 (by omega)
  cases hq
  refine ⟨q, o + m * size, rfl, fun j u hj => ?_⟩
  rw [List.getElem?_drop] at hj
  have := hr _ _ hj
  rwa [← Nat.add_assoc] at this
end Go.Proofs.Ytdjdhakmigofmaa
