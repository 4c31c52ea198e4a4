/-
  A disk as a part of memory.
-/
import Derived.Test.YtdmdfccadjfpiaaGreatSt
import Derived.Test.YtdmdfccadjfpiaaGreatDisk3
namespace Go.Proofs.YtdmdfccadjfpiaaGreat
open Go.RowKit
set_option maxRecDepth 100000

def chObj (g : Nat) (o : Obj) : Chunk :=
  ⟨[g], fun w => w.heap[g]? = some o, fun _ _ h hP => (h g (.head _)).trans hP, fun w hP b hb => by rw [List.mem_singleton.1 hb]; exact (Array.getElem?_eq_some_iff.1 hP).1⟩
theorem Upd.obj {S : List Nat} {w0 w : World} {C : List Chunk} (h : Upd S w0 C w) (i : Nat) {g : Nat} {o : Obj} (hi : C[i]? = some (chObj g o)) : w.heap[g]? = some o := h.get i hi
def filesFp (fs : List FileV) : List Nat := fs.flatMap fun f => rdFp f.val f.bytes.length
theorem mem_filesFp {fs : List FileV} {b : Nat} : b ∈ filesFp fs ↔ ∃ f ∈ fs, b ∈ rdFp f.val f.bytes.length := by simp [filesFp]
theorem DiskAt.locA {w w' : World} {d m : Nat} {fs : List FileV} (h : ∀ b ∈ d :: m :: filesFp fs, w'.heap[b]? = w.heap[b]?) (hD : DiskAt w d m fs) : DiskAt w' d m fs := by
  obtain ⟨⟨a, b, h1⟩, ⟨es, c, h2, h3⟩, h4, ⟨es2, c2, h5, h6⟩⟩ := hD
  have em : w'.heap[m]? = w.heap[m]? := h m (.tail _ (.head _))
  refine ⟨⟨a, b, (h d (.head _)).trans h1⟩, ⟨es, c, em.trans h2, h3⟩, fun f hf => ⟨?_, (h4 f hf).2⟩, ⟨es2, c2, em.trans h5, h6⟩⟩
  exact (chRd 1 f.val f.bytes.length (u8L f.bytes) (by decide)).loc w w' (fun b hb => h b (.tail _ (.tail _ (mem_filesFp.2 ⟨f, hf, hb⟩)))) (h4 f hf).1
theorem DiskAt.innA {w : World} {d m : Nat} {fs : List FileV} (hD : DiskAt w d m fs) : ∀ b ∈ d :: m :: filesFp fs, b < w.heap.size := by
  obtain ⟨⟨x, y, h1⟩, ⟨es, c, h2, h3⟩, h4, _⟩ := hD
  intro b hb
  rcases List.mem_cons.1 hb with rfl | hb
  · exact h1.lt
  rcases List.mem_cons.1 hb with rfl | hb
  · exact (Array.getElem?_eq_some_iff.1 h2).1
  obtain ⟨f, hf, hb⟩ := mem_filesFp.1 hb
  exact (chRd 1 f.val f.bytes.length (u8L f.bytes) (by decide)).inn w (h4 f hf).1 b hb
def chDisk (d m : Nat) (fs : List FileV) : Chunk := ⟨d :: m :: filesFp fs, fun w => DiskAt w d m fs, fun _ _ h hP => hP.locA h, fun _ hP => hP.innA⟩
theorem Upd.disk {S : List Nat} {w0 w : World} {C : List Chunk} (h : Upd S w0 C w) (i : Nat) {d m : Nat} {fs : List FileV} (hi : C[i]? = some (chDisk d m fs)) : DiskAt w d m fs := h.get i hi
theorem Upd.ofMod {w w' : World} {d m : Nat} {fs fs' : List FileV} (hM : Mod [d, m] w w') (hD' : DiskAt w' d m fs')
    (hf : ∀ g ∈ fs', (∀ b ∈ rdFp g.val g.bytes.length, w.heap.size ≤ b) ∨ ∃ f ∈ fs, f.val = g.val ∧ f.bytes.length = g.bytes.length) : Upd (chDisk d m fs).fp w [chDisk d m fs'] w' := by
  refine ⟨hM.os, hM.tape, hM.output, hM.size, fun k hk hne => hM.block k hk fun hm => hne ?_, fun c hc => by rw [List.mem_singleton.1 hc]; exact hD', fun c hc b hb => ?_, by simp⟩
  · simp only [List.mem_cons, List.mem_nil_iff, or_false] at hm
    rcases hm with rfl | rfl
    · exact .head _
    · exact .tail _ (.head _)
  · rw [List.mem_singleton.1 hc] at hb
    rcases List.mem_cons.1 hb with rfl | hb
    · exact .inl (.head _)
    rcases List.mem_cons.1 hb with rfl | hb
    · exact .inl (.tail _ (.head _))
    obtain ⟨g, hg, hb⟩ := mem_filesFp.1 hb
    rcases hf g hg with h1 | ⟨f, hf, e1, e2⟩
    · exact .inr (h1 b hb)
    · exact .inl (.tail _ (.tail _ (mem_filesFp.2 ⟨f, hf, by rw [e1, e2]; exact hb⟩)))
/-- A disk with its counts. -/
def DiskC (w : World) (d m : Nat) (a b : Int) (fs : List FileV) : Prop := DiskAt w d m fs ∧ Blk w d #[.map (some m), .int .i64 a, .int .i64 b] 121
def chDiskC (d m : Nat) (a b : Int) (fs : List FileV) : Chunk := ⟨d :: m :: filesFp fs, fun w => DiskC w d m a b fs, fun _ _ h hP => ⟨hP.1.locA h, (h d (.head _)).trans hP.2⟩, fun _ hP => hP.1.innA⟩
theorem Upd.diskC {S : List Nat} {w0 w : World} {C : List Chunk} (h : Upd S w0 C w) (i : Nat) {d m : Nat} {a b : Int} {fs : List FileV} (hi : C[i]? = some (chDiskC d m a b fs)) : DiskC w d m a b fs := h.get i hi
theorem Upd.ofModC {w w' : World} {d m : Nat} {a b : Int} {fs fs' : List FileV} (hM : Mod [d, m] w w') (hD' : DiskC w' d m a b fs')
    (hf : ∀ g ∈ fs', (∀ b ∈ rdFp g.val g.bytes.length, w.heap.size ≤ b) ∨ ∃ f ∈ fs, f.val = g.val ∧ f.bytes.length = g.bytes.length) : Upd (d :: m :: filesFp fs) w [chDiskC d m a b fs'] w' := by
  have h := Upd.ofMod hM hD'.1 hf
  exact h.say (chDiskC d m a b fs') hD' (fun _ hb => hb)
theorem fresh_val {v : Value} {n B : Nat} (h : ∀ g, v.ownBlock = some g → B ≤ g) : ∀ b ∈ rdFp v n, B ≤ b := by
  intro b hb
  unfold rdFp at hb
  split at hb
  · cases hb
  · exact h b (by simpa using hb)
theorem DiskAt.nodup {w : World} {d m : Nat} {fs : List FileV} (h : DiskAt w d m fs) : (fs.map (·.name)).Nodup := by
  obtain ⟨es, c, h2, h3⟩ := h.map
  obtain ⟨es2, c2, h5, h6⟩ := h.stamp
  rw [h2] at h5
  injection h5 with h5
  injection h5 with e1 e2
  subst e1 e2
  have hk : es.toList.map (·.key) = fs.map fun f => Value.string f.name := by
    have := congrArg (List.map Prod.fst) h3
    simpa [List.map_map, Function.comp_def, kvOf] using this
  have hn := h6.2.2
  rw [hk] at hn
  have : (fs.map fun f => Value.string f.name) = (fs.map (·.name)).map Value.string := by simp
  rw [this] at hn
  exact (List.pairwise_map.1 hn).imp fun h e => h (congrArg Value.string e)
theorem find_of_mem {fs : List FileV} (hn : (fs.map (·.name)).Nodup) {f : FileV} (hf : f ∈ fs) : findF fs f.name = some f := by
  induction fs with
  | nil => cases hf
  | cons g r ih =>
    simp only [List.map_cons, List.nodup_cons] at hn
    rcases List.mem_cons.1 hf with rfl | hf
    · simp [findF]
    · have : f.name ≠ g.name := fun e => hn.1 (e ▸ List.mem_map.2 ⟨f, hf, rfl⟩)
      simp only [findF, if_neg this]
      exact ih hn.2 hf
theorem find_none {fs : List FileV} {s : ByteArray} : findF fs s = none ↔ s ∉ fs.map (·.name) := by
  induction fs with
  | nil => simp [findF]
  | cons g r ih =>
    simp only [findF, List.map_cons, List.mem_cons]
    by_cases h : s = g.name
    · simp [h]
    · simp [h, ih]
theorem putF_names {fs : List FileV} {g : FileV} : (putF fs g).map (·.name) = if (findF fs g.name).isSome = true then fs.map (·.name) else fs.map (·.name) ++ [g.name] := by
  induction fs with
  | nil => simp [putF, findF]
  | cons a r ih =>
    simp only [putF, findF]
    by_cases h : g.name = a.name
    · simp [h]
    · simp only [h, if_false, List.map_cons, ih]
      split <;> simp
theorem putF_len {fs : List FileV} {g : FileV} : (putF fs g).length = if (findF fs g.name).isSome = true then fs.length else fs.length + 1 := by
  have h := congrArg List.length (putF_names (fs := fs) (g := g))
  rw [List.length_map] at h
  rw [h]
  split <;> simp

theorem diskAppendU (d m : Nat) (fs : List FileV) (s : ByteArray) (v : Value) (l : List UInt8) (w : World) (hD : DiskAt w d m fs) (hs : s.size ≤ maxLen) (hw : wordB s 16 true = true) (hroom : (findF fs s).isSome = true ∨ fs.length ≠ 64)
    (hl : Rd w 1 v l.length (u8L l)) (hsum : (hadF fs s).1.length + l.length ≤ 1048576) :
    Calls Tryz.prog 18 #[.pointer (some ⟨d, 0, none⟩), .string s, v] w fun e w' => e = .returned (.int .i64 0) ∧ ∃ v', Upd (chDisk d m fs).fp w [chDisk d m (putF fs ⟨s, v', (hadF fs s).1 ++ l, (hadF fs s).2⟩)] w' :=
  (diskAppendN d m fs s v l w hD hs hw hroom hl hsum).mono fun _ _ ⟨h1, ⟨v', h2, h3⟩, h4⟩ => ⟨h1, v', Upd.ofMod h4 h2 fun g hg => by
    rcases putF_mem hg with rfl | hg
    · exact .inl (fresh_val h3)
    · exact .inr ⟨g, hg, rfl, rfl⟩⟩
theorem diskSyncU (d m : Nat) (fs : List FileV) (s : ByteArray) (f : FileV) (w : World) (hD : DiskAt w d m fs) (hf : findF fs s = some f) :
    Calls Tryz.prog 72 #[.pointer (some ⟨d, 0, none⟩), .string s] w fun e w' => e = .returned (.int .i64 0) ∧ Upd (chDisk d m fs).fp w [chDisk d m (putF fs { f with synced := f.bytes.length })] w' :=
  (diskSync d m fs s f w hD hf).mono fun _ _ ⟨h1, h2, h4⟩ => ⟨h1, Upd.ofMod h4 h2 fun g hg => by
    rcases putF_mem hg with rfl | hg
    · exact .inr ⟨f, (findF_mem hf).1, rfl, rfl⟩
    · exact .inr ⟨g, hg, rfl, rfl⟩⟩
end Go.Proofs.YtdmdfccadjfpiaaGreat
