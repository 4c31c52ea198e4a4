/-
  Two parts of memory as one; a journal with its disk and its table as a part of memory.
-/
import Derived.Test.YtdmdfccadjfpiaaGreatDSt
import Derived.Test.YtdmdfccadjfpiaaGreatSt2
import Derived.Test.YtdmdfccadjfpiaaGreatJsync
import Derived.Test.YtdmdfccadjfpiaaGreatJnil
namespace Go.Proofs.YtdmdfccadjfpiaaGreat
open Go.RowKit
set_option maxRecDepth 100000

/-- Two parts that do not meet, as one. -/
def chTwo (c d : Chunk) : Chunk :=
  ⟨c.fp ++ d.fp, fun w => c.P w ∧ d.P w ∧ ∀ b ∈ c.fp, b ∉ d.fp, fun w w' h hP => ⟨c.loc w w' (fun b hb => h b (List.mem_append_left _ hb)) hP.1, d.loc w w' (fun b hb => h b (List.mem_append_right _ hb)) hP.2.1, hP.2.2⟩, fun w hP b hb => by
    rcases List.mem_append.1 hb with hb | hb
    · exact c.inn w hP.1 b hb
    · exact d.inn w hP.2.1 b hb⟩
theorem two_open {w : World} {c d : Chunk} (hP : (chTwo c d).P w) : Upd (chTwo c d).fp w [c, d] w := by
  refine ⟨rfl, rfl, rfl, Nat.le_refl _, fun _ _ _ => rfl, fun x hx => ?_, fun x hx b hb => ?_, ?_⟩
  · simp only [List.mem_cons, List.not_mem_nil, or_false] at hx
    rcases hx with rfl | rfl
    · exact hP.1
    · exact hP.2.1
  · simp only [List.mem_cons, List.not_mem_nil, or_false] at hx
    rcases hx with rfl | rfl
    · exact .inl (List.mem_append_left _ hb)
    · exact .inl (List.mem_append_right _ hb)
  · rw [List.pairwise_cons]
    refine ⟨fun x hx b hb => ?_, by simp⟩
    rw [List.mem_singleton.1 hx]
    exact hP.2.2 b hb
theorem Upd.two {S : List Nat} {w0 w : World} {c d : Chunk} {C : List Chunk} (h : Upd S w0 (c :: d :: C) w) : Upd S w0 (chTwo c d :: C) w :=
  h.join (chTwo c d) ⟨h.get 0 rfl, h.get 1 rfl, (List.pairwise_cons.1 h.apart).1 d (.head _)⟩ fun _ hb => List.mem_append.1 hb
theorem Upd.unTwo {S : List Nat} {w0 w : World} {c d : Chunk} {C : List Chunk} (h : Upd S w0 (chTwo c d :: C) w) : Upd S w0 (c :: d :: C) w :=
  h.turn 0 rfl (two_open (h.get 0 rfl))
theorem TabOk.locA {w w' : World} {b : Nat} (h : w'.heap[b]? = w.heap[b]?) (hT : TabOk w b) : TabOk w' b := by
  obtain ⟨d, ws, s, t, h1, h2, h3, cs, hb, h4⟩ := hT
  exact ⟨d, ws, s, t, h1, h2, h3, cs, h.trans hb, h4⟩
theorem TabOk.ltA {w : World} {b : Nat} (hT : TabOk w b) : b < w.heap.size := by
  obtain ⟨d, ws, s, t, h1, h2, h3, cs, hb, h4⟩ := hT
  exact Blk.lt hb
/-- A table and a disk. -/
def chDT (d m b : Nat) (fs : List FileV) : Chunk :=
  ⟨b :: d :: m :: filesFp fs, fun w => TabOk w b ∧ DiskAt w d m fs ∧ b ∉ [d, m], fun _ _ h hP => ⟨hP.1.locA (h b (.head _)), hP.2.1.locA (fun x hx => h x (.tail _ hx)), hP.2.2⟩, fun _ hP x hx => by
    rcases List.mem_cons.1 hx with rfl | hx
    · exact hP.1.ltA
    · exact hP.2.1.innA x hx⟩
/-- A journal with its table and its disk. -/
def chJour (j d m b : Nat) (s : ByteArray) (k : Nat) (fs : List FileV) : Chunk :=
  ⟨j :: b :: d :: m :: filesFp fs, fun w => Blk w j #[.pointer (some ⟨d, 0, none⟩), .pointer (some ⟨b, 0, none⟩), .string s, .int .i64 k] 147 ∧ (chDT d m b fs).P w, fun _ _ h hP => ⟨(h j (.head _)).trans hP.1, (chDT d m b fs).loc _ _ (fun x hx => h x (.tail _ hx)) hP.2⟩, fun w hP x hx => by
    rcases List.mem_cons.1 hx with rfl | hx
    · exact hP.1.lt
    · exact (chDT d m b fs).inn w hP.2 x hx⟩
/-- The one file, so much of it synced; or none. -/
def hasJ (fs : List FileV) (s : ByteArray) (acc : List UInt8) (k : Nat) : Prop := (fs = [] ∧ acc = [] ∧ k = 0) ∨ ∃ v, fs = [⟨s, v, acc, k⟩]
theorem hasJ.had {fs : List FileV} {s : ByteArray} {acc : List UInt8} {k : Nat} (h : hasJ fs s acc k) : hadF fs s = (acc, k) ∧ (∀ v a n, putF fs ⟨s, v, a, n⟩ = [⟨s, v, a, n⟩]) ∧ fs.length ≠ 64 := by
  rcases h with ⟨rfl, rfl, rfl⟩ | ⟨v, rfl⟩
  · exact ⟨rfl, fun _ _ _ => rfl, by decide⟩
  · exact ⟨by simp [hadF, findF], fun _ _ _ => by simp [putF], by show 1 ≠ 64; decide⟩
theorem Upd.ofModJ {w w' : World} {j d m b k k' : Nat} {s : ByteArray} {fs fs' : List FileV} (hM : Mod [d, m, b, j] w w') (hP' : (chJour j d m b s k' fs').P w')
    (hf : ∀ g ∈ fs', (∀ x ∈ rdFp g.val g.bytes.length, w.heap.size ≤ x) ∨ ∃ f ∈ fs, f.val = g.val ∧ f.bytes.length = g.bytes.length) : Upd (chJour j d m b s k fs).fp w [chJour j d m b s k' fs'] w' := by
  refine ⟨hM.os, hM.tape, hM.output, hM.size, fun x hx hne => hM.block x hx fun hm => hne ?_, fun c hc => by rw [List.mem_singleton.1 hc]; exact hP', fun c hc x hx => ?_, by simp⟩
  · simp only [List.mem_cons, List.mem_nil_iff, or_false] at hm
    show x ∈ j :: b :: d :: m :: filesFp fs
    simp only [List.mem_cons]
    rcases hm with h | h | h | h <;> simp [h]
  · rw [List.mem_singleton.1 hc] at hx
    show x ∈ j :: b :: d :: m :: filesFp fs ∨ _
    have hx : x ∈ j :: b :: d :: m :: filesFp fs' := hx
    simp only [List.mem_cons] at hx ⊢
    rcases hx with h | h | h | h | hx
    · exact .inl (.inl h)
    · exact .inl (.inr (.inl h))
    · exact .inl (.inr (.inr (.inl h)))
    · exact .inl (.inr (.inr (.inr (.inl h))))
    · obtain ⟨g, hg, hx⟩ := mem_filesFp.1 hx
      rcases hf g hg with h1 | ⟨f, hf, e1, e2⟩
      · exact .inr (h1 x hx)
      · exact .inl (.inr (.inr (.inr (.inr (mem_filesFp.2 ⟨f, hf, by rw [e1, e2]; exact hx⟩)))))
theorem jAppendU (j d m b k ks : Nat) (s : ByteArray) (fs : List FileV) (acc : List UInt8) (v : Value) (l : List UInt8) (w : World) (hP : (chJour j d m b s k fs).P w) (hh : hasJ fs s acc ks) (hl : Rd w 1 v l.length (u8L l)) (hlen : l.length ≤ 524288)
    (hs : s.size ≤ maxLen) (hf : wordB s 16 true = true) (hsum : acc.length + (l.length + 8) ≤ 1048576) (hk : k ≤ 1099511627776) :
    Calls Tryz.prog 41 #[.pointer (some ⟨j, 0, none⟩), v] w fun e w' => e = .returned (.int .i64 0) ∧ ∃ fs', hasJ fs' s (acc ++ layL l) ks ∧ Upd (chJour j d m b s k fs).fp w [chJour j d m b s (k + (l.length + 8)) fs'] w' := by
  obtain ⟨h1, h2, h3⟩ := hh.had
  refine (jAppendOkN j d m b k fs s v l w hP.1 hP.2.1 hP.2.2.1 hl hlen hs hf (.inr h3) (by rw [h1]; exact hsum) hk hP.2.2.2).mono ?_
  rintro e w' ⟨rfl, hj', hT', ⟨v', hD', hfr⟩, hM⟩
  rw [h1, h2] at hD'
  exact ⟨rfl, _, .inr ⟨v', rfl⟩, Upd.ofModJ hM ⟨hj', hT', hD', hP.2.2.2⟩ fun g hg => by rw [List.mem_singleton.1 hg]; exact .inl (fresh_val hfr)⟩
theorem jSyncU (j d m b k ks : Nat) (s : ByteArray) (fs : List FileV) (acc : List UInt8) (w : World) (hP : (chJour j d m b s k fs).P w) (hh : hasJ fs s acc ks) :
    Calls Tryz.prog 46 #[.pointer (some ⟨j, 0, none⟩)] w fun e w' => e = .returned (.int .i64 0) ∧ ∃ fs', hasJ fs' s acc acc.length ∧ Upd (chJour j d m b s k fs).fp w [chJour j d m b s k fs'] w' := by
  have hnd : d ≠ b ∧ m ≠ b := by
    have := hP.2.2.2
    simp only [List.mem_cons, List.mem_nil_iff, or_false, not_or] at this
    exact ⟨fun h => this.1 h.symm, fun h => this.2 h.symm⟩
  have hnj := hP.2.2.1.notJ hP.1
  rcases hh with ⟨rfl, rfl, rfl⟩ | ⟨v, rfl⟩
  · refine (jSyncNone j d m [] _ _ s w hP.1 hP.2.2.1 rfl).mono ?_
    rintro e w' ⟨rfl, h2⟩
    exact ⟨rfl, [], .inl ⟨rfl, rfl, rfl⟩, (Upd.one _ w hP).grow h2⟩
  · refine (jSyncOne j d m ⟨s, v, acc, ks⟩ _ _ w hP.1 hP.2.2.1).mono ?_
    rintro e w' ⟨rfl, hD', hM⟩
    refine ⟨rfl, _, .inr ⟨v, rfl⟩, Upd.ofModJ (hM.mono (by simp)) ⟨hM.blk hP.1 hnj, hM.tab hP.2.1 (by simp only [List.mem_cons, List.mem_nil_iff, or_false, not_or]; exact ⟨fun h => hnd.1 h.symm, fun h => hnd.2 h.symm⟩), hD', hP.2.2.2⟩ fun g hg => ?_⟩
    rw [List.mem_singleton.1 hg]
    exact .inr ⟨_, .head _, rfl, rfl⟩
theorem jOpenU0 (d m b : Nat) (s : ByteArray) (w : World) (hP : (chDT d m b []).P w) :
    Calls Tryz.prog 44 #[.pointer (some ⟨d, 0, none⟩), .pointer (some ⟨b, 0, none⟩), .string s] w fun e w' => ∃ j A c, e = .returned (.tuple #[.pointer (some ⟨j, 0, none⟩), .slice A 0 c, .int .i64 0]) ∧ Upd (chDT d m b []).fp w [chJour j d m b s 0 []] w' := by
  refine (jOpenNew d m b [] s w hP.2.1 rfl hP.1).mono ?_
  rintro e w' ⟨j, A, c, rfl, hsz, hj, hD', hT', hB⟩
  refine ⟨j, A, c, rfl, hB.os, hB.tape, hB.output, hB.size, fun x hx hne => hB.block x hx fun e => hne (e ▸ .head _), fun q hq => by rw [List.mem_singleton.1 hq]; exact ⟨hj, hT', hD', hP.2.2⟩, fun q hq x hx => ?_, by simp⟩
  rw [List.mem_singleton.1 hq] at hx
  rcases List.mem_cons.1 hx with rfl | hx
  · exact .inr hsz
  · exact .inl hx
end Go.Proofs.YtdmdfccadjfpiaaGreat
