/-
  A journal over one file, or none yet: its Append, its Sync, the disk's Crash without tears, each by one contract; what is left alone while an owned row grows.
-/
import Derived.Test.YtdjdhakmigofmaaOpenA
import Derived.Test.YtdjdhakmigofmaaKeeps
namespace Go.Proofs.Ytdjdhakmigofmaa
open Go.RowKit FreeNew
set_option maxRecDepth 100000

theorem Rd.grown {w w' : World} {size n : Nat} {v : Value} {xs : List Value} {row : Option Nat} (h : Rd w size v n xs) (hg : w.grownBy w' row) (hne : ∀ g, v.ownBlock = some g → some g ≠ row) : Rd w' size v n xs := by
  obtain ⟨A, c, rfl, h1, h2, h3, h4⟩ := h
  refine ⟨A, c, rfl, h1, h2, h3, fun hn => ?_⟩
  obtain ⟨q, o, rfl, hat⟩ := h4 hn
  refine ⟨q, o, rfl, fun j u hu => ?_⟩
  have c0 := hat j u hu
  rw [World.cell?_of_block (w := w) (hg.block q (World.block_lt_of_cell? w _ c0) (hne q rfl))]
  exact c0
theorem DiskAt.grownO {w w' : World} {d m base size n : Nat} {fs : List FileV} {e : TypeId} {v : Value} {xs : List Value} (h : DiskAt w d m fs) (hv : w.ownsRow base e size v n xs) (he : e ≠ 81) (hg : w.grownBy w' v.ownBlock)
    (hf : ∀ f ∈ fs, ∀ g, f.val.ownBlock = some g → some g ≠ v.ownBlock) : DiskAt w' d m fs := by
  have hst := h.stamp
  have hgood := h.good
  obtain ⟨⟨p, r, h1⟩, ⟨es, c, h2, h3⟩, _⟩ := h
  have hmn : some m ≠ v.ownBlock := by
    rcases hv.2 with ⟨rfl, _⟩ | ⟨g', cap, cur, rfl, _, hh, _⟩
    · simp [Value.ownBlock]
    · intro hq
      have hq : m = g' := by simpa [Value.ownBlock] using hq
      subst hq
      rw [h2] at hh
      simp at hh
  have hmlt : m < w.heap.size := (Array.getElem?_eq_some_iff.1 h2).1
  obtain ⟨es2, c2, hs1, hs2⟩ := hst
  exact ⟨⟨p, r, h1.grown hg (owns_ne hv h1 he)⟩, ⟨es, c, (hg.block m hmlt hmn).trans h2, h3⟩, fun f hff => ⟨(hgood f hff).1.grown hg (hf f hff), (hgood f hff).2⟩, ⟨es2, c2, (hg.block m hmlt hmn).trans hs1, hs2⟩⟩
theorem TabOk.grownO {w w' : World} {b base size n : Nat} {e : TypeId} {v : Value} {xs : List Value} (hT : TabOk w b) (hv : w.ownsRow base e size v n xs) (he : e ≠ 110) (hg : w.grownBy w' v.ownBlock) : TabOk w' b := by
  obtain ⟨d, ws, s, t, h1, h2, h3, cs, hb, h4⟩ := hT
  exact ⟨d, ws, s, t, h1, h2, h3, cs, hb.grown hg (owns_ne hv hb he), h4⟩
/-- An owned row of another kind than a disk's, a table's and a journal's blocks stands while these are written. -/
theorem owns_modJ {w w' : World} {d m b j base size n : Nat} {fs : List FileV} {e : TypeId} {v : Value} {xs : List Value} {cs : Array Value} (hv : w.ownsRow base e size v n xs) (hD : DiskAt w d m fs) (hT : TabOk w b) (hj : Blk w j cs 114)
    (h1 : e ≠ 81) (h2 : e ≠ 110) (h3 : e ≠ 114) (hM : Mod [d, m, b, j] w w') : w'.ownsRow base e size v n xs := by
  refine hM.owns hv fun g hg hm => ?_
  obtain ⟨⟨p, r, hd⟩, ⟨es, c, hmm, _⟩, _⟩ := hD
  obtain ⟨_, _, _, _, _, _, _, cs', hb, _⟩ := hT
  simp only [List.mem_cons, List.mem_nil_iff, or_false] at hm
  rcases hm with rfl | rfl | rfl | rfl
  · exact owns_ne hv hd h1 hg.symm
  · rcases hv.2 with ⟨rfl, _⟩ | ⟨g', cap, cur, rfl, _, hh, _⟩
    · simp [Value.ownBlock] at hg
    · have hq : g' = g := by simpa [Value.ownBlock] using hg
      subst hq
      rw [hmm] at hh
      simp at hh
  · exact owns_ne hv hb h2 hg.symm
  · exact owns_ne hv hj h3 hg.symm

/-- The one file, some of it synced; or none. -/
def haveJ (fs : List FileV) (s : ByteArray) (acc : List UInt8) : Prop := (fs = [] ∧ acc = []) ∨ ∃ v k, fs = [⟨s, v, acc, k⟩]
theorem oneJ.have {fs : List FileV} {s : ByteArray} {acc : List UInt8} (h : oneJ fs s acc) : haveJ fs s acc := by
  rcases h with h | ⟨v, h⟩
  · exact .inl h
  · exact .inr ⟨v, _, h⟩
theorem haveJ.had {fs : List FileV} {s : ByteArray} {acc : List UInt8} (h : haveJ fs s acc) : (hadF fs s).1 = acc ∧ (∀ v a n, putF fs ⟨s, v, a, n⟩ = [⟨s, v, a, n⟩]) ∧ fs.length ≠ 64 := by
  rcases h with ⟨rfl, rfl⟩ | ⟨v, k, rfl⟩
  · exact ⟨rfl, fun _ _ _ => rfl, by decide⟩
  · exact ⟨by simp [hadF, findF], fun _ _ _ => by simp [putF], by show 1 ≠ 64; decide⟩
theorem jAppendHave (j d m b k : Nat) (fs : List FileV) (s : ByteArray) (acc : List UInt8) (v : Value) (l : List UInt8) (w : World) (hj : Blk w j #[.pointer (some ⟨d, 0, none⟩), .pointer (some ⟨b, 0, none⟩), .string s, .int .i64 k] 114) (hT : TabOk w b) (hD : DiskAt w d m fs)
    (hh : haveJ fs s acc) (hl : Rd w 1 v l.length (u8L l)) (hlen : l.length ≤ 524288) (hs : s.size ≤ maxLen) (hf : wordB s 16 true = true) (hsum : acc.length + (l.length + 8) ≤ 1048576) (hk : k ≤ 1099511627776) (hb : b ∉ [d, m]) :
    Calls Try.prog 33 #[.pointer (some ⟨j, 0, none⟩), v] w fun e w' => e = .returned (.int .i64 0) ∧ Blk w' j #[.pointer (some ⟨d, 0, none⟩), .pointer (some ⟨b, 0, none⟩), .string s, .int .i64 ((k + (l.length + 8) : Nat) : Int)] 114 ∧ TabOk w' b ∧
      (∃ fs', DiskAt w' d m fs' ∧ haveJ fs' s (acc ++ layL l) ∧ ∀ f ∈ fs', ∀ g, f.val.ownBlock = some g → w.heap.size ≤ g) ∧ Mod [d, m, b, j] w w' := by
  obtain ⟨h1, h2, h3⟩ := hh.had
  refine (jAppendOkN j d m b k fs s v l w hj hT hD hl hlen hs hf (.inr h3) (by rw [h1]; exact hsum) hk hb).mono ?_
  rintro e w' ⟨rfl, hj', hT', ⟨v', hD', hfr⟩, hM⟩
  rw [h1, h2] at hD'
  refine ⟨rfl, hj', hT', ⟨_, hD', .inr ⟨v', _, rfl⟩, fun f hff => ?_⟩, hM⟩
  obtain rfl : f = _ := List.mem_singleton.1 hff
  exact hfr
theorem jSyncHave (j d m : Nat) (fs : List FileV) (s : ByteArray) (acc : List UInt8) (c1 c3 : Value) (w : World) (hj : Blk w j #[.pointer (some ⟨d, 0, none⟩), c1, .string s, c3] 114) (hD : DiskAt w d m fs) (hh : haveJ fs s acc) :
    Calls Try.prog 34 #[.pointer (some ⟨j, 0, none⟩)] w fun e w' => e = .returned (.int .i64 0) ∧ (∃ fs', DiskAt w' d m fs' ∧ oneJ fs' s acc) ∧ Mod [d, m] w w' := by
  rcases hh with ⟨rfl, rfl⟩ | ⟨v, k, rfl⟩
  · exact (jSyncNone j d m [] c1 c3 s w hj hD rfl).mono fun e w' ⟨h1, h2⟩ => ⟨h1, ⟨[], hD.below h2, .inl ⟨rfl, rfl⟩⟩, Mod.of_below h2⟩
  · exact (jSyncOne j d m ⟨s, v, acc, k⟩ c1 c3 w hj hD).mono fun e w' ⟨h1, h2, h3⟩ => ⟨h1, ⟨_, h2, .inr ⟨v, rfl⟩⟩, h3⟩
theorem tornB_all (acc : List UInt8) : tornB acc acc.length 0 0 = acc := by simp [tornB]
theorem crashHave (d m : Nat) (fs : List FileV) (s : ByteArray) (acc : List UInt8) (w : World) (hD : DiskAt w d m fs) (ho : oneJ fs s acc) :
    Calls Try.prog 12 #[.pointer (some ⟨d, 0, none⟩), .slice none 0 0] w fun e w' => e = .returned (.tuple #[]) ∧ (∃ fs', DiskAt w' d m fs' ∧ oneJ fs' s acc) ∧ Mod [d, m] w w' := by
  rcases ho with ⟨rfl, rfl⟩ | ⟨v, rfl⟩
  · exact (diskCrashNone d m _ w hD).mono fun e w' ⟨h1, h2, h3⟩ => ⟨h1, ⟨[], h2, .inl ⟨rfl, rfl⟩⟩, h3⟩
  · refine (diskCrashOne d m ⟨s, v, acc, acc.length⟩ _ [] w hD ⟨_, _, rfl, rfl, Nat.le_refl _, by unfold maxLen; show 0 ≤ _; omega, fun h => absurd h (by decide)⟩ rfl).mono ?_
    rintro e w' ⟨h1, ⟨v', h2⟩, h3⟩
    simp only [List.getD_nil, tornB_all] at h2
    exact ⟨h1, ⟨_, h2, .inr ⟨v', rfl⟩⟩, h3⟩
end Go.Proofs.Ytdjdhakmigofmaa
