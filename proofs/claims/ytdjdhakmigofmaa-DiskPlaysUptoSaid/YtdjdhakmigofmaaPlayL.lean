/-
  What the law DiskPlays says, plainly: files as a map keeps them, and as the document's list, rising by names.
-/
import Derived.Test.YtdjdhakmigofmaaCrashN
namespace Go.Proofs.Ytdjdhakmigofmaa
open Go.RowKit
set_option maxRecDepth 100000

/-- A file of the document's list: its name, its bytes, how many are synced. -/
abbrev RF := ByteArray × List UInt8 × Nat
def lookR : List RF → ByteArray → Option (List UInt8 × Nat)
  | [], _ => none
  | f :: r, s => if f.1 = s then some f.2 else lookR r s
def idxR : List RF → ByteArray → Option Nat
  | [], _ => none
  | f :: r, s => if f.1 = s then some 0 else (idxR r s).map (· + 1)
/-- A file at its place. -/
def addR : List RF → RF → List RF
  | [], g => [g]
  | f :: r, g => if nameL f.1 < nameL g.1 then f :: addR r g else g :: f :: r
def delF : List FileV → ByteArray → List FileV
  | [], _ => []
  | f :: r, s => if s = f.name then r else f :: delF r s
def dat (f : FileV) : List UInt8 × Nat := (f.bytes, f.synced)
def SortR (L : List RF) : Prop := L.Pairwise fun x y => nameL x.1 < nameL y.1
/-- The map's files and the document's are the same. -/
def RelF (fs : List FileV) (L : List RF) : Prop := (∀ s, (findF fs s).map dat = lookR L s) ∧ SortR L
theorem nameL_lt_ne {s t : ByteArray} (h : nameL s < nameL t) : s ≠ t := by rintro rfl; exact List.lt_irrefl _ h
theorem sortR_nodup {L : List RF} (h : SortR L) : (L.map (·.1)).Nodup := List.pairwise_map.2 (h.imp fun h => nameL_lt_ne h)
theorem idxR_none {L : List RF} {s : ByteArray} : idxR L s = none ↔ lookR L s = none := by
  induction L with
  | nil => simp [idxR, lookR]
  | cons f r ih =>
    simp only [idxR, lookR]
    split
    · simp
    · simp [ih]
theorem idxR_some {L : List RF} {s : ByteArray} {i : Nat} (h : idxR L s = some i) : i < L.length ∧ ∃ b k, L[i]? = some (s, b, k) ∧ lookR L s = some (b, k) := by
  induction L generalizing i with
  | nil => simp [idxR] at h
  | cons f r ih =>
    simp only [idxR] at h
    simp only [lookR]
    split at h
    · rename_i hf
      injection h with h
      subst h
      obtain ⟨a, b, k⟩ := f
      subst hf
      exact ⟨by simp, b, k, rfl, by simp⟩
    · rename_i hf
      cases h2 : idxR r s with
      | none => rw [h2] at h; cases h
      | some j =>
        rw [h2] at h
        simp only [Option.map_some, Option.some.injEq] at h
        subst h
        obtain ⟨h3, b, k, h4, h5⟩ := ih h2
        exact ⟨by simp; omega, b, k, by simpa using h4, by rw [if_neg hf]; exact h5⟩
theorem lookR_mem {L : List RF} {s : ByteArray} (h : s ∉ L.map (·.1)) : lookR L s = none := by
  induction L with
  | nil => rfl
  | cons f r ih =>
    simp only [List.map_cons, List.mem_cons, not_or] at h
    simp only [lookR]
    rw [if_neg (fun e => h.1 e.symm), ih h.2]
theorem lookR_isSome {L : List RF} {s : ByteArray} (h : (lookR L s).isSome = true) : s ∈ L.map (·.1) := by
  by_cases hm : s ∈ L.map (·.1)
  · exact hm
  · rw [lookR_mem hm] at h; cases h
theorem lookR_of_mem {L : List RF} (hn : (L.map (·.1)).Nodup) {f : RF} (hf : f ∈ L) : lookR L f.1 = some f.2 := by
  induction L with
  | nil => cases hf
  | cons g r ih =>
    simp only [List.map_cons, List.nodup_cons] at hn
    rcases List.mem_cons.1 hf with rfl | hf
    · simp [lookR]
    · have : g.1 ≠ f.1 := fun e => hn.1 (e ▸ List.mem_map.2 ⟨f, hf, rfl⟩)
      simp only [lookR, if_neg this]
      exact ih hn.2 hf
theorem lookR_add {L : List RF} {g : RF} (hg : lookR L g.1 = none) (s : ByteArray) : lookR (addR L g) s = if g.1 = s then some g.2 else lookR L s := by
  induction L with
  | nil => simp [addR, lookR]
  | cons f r ih =>
    simp only [lookR] at hg
    split at hg
    · cases hg
    rename_i hf
    simp only [addR]
    split
    · simp only [lookR, ih hg]
      split
      · rename_i e
        rw [if_neg]
        intro e2
        exact hf (e.trans e2.symm)
      · rfl
    · rfl
theorem addR_mem {L : List RF} {g f : RF} (h : f ∈ addR L g) : f = g ∨ f ∈ L := by
  induction L with
  | nil => simpa [addR] using h
  | cons a r ih =>
    simp only [addR] at h
    split at h
    · rcases List.mem_cons.1 h with h | h
      · exact .inr (by simp [h])
      · rcases ih h with h | h
        · exact .inl h
        · exact .inr (.tail _ h)
    · rcases List.mem_cons.1 h with h | h
      · exact .inl h
      · exact .inr h
theorem nameL_tri {s t : ByteArray} (h : ¬ nameL s < nameL t) (hne : s ≠ t) : nameL t < nameL s := by
  rcases List.le_total (nameL s) (nameL t) with h1 | h1
  · by_cases h2 : nameL t ≤ nameL s
    · exact absurd (nameL_inj (List.le_antisymm h1 h2)) hne
    · exact absurd (List.not_le.1 h2) h
  · by_cases h2 : nameL s ≤ nameL t
    · exact absurd (nameL_inj (List.le_antisymm h2 h1)) hne
    · exact List.not_le.1 h2
theorem addR_sort {L : List RF} {g : RF} (hs : SortR L) (hg : lookR L g.1 = none) : SortR (addR L g) := by
  induction L with
  | nil => exact List.pairwise_singleton _ _
  | cons f r ih =>
    have hp := List.pairwise_cons.1 hs
    simp only [lookR] at hg
    split at hg
    · cases hg
    rename_i hf
    simp only [addR]
    split
    · rename_i hl
      refine List.pairwise_cons.2 ⟨fun x hx => ?_, ih hp.2 hg⟩
      rcases addR_mem hx with rfl | hx
      · exact hl
      · exact hp.1 x hx
    · rename_i hl
      have h1 : nameL g.1 < nameL f.1 := nameL_tri hl hf
      refine List.pairwise_cons.2 ⟨fun x hx => ?_, hs⟩
      rcases List.mem_cons.1 hx with rfl | hx
      · exact h1
      · exact List.lt_trans h1 (hp.1 x hx)
theorem addR_len (L : List RF) (g : RF) : (addR L g).length = L.length + 1 := by
  induction L with
  | nil => rfl
  | cons f r ih =>
    simp only [addR]
    split
    · simp [ih]
    · rfl
theorem setR_look {L : List RF} {i : Nat} {s : ByteArray} {x y : List UInt8 × Nat} (hn : (L.map (·.1)).Nodup) (hi : L[i]? = some (s, x)) (t : ByteArray) : lookR (L.set i (s, y)) t = if s = t then some y else lookR L t := by
  induction L generalizing i with
  | nil => simp at hi
  | cons f r ih =>
    simp only [List.map_cons, List.nodup_cons] at hn
    cases i with
    | zero =>
      simp only [List.getElem?_cons_zero, Option.some.injEq] at hi
      subst hi
      simp only [List.set_cons_zero, lookR]
      split <;> rfl
    | succ i =>
      simp only [List.getElem?_cons_succ] at hi
      have hne : f.1 ≠ s := fun e => hn.1 (by rw [e]; exact List.mem_map.2 ⟨_, List.mem_of_getElem? hi, rfl⟩)
      simp only [List.set_cons_succ, lookR, ih hn.2 hi]
      by_cases h1 : f.1 = t
      · rw [if_pos h1, if_pos h1, if_neg (fun e => hne (h1.trans e.symm))]
      · rw [if_neg h1, if_neg h1]
theorem setR_names {L : List RF} {i : Nat} {s : ByteArray} {x y : List UInt8 × Nat} (hi : L[i]? = some (s, x)) : (L.set i (s, y)).map (·.1) = L.map (·.1) := by
  refine List.ext_getElem? fun j => ?_
  rw [List.getElem?_map, List.getElem?_map, List.getElem?_set]
  split
  · rename_i e
    subst e
    rw [hi]
    have : i < L.length := (List.getElem?_eq_some_iff.1 hi).1
    simp [this]
  · rfl
theorem sortR_names {L L' : List RF} (h : SortR L) (e : L'.map (·.1) = L.map (·.1)) : SortR L' := by
  have h1 : (L.map (·.1)).Pairwise fun x y => nameL x < nameL y := List.pairwise_map.2 h
  rw [← e] at h1
  exact (List.pairwise_map (f := fun f : RF => f.1) (R := fun x y => nameL x < nameL y)).1 h1
theorem eraseR_look {L : List RF} {i : Nat} {s : ByteArray} {x : List UInt8 × Nat} (hn : (L.map (·.1)).Nodup) (hi : L[i]? = some (s, x)) (t : ByteArray) : lookR (L.eraseIdx i) t = if s = t then none else lookR L t := by
  induction L generalizing i with
  | nil => simp at hi
  | cons f r ih =>
    simp only [List.map_cons, List.nodup_cons] at hn
    cases i with
    | zero =>
      simp only [List.getElem?_cons_zero, Option.some.injEq] at hi
      subst hi
      simp only [List.eraseIdx_cons_zero, lookR]
      by_cases h1 : s = t
      · rw [if_pos h1]; exact lookR_mem (h1 ▸ hn.1)
      · rw [if_neg h1, if_neg h1]
    | succ i =>
      simp only [List.getElem?_cons_succ] at hi
      have hne : f.1 ≠ s := fun e => hn.1 (by rw [e]; exact List.mem_map.2 ⟨_, List.mem_of_getElem? hi, rfl⟩)
      simp only [List.eraseIdx_cons_succ, lookR, ih hn.2 hi]
      by_cases h1 : f.1 = t
      · rw [if_pos h1, if_pos h1, if_neg (fun e => hne (h1.trans e.symm))]
      · rw [if_neg h1, if_neg h1]
theorem find_delF {fs : List FileV} (hn : (fs.map (·.name)).Nodup) (s t : ByteArray) : findF (delF fs s) t = if t = s then none else findF fs t := by
  induction fs with
  | nil => simp [delF, findF]
  | cons f r ih =>
    simp only [List.map_cons, List.nodup_cons] at hn
    simp only [delF]
    by_cases h1 : s = f.name
    · rw [if_pos h1]
      by_cases h2 : t = s
      · rw [if_pos h2, h2, h1]; exact find_none.2 hn.1
      · rw [if_neg h2, findF, if_neg (fun e => h2 (e.trans h1.symm))]
    · rw [if_neg h1, findF, findF, ih hn.2]
      by_cases h2 : t = f.name
      · rw [if_pos h2, if_pos h2, if_neg (fun e => h1 (e.symm.trans h2))]
      · rw [if_neg h2, if_neg h2]
theorem relF_nil : RelF [] [] := ⟨fun _ => rfl, List.Pairwise.nil⟩
theorem relF_none {fs : List FileV} {L : List RF} (h : RelF fs L) (s : ByteArray) : findF fs s = none ↔ idxR L s = none := by
  rw [idxR_none, ← h.1 s]
  cases findF fs s <;> simp
theorem relF_some {fs : List FileV} {L : List RF} (h : RelF fs L) {s : ByteArray} {f : FileV} (hf : findF fs s = some f) : ∃ i, idxR L s = some i ∧ i < L.length ∧ L[i]? = some (s, f.bytes, f.synced) := by
  cases hi : idxR L s with
  | none => rw [(relF_none h s).2 hi] at hf; cases hf
  | some i =>
    obtain ⟨h1, b, k, h2, h3⟩ := idxR_some hi
    have h4 := h.1 s
    rw [hf, h3] at h4
    simp only [Option.map_some, Option.some.injEq, dat, Prod.mk.injEq] at h4
    exact ⟨i, rfl, h1, by rw [h2, h4.1, h4.2]⟩
theorem relF_new {fs : List FileV} {L : List RF} (h : RelF fs L) (g : FileV) (hg : findF fs g.name = none) : RelF (putF fs g) (addR L (g.name, dat g)) := by
  have h0 : lookR L g.name = none := by rw [← h.1, hg]; rfl
  refine ⟨fun s => ?_, addR_sort h.2 h0⟩
  rw [lookR_add h0, find_putF]
  by_cases e : g.name = s
  · rw [if_pos e, if_pos e.symm]; rfl
  · rw [if_neg e, if_neg (fun x => e x.symm), h.1]
theorem relF_old {fs : List FileV} {L : List RF} (h : RelF fs L) (g : FileV) {i : Nat} {x : List UInt8 × Nat} (hi : L[i]? = some (g.name, x)) : RelF (putF fs g) (L.set i (g.name, dat g)) := by
  refine ⟨fun s => ?_, sortR_names h.2 (setR_names hi)⟩
  rw [setR_look (sortR_nodup h.2) hi, find_putF]
  by_cases e : g.name = s
  · rw [if_pos e, if_pos e.symm]; rfl
  · rw [if_neg e, if_neg (fun x => e x.symm), h.1]
theorem relF_del {fs : List FileV} {L : List RF} (h : RelF fs L) (hn : (fs.map (·.name)).Nodup) {s : ByteArray} {i : Nat} {x : List UInt8 × Nat} (hi : L[i]? = some (s, x)) : RelF (delF fs s) (L.eraseIdx i) := by
  refine ⟨fun t => ?_, h.2.sublist (List.eraseIdx_sublist _ _)⟩
  rw [eraseR_look (sortR_nodup h.2) hi, find_delF hn]
  by_cases e : s = t
  · rw [if_pos e, if_pos e.symm]; rfl
  · rw [if_neg e, if_neg (fun x => e x.symm), h.1]
theorem relF_re {fs : List FileV} {L : List RF} (h : RelF fs L) (g : FileV) {i : Nat} {x : List UInt8 × Nat} (hi : L[i]? = some (g.name, x)) : RelF (putF fs g) (addR (L.eraseIdx i) (g.name, dat g)) := by
  have hl := eraseR_look (sortR_nodup h.2) hi
  have h0 : lookR (L.eraseIdx i) g.name = none := by rw [hl, if_pos rfl]
  refine ⟨fun s => ?_, addR_sort (h.2.sublist (List.eraseIdx_sublist _ _)) h0⟩
  rw [lookR_add h0, find_putF, hl]
  by_cases e : g.name = s
  · rw [if_pos e, if_pos e.symm]; rfl
  · rw [if_neg e, if_neg (fun x => e x.symm), if_neg e, h.1]
theorem relF_perm {fs : List FileV} {L : List RF} (h : RelF fs L) (hn : (fs.map (·.name)).Nodup) : (fs.map (·.name)).Perm (L.map (·.1)) := by
  refine (List.perm_ext_iff_of_nodup hn (sortR_nodup h.2)).2 fun s => ?_
  constructor
  · intro hm
    obtain ⟨f, hf, rfl⟩ := List.mem_map.1 hm
    refine lookR_isSome ?_
    rw [← h.1, find_of_mem hn hf]; rfl
  · intro hm
    obtain ⟨f, hf, rfl⟩ := List.mem_map.1 hm
    have h1 := lookR_of_mem (sortR_nodup h.2) hf
    rw [← h.1] at h1
    cases h2 : findF fs f.1 with
    | none => rw [h2] at h1; cases h1
    | some g => exact List.mem_map.2 ⟨g, (findF_mem h2).1, (findF_mem h2).2⟩
theorem relF_len {fs : List FileV} {L : List RF} (h : RelF fs L) (hn : (fs.map (·.name)).Nodup) : fs.length = L.length := by simpa using (relF_perm h hn).length_eq
theorem sort_sorted {l : List (List UInt8)} (h : l.Pairwise (· < ·)) : l.mergeSort leB = l := by
  refine List.mergeSort_of_pairwise (h.imp fun h => ?_)
  simp only [leB, decide_eq_true_eq]
  exact List.le_of_lt h
theorem relF_namesL {fs : List FileV} {L : List RF} (h : RelF fs L) (hn : (fs.map (·.name)).Nodup) : namesF fs = L.map fun f => nameL f.1 := by
  have h1 : (fs.map fun f => nameL f.name).Perm (L.map fun f => nameL f.1) := by
    have := (relF_perm h hn).map nameL
    simpa [List.map_map, Function.comp_def] using this
  unfold namesF
  rw [Go.mergeSort_of_perm h1]
  exact sort_sorted (List.pairwise_map.2 h.2)
def tornR (ts : List (Nat × Nat)) (j : Nat) (f : RF) : RF := (f.1, tornB f.2.1 f.2.2 (ts.getD j (0, 0)).1 (ts.getD j (0, 0)).2, (tornB f.2.1 f.2.2 (ts.getD j (0, 0)).1 (ts.getD j (0, 0)).2).length)
theorem relF_crash {fs fs' : List FileV} {L : List RF} {ts : List (Nat × Nat)} (h : RelF fs L) (hn : (fs.map (·.name)).Nodup) (hc : Crashed fs ts fs.length fs') : RelF fs' (L.mapIdx (tornR ts)) := by
  have hN := relF_namesL h hn
  have hln := relF_len h hn
  have e1 : (L.mapIdx (tornR ts)).map (·.1) = L.map (·.1) := by
    refine List.ext_getElem? fun j => ?_
    simp only [List.getElem?_map, List.getElem?_mapIdx]
    cases L[j]? <;> rfl
  have hS := sortR_names h.2 e1
  refine ⟨fun s => ?_, hS⟩
  by_cases hm : s ∈ L.map (·.1)
  · obtain ⟨f, hf, rfl⟩ := List.mem_map.1 hm
    obtain ⟨j, hj⟩ := List.getElem?_of_mem hf
    have hjl := (List.getElem?_eq_some_iff.1 hj).1
    have h1 := lookR_of_mem (sortR_nodup h.2) hf
    have h2 : tornR ts j f ∈ L.mapIdx (tornR ts) := by
      refine List.mem_of_getElem? (i := j) ?_
      rw [List.getElem?_mapIdx, hj]; rfl
    have h3 := lookR_of_mem (sortR_nodup hS) h2
    rw [show (tornR ts j f).1 = f.1 from rfl] at h3
    rw [h3]
    rw [← h.1] at h1
    cases h4 : findF fs f.1 with
    | none => rw [h4] at h1; cases h1
    | some g =>
      rw [h4] at h1
      simp only [Option.map_some, Option.some.injEq, dat] at h1
      obtain ⟨g', h5, h6, _⟩ := hc.2 j f.1 g (by rw [hN, List.getElem?_map, hj]; rfl) h4
      obtain ⟨h7, h8⟩ := h6 (by omega)
      rw [h5]
      simp only [Option.map_some, Option.some.injEq, dat, tornR, Prod.mk.injEq, ← h1]
      rw [h8, h7]
      exact ⟨rfl, rfl⟩
  · rw [lookR_mem (by rw [e1]; exact hm)]
    have : findF fs' s = none := by
      rw [find_none, hc.1, ← find_none]
      have := lookR_mem hm
      rw [← h.1] at this
      cases h4 : findF fs s with
      | none => rfl
      | some g => rw [h4] at this; cases this
    rw [this]; rfl
end Go.Proofs.Ytdjdhakmigofmaa
