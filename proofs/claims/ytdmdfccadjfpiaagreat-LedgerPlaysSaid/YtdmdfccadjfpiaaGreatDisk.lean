/-
  A disk: what its blocks hold; lookups in its map; New, has, Read, Loose.
-/
import Derived.Test.YtdmdfccadjfpiaaGreatConv
import Derived.MapKept
import Derived.WalkSpells
namespace Go.Proofs.YtdmdfccadjfpiaaGreat
open Go.RowKit
set_option maxRecDepth 100000

/-- A file: its name, its bytes' slice, its bytes, how many are synced. -/
structure FileV where
  name : ByteArray
  val : Value
  bytes : List UInt8
  synced : Nat
def kvOf (f : FileV) : Value × Value := (.string f.name, .agg #[f.val, .int .i64 f.synced])
def findF : List FileV → ByteArray → Option FileV
  | [], _ => none
  | f :: r, s => if s = f.name then some f else findF r s
def lookF (fs : List FileV) (s : ByteArray) : Value := match findF fs s with | some f => .agg #[f.val, .int .i64 f.synced] | none => .agg #[.slice none 0 0, .int .i64 0]
theorem findF_mem {fs : List FileV} {s : ByteArray} {f : FileV} (h : findF fs s = some f) : f ∈ fs ∧ f.name = s := by
  induction fs with
  | nil => cases h
  | cons g r ih =>
    simp only [findF] at h
    split at h
    · rename_i e
      injection h with h
      subst h
      exact ⟨.head _, e.symm⟩
    · exact ⟨.tail _ (ih h).1, (ih h).2⟩
theorem ba_dec (a b : ByteArray) : (a == b) = decide (a = b) := by
  rw [beq_toListBytes, ByteArray.toList_eq, ByteArray.toList_eq]
  by_cases h : a = b
  · simp [h]
  · have : ¬ a.data = b.data := fun e => h (by cases a; cases b; simp_all)
    simp [h, this]
theorem findNow_files (s : ByteArray) : ∀ (es : List MapEntry) (fs : List FileV) (i : Nat), es.map (fun e => (e.key, e.val)) = fs.map kvOf →
    (findF fs s = none ∧ Instr.findNow .string (.string s) es i = some none) ∨
    ∃ f j, findF fs s = some f ∧ fs[j]? = some f ∧ Instr.findNow .string (.string s) es i = some (some (i + j, .agg #[f.val, .int .i64 f.synced])) := by
  intro es
  induction es with
  | nil =>
    intro fs i h
    cases fs with
    | nil => exact .inl ⟨rfl, rfl⟩
    | cons f r => cases h
  | cons e es ih =>
    intro fs i h
    cases fs with
    | nil => cases h
    | cons f r =>
      simp only [List.map_cons, List.cons.injEq] at h
      obtain ⟨h1, h2⟩ := h
      obtain ⟨hk, hv⟩ := Prod.mk.injEq .. ▸ h1
      simp only [findF, Instr.findNow, hk, hv, Instr.sameNow]
      by_cases hs : s = f.name
      · right
        refine ⟨f, 0, by rw [if_pos hs], rfl, ?_⟩
        have hb : (s == f.name) = true := by rw [ba_dec]; simp [hs]
        simp only [hb, Nat.add_zero]
      · have hb : (s == f.name) = false := by rw [ba_dec]; simp [hs]
        simp only [hb, if_neg hs]
        rcases ih r (i + 1) h2 with ⟨a, b⟩ | ⟨g, j, a, b, c⟩
        · exact .inl ⟨a, b⟩
        · exact .inr ⟨g, j + 1, a, by simpa using b, by rw [c]; congr 3; omega⟩

theorem look_ok {w : World} {m clock : Nat} {es : Array MapEntry} {fs : List FileV} (hm : w.heap[m]? = some (.map es clock)) (he : es.toList.map (fun e => (e.key, e.val)) = fs.map kvOf) (s : ByteArray) :
    (Instr.lookup 117 (.map (some m)) (.string s) true).run Tryz.prog w = .ok (.tuple #[lookF fs s, .bool (findF fs s).isSome]) w := by
  have hu := Tryz.underlying117
  have hs := Tryz.underlying9
  unfold Instr.lookup
  rcases findNow_files s es.toList fs 0 he with ⟨a, b⟩ | ⟨f, j, a, _, b⟩
  · have hf := MapKept.run_findKey (w := w) hs b
    simp [Sem.run_bind, run_underlying hu, MapKept.run_getObj_map hm, MapKept.run_checkKey hs (k := .string s) trivial, hf, Result.andThen, lookF, a]
  · have hf := MapKept.run_findKey (w := w) hs b
    simp [Sem.run_bind, run_underlying hu, MapKept.run_getObj_map hm, MapKept.run_checkKey hs (k := .string s) trivial, hf, Result.andThen, lookF, a]
theorem look_no {w : World} {m clock : Nat} {es : Array MapEntry} {fs : List FileV} (hm : w.heap[m]? = some (.map es clock)) (he : es.toList.map (fun e => (e.key, e.val)) = fs.map kvOf) (s : ByteArray) :
    (Instr.lookup 117 (.map (some m)) (.string s) false).run Tryz.prog w = .ok (lookF fs s) w := by
  have hu := Tryz.underlying117
  have hs := Tryz.underlying9
  unfold Instr.lookup
  rcases findNow_files s es.toList fs 0 he with ⟨a, b⟩ | ⟨f, j, a, _, b⟩
  · have hf := MapKept.run_findKey (w := w) hs b
    simp [Sem.run_bind, run_underlying hu, MapKept.run_getObj_map hm, MapKept.run_checkKey hs (k := .string s) trivial, hf, Result.andThen, lookF, a]
  · have hf := MapKept.run_findKey (w := w) hs b
    simp [Sem.run_bind, run_underlying hu, MapKept.run_getObj_map hm, MapKept.run_checkKey hs (k := .string s) trivial, hf, Result.andThen, lookF, a]

/-- A disk at block d, its map at block m. -/
structure DiskAt (w : World) (d m : Nat) (fs : List FileV) : Prop where
  blk : ∃ a b : Int, Blk w d #[.map (some m), .int .i64 a, .int .i64 b] 121
  map : ∃ es clock, w.heap[m]? = some (.map es clock) ∧ es.toList.map (fun e => (e.key, e.val)) = fs.map kvOf
  good : ∀ f ∈ fs, Rd w 1 f.val f.bytes.length (u8L f.bytes) ∧ f.synced ≤ f.bytes.length ∧ f.bytes.length ≤ 1048576
  stamp : ∃ es clock, w.heap[m]? = some (.map es clock) ∧ MapKept.Stamped es clock
theorem DiskAt.below {w w' : World} {d m : Nat} {fs : List FileV} (h : DiskAt w d m fs) (hb : Below w.heap.size w w') : DiskAt w' d m fs := by
  obtain ⟨es2, c2, h5, h6⟩ := h.stamp
  obtain ⟨⟨a, b, h1⟩, ⟨es, c, h2, h3⟩, h4⟩ := h
  have hm : m < w.heap.size := (Array.getElem?_eq_some_iff.1 h2).1
  exact ⟨⟨a, b, h1.below hb h1.lt⟩, ⟨es, c, (hb.block m hm).trans h2, h3⟩, fun f hf => ⟨(h4 f hf).1.below hb, (h4 f hf).2⟩, ⟨es2, c2, (hb.block m hm).trans h5, h6⟩⟩
theorem DiskAt.cell0 {w : World} {d m : Nat} {fs : List FileV} (h : DiskAt w d m fs) : w.cell? ⟨d, 0, none⟩ = some (.map (some m)) := let ⟨_, _, h1⟩ := h.blk; h1.cell rfl

theorem diskNew (w : World) : Calls Tryz.prog 17 #[] w fun e w' => ∃ d m, e = .returned (.pointer (some ⟨d, 0, none⟩)) ∧ w.heap.size ≤ d ∧ w.heap.size ≤ m ∧ DiskAt w' d m [] ∧ Below w.heap.size w w' := by
  have hmm := @run_makeMap Tryz.prog
  go_enter Tryz.func17, Tryz.ntmps17
  go_wp2_with fail
  refine bodyPost_gen fun w1 hw1 => ?_
  have e1 : (w.alloc (Obj.map #[] 0)).heap.size = w.heap.size + 1 := by simp
  have hB : Blk w1 (w.heap.size + 1) #[.map (some w.heap.size), .int .i64 0, .int .i64 0] 121 := by rw [hw1, ← e1]; exact Blk.new _ _ _
  have hm : w1.heap[w.heap.size]? = some (.map #[] 0) := by rw [hw1]; exact (Below.heap_alloc _ _ _ (by rw [e1]; omega)).trans (heap_alloc_new w _)
  have hb : Below w.heap.size w w1 := by rw [hw1]; exact ((Below.refl _ _).alloc (Nat.le_refl _) _).alloc (by rw [e1]; omega) _
  clear hw1 e1
  go_ret
  exact ⟨_, _, rfl, by omega, by omega, ⟨⟨0, 0, hB⟩, ⟨#[], 0, hm, rfl⟩, (fun f hf => by cases hf), ⟨#[], 0, hm, MapKept.stamped_empty 0⟩⟩, hb⟩

/-- Whether there is such a file. -/
theorem diskHas (d m : Nat) (fs : List FileV) (s : ByteArray) (w : World) (hD : DiskAt w d m fs) :
    Calls Tryz.prog 48 #[.pointer (some ⟨d, 0, none⟩), .string s] w fun e w' => e = .returned (.bool (findF fs s).isSome) ∧ Below w.heap.size w w' := by
  have c0 := hD.cell0
  obtain ⟨_, ⟨es, c, h2, h3⟩, hg⟩ := hD
  have hl := look_ok h2 h3 s
  unfold lookF at hl
  cases hf : findF fs s with
  | none =>
    rw [hf] at hl
    clear h2 h3 hf
    go_enter Tryz.func48, Tryz.ntmps48
    go_wp2_with fail
    go_ret
    exact ⟨rfl, by first | exact Below.refl _ _ | exact (Below.refl _ _).alloc (Nat.le_refl _) _⟩
  | some f =>
    rw [hf] at hl
    obtain ⟨hr, _⟩ := hg f (findF_mem hf).1
    obtain ⟨A, c, hv, _⟩ := hr
    simp only at hl
    rw [hv] at hl
    clear h2 h3 hf hg hv
    go_enter Tryz.func48, Tryz.ntmps48
    go_wp2_with fail
    go_ret
    exact ⟨rfl, by first | exact Below.refl _ _ | exact (Below.refl _ _).alloc (Nat.le_refl _) _⟩
theorem diskHasNil (s : ByteArray) (w : World) :
    Calls Tryz.prog 48 #[.pointer none, .string s] w fun e w' => e = .returned (.bool false) ∧ w' = w := by
  go_enter Tryz.func48, Tryz.ntmps48
  go_wp2_with fail
  go_ret
  exact ⟨rfl, rfl⟩
theorem fileField (x y : Value) (w : World) : (Instr.field 124 (.agg #[x, y]) 0).run Tryz.prog w = .ok x w := by kernel_rfl
/-- slices.Clone of bytes. -/
theorem clone8 (v : Value) (l : List UInt8) (w : World) (hl : Rd w 1 v l.length (u8L l)) (hlen : l.length ≤ 1099511627776) :
    Calls Tryz.prog 49 #[v] w fun e w' => ∃ v', e = .returned v' ∧ w'.ownsRow w.heap.size 5 1 v' l.length (u8L l) ∧ Below w.heap.size w w' := by
  have hl0 := hl
  obtain ⟨A, c, rfl, h1, h2, h3, h4⟩ := hl
  obtain ⟨i1, hi1, hz3, hz4, hz5⟩ := info_parts infoByte
  cases A with
  | none =>
    have h0 : l = [] := by
      rcases l with _ | ⟨x, r⟩
      · rfl
      · obtain ⟨_, _, h, _⟩ := h4 (by simp)
        cases h
    subst h0
    have hq := fun (W : World) => Lib.run_eql_slice_nil (P := Tryz.prog) W 58 5 none 0 c 0 0 Tryz.underlying58
    go_enter Tryz.func49, Tryz.ntmps49
    go_wp2_with fail
    go_ret
    exact ⟨_, rfl, World.ownsRow_nil _ _ _ _, Below.refl _ _⟩
  | some a =>
    have hq := fun (W : World) => Lib.run_eql_slice_nil (P := Tryz.prog) W 58 5 (some a) l.length c 0 0 Tryz.underlying58
    unfold maxLen at h3
    go_enter Tryz.func49, Tryz.ntmps49
    go_wp2_with (at_builtin; refine wpl_stop fun W hW => ?_)
    refine Stopped.mk ?_
    subst hW
    refine wpl_gen fun W hW => ?_
    have hBe : Blk W w.heap.size #[] 5 := by rw [hW]; exact Blk.new _ _ _
    have hbW : Below w.heap.size w W := by rw [hW]; exact (Below.refl _ _).alloc (Nat.le_refl _) _
    clear hW
    have hoe := owns_of_blk hBe (base := w.heap.size) (Nat.le_refl _) (by unfold maxLen; simp)
    refine wpl_append_rd rfl (.tmp 5) (.tmp 6) 58 rfl w.heap.size 5 i1 _ 1 1 Tryz.underlying58 hi1 hz3 hz4 hz5 rfl (by decide) _ 0 [] rfl hoe _ l.length (u8L l) rfl (hl0.below hbW) (u8L_one _) (by unfold maxLen; omega) (by omega) hbW.size fun v9 w9 hown9 hgr9 _ => ?_
    have hb9 : Below w.heap.size w w9 := hbW.grown hgr9 hbW.size (fun q hq => Nat.le_of_eq (Option.some.inj hq))
    rw [Nat.zero_add, List.nil_append] at hown9
    clear hoe hBe hbW hgr9
    obtain ⟨A9, c9, rfl⟩ := owns_slice hown9
    go_wp2_with fail
    go_ret
    exact ⟨_, rfl, hown9, hb9⟩

theorem diskReadNil (s : ByteArray) (w : World) :
    Calls Tryz.prog 69 #[.pointer none, .string s] w fun e w' => e = .returned (.tuple #[.slice none 0 0, .int .i64 1]) ∧ w' = w := by
  go_enter Tryz.func69, Tryz.ntmps69
  go_wp2_with fail
  go_ret2
  exact ⟨rfl, rfl⟩
theorem diskReadNone (d m : Nat) (fs : List FileV) (s : ByteArray) (w : World) (hD : DiskAt w d m fs) (hf : findF fs s = none) :
    Calls Tryz.prog 69 #[.pointer (some ⟨d, 0, none⟩), .string s] w fun e w' => e = .returned (.tuple #[.slice none 0 0, .int .i64 14]) ∧ Below w.heap.size w w' := by
  have hH := diskHas d m fs s w hD
  rw [hf] at hH
  clear hD hf
  go_enter Tryz.func69, Tryz.ntmps69
  go_wp2_with fail
  (with_reducible refine hH.mono ?_)
  rintro e w1 ⟨rfl, hb1⟩
  go_wp2_with fail
  go_ret2
  exact ⟨rfl, hb1⟩
theorem diskReadSome (d m : Nat) (fs : List FileV) (s : ByteArray) (f : FileV) (w : World) (hD : DiskAt w d m fs) (hf : findF fs s = some f) :
    Calls Tryz.prog 69 #[.pointer (some ⟨d, 0, none⟩), .string s] w fun e w' => ∃ v', e = .returned (.tuple #[v', .int .i64 0]) ∧ w'.ownsRow w.heap.size 5 1 v' f.bytes.length (u8L f.bytes) ∧ Below w.heap.size w w' := by
  have hH := diskHas d m fs s w hD
  rw [hf] at hH
  have hD0 := hD
  have HF := Lib.hid hf
  clear hD hf
  go_enter Tryz.func69, Tryz.ntmps69
  go_wp2_with fail
  (with_reducible refine hH.mono ?_)
  rintro e w1 ⟨rfl, hb1⟩
  have hD1 := hD0.below hb1
  have c0 := hD1.cell0
  obtain ⟨_, ⟨es, c, h2, h3⟩, hg⟩ := hD1
  have hl := look_no h2 h3 s
  obtain ⟨hr, _, hfl⟩ := hg f (findF_mem HF.out).1
  unfold lookF at hl
  rw [HF.out] at hl
  simp only at hl
  have hr0 := hr
  obtain ⟨A, c9, hv, _⟩ := hr
  rw [hv] at hl hr0
  have hfld := fileField (.slice A f.bytes.length c9) (.int .i64 f.synced)
  clear h2 h3 hg hv hD0 hH
  go_wp2_with fail
  (with_reducible refine (clone8 _ _ _ hr0 (by omega)).mono ?_)
  rintro e w2 ⟨v', rfl, hv2, hb2⟩
  have hv3 := owns_mono hv2 hb1.size
  have hbe := hb1.trans (hb2.mono hb1.size)
  obtain ⟨A2, c2, rfl⟩ := owns_slice hv3
  clear hv2 hb2 hb1 hr0 hl c0
  go_wp2_with fail
  go_ret2
  exact ⟨_, rfl, hv3, hbe⟩

theorem diskLooseNone (d m : Nat) (fs : List FileV) (s : ByteArray) (w : World) (hD : DiskAt w d m fs) (hf : findF fs s = none) :
    Calls Tryz.prog 78 #[.pointer (some ⟨d, 0, none⟩), .string s] w fun e w' => e = .returned (.int .i64 0) ∧ Below w.heap.size w w' := by
  have hH := diskHas d m fs s w hD
  rw [hf] at hH
  clear hD hf
  go_enter Tryz.func78, Tryz.ntmps78
  go_wp2_with fail
  (with_reducible refine hH.mono ?_)
  rintro e w1 ⟨rfl, hb1⟩
  go_wp2_with fail
  go_ret
  exact ⟨rfl, hb1⟩
theorem diskLooseSome (d m : Nat) (fs : List FileV) (s : ByteArray) (f : FileV) (w : World) (hD : DiskAt w d m fs) (hf : findF fs s = some f) :
    Calls Tryz.prog 78 #[.pointer (some ⟨d, 0, none⟩), .string s] w fun e w' => e = .returned (.int .i64 ((f.bytes.length - f.synced : Nat) : Int)) ∧ Below w.heap.size w w' := by
  have hH := diskHas d m fs s w hD
  rw [hf] at hH
  have hD0 := hD
  have HF := Lib.hid hf
  clear hD hf
  go_enter Tryz.func78, Tryz.ntmps78
  go_wp2_with fail
  (with_reducible refine hH.mono ?_)
  rintro e w1 ⟨rfl, hb1⟩
  have hD1 := hD0.below hb1
  have c0 := hD1.cell0
  obtain ⟨_, ⟨es, c, h2, h3⟩, hg⟩ := hD1
  have hl := look_no h2 h3 s
  obtain ⟨hr, hsy, hfl⟩ := hg f (findF_mem HF.out).1
  unfold lookF at hl
  rw [HF.out] at hl
  simp only at hl
  obtain ⟨A, c9, hv, _⟩ := hr
  rw [hv] at hl
  clear h2 h3 hg hv hD0 hH
  go_wp2_with fail
  go_ret
  exact ⟨by first | rfl | (congr 2; omega) | (simp; omega), by first | exact hb1.alloc hb1.size _ | exact hb1⟩
end Go.Proofs.YtdmdfccadjfpiaaGreat
