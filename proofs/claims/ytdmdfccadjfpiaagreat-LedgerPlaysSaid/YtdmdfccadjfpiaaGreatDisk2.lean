/-
  A disk: writing: Append, Sync, Cut.
-/
import Derived.Test.YtdmdfccadjfpiaaGreatJnil
namespace Go.Proofs.YtdmdfccadjfpiaaGreat
open Go.RowKit FreeNew
set_option maxRecDepth 100000
attribute [local go_sem] out

/-- Only these blocks are written, and new memory made. -/
structure Mod (S : List Nat) (w w' : World) : Prop where
  os : w'.os = w.os
  tape : w'.tape = w.tape
  output : w'.output = w.output
  size : w.heap.size ≤ w'.heap.size
  block : ∀ k, k < w.heap.size → k ∉ S → w'.heap[k]? = w.heap[k]?
section
variable {w w' w'' : World} {S : List Nat} {b : Nat}
theorem Mod.refl (S : List Nat) (w : World) : Mod S w w := ⟨rfl, rfl, rfl, Nat.le_refl _, fun _ _ _ => rfl⟩
theorem Mod.trans (h : Mod S w w') (k : Mod S w' w'') : Mod S w w'' :=
  ⟨k.os.trans h.os, k.tape.trans h.tape, k.output.trans h.output, Nat.le_trans h.size k.size, fun i hi hne => (k.block i (Nat.lt_of_lt_of_le hi h.size) hne).trans (h.block i hi hne)⟩
theorem Mod.mono {S' : List Nat} (h : Mod S w w') (hS : ∀ x ∈ S, x ∈ S') : Mod S' w w' := ⟨h.os, h.tape, h.output, h.size, fun i hi hne => h.block i hi (fun hm => hne (hS i hm))⟩
theorem Mod.of_below (h : Below w.heap.size w w') : Mod S w w' := ⟨h.os, h.tape, h.output, h.size, fun k hk _ => h.block k hk⟩
theorem Mod.of_but (h : But b w w') (hb : b ∈ S) : Mod S w w' := ⟨h.os, h.tape, h.output, h.size, fun k hk hne => h.block k hk (fun e => hne (e ▸ hb))⟩
theorem Mod.below {B : Nat} {w0 : World} (h : Mod S w w') (h0 : Below B w0 w) (hB : B ≤ w0.heap.size) (hS : ∀ x ∈ S, B ≤ x) : Below B w0 w' :=
  ⟨h.os.trans h0.os, h.tape.trans h0.tape, h.output.trans h0.output, Nat.le_trans h0.size h.size, fun k hk => (h.block k (Nat.lt_of_lt_of_le hk (Nat.le_trans hB h0.size)) (fun hm => by have := hS k hm; omega)).trans (h0.block k hk)⟩
theorem Mod.blk {g : Nat} {cs : Array Value} {t : TypeId} (h : Mod S w w') (hb : Blk w g cs t) (hg : g ∉ S) : Blk w' g cs t := (h.block g hb.lt hg).trans hb
theorem Mod.tab (h : Mod S w w') (hT : TabOk w b) (hg : b ∉ S) : TabOk w' b := by
  obtain ⟨d, ws, s, t, h1, h2, h3, cs, hb, h4⟩ := hT
  exact ⟨d, ws, s, t, h1, h2, h3, cs, h.blk hb hg, h4⟩
theorem Mod.owns {base : Nat} {e : TypeId} {size n : Nat} {v : Value} {xs : List Value} (h : Mod S w w') (ho : w.ownsRow base e size v n xs) (hg : ∀ g, v.ownBlock = some g → g ∉ S) : w'.ownsRow base e size v n xs := by
  obtain ⟨hl, ho⟩ := ho
  refine ⟨hl, ho.imp id ?_⟩
  rintro ⟨g, cap, cur, hv, hb, hh, r⟩
  refine ⟨g, cap, cur, hv, hb, (h.block g (Array.getElem?_eq_some_iff.1 hh).1 (hg g (by rw [hv]; rfl))).trans hh, r⟩
/-- A block whose cells are bytes' is none that holds another kind of cell. -/
theorem Mod.rd {size n : Nat} {v : Value} {xs : List Value} (h : Mod S w w') (hr : Rd w size v n xs) (hg : ∀ q o u, w.cell? ⟨q, o, none⟩ = some u → u ∈ xs → q ∉ S) : Rd w' size v n xs := by
  obtain ⟨A, c, rfl, h1, h2, h3, h4⟩ := hr
  refine ⟨A, c, rfl, h1, h2, h3, fun hn => ?_⟩
  obtain ⟨q, o, rfl, hat⟩ := h4 hn
  refine ⟨q, o, rfl, fun j u hu => ?_⟩
  have c0 := hat j u hu
  rw [World.cell?_of_block (w := w) (h.block q (World.block_lt_of_cell? w _ c0) (hg q _ u c0 (List.mem_of_getElem? hu)))]
  exact c0
end

theorem addI64 (b j : Nat) (s n : Int) (w : World) (hc : w.cell? ⟨b, j, none⟩ = some (.int .i64 s)) (hz : w.frozen? ⟨b, j, none⟩ = false) :
    Calls Tryz.prog 50 #[.pointer (some ⟨b, j, none⟩), .int .i64 n] w fun e w' => e = .returned (.int .i64 (IntKind.i64.wrap (s + n))) ∧ w' = w.setCell ⟨b, j, none⟩ (.int .i64 (IntKind.i64.wrap (s + n))) := by
  have hadd := run_call_add (P := Tryz.prog) Tryz.func80 (by kernel_rfl) (by kernel_rfl) (by kernel_rfl) .i64 (by kernel_rfl) (y := n) (s := IntKind.i64.wrap (s + n)) hc hz (by simp [go_sem])
  generalize IntKind.i64.wrap (s + n) = r at hadd ⊢
  go_enter Tryz.func50, Tryz.ntmps50
  go_wp2_with fail
  go_ret
  exact ⟨rfl, rfl⟩

/-- A file put: in the place of the one that has its name, or behind all. -/
def putF : List FileV → FileV → List FileV
  | [], g => [g]
  | f :: r, g => if g.name = f.name then g :: r else f :: putF r g
theorem putF_mem {fs : List FileV} {g f : FileV} (h : f ∈ putF fs g) : f = g ∨ f ∈ fs := by
  induction fs with
  | nil => simpa [putF] using h
  | cons a r ih =>
    simp only [putF] at h
    split at h
    · rcases List.mem_cons.1 h with h | h
      · exact .inl h
      · exact .inr (.tail _ h)
    · rcases List.mem_cons.1 h with h | h
      · exact .inr (h ▸ .head _)
      · exact (ih h).imp id (.tail _)
theorem find_putF (fs : List FileV) (g : FileV) (s : ByteArray) : findF (putF fs g) s = if s = g.name then some g else findF fs s := by
  induction fs with
  | nil => simp [putF, findF]
  | cons a r ih =>
    simp only [putF]
    split
    · rename_i e
      simp only [findF, ← e]
      split <;> rfl
    · rename_i e
      simp only [findF, ih]
      by_cases h1 : s = g.name
      · subst h1
        rw [if_neg e, if_pos rfl, if_pos rfl]
      · rw [if_neg h1, if_neg h1]
theorem findNow_put (g : FileV) : ∀ (es : List MapEntry) (fs : List FileV) (i : Nat), es.map (fun e => (e.key, e.val)) = fs.map kvOf →
    (findF fs g.name = none ∧ Instr.findNow .string (.string g.name) es i = some none ∧ putF fs g = fs ++ [g]) ∨
    ∃ v j, (findF fs g.name).isSome = true ∧ j < es.length ∧ (es[j]?).map (·.key) = some (.string g.name) ∧ Instr.findNow .string (.string g.name) es i = some (some (i + j, v)) ∧ putF fs g = fs.set j g := by
  intro es
  induction es with
  | nil =>
    intro fs i h
    cases fs with
    | nil => exact .inl ⟨rfl, rfl, rfl⟩
    | cons f r => cases h
  | cons e es ih =>
    intro fs i h
    cases fs with
    | nil => cases h
    | cons f r =>
      simp only [List.map_cons, List.cons.injEq] at h
      obtain ⟨h1, h2⟩ := h
      obtain ⟨hk, hv⟩ := Prod.mk.injEq .. ▸ h1
      simp only [findF, Instr.findNow, hk, hv, Instr.sameNow, putF]
      by_cases hs : g.name = f.name
      · right
        refine ⟨.agg #[f.val, .int .i64 f.synced], 0, by rw [if_pos hs]; rfl, by simp, by simp [hk, hs], ?_, by rw [if_pos hs]; rfl⟩
        have hb : (g.name == f.name) = true := by rw [ba_dec]; simp [hs]
        simp only [hb, Nat.add_zero]
      · have hb : (g.name == f.name) = false := by rw [ba_dec]; simp [hs]
        simp only [hb, if_neg hs]
        rcases ih r (i + 1) h2 with ⟨a, b, c⟩ | ⟨v, j, a, b, c, d, e'⟩
        · exact .inl ⟨a, b, by rw [c]; rfl⟩
        · exact .inr ⟨v, j + 1, a, by simp; omega, by simpa using c, by rw [d]; congr 3; omega, by rw [e']; rfl⟩

theorem findF_ne {fs : List FileV} {f : FileV} {s : ByteArray} (hf : f ∈ fs) (hn : f.name = s) (h : findF fs s = none) : False := by
  induction fs with
  | nil => cases hf
  | cons g r ih =>
    simp only [findF] at h
    split at h
    · cases h
    · rename_i hne
      rcases List.mem_cons.1 hf with rfl | hf
      · exact hne hn.symm
      · exact ih hf h
def setMap (w : World) (m : Nat) (o : Obj) : World := { w with heap := w.heap.setIfInBounds m o }
theorem setMap_mod (w : World) (m : Nat) (o : Obj) : Mod [m] w (setMap w m o) :=
  ⟨rfl, rfl, rfl, by simp [setMap], fun k _ hne => by
    have : k ≠ m := by simpa using hne
    simp only [setMap]
    rw [Array.getElem?_setIfInBounds_ne (Ne.symm this)]⟩
theorem run_keyStays {P : Program} {w : World} (s : ByteArray) : (Instr.keyThatStays (.string s) (.string s)).run P w = .ok (.string s) w := by
  simp [Instr.keyThatStays, Instr.sameBits, ba_dec]
/-- The map's entry for a file's name. -/
theorem upd_run {w : World} {m clock : Nat} {es : Array MapEntry} {fs : List FileV} (hm : w.heap[m]? = some (.map es clock)) (he : es.toList.map (fun e => (e.key, e.val)) = fs.map kvOf) (hst : ∃ es2 c2, w.heap[m]? = some (.map es2 c2) ∧ MapKept.Stamped es2 c2) (g : FileV) :
    ∃ es' clock', (Instr.mapUpdate 117 (.map (some m)) (.string g.name) (.agg #[g.val, .int .i64 g.synced])).run Tryz.prog w = .ok () (setMap w m (.map es' clock')) ∧ es'.toList.map (fun e => (e.key, e.val)) = (putF fs g).map kvOf ∧ MapKept.Stamped es' clock' := by
  obtain ⟨es2, c2, hst1, hst⟩ := hst
  rw [hm] at hst1
  injection hst1 with hst1
  injection hst1 with e1 e2
  subst e1 e2
  have hu := Tryz.underlying117
  have hs := Tryz.underlying9
  rcases findNow_put g es.toList fs 0 he with ⟨hnone, b, c⟩ | ⟨v, j, _, hj, hk, b, c⟩
  · have hf := MapKept.run_findKey (w := w) hs b
    refine ⟨es.push { key := .string g.name, val := .agg #[g.val, .int .i64 g.synced], born := clock }, clock + 1, ?_, ?_, MapKept.stamped_push hst (fun x hx hk => ?_)⟩
    · simp [Instr.mapUpdate, run_underlying hu, MapKept.run_getObj_map hm, MapKept.run_checkKey hs (k := .string g.name) trivial, hf, MapKept.run_setObj_map _ hm, Result.andThen, setMap]
    · rw [c]
      simp [he, kvOf]
    · have hmem : (x.key, x.val) ∈ fs.map kvOf := by rw [← he]; exact List.mem_map.2 ⟨x, hx, rfl⟩
      obtain ⟨f, hf, hfe⟩ := List.mem_map.1 hmem
      have hkn : f.name = g.name := by
        have := congrArg Prod.fst hfe
        simp only [kvOf, hk] at this
        injection this
      exact findF_ne hf hkn hnone
  · rw [Nat.zero_add] at b
    have hf := MapKept.run_findKey (w := w) hs b
    have hk' : ((es[j]?).map (·.key)).getD (.string g.name) = .string g.name := by
      rw [← Array.getElem?_toList, hk]; rfl
    have hkj : ∀ e ∈ es.toList, es[j]? = some e → Value.string g.name = e.key := by
      intro e _ hej
      rw [Array.getElem?_toList, hej] at hk
      exact (Option.some.inj hk).symm
    refine ⟨es.modify j fun e => { e with key := .string g.name, val := .agg #[g.val, .int .i64 g.synced] }, clock, ?_, ?_, MapKept.stamped_modify hst j _ (fun _ _ => rfl) hkj⟩
    · simp [Instr.mapUpdate, run_underlying hu, MapKept.run_getObj_map hm, MapKept.run_checkKey hs (k := .string g.name) trivial, hf, hk', run_keyStays, MapKept.run_setObj_map _ hm, Result.andThen, setMap]
    · rw [c]
      have hlen := congrArg List.length he
      simp only [List.length_map] at hlen
      apply List.ext_getElem?
      intro i
      have hi := congrArg (·[i]?) he
      simp only [List.getElem?_map] at hi ⊢
      rw [Array.getElem?_toList, Array.getElem?_modify, List.getElem?_set]
      rw [Array.getElem?_toList] at hi
      by_cases hij : j = i
      · subst hij
        have hjf : j < fs.length := by rw [← hlen]; exact hj
        simp only [if_true, hjf]
        have : es[j]? = some (es[j]'(by simpa using hj)) := by simp at hj; simp [hj]
        rw [this]
        simp [kvOf]
      · simp only [if_neg hij]
        exact hi

theorem DiskAt.far {w : World} {d m : Nat} {fs : List FileV} (h : DiskAt w d m fs) {q o : Nat} {n : Int} (hc : w.cell? ⟨q, o, none⟩ = some (.int .u8 n)) : q ∉ [d, m] := by
  obtain ⟨⟨p, r, h1⟩, ⟨es, c, h2, _⟩, _⟩ := h
  intro hm
  simp only [List.mem_cons, List.mem_nil_iff, or_false] at hm
  rcases hm with rfl | rfl
  · rw [Lib.cell_of_heap h1] at hc
    match o, hc with
    | 0, hc => simp at hc
    | 1, hc => simp at hc
    | 2, hc => simp at hc
    | o + 3, hc => simp at hc
  · simp [World.cell?, h2] at hc
theorem DiskAt.rd {w w' : World} {d m : Nat} {fs : List FileV} (h : DiskAt w d m fs) (hM : Mod [d, m] w w') {v : Value} {l : List UInt8} (hr : Rd w 1 v l.length (u8L l)) : Rd w' 1 v l.length (u8L l) :=
  hM.rd hr fun q o u hc hu => by
    obtain ⟨x, _, rfl⟩ := List.mem_map.1 hu
    exact h.far hc
theorem DiskAt.ne {w : World} {d m : Nat} {fs : List FileV} (h : DiskAt w d m fs) : d ≠ m := by
  obtain ⟨⟨p, r, h1⟩, ⟨es, c, h2, _⟩, _⟩ := h
  rintro rfl
  unfold Blk at h1
  rw [h2] at h1
  cases h1
/-- The disk behind a put. -/
theorem DiskAt.put {w w'' : World} {d m : Nat} {fs : List FileV} {g : FileV} (h : DiskAt w d m fs) (hM : Mod [d, m] w w'') (hb : ∃ a b : Int, Blk w'' d #[.map (some m), .int .i64 a, .int .i64 b] 121)
    (hm : ∃ es clock, w''.heap[m]? = some (.map es clock) ∧ es.toList.map (fun e => (e.key, e.val)) = (putF fs g).map kvOf ∧ MapKept.Stamped es clock) (hg : Rd w'' 1 g.val g.bytes.length (u8L g.bytes) ∧ g.synced ≤ g.bytes.length ∧ g.bytes.length ≤ 1048576) : DiskAt w'' d m (putF fs g) :=
  ⟨hb, let ⟨es, c, h1, h2, _⟩ := hm; ⟨es, c, h1, h2⟩, (fun f hf => by
    rcases putF_mem hf with rfl | hf
    · exact hg
    · exact ⟨h.rd hM (h.good f hf).1, (h.good f hf).2⟩), let ⟨es, c, h1, _, h3⟩ := hm; ⟨es, c, h1, h3⟩⟩
theorem setMap_at {w : World} {m : Nat} {o o' : Obj} (h : w.heap[m]? = some o') : (setMap w m o).heap[m]? = some o := by
  have hlt : m < w.heap.size := (Array.getElem?_eq_some_iff.1 h).1
  simp [setMap, hlt]

set_option maxHeartbeats 1000000 in
theorem diskSync (d m : Nat) (fs : List FileV) (s : ByteArray) (f : FileV) (w : World) (hD : DiskAt w d m fs) (hf : findF fs s = some f) :
    Calls Tryz.prog 72 #[.pointer (some ⟨d, 0, none⟩), .string s] w fun e w' => e = .returned (.int .i64 0) ∧ DiskAt w' d m (putF fs { f with synced := f.bytes.length }) ∧ Mod [d, m] w w' := by
  have hH := diskHas d m fs s w hD
  rw [hf] at hH
  have hD0 := hD
  obtain ⟨hmem, rfl⟩ := findF_mem hf
  have HF := Lib.hid hf
  clear hD hf
  go_enter Tryz.func72, Tryz.ntmps72
  go_wp2_with fail
  (with_reducible refine hH.mono ?_)
  rintro e w1 ⟨rfl, hb1⟩
  have hD1 := hD0.below hb1
  have hD1' := hD1
  have c0 := hD1.cell0
  obtain ⟨⟨ca, cb, hblk⟩, ⟨es, c, h2, h3⟩, hg⟩ := hD1
  have hl := look_no h2 h3 f.name
  obtain ⟨hr, hsy, hfl⟩ := hg f hmem
  unfold lookF at hl
  rw [HF.out] at hl
  simp only at hl
  obtain ⟨A, c9, hv, hvl, hvc, _⟩ := hr
  rw [hv] at hl
  have hfl2 := hfl
  clear hg hD0 hH
  have HV := Lib.hid hv
  clear hv hmem hvl
  go_wp2_with fail
  refine wp_gen fun w2 hw2 => ?_
  have hb2 : Below w1.heap.size w1 w2 := by rw [hw2]; exact (Below.refl _ _).alloc (Nat.le_refl _) _
  have hB2 : Blk w2 w1.heap.size #[.slice A f.bytes.length c9, .int .i64 f.bytes.length] 124 := by rw [hw2]; exact Blk.new _ _ _
  have hD2 := hD1'.below hb2
  have hM2 : Mod [d, m] w w2 := (Mod.of_below hb1).trans (Mod.of_below hb2)
  have F : ∀ w', Below w2.heap.size w2 w' → w'.cell? ⟨d, 0, none⟩ = some (.map (some m)) ∧ w'.cell? ⟨w1.heap.size, 0, none⟩ = some (.slice A f.bytes.length c9) ∧ w'.cell? ⟨w1.heap.size, 1, none⟩ = some (.int .i64 f.bytes.length) := fun w' h =>
    ⟨(hD2.below h).cell0, (hB2.below h hB2.lt).cell rfl, (hB2.below h hB2.lt).cell rfl⟩
  clear hw2 c0 hblk h2 h3 hl hD1' hb1 hb2
  refine region_free (fun w' => Below w2.heap.size w2 w') [] [6] [0, 1, 2, 3, 4, 5] (by kernel_rfl) (by kernel_rfl) (by kernel_rfl) (Below.refl _ _).drew ?_
  repeat (first
    | (refine RelSeq.pure_ (c := ?_) rfl rfl ?_ ?_; rotate_left; (focus (intro x w'; dsimp only; go_simp; (repeat' apply And.intro) <;> first | with_reducible rfl | assumption)); simp only [Act.put, List.setIfInBounds_toArray, List.set_cons_zero, List.set_cons_succ])
    | (refine RelSeq.skip_ rfl (fun _ => rfl) ?_; simp only [Act.put, List.setIfInBounds_toArray, List.set_cons_zero, List.set_cons_succ])
    | (refine RelSeq.pureG_ (c := ?_) rfl (fun _ => rfl) rfl ?_ ?_; rotate_left; (focus (intro x w'; dsimp only; go_simp; (repeat' apply And.intro) <;> first | with_reducible rfl | assumption)); simp only [Act.put, List.setIfInBounds_toArray, List.set_cons_zero, List.set_cons_succ])
    | (refine RelSeq.grow_ (c := ?_) rfl rfl ?_ ?_; rotate_left; (focus (intro x w' hw _; dsimp only; obtain ⟨d0, d1, d2⟩ := F w' hw; have hbr := Below.refl w'.heap.size w'; go_simp; (repeat' apply And.intro) <;> first | with_reducible rfl | assumption)); simp only [Act.put, List.setIfInBounds_toArray, List.set_cons_zero, List.set_cons_succ])
    | (refine RelSeq.growG_ (c := ?_) rfl (fun _ => rfl) rfl ?_ ?_; rotate_left; (focus (intro x w' hw _; dsimp only; obtain ⟨d0, d1, d2⟩ := F w' hw; have hbr := Below.refl w'.heap.size w'; go_simp; (repeat' apply And.intro) <;> first | with_reducible rfl | assumption)); simp only [Act.put, List.setIfInBounds_toArray, List.set_cons_zero, List.set_cons_succ]))
  refine RelSeq.nil_ fun x w3 hw3 _ _ => ?_
  have hD3 := hD2.below hw3
  have hD3' := hD3
  have hM3 := hM2.trans (Mod.of_below hw3)
  obtain ⟨⟨ca, cb, hblk⟩, ⟨es, c, h2, h3⟩, hg⟩ := hD3
  obtain ⟨es', clock', hup, he'⟩ := upd_run h2 h3 hD3'.stamp { f with synced := f.bytes.length }
  simp only [HV.out] at hup
  have hmd := setMap_mod w3 m (.map es' clock')
  have hat := setMap_at (o := .map es' clock') h2
  clear F hw3 hD2 hM2 hB2
  refine TailSeq.cons_ rfl ?_
  go_simp
  generalize setMap w3 m (.map es' clock') = w4 at hmd hat ⊢
  refine TailSeq.nil_ ?_
  have hdm := hD3'.ne
  have hblk4 := hmd.blk hblk (by simpa using hdm)
  have hM34 : Mod [d, m] w3 w4 := hmd.mono (by simp)
  have cc := hblk4.cell (j := 2) rfl
  have hAdd := addI64 d 2 cb 1 w4 cc (hblk4.frozen 2)
  clear hup h2 h3 hg hblk hmd cc
  go_wp2_with fail
  (with_reducible refine hAdd.mono ?_)
  rintro e w5 ⟨rfl, hw5⟩
  have hblk5 : Blk w5 d #[.map (some m), .int .i64 ca, .int .i64 (IntKind.i64.wrap (cb + 1))] 121 := by rw [hw5]; exact hblk4.set_ 2 _
  have hat5 : w5.heap[m]? = some (.map es' clock') := by rw [hw5]; exact (Below.heap_setCell w4 _ _ m (fun e => hdm e.symm)).trans hat
  have hM35 : Mod [d, m] w3 w5 := hM34.trans (by rw [hw5]; exact Mod.of_but (But.set d 2 _ w4) (by simp))
  have hmem := (findF_mem HF.out).1
  have hD5 := hD3'.put (g := { f with synced := f.bytes.length }) hM35 ⟨_, _, hblk5⟩ ⟨_, _, hat5, he'⟩ ⟨hD3'.rd hM35 (hD3'.good f hmem).1, Nat.le_refl _, (hD3'.good f hmem).2.2⟩
  have hM5 := hM3.trans hM35
  clear hw5 hAdd hblk4 hblk5 hat hat5 hM34 hM35 hD3' hM3
  go_wp2_with fail
  go_ret
  exact ⟨rfl, hD5, hM5⟩
end Go.Proofs.YtdmdfccadjfpiaaGreat
