/-
  A disk: Cut, Append.
-/
import Derived.Test.YtdmdfccadjfpiaaGreatDisk2
namespace Go.Proofs.YtdmdfccadjfpiaaGreat
open Go.RowKit FreeNew
set_option maxRecDepth 100000
attribute [local go_sem] out

theorem Rd.pre {w : World} {A : Option Addr} {n c m : Nat} {xs : List Value} (h : Rd w 1 (.slice A n c) n xs) (hm : m ≤ n) : Rd w 1 (.slice A m c) m (xs.take m) := by
  obtain ⟨A', c', he, h1, h2, h3, h4⟩ := h
  cases he
  refine ⟨_, _, rfl, by simp; omega, by omega, h3, fun h0 => ?_⟩
  obtain ⟨q, o, rfl, hr⟩ := h4 (by omega)
  refine ⟨q, o, rfl, fun j u hj => hr j u ?_⟩
  rw [List.getElem?_take] at hj
  split at hj
  · exact hj
  · cases hj
theorem u8L_pre (l : List UInt8) (k : Nat) : (u8L l).take k = u8L (l.take k) := by simp [u8L, List.map_take]

set_option maxHeartbeats 1000000 in
theorem diskCut (d m n : Nat) (fs : List FileV) (s : ByteArray) (f : FileV) (w : World) (hD : DiskAt w d m fs) (hf : findF fs s = some f) (hn : n ≤ f.bytes.length) :
    Calls Tryz.prog 71 #[.pointer (some ⟨d, 0, none⟩), .string s, .int .i64 n] w fun e w' => e = .returned (.int .i64 0) ∧ (∃ v, DiskAt w' d m (putF fs ⟨s, v, f.bytes.take n, min f.synced n⟩)) ∧ Mod [d, m] w w' := by
  have hH := diskHas d m fs s w hD
  rw [hf] at hH
  have hD0 := hD
  obtain ⟨hmem, rfl⟩ := findF_mem hf
  have HF := Lib.hid hf
  clear hD hf
  go_enter Tryz.func71, Tryz.ntmps71
  go_wp2_with fail
  (with_reducible refine hH.mono ?_)
  rintro e w1 ⟨rfl, hb1⟩
  have hD1 := hD0.below hb1
  have hD1' := hD1
  have c0 := hD1.cell0
  obtain ⟨⟨ca, cb, hblk⟩, ⟨es, c, h2, h3⟩, hg⟩ := hD1
  have hl := look_no h2 h3 f.name
  obtain ⟨hr, hsy, hfl⟩ := hg f hmem
  unfold lookF at hl
  rw [HF.out] at hl
  simp only at hl
  have hr0 := hr
  obtain ⟨A, c9, hv, hvl, hvc, hvm, _⟩ := hr
  rw [hv] at hl hr0
  unfold maxLen at hvm
  have HV := Lib.hid hv
  clear hv hmem hvl hg hD0 hH
  go_wp2_with fail
  refine wp_gen fun w2 hw2 => ?_
  have hb2 : Below w1.heap.size w1 w2 := by rw [hw2]; exact (Below.refl _ _).alloc (Nat.le_refl _) _
  have hB2 : Blk w2 w1.heap.size #[.slice A f.bytes.length c9, .int .i64 f.synced] 124 := by rw [hw2]; exact Blk.new _ _ _
  have hD2 := hD1'.below hb2
  have hr2 := hr0.below hb2
  have hM2 : Mod [d, m] w w2 := (Mod.of_below hb1).trans (Mod.of_below hb2)
  have F : ∀ w', Below w2.heap.size w2 w' → w'.cell? ⟨d, 0, none⟩ = some (.map (some m)) ∧ w'.cell? ⟨w1.heap.size, 0, none⟩ = some (.slice A f.bytes.length c9) ∧ w'.cell? ⟨w1.heap.size, 1, none⟩ = some (.int .i64 f.synced) := fun w' h =>
    ⟨(hD2.below h).cell0, (hB2.below h hB2.lt).cell rfl, (hB2.below h hB2.lt).cell rfl⟩
  have hnc : n ≤ c9 := by omega
  obtain ⟨mn, hmn⟩ : ∃ mn, mn = min f.synced n := ⟨_, rfl⟩
  have emin : (if n < f.synced then (n : Int) else (f.synced : Int)) = (mn : Int) := by rw [hmn]; split <;> omega
  have HMN := Lib.hid hmn
  clear hmn
  clear hw2 c0 hblk h2 h3 hl hD1' hb1 hb2 hr0
  refine region_free (fun w' => Below w2.heap.size w2 w') [9, 14] [15] [0, 1, 2, 3, 4, 5, 6, 7, 8, 9, 10, 11, 12, 13, 14] (by kernel_rfl) (by kernel_rfl) (by kernel_rfl) (Below.refl _ _).drew ?_
  repeat (first
    | (refine RelSeq.pure_ (c := ?_) rfl rfl ?_ ?_; rotate_left; (focus (intro x w'; dsimp only; go_simp; (repeat' apply And.intro) <;> first | with_reducible rfl | assumption)); simp only [Act.put, List.setIfInBounds_toArray, List.set_cons_zero, List.set_cons_succ])
    | (refine RelSeq.skip_ rfl (fun _ => rfl) ?_; simp only [Act.put, List.setIfInBounds_toArray, List.set_cons_zero, List.set_cons_succ])
    | (refine RelSeq.pureG_ (c := ?_) rfl (fun _ => rfl) rfl ?_ ?_; rotate_left; (focus (intro x w'; dsimp only; go_simp; (repeat' apply And.intro) <;> first | with_reducible rfl | assumption)); simp only [Act.put, List.setIfInBounds_toArray, List.set_cons_zero, List.set_cons_succ])
    | (refine RelSeq.grow_ (c := ?_) rfl rfl ?_ ?_; rotate_left; (focus (intro x w' hw _; dsimp only; obtain ⟨d0, d1, d2⟩ := F w' hw; have hbr := Below.refl w'.heap.size w'; go_simp; (repeat' apply And.intro) <;> first | with_reducible rfl | assumption)); simp only [Act.put, List.setIfInBounds_toArray, List.set_cons_zero, List.set_cons_succ])
    | (refine RelSeq.growG_ (c := ?_) rfl (fun _ => rfl) rfl ?_ ?_; rotate_left; (focus (intro x w' hw _; dsimp only; obtain ⟨d0, d1, d2⟩ := F w' hw; have hbr := Below.refl w'.heap.size w'; go_simp; (repeat' apply And.intro) <;> first | with_reducible rfl | assumption)); simp only [Act.put, List.setIfInBounds_toArray, List.set_cons_zero, List.set_cons_succ]))
  refine RelSeq.rel_ (fun v u => ∃ A c, v = .slice A n c ∧ Rd u 1 v n (u8L (f.bytes.take n))) rfl rfl (fun v u u' h hb => let ⟨A, c, h1, h2⟩ := h; ⟨A, c, h1, h2.below hb⟩) ?_ ?_
  focus
    intro x w' hw _; dsimp only
    have hp := (hr2.below hw).pre hn
    rw [u8L_pre] at hp
    have hln : (f.bytes.take n).length = n := by simp; omega
    have hp2 : Rd w' 1 (.slice A n c9) (f.bytes.take n).length (u8L (f.bytes.take n)) := by rw [hln]; exact hp
    have hC := clone8 _ _ w' hp2 (by rw [hln]; omega)
    rw [hln] at hC
    clear F hp hp2 hln
    go_simp
    (with_reducible refine hC.mono ?_)
    rintro e w9 ⟨v9, rfl, hv9, hb9⟩
    have hr9 := rd_of_owns hv9
    obtain ⟨A9, c9', rfl⟩ := owns_slice hv9
    have hw9 := hw.trans (hb9.mono hw.size)
    clear hv9 hC
    go_simp
    all_goals ((repeat' apply And.intro) <;> first | assumption | exact ⟨_, _, rfl, hr9⟩ | with_reducible rfl | decide)
  simp only [Act.put, List.setIfInBounds_toArray, List.set_cons_zero, List.set_cons_succ, List.nil_append]
  repeat (first
    | (refine RelSeq.pure_ (c := ?_) rfl rfl ?_ ?_; rotate_left; (focus (intro x w'; dsimp only; go_simp; (repeat' apply And.intro) <;> first | with_reducible rfl | assumption)); simp only [Act.put, List.setIfInBounds_toArray, List.set_cons_zero, List.set_cons_succ])
    | (refine RelSeq.skip_ rfl (fun _ => rfl) ?_; simp only [Act.put, List.setIfInBounds_toArray, List.set_cons_zero, List.set_cons_succ])
    | (refine RelSeq.pureG_ (c := ?_) rfl (fun _ => rfl) rfl ?_ ?_; rotate_left; (focus (intro x w'; dsimp only; go_simp; (repeat' apply And.intro) <;> first | with_reducible rfl | assumption)); simp only [Act.put, List.setIfInBounds_toArray, List.set_cons_zero, List.set_cons_succ])
    | (refine RelSeq.grow_ (c := ?_) rfl rfl ?_ ?_; rotate_left; (focus (intro x w' hw _; dsimp only; obtain ⟨d0, d1, d2⟩ := F w' hw; have hbr := Below.refl w'.heap.size w'; go_simp; (repeat' apply And.intro) <;> first | with_reducible rfl | assumption)); simp only [Act.put, List.setIfInBounds_toArray, List.set_cons_zero, List.set_cons_succ])
    | (refine RelSeq.growG_ (c := ?_) rfl (fun _ => rfl) rfl ?_ ?_; rotate_left; (focus (intro x w' hw _; dsimp only; obtain ⟨d0, d1, d2⟩ := F w' hw; have hbr := Below.refl w'.heap.size w'; go_simp; (repeat' apply And.intro) <;> first | with_reducible rfl | assumption)); simp only [Act.put, List.setIfInBounds_toArray, List.set_cons_zero, List.set_cons_succ]))
  refine RelSeq.rel_ (fun v u => ∃ A c, v = .agg #[.slice A n c, .int .i64 mn] ∧ Rd u 1 (.slice A n c) n (u8L (f.bytes.take n))) rfl rfl (fun v u u' h hb => let ⟨A, c, h1, h2⟩ := h; ⟨A, c, h1, h2.below hb⟩) ?_ ?_
  focus
    intro x w' hw hfa; dsimp only
    obtain ⟨A9, c9', e9, h9⟩ := hfa _ (.head _) (by kernel_rfl)
    rw [e9] at h9
    have hbr := Below.refl w'.heap.size w'
    clear F
    go_simp
    all_goals ((repeat' apply And.intro) <;> first | assumption | exact ⟨_, _, rfl, h9⟩ | exact ⟨_, _, ⟨rfl, rfl⟩, h9⟩ | with_reducible rfl | decide)
  simp only [Act.put, List.setIfInBounds_toArray, List.set_cons_zero, List.set_cons_succ, List.nil_append, List.cons_append]
  refine RelSeq.nil_ fun x w3 hw3 hfa _ => ?_
  obtain ⟨A9, c9', e9, h9⟩ := hfa _ (.tail _ (.head _))
  have hD3 := hD2.below hw3
  have hD3' := hD3
  have hM3 := hM2.trans (Mod.of_below hw3)
  obtain ⟨⟨ca, cb, hblk⟩, ⟨es, c, h2, h3⟩, hg⟩ := hD3
  obtain ⟨es', clock', hup, he'⟩ := upd_run h2 h3 hD3'.stamp ⟨f.name, .slice A9 n c9', f.bytes.take n, mn⟩
  simp only at hup
  have hmd := setMap_mod w3 m (.map es' clock')
  have hat := setMap_at (o := .map es' clock') h2
  clear F hw3 hD2 hM2 hB2 hfa
  refine TailSeq.cons_ rfl ?_
  go_simp
  generalize setMap w3 m (.map es' clock') = w4 at hmd hat ⊢
  refine TailSeq.nil_ ?_
  have hdm := hD3'.ne
  have hblk4 := hmd.blk hblk (by simpa using hdm)
  have hM34 : Mod [d, m] w3 w4 := hmd.mono (by simp)
  have hln : (f.bytes.take n).length = n := by simp; omega
  have hR3 : Rd w3 1 (.slice A9 n c9') (f.bytes.take n).length (u8L (f.bytes.take n)) := by rw [hln]; exact h9
  have hD4 := hD3'.put (g := ⟨f.name, .slice A9 n c9', f.bytes.take n, mn⟩) hM34 ⟨_, _, hblk4⟩ ⟨_, _, hat, he'⟩ ⟨hD3'.rd hM34 hR3, by show mn ≤ (f.bytes.take n).length; rw [hln, HMN.out]; omega, by show (f.bytes.take n).length ≤ _; rw [hln]; omega⟩
  have hM4 := hM3.trans hM34
  rw [HMN.out] at hD4
  clear hup h2 h3 hg hblk hmd hblk4 hat hM34 hD3' hM3 hln hR3 h9 emin
  go_wp2_with fail
  go_ret
  exact ⟨rfl, ⟨_, hD4⟩, hM4⟩

/-- What a file has so far. -/
def hadF (fs : List FileV) (s : ByteArray) : List UInt8 × Nat := match findF fs s with | some f => (f.bytes, f.synced) | none => ([], 0)
theorem DiskAt.had {w : World} {d m : Nat} {fs : List FileV} (h : DiskAt w d m fs) (s : ByteArray) : ∃ A c, lookF fs s = .agg #[.slice A (hadF fs s).1.length c, .int .i64 (hadF fs s).2] ∧ Rd w 1 (.slice A (hadF fs s).1.length c) (hadF fs s).1.length (u8L (hadF fs s).1) ∧ (hadF fs s).2 ≤ (hadF fs s).1.length := by
  unfold lookF hadF
  cases hf : findF fs s with
  | none => exact ⟨none, 0, rfl, ⟨_, _, rfl, rfl, Nat.le_refl _, by unfold maxLen; omega, fun h => absurd h (by decide)⟩, Nat.le_refl _⟩
  | some f =>
    obtain ⟨hr, hsy, _⟩ := h.good f (findF_mem hf).1
    have hr0 := hr
    obtain ⟨A, c, hv, _⟩ := hr
    rw [hv] at hr0
    exact ⟨A, c, by simp only [hv], hr0, hsy⟩
theorem run_lenMap {w : World} {m clock : Nat} {es : Array MapEntry} (ty : TypeId) (hm : w.heap[m]? = some (.map es clock)) : (Builtin.len_ #[117] ty #[.map (some m)]).run Tryz.prog w = .ok (.int .i64 es.size) w := by
  simp [Builtin.len_, run_underlying Tryz.underlying117, MapKept.run_getObj_map hm, goInt, Result.andThen]

set_option maxHeartbeats 2000000 in
theorem diskAppendN (d m : Nat) (fs : List FileV) (s : ByteArray) (v : Value) (l : List UInt8) (w : World) (hD : DiskAt w d m fs) (hs : s.size ≤ maxLen) (hw : wordB s 16 true = true) (hroom : (findF fs s).isSome = true ∨ fs.length ≠ 64)
    (hl : Rd w 1 v l.length (u8L l)) (hsum : (hadF fs s).1.length + l.length ≤ 1048576) :
    Calls Tryz.prog 18 #[.pointer (some ⟨d, 0, none⟩), .string s, v] w fun e w' => e = .returned (.int .i64 0) ∧ (∃ v', DiskAt w' d m (putF fs ⟨s, v', (hadF fs s).1 ++ l, (hadF fs s).2⟩) ∧ ∀ g, v'.ownBlock = some g → w.heap.size ≤ g) ∧ Mod [d, m] w w' := by
  have hV := labValue s w hs
  rw [hw] at hV
  have hl0 := hl
  obtain ⟨Ab, cb9, rfl, _, hbc, hbm, _⟩ := hl
  unfold maxLen at hbm
  obtain ⟨i1, hi1, hz3, hz4, hz5⟩ := info_parts infoByte
  have HR := Lib.hid hroom
  clear hw hroom
  go_enter Tryz.func18, Tryz.ntmps18
  go_wp2_with fail
  (with_reducible refine hV.mono ?_)
  rintro e w1 ⟨rfl, hb1⟩
  have hH := diskHas d m fs s w1 (hD.below hb1)
  clear hV
  go_wp2_with fail
  (with_reducible refine hH.mono ?_)
  rintro e w2 ⟨rfl, hb2⟩
  have hbe2 := hb1.trans (hb2.mono hb1.size)
  have hD2 := hD.below hbe2
  have hl2 := hl0.below hbe2
  have hD2' := hD2
  have c0 := hD2.cell0
  obtain ⟨A, c9, hlk, hrd, hsy⟩ := hD2.had s
  obtain ⟨⟨ca, cb, hblk⟩, ⟨es, c, h2, h3⟩, hg⟩ := hD2
  have hlook := look_no h2 h3 s
  rw [hlk] at hlook
  generalize hhb : (hadF fs s).1 = hb at hsum hrd hlook hsy hlk
  generalize hsyn : (hadF fs s).2 = sy at hsy hlook hlk
  have hfld := fileField (.slice A hb.length c9) (.int .i64 sy)
  have hesz : es.size = fs.length := by have := congrArg List.length h3; simpa using this
  have hlen := fun ty => run_lenMap (w := w2) ty h2
  have hns : ¬ ((1048576 : Int) - (hb.length : Int) < (l.length : Int)) := by omega
  rw [hesz] at hlen
  have HHB := Lib.hid hhb
  have HSYN := Lib.hid hsyn
  clear hhb hsyn hlk hH h2 h3 hg hesz hblk hD hb1 hb2
  have hrd0 := hrd
  obtain ⟨_, _, _, _, hhc, hhm, _⟩ := hrd
  unfold maxLen at hhm
  have hb60 : hb.length ≤ 1048576 := by omega
  have M : ∀ wz, Below w2.heap.size w2 wz → True := fun _ _ => trivial
  have key : fs.length = 64 → (findF fs s).isSome = true := fun e => by
    have := HR.out
    rcases this with h | h
    · exact h
    · exact absurd e h
  cases hfs : (findF fs s).isSome with
  | true =>
    clear key hlen
    go_wp2_with fail
    refine calls_gen fun w3 hw3 => ?_
    have hb3 : Below w2.heap.size w2 w3 := by rw [hw3]; exact (Below.refl _ _).alloc (Nat.le_refl _) _
    have hB3 : Blk w3 w2.heap.size #[.slice A hb.length c9, .int .i64 sy] 124 := by rw [hw3]; exact Blk.new _ _ _
    have hC := clone8 _ hb w3 (hrd0.below hb3) (by omega)
    have hw23 := hb3.size
    clear hw3 hlook hfld c0
    (with_reducible refine hC.mono ?_)
    rintro e w4 ⟨v4, rfl, hv4, hb4⟩
    have hbe4 : Below w2.heap.size w2 w4 := hb3.trans (hb4.mono hb3.size)
    have hB4 := hB3.below hb4 hB3.lt
    obtain ⟨A4, c4, rfl⟩ := owns_slice hv4
    have hsz4 := hb4.size
    clear hC hb3 hb4 hB3
    go_wp2_with (at_builtin; refine wpl_stop fun W hW => ?_)
    refine Stopped.mk ?_
    subst hW
    refine wpl_append_rd rfl (.tmp 49) (.tmp 50) 58 rfl w3.heap.size 5 i1 _ 1 1 Tryz.underlying58 hi1 hz3 hz4 hz5 rfl (by decide) _ hb.length _ rfl hv4 _ l.length (u8L l) rfl (hl2.below hbe4) (u8L_one _) (by unfold maxLen; omega) (by omega) hsz4 fun v6 w6 hown6 hgr6 _ => ?_
    have hbe6 : Below w2.heap.size w2 w6 := hbe4.grown hgr6 hbe4.size (fun q hq => Nat.le_trans hw23 (hv4.lt q hq).1)
    have hB6 : Blk w6 w2.heap.size #[.slice A hb.length c9, .int .i64 sy] 124 := hB4.grown hgr6 (owns_ne hv4 hB4 (by decide))
    have hlen6 : (hb ++ l).length = hb.length + l.length := by simp
    have hown7 : w6.ownsRow w3.heap.size 5 1 v6 (hb ++ l).length (u8L (hb ++ l)) := by rw [hlen6]; simpa [u8L] using hown6
    have hbd : (hb ++ l).length ≤ 1048576 := by omega
    have hsyl : sy ≤ (hb ++ l).length := by omega
    obtain ⟨L, hLL⟩ : ∃ L, L = hb ++ l := ⟨_, rfl⟩
    rw [← hLL] at hown7 hbd hsyl
    have HLL := Lib.hid hLL
    clear hLL
    obtain ⟨A6, c6, rfl⟩ := owns_slice hown7
    have hfr : ∀ g, (Value.slice A6 L.length c6).ownBlock = some g → w.heap.size ≤ g := fun g hg => by have := (hown7.lt g hg).1; have := hbe2.size; omega
    have HFR := Lib.hid hfr
    clear hfr
    clear hbe4 hB4 hgr6 hown6 hlen6 hv4
    have cz : w6.cell? ⟨w2.heap.size, 0, none⟩ = some (.slice A hb.length c9) := hB6.cell rfl
    have fz := hB6.frozen 0
    go_wp2_with fail
    refine wp_gen fun w7 hw7 => ?_
    have hbe7 : Below w2.heap.size w2 w7 := by rw [hw7]; exact hbe6.setCell (Nat.le_refl _) _
    have hB7 : Blk w7 w2.heap.size #[.slice A6 L.length c6, .int .i64 sy] 124 := by rw [hw7]; exact hB6.set_ 0 _
    have hr7 : Rd w7 1 (.slice A6 L.length c6) L.length (u8L L) := by rw [hw7]; exact rd_of_owns (owns_set hown7 hB6 (by decide) 0 _)
    have hD7 := hD2'.below hbe7
    have hM7 : Mod [d, m] w w7 := (Mod.of_below hbe2).trans (Mod.of_below hbe7)
    clear hw7 cz fz hB6 hown7 hbe6 hbe7
    have F : ∀ w', Below w7.heap.size w7 w' → w'.cell? ⟨d, 0, none⟩ = some (.map (some m)) ∧ w'.cell? ⟨w2.heap.size, 0, none⟩ = some (.slice A6 L.length c6) ∧ w'.cell? ⟨w2.heap.size, 1, none⟩ = some (.int .i64 sy) := fun w' h =>
      ⟨(hD7.below h).cell0, (hB7.below h hB7.lt).cell rfl, (hB7.below h hB7.lt).cell rfl⟩
    refine region_free (fun w' => Below w7.heap.size w7 w') [] [6] [0, 1, 2, 3, 4, 5] (by kernel_rfl) (by kernel_rfl) (by kernel_rfl) (Below.refl _ _).drew ?_
    repeat (first
      | (refine RelSeq.pure_ (c := ?_) rfl rfl ?_ ?_; rotate_left; (focus (intro x w'; dsimp only; go_simp; (repeat' apply And.intro) <;> first | with_reducible rfl | assumption)); simp only [Act.put, List.setIfInBounds_toArray, List.set_cons_zero, List.set_cons_succ])
      | (refine RelSeq.skip_ rfl (fun _ => rfl) ?_; simp only [Act.put, List.setIfInBounds_toArray, List.set_cons_zero, List.set_cons_succ])
      | (refine RelSeq.pureG_ (c := ?_) rfl (fun _ => rfl) rfl ?_ ?_; rotate_left; (focus (intro x w'; dsimp only; go_simp; (repeat' apply And.intro) <;> first | with_reducible rfl | assumption)); simp only [Act.put, List.setIfInBounds_toArray, List.set_cons_zero, List.set_cons_succ])
      | (refine RelSeq.grow_ (c := ?_) rfl rfl ?_ ?_; rotate_left; (focus (intro x w' hw _; dsimp only; obtain ⟨d0, d1, d2⟩ := F w' hw; have hbr := Below.refl w'.heap.size w'; go_simp; (repeat' apply And.intro) <;> first | with_reducible rfl | assumption)); simp only [Act.put, List.setIfInBounds_toArray, List.set_cons_zero, List.set_cons_succ])
      | (refine RelSeq.growG_ (c := ?_) rfl (fun _ => rfl) rfl ?_ ?_; rotate_left; (focus (intro x w' hw _; dsimp only; obtain ⟨d0, d1, d2⟩ := F w' hw; have hbr := Below.refl w'.heap.size w'; go_simp; (repeat' apply And.intro) <;> first | with_reducible rfl | assumption)); simp only [Act.put, List.setIfInBounds_toArray, List.set_cons_zero, List.set_cons_succ]))
    refine RelSeq.nil_ fun x w8 hw8 _ _ => ?_
    have hD8 := hD7.below hw8
    have hD8' := hD8
    have hM8 := hM7.trans (Mod.of_below hw8)
    have hr8 := hr7.below hw8
    obtain ⟨⟨ca, cb, hblk⟩, ⟨es, c, h2, h3⟩, hg⟩ := hD8
    obtain ⟨es', clock', hup, he'⟩ := upd_run h2 h3 hD8'.stamp ⟨s, .slice A6 L.length c6, L, sy⟩
    simp only at hup
    have hmd := setMap_mod w8 m (.map es' clock')
    have hat := setMap_at (o := .map es' clock') h2
    clear F hw8 hD7 hM7 hB7 hr7
    refine TailSeq.cons_ rfl ?_
    go_simp
    generalize setMap w8 m (.map es' clock') = w9 at hmd hat ⊢
    refine TailSeq.nil_ ?_
    have hdm := hD8'.ne
    have hblk9 := hmd.blk hblk (by simpa using hdm)
    have hM89 : Mod [d, m] w8 w9 := hmd.mono (by simp)
    have cc := hblk9.cell (j := 1) rfl
    have hAdd := addI64 d 1 ca 1 w9 cc (hblk9.frozen 1)
    clear hup h2 h3 hg hblk hmd cc
    go_wp2_with fail
    (with_reducible refine hAdd.mono ?_)
    rintro e w10 ⟨rfl, hw10⟩
    have hblk10 : Blk w10 d #[.map (some m), .int .i64 (IntKind.i64.wrap (ca + 1)), .int .i64 cb] 121 := by rw [hw10]; exact hblk9.set_ 1 _
    have hat10 : w10.heap[m]? = some (.map es' clock') := by rw [hw10]; exact (Below.heap_setCell w9 _ _ m (fun e => hdm e.symm)).trans hat
    have hM810 : Mod [d, m] w8 w10 := hM89.trans (by rw [hw10]; exact Mod.of_but (But.set d 1 _ w9) (by simp))
    have hD10 := hD8'.put (g := ⟨s, .slice A6 L.length c6, L, sy⟩) hM810 ⟨_, _, hblk10⟩ ⟨_, _, hat10, he'⟩ ⟨hD8'.rd hM810 hr8, hsyl, hbd⟩
    have hM10 := hM8.trans hM810
    clear hw10 hAdd hblk9 hblk10 hat hat10 hM89 hM810 hD8' hM8 hr8
    go_wp2_with fail
    go_ret
    exact ⟨rfl, ⟨.slice A6 L.length c6, by rw [HHB.out, HSYN.out, ← HLL.out]; exact hD10, HFR.out⟩, hM10⟩
  | false =>
    have h64 : ¬ fs.length = 64 := fun e => by have := key e; rw [hfs] at this; cases this
    clear key
    go_wp2_with fail
    refine calls_gen fun w3 hw3 => ?_
    have hb3 : Below w2.heap.size w2 w3 := by rw [hw3]; exact (Below.refl _ _).alloc (Nat.le_refl _) _
    have hB3 : Blk w3 w2.heap.size #[.slice A hb.length c9, .int .i64 sy] 124 := by rw [hw3]; exact Blk.new _ _ _
    have hC := clone8 _ hb w3 (hrd0.below hb3) (by omega)
    have hw23 := hb3.size
    clear hw3 hlook hfld c0
    (with_reducible refine hC.mono ?_)
    rintro e w4 ⟨v4, rfl, hv4, hb4⟩
    have hbe4 : Below w2.heap.size w2 w4 := hb3.trans (hb4.mono hb3.size)
    have hB4 := hB3.below hb4 hB3.lt
    obtain ⟨A4, c4, rfl⟩ := owns_slice hv4
    have hsz4 := hb4.size
    clear hC hb3 hb4 hB3
    go_wp2_with (at_builtin; refine wpl_stop fun W hW => ?_)
    refine Stopped.mk ?_
    subst hW
    refine wpl_append_rd rfl (.tmp 49) (.tmp 50) 58 rfl w3.heap.size 5 i1 _ 1 1 Tryz.underlying58 hi1 hz3 hz4 hz5 rfl (by decide) _ hb.length _ rfl hv4 _ l.length (u8L l) rfl (hl2.below hbe4) (u8L_one _) (by unfold maxLen; omega) (by omega) hsz4 fun v6 w6 hown6 hgr6 _ => ?_
    have hbe6 : Below w2.heap.size w2 w6 := hbe4.grown hgr6 hbe4.size (fun q hq => Nat.le_trans hw23 (hv4.lt q hq).1)
    have hB6 : Blk w6 w2.heap.size #[.slice A hb.length c9, .int .i64 sy] 124 := hB4.grown hgr6 (owns_ne hv4 hB4 (by decide))
    have hlen6 : (hb ++ l).length = hb.length + l.length := by simp
    have hown7 : w6.ownsRow w3.heap.size 5 1 v6 (hb ++ l).length (u8L (hb ++ l)) := by rw [hlen6]; simpa [u8L] using hown6
    have hbd : (hb ++ l).length ≤ 1048576 := by omega
    have hsyl : sy ≤ (hb ++ l).length := by omega
    obtain ⟨L, hLL⟩ : ∃ L, L = hb ++ l := ⟨_, rfl⟩
    rw [← hLL] at hown7 hbd hsyl
    have HLL := Lib.hid hLL
    clear hLL
    obtain ⟨A6, c6, rfl⟩ := owns_slice hown7
    have hfr : ∀ g, (Value.slice A6 L.length c6).ownBlock = some g → w.heap.size ≤ g := fun g hg => by have := (hown7.lt g hg).1; have := hbe2.size; omega
    have HFR := Lib.hid hfr
    clear hfr
    clear hbe4 hB4 hgr6 hown6 hlen6 hv4
    have cz : w6.cell? ⟨w2.heap.size, 0, none⟩ = some (.slice A hb.length c9) := hB6.cell rfl
    have fz := hB6.frozen 0
    go_wp2_with fail
    refine wp_gen fun w7 hw7 => ?_
    have hbe7 : Below w2.heap.size w2 w7 := by rw [hw7]; exact hbe6.setCell (Nat.le_refl _) _
    have hB7 : Blk w7 w2.heap.size #[.slice A6 L.length c6, .int .i64 sy] 124 := by rw [hw7]; exact hB6.set_ 0 _
    have hr7 : Rd w7 1 (.slice A6 L.length c6) L.length (u8L L) := by rw [hw7]; exact rd_of_owns (owns_set hown7 hB6 (by decide) 0 _)
    have hD7 := hD2'.below hbe7
    have hM7 : Mod [d, m] w w7 := (Mod.of_below hbe2).trans (Mod.of_below hbe7)
    clear hw7 cz fz hB6 hown7 hbe6 hbe7
    have F : ∀ w', Below w7.heap.size w7 w' → w'.cell? ⟨d, 0, none⟩ = some (.map (some m)) ∧ w'.cell? ⟨w2.heap.size, 0, none⟩ = some (.slice A6 L.length c6) ∧ w'.cell? ⟨w2.heap.size, 1, none⟩ = some (.int .i64 sy) := fun w' h =>
      ⟨(hD7.below h).cell0, (hB7.below h hB7.lt).cell rfl, (hB7.below h hB7.lt).cell rfl⟩
    refine region_free (fun w' => Below w7.heap.size w7 w') [] [6] [0, 1, 2, 3, 4, 5] (by kernel_rfl) (by kernel_rfl) (by kernel_rfl) (Below.refl _ _).drew ?_
    repeat (first
      | (refine RelSeq.pure_ (c := ?_) rfl rfl ?_ ?_; rotate_left; (focus (intro x w'; dsimp only; go_simp; (repeat' apply And.intro) <;> first | with_reducible rfl | assumption)); simp only [Act.put, List.setIfInBounds_toArray, List.set_cons_zero, List.set_cons_succ])
      | (refine RelSeq.skip_ rfl (fun _ => rfl) ?_; simp only [Act.put, List.setIfInBounds_toArray, List.set_cons_zero, List.set_cons_succ])
      | (refine RelSeq.pureG_ (c := ?_) rfl (fun _ => rfl) rfl ?_ ?_; rotate_left; (focus (intro x w'; dsimp only; go_simp; (repeat' apply And.intro) <;> first | with_reducible rfl | assumption)); simp only [Act.put, List.setIfInBounds_toArray, List.set_cons_zero, List.set_cons_succ])
      | (refine RelSeq.grow_ (c := ?_) rfl rfl ?_ ?_; rotate_left; (focus (intro x w' hw _; dsimp only; obtain ⟨d0, d1, d2⟩ := F w' hw; have hbr := Below.refl w'.heap.size w'; go_simp; (repeat' apply And.intro) <;> first | with_reducible rfl | assumption)); simp only [Act.put, List.setIfInBounds_toArray, List.set_cons_zero, List.set_cons_succ])
      | (refine RelSeq.growG_ (c := ?_) rfl (fun _ => rfl) rfl ?_ ?_; rotate_left; (focus (intro x w' hw _; dsimp only; obtain ⟨d0, d1, d2⟩ := F w' hw; have hbr := Below.refl w'.heap.size w'; go_simp; (repeat' apply And.intro) <;> first | with_reducible rfl | assumption)); simp only [Act.put, List.setIfInBounds_toArray, List.set_cons_zero, List.set_cons_succ]))
    refine RelSeq.nil_ fun x w8 hw8 _ _ => ?_
    have hD8 := hD7.below hw8
    have hD8' := hD8
    have hM8 := hM7.trans (Mod.of_below hw8)
    have hr8 := hr7.below hw8
    obtain ⟨⟨ca, cb, hblk⟩, ⟨es, c, h2, h3⟩, hg⟩ := hD8
    obtain ⟨es', clock', hup, he'⟩ := upd_run h2 h3 hD8'.stamp ⟨s, .slice A6 L.length c6, L, sy⟩
    simp only at hup
    have hmd := setMap_mod w8 m (.map es' clock')
    have hat := setMap_at (o := .map es' clock') h2
    clear F hw8 hD7 hM7 hB7 hr7
    refine TailSeq.cons_ rfl ?_
    go_simp
    generalize setMap w8 m (.map es' clock') = w9 at hmd hat ⊢
    refine TailSeq.nil_ ?_
    have hdm := hD8'.ne
    have hblk9 := hmd.blk hblk (by simpa using hdm)
    have hM89 : Mod [d, m] w8 w9 := hmd.mono (by simp)
    have cc := hblk9.cell (j := 1) rfl
    have hAdd := addI64 d 1 ca 1 w9 cc (hblk9.frozen 1)
    clear hup h2 h3 hg hblk hmd cc
    go_wp2_with fail
    (with_reducible refine hAdd.mono ?_)
    rintro e w10 ⟨rfl, hw10⟩
    have hblk10 : Blk w10 d #[.map (some m), .int .i64 (IntKind.i64.wrap (ca + 1)), .int .i64 cb] 121 := by rw [hw10]; exact hblk9.set_ 1 _
    have hat10 : w10.heap[m]? = some (.map es' clock') := by rw [hw10]; exact (Below.heap_setCell w9 _ _ m (fun e => hdm e.symm)).trans hat
    have hM810 : Mod [d, m] w8 w10 := hM89.trans (by rw [hw10]; exact Mod.of_but (But.set d 1 _ w9) (by simp))
    have hD10 := hD8'.put (g := ⟨s, .slice A6 L.length c6, L, sy⟩) hM810 ⟨_, _, hblk10⟩ ⟨_, _, hat10, he'⟩ ⟨hD8'.rd hM810 hr8, hsyl, hbd⟩
    have hM10 := hM8.trans hM810
    clear hw10 hAdd hblk9 hblk10 hat hat10 hM89 hM810 hD8' hM8 hr8
    go_wp2_with fail
    go_ret
    exact ⟨rfl, ⟨.slice A6 L.length c6, by rw [HHB.out, HSYN.out, ← HLL.out]; exact hD10, HFR.out⟩, hM10⟩
theorem diskAppend (d m : Nat) (fs : List FileV) (s : ByteArray) (v : Value) (l : List UInt8) (w : World) (hD : DiskAt w d m fs) (hs : s.size ≤ maxLen) (hw : wordB s 16 true = true) (hroom : (findF fs s).isSome = true ∨ fs.length ≠ 64)
    (hl : Rd w 1 v l.length (u8L l)) (hsum : (hadF fs s).1.length + l.length ≤ 1048576) :
    Calls Tryz.prog 18 #[.pointer (some ⟨d, 0, none⟩), .string s, v] w fun e w' => e = .returned (.int .i64 0) ∧ (∃ v', DiskAt w' d m (putF fs ⟨s, v', (hadF fs s).1 ++ l, (hadF fs s).2⟩)) ∧ Mod [d, m] w w' :=
  (diskAppendN d m fs s v l w hD hs hw hroom hl hsum).mono fun _ _ ⟨h1, ⟨v', h2, _⟩, h3⟩ => ⟨h1, ⟨v', h2⟩, h3⟩
end Go.Proofs.YtdmdfccadjfpiaaGreat
