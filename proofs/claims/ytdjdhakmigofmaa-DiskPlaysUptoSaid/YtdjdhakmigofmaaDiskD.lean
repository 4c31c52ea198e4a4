/-
  A disk with its counts: what cannot be done; Remove, Rename, Crash.
-/
import Derived.Test.YtdjdhakmigofmaaDisk4
import Derived.Test.YtdjdhakmigofmaaCrashN
namespace Go.Proofs.Ytdjdhakmigofmaa
open Go.RowKit FreeNew
set_option maxRecDepth 100000
attribute [local go_sem] out

theorem diskCutNone (d m : Nat) (fs : List FileV) (s : ByteArray) (n : Int) (w : World) (hD : DiskAt w d m fs) (hf : findF fs s = none) :
    Calls Try.prog 20 #[.pointer (some ⟨d, 0, none⟩), .string s, .int .i64 n] w fun e w' => e = .returned (.int .i64 14) ∧ Below w.heap.size w w' := by
  have hH := diskHas d m fs s w hD
  rw [hf] at hH
  go_enter Try.func20, Try.ntmps20
  go_wp2_with fail
  (with_reducible refine hH.mono ?_)
  rintro e w1 ⟨rfl, hb1⟩
  go_wp2_with fail
  go_ret
  exact ⟨rfl, hb1⟩
theorem diskRenameNone (d m : Nat) (fs : List FileV) (s : ByteArray) (t : ByteArray) (w : World) (hD : DiskAt w d m fs) (hf : findF fs s = none) :
    Calls Try.prog 22 #[.pointer (some ⟨d, 0, none⟩), .string s, .string t] w fun e w' => e = .returned (.int .i64 14) ∧ Below w.heap.size w w' := by
  have hH := diskHas d m fs s w hD
  rw [hf] at hH
  go_enter Try.func22, Try.ntmps22
  go_wp2_with fail
  (with_reducible refine hH.mono ?_)
  rintro e w1 ⟨rfl, hb1⟩
  go_wp2_with fail
  go_ret
  exact ⟨rfl, hb1⟩
theorem diskRemoveNone (d m : Nat) (fs : List FileV) (s : ByteArray) (w : World) (hD : DiskAt w d m fs) (hf : findF fs s = none) :
    Calls Try.prog 24 #[.pointer (some ⟨d, 0, none⟩), .string s] w fun e w' => e = .returned (.int .i64 14) ∧ Below w.heap.size w w' := by
  have hH := diskHas d m fs s w hD
  rw [hf] at hH
  go_enter Try.func24, Try.ntmps24
  go_wp2_with fail
  (with_reducible refine hH.mono ?_)
  rintro e w1 ⟨rfl, hb1⟩
  go_wp2_with fail
  go_ret
  exact ⟨rfl, hb1⟩
theorem diskAppendName' (d _m : Nat) (_fs : List FileV) (s : ByteArray) (v : Value) (w : World) (hs : s.size ≤ maxLen) (hw : wordB s 16 true = false) :
    Calls Try.prog 10 #[.pointer (some ⟨d, 0, none⟩), .string s, v] w fun e w' => e = .returned (.int .i64 8) ∧ Below w.heap.size w w' := by
  have hV := labValue s w hs
  rw [hw] at hV
  go_enter Try.func10, Try.ntmps10
  go_wp2_with fail
  (with_reducible refine hV.mono ?_)
  rintro e w1 ⟨rfl, hb1⟩
  go_wp2_with fail
  go_ret
  exact ⟨rfl, hb1⟩
theorem diskRenameName (d m : Nat) (fs : List FileV) (s t : ByteArray) (w : World) (hD : DiskAt w d m fs) (hf : (findF fs s).isSome = true) (ht : t.size ≤ maxLen) (hw : wordB t 16 true = false) :
    Calls Try.prog 22 #[.pointer (some ⟨d, 0, none⟩), .string s, .string t] w fun e w' => e = .returned (.int .i64 8) ∧ Below w.heap.size w w' := by
  have hH := diskHas d m fs s w hD
  rw [hf] at hH
  have hV := fun w' => labValue t w' ht
  rw [hw] at hV
  go_enter Try.func22, Try.ntmps22
  go_wp2_with fail
  (with_reducible refine hH.mono ?_)
  rintro e w1 ⟨rfl, hb1⟩
  have hV1 := hV w1
  clear hV hH
  go_wp2_with fail
  (with_reducible refine hV1.mono ?_)
  rintro e w2 ⟨rfl, hb2⟩
  go_wp2_with fail
  go_ret
  exact ⟨rfl, hb1.trans (hb2.mono hb1.size)⟩
set_option maxHeartbeats 1000000 in
theorem diskCutRange (d m : Nat) (fs : List FileV) (s : ByteArray) (n : Int) (f : FileV) (w : World) (hD : DiskAt w d m fs) (hf : findF fs s = some f) (hn : n < 0 ∨ (f.bytes.length : Int) < n) :
    Calls Try.prog 20 #[.pointer (some ⟨d, 0, none⟩), .string s, .int .i64 n] w fun e w' => e = .returned (.int .i64 6) ∧ Below w.heap.size w w' := by
  have hH := diskHas d m fs s w hD
  rw [hf] at hH
  obtain ⟨hmem, rfl⟩ := findF_mem hf
  have HF := Lib.hid hf
  have hD0 := hD
  clear hD hf
  go_enter Try.func20, Try.ntmps20
  go_wp2_with fail
  (with_reducible refine hH.mono ?_)
  rintro e w1 ⟨rfl, hb1⟩
  have hD1 := hD0.below hb1
  have c0 := hD1.cell0
  obtain ⟨_, ⟨es, c, h2, h3⟩, hg⟩ := hD1
  have hl := look_no h2 h3 f.name
  obtain ⟨hr, _⟩ := hg f hmem
  unfold lookF at hl
  rw [HF.out] at hl
  simp only at hl
  obtain ⟨A, c9, hv, _⟩ := hr
  rw [hv] at hl
  obtain ⟨bl, hbl⟩ : ∃ bl, bl = f.bytes.length := ⟨_, rfl⟩
  rw [← hbl] at hl hn
  clear hv hmem hg hD0 hH hbl
  by_cases hn0 : n < 0
  · have hn1 : decide (n < 0) = true := by simpa using hn0
    clear hn
    go_wp2_with fail
    go_ret
    exact ⟨rfl, hb1.trans (by first | exact (Below.refl _ _).alloc hb1.size _ | exact ((Below.refl _ _).alloc (Nat.le_refl _) _).mono hb1.size)⟩
  · have hn1 : decide (n < 0) = false := by simpa using hn0
    have hn2 : decide ((bl : Int) < n) = true := by simp; omega
    clear hn
    go_wp2_with fail
    go_ret
    exact ⟨rfl, hb1.trans (by first | exact (Below.refl _ _).alloc hb1.size _ | exact ((Below.refl _ _).alloc (Nat.le_refl _) _).mono hb1.size)⟩
theorem delF_map {fs : List FileV} {s : ByteArray} {g : FileV} (hg : g ∈ delF fs s) : g ∈ fs := delF_mem hg
set_option maxHeartbeats 1000000 in
theorem diskRemoveC (d m : Nat) (ia ib : Int) (fs : List FileV) (s : ByteArray) (w : World) (hDC : DiskC w d m ia ib fs) (hf : (findF fs s).isSome = true) :
    Calls Try.prog 24 #[.pointer (some ⟨d, 0, none⟩), .string s] w fun e w' => e = .returned (.int .i64 0) ∧ Upd (d :: m :: filesFp fs) w [chDiskC d m ia ib (delF fs s)] w' := by
  have hD := hDC.1
  have hQ0 := Lib.hid hDC.2
  have hH := diskHas d m fs s w hD
  rw [hf] at hH
  have hD0 := hD
  clear hDC hD
  go_enter Try.func24, Try.ntmps24
  go_wp2_with fail
  (with_reducible refine hH.mono ?_)
  rintro e w1 ⟨rfl, hb1⟩
  have hD1 := hD0.below hb1
  have hblk := hQ0.out.below hb1 hQ0.out.lt
  have hD1' := hD1
  have c0 := hD1.cell0
  obtain ⟨_, ⟨es, c, h2, h3⟩, hg⟩ := hD1
  obtain ⟨es', hdel, he', hst⟩ := del_run h2 h3 hD1'.stamp s 0
  have hmd := setMap_mod w1 m (.map es' c)
  have hat := setMap_at (o := .map es' c) h2
  clear h2 h3 hg hH
  go_wp2_with fail
  generalize setMap w1 m (.map es' c) = w2 at hmd hat ⊢
  have hblk2 := hmd.blk hblk (by simpa using hD1'.ne)
  have hM12 : Mod [d, m] w1 w2 := hmd.mono (by simp)
  have hD2 := hD1'.del s hM12 ⟨_, _, hblk2⟩ ⟨_, _, hat, he', hst⟩
  have HU := Lib.hid (Upd.ofModC (fs := fs) ((Mod.of_below hb1).trans hM12) ⟨hD2, hblk2⟩ fun g hg => .inr ⟨g, delF_mem hg, rfl, rfl⟩)
  clear hdel hmd hat hM12 hD2 hblk2 hblk
  go_ret
  exact ⟨rfl, HU.out⟩
set_option maxHeartbeats 2000000 in
theorem diskRenameC (d m : Nat) (ia ib : Int) (fs : List FileV) (s t : ByteArray) (f : FileV) (w : World) (hDC : DiskC w d m ia ib fs) (hf : findF fs s = some f) (ht : t.size ≤ maxLen) (hw : wordB t 16 true = true) :
    Calls Try.prog 22 #[.pointer (some ⟨d, 0, none⟩), .string s, .string t] w fun e w' => e = .returned (.int .i64 0) ∧ Upd (d :: m :: filesFp fs) w [chDiskC d m ia ib (putF (delF fs s) { f with name := t })] w' := by
  have hD := hDC.1
  have hQ0 := Lib.hid hDC.2
  have hH := diskHas d m fs s w hD
  rw [hf] at hH
  have hV := fun w' => labValue t w' ht
  rw [hw] at hV
  obtain ⟨hmem, hnm⟩ := findF_mem hf
  have HF := Lib.hid hf
  have HV := Lib.hid hV
  have hD0 := hD
  clear hDC hD hf hV
  go_enter Try.func22, Try.ntmps22
  go_wp2_with fail
  (with_reducible refine hH.mono ?_)
  rintro e w1 ⟨rfl, hb1⟩
  have hD1 := hD0.below hb1
  have HQ1 := Lib.hid (hQ0.out.below hb1 hQ0.out.lt)
  clear hQ0 hD0 hH
  go_wp2_with fail
  (with_reducible refine (HV.out w1).mono ?_)
  rintro e w2 ⟨rfl, hb2⟩
  have hD2 := hD1.below hb2
  have HQ2 := Lib.hid (HQ1.out.below hb2 HQ1.out.lt)
  have hb02 := hb1.trans (hb2.mono hb1.size)
  have hD2' := hD2
  have c0 := hD2.cell0
  obtain ⟨_, ⟨es, c, h2, h3⟩, hg⟩ := hD2
  have hl := look_no h2 h3 s
  have hgf := hg f hmem
  obtain ⟨A, c9, hv, _⟩ := hgf.1
  unfold lookF at hl
  rw [HF.out] at hl
  simp only at hl
  rw [hv] at hl
  have HGF := Lib.hid hgf
  have HVV := Lib.hid hv
  obtain ⟨bl, hbl⟩ : ∃ bl, bl = f.bytes.length := ⟨_, rfl⟩
  rw [← hbl] at hl
  have HBL := Lib.hid hbl
  obtain ⟨sy, hsy⟩ : ∃ sy, sy = f.synced := ⟨_, rfl⟩
  rw [← hsy] at hl
  have HSY := Lib.hid hsy
  obtain ⟨W, hW⟩ : ∃ W, W = w2.alloc (.cells #[.slice A bl c9, .int .i64 sy] 84) := ⟨_, rfl⟩
  have hbW : Below w2.heap.size w2 W := by rw [hW]; exact (Below.refl _ _).alloc (Nat.le_refl _) _
  have hDW := hD2'.below hbW
  have HQW := Lib.hid (HQ2.out.below hbW HQ2.out.lt)
  obtain ⟨_, ⟨es2, c2, h22, h32⟩, hg2⟩ := id hDW
  obtain ⟨es', hdel, he', hst⟩ := del_run h22 h32 hDW.stamp s 0
  have cW := hDW.cell0
  rw [hW] at hdel cW
  have hmd := setMap_mod W m (.map es' c2)
  have hat := setMap_at (o := .map es' c2) h22
  have hml : m < w2.heap.size := (Array.getElem?_eq_some_iff.1 h2).1
  have hBx : Blk W w2.heap.size #[.slice A bl c9, .int .i64 sy] 84 := by rw [hW]; exact Blk.new _ _ _
  clear h2 h3 hg hgf hv hbl hsy hg2 hD1 HQ1 HV
  go_wp2_with fail
  rw [← hW]
  generalize setMap W m (.map es' c2) = w3 at hmd hat ⊢
  have hblk3 := hmd.blk HQW.out (by simpa using hDW.ne)
  have hM3 : Mod [d, m] W w3 := hmd.mono (by simp)
  have hD3 := hDW.del s hM3 ⟨_, _, hblk3⟩ ⟨_, _, hat, he', hst⟩
  have hB3 := hmd.blk hBx (by simp; omega)
  have hR3 := hDW.rd hM3 (HGF.out.1.below hbW)
  rw [HVV.out] at hR3
  have HR3 := Lib.hid hR3
  have hM03 : Mod [d, m] w w3 := (Mod.of_below (hb02.trans (hbW.mono hb02.size))).trans hM3
  clear hdel cW hmd hat h22 h32 he' hst hl c0 hD2' hW hbW hDW HQW hb02 hml hBx hM3 hR3 hb1 hb2
  have F : ∀ w', Below w3.heap.size w3 w' → w'.cell? ⟨d, 0, none⟩ = some (.map (some m)) ∧ w'.cell? ⟨w2.heap.size, 0, none⟩ = some (.slice A bl c9) ∧ w'.cell? ⟨w2.heap.size, 1, none⟩ = some (.int .i64 sy) := fun w' h =>
    ⟨(hD3.below h).cell0, (hB3.below h hB3.lt).cell rfl, (hB3.below h hB3.lt).cell rfl⟩
  refine region_free (fun w' => Below w3.heap.size w3 w') [] [6] [0, 1, 2, 3, 4, 5] (by kernel_rfl) (by kernel_rfl) (by kernel_rfl) (Below.refl _ _).drew ?_
  repeat (first
    | (refine RelSeq.pure_ (c := ?_) rfl rfl ?_ ?_; rotate_left; (focus (intro x w'; dsimp only; go_simp; (repeat' apply And.intro) <;> first | with_reducible rfl | assumption)); simp only [Act.put, List.setIfInBounds_toArray, List.set_cons_zero, List.set_cons_succ])
    | (refine RelSeq.skip_ rfl (fun _ => rfl) ?_; simp only [Act.put, List.setIfInBounds_toArray, List.set_cons_zero, List.set_cons_succ])
    | (refine RelSeq.pureG_ (c := ?_) rfl (fun _ => rfl) rfl ?_ ?_; rotate_left; (focus (intro x w'; dsimp only; go_simp; (repeat' apply And.intro) <;> first | with_reducible rfl | assumption)); simp only [Act.put, List.setIfInBounds_toArray, List.set_cons_zero, List.set_cons_succ])
    | (refine RelSeq.grow_ (c := ?_) rfl rfl ?_ ?_; rotate_left; (focus (intro x w' hw _; dsimp only; obtain ⟨d0, d1, d2⟩ := F w' hw; have hbr := Below.refl w'.heap.size w'; go_simp; (repeat' apply And.intro) <;> first | with_reducible rfl | assumption)); simp only [Act.put, List.setIfInBounds_toArray, List.set_cons_zero, List.set_cons_succ])
    | (refine RelSeq.growG_ (c := ?_) rfl (fun _ => rfl) rfl ?_ ?_; rotate_left; (focus (intro x w' hw _; dsimp only; obtain ⟨d0, d1, d2⟩ := F w' hw; have hbr := Below.refl w'.heap.size w'; go_simp; (repeat' apply And.intro) <;> first | with_reducible rfl | assumption)); simp only [Act.put, List.setIfInBounds_toArray, List.set_cons_zero, List.set_cons_succ]))
  refine RelSeq.nil_ fun x w8 hw8 _ _ => ?_
  have hD8 := hD3.below hw8
  have hQ8 := hblk3.below hw8 hblk3.lt
  have hR8 : Rd w8 1 (.slice A bl c9) f.bytes.length (u8L f.bytes) := by
    have h := HR3.out.below hw8
    rwa [show Value.slice A f.bytes.length c9 = .slice A bl c9 by rw [HBL.out]] at h
  have hM8 := hM03.trans (Mod.of_below hw8)
  have hD8' := hD8
  obtain ⟨_, ⟨es8, c8, h28, h38⟩, _⟩ := hD8
  obtain ⟨es9, clock9, hup, he9⟩ := upd_run h28 h38 hD8'.stamp ⟨t, .slice A bl c9, f.bytes, sy⟩
  simp only at hup
  have hmd := setMap_mod w8 m (.map es9 clock9)
  have hat := setMap_at (o := .map es9 clock9) h28
  clear F hw8 hD3 hB3 hM03 hblk3 h28 h38
  refine TailSeq.cons_ rfl ?_
  go_simp
  generalize setMap w8 m (.map es9 clock9) = w9 at hmd hat ⊢
  refine TailSeq.nil_ ?_
  have hblk9 := hmd.blk hQ8 (by simpa using hD8'.ne)
  have hM9 : Mod [d, m] w8 w9 := hmd.mono (by simp)
  have hD9 := hD8'.put (g := ⟨t, .slice A bl c9, f.bytes, sy⟩) hM9 ⟨_, _, hblk9⟩ ⟨_, _, hat, he9⟩ ⟨hD8'.rd hM9 hR8, by rw [HSY.out]; exact HGF.out.2.1, HGF.out.2.2⟩
  have HU := Lib.hid (Upd.ofModC (fs := fs) (hM8.trans hM9) ⟨hD9, hblk9⟩ fun g hg => by
    rcases putF_mem hg with rfl | hg
    · exact .inr ⟨f, hmem, by rw [HVV.out, HBL.out], rfl⟩
    · exact .inr ⟨g, delF_mem hg, rfl, rfl⟩)
  clear hup hmd hat hblk9 hM9 hD9 hD8' hQ8 hR8 hM8
  go_wp2_with fail
  go_ret
  have e : ({ f with name := t } : FileV) = ⟨t, .slice A bl c9, f.bytes, sy⟩ := by rw [HSY.out]; congr 1; rw [HVV.out, HBL.out]
  exact ⟨rfl, by rw [e]; exact HU.out⟩
set_option maxHeartbeats 8000000 in
theorem diskCrashC (d m : Nat) (ia ib : Int) (fs : List FileV) (v : Value) (ts : List (Nat × Nat)) (w : World) (hDC : DiskC w d m ia ib fs) (hv : Rd w 2 v ts.length (tearCells ts)) (ht : ∀ t ∈ ts, t.1 < 65536 ∧ t.2 < 65536)
    (hvd : ∀ b ∈ rdFp v ts.length, b ∉ d :: m :: filesFp fs) (hfs : fs.length ≤ 1048576) :
    Calls Try.prog 12 #[.pointer (some ⟨d, 0, none⟩), v] w fun e w' => e = .returned (.tuple #[]) ∧ ∃ fs', Upd (chDiskC d m ia ib fs).fp w [chDiskC d m ia ib fs'] w' ∧ Crashed fs ts fs.length fs' := by
  have hD := hDC.1
  have hND := hD.nodup
  have hNm := diskNames d m fs w hD hfs
  have hv0 := hv
  obtain ⟨At, ct, rfl, t1, t2, t3, t4⟩ := hv
  unfold maxLen at t3
  obtain ⟨nT, hnT⟩ : ∃ nT, nT = ts.length := ⟨_, rfl⟩
  rw [← hnT] at t2 ⊢
  have HNT := Lib.hid hnT
  have HV0 := Lib.hid hv0
  clear hnT hv0 t4
  go_enter Try.func12, Try.ntmps12
  go_wp2_with fail
  (with_reducible refine hNm.mono ?_)
  rintro e w1 ⟨vn, rfl, hvn, hb1⟩
  obtain ⟨An, cn, rfl⟩ := owns_slice hvn
  have S1 := (Upd.one (chDiskC d m ia ib fs) w hDC).addRow hb1 hvn (Nat.le_refl _)
  have HND := Lib.hid hND
  have hnl := namesF_len fs
  obtain ⟨nN, hnN⟩ : ∃ n, n = (namesF fs).length := ⟨_, rfl⟩
  rw [← hnN] at S1 ⊢
  have HNN := Lib.hid hnN
  have HNL := Lib.hid hnl
  have hcn : nN ≤ cn ∧ nN ≤ 1048576 := by
    obtain ⟨_, _, he, _, h2, _⟩ := rd_of_owns (S1.row 0 rfl)
    cases he
    exact ⟨h2, by omega⟩
  have HT0 := Lib.hid ht
  clear hNm hvn hb1 hND hnN hnl t1 ht
  go_wp2_with fail
  go_loopw [13] (fun i wr => ∃ (k : Nat) (fsK : List FileV), k ≤ nN ∧ i = .int .i64 k ∧ Upd (chDiskC d m ia ib fs).fp w [chRow 9 1 (.slice An nN cn) nN ((namesF fs).map encStr), chDiskC d m ia ib fsK] wr ∧ Crashed fs ts k fsK) (fun i _ => nN - (intOf i).toNat)
  case atStart => exact ⟨0, fs, Nat.zero_le _, rfl, S1, rfl, fun j s f _ hf => ⟨f, hf, fun h => absurd h (Nat.not_lt_zero _), fun _ => rfl⟩⟩
  case round =>
    obtain ⟨k, fsK, hkn, rfl, hS, hnm, hpr⟩ := hrel
    clear S1
    by_cases hk : k < nN
    · obtain ⟨s, f, hnk, hfm, hfn⟩ := namesF_at (fs := fs) (k := k) (by rw [← HNN.out]; exact hk)
      have hff : findF fs s = some f := by rw [← hfn]; exact find_of_mem HND.out hfm
      obtain ⟨gg, hfk, _, hgf⟩ := hpr k s f hnk hff
      obtain rfl := hgf (Nat.le_refl _)
      have hkN : k + 1 ≤ nN := hk
      have cn0 : ∃ b o, An = some ⟨b, o, none⟩ ∧ wr.cell? ⟨b, o + k, none⟩ = some (.string s) := by
        obtain ⟨_, _, he, _, _, _, h4⟩ := rd_of_owns (hS.row 0 rfl)
        cases he
        obtain ⟨b, o, hA, hat⟩ := h4 (by omega)
        exact ⟨b, o, hA, hat k _ (by rw [List.getElem?_map, hnk]; rfl)⟩
      obtain ⟨bn, on, rfl, cnk⟩ := cn0
      have hQ := Lib.hid (hS.diskC 1 rfl).2
      have hD1 := (hS.diskC 1 rfl).1
      have hD1' := hD1
      obtain ⟨_, ⟨es, c, h2, h3⟩, hg⟩ := hD1
      have hl := look_no h2 h3 s
      have hlf : lookF fsK s = .agg #[gg.val, .int .i64 gg.synced] := by unfold lookF; rw [hfk]
      rw [hlf] at hl
      have c0 := hD1'.cell0
      obtain ⟨hr1, hsy, hfl⟩ := hD1'.good gg (findF_mem hfk).1
      have hr10 := hr1
      obtain ⟨Af, cf, hfv, hv1, hv2, hv3, _⟩ := hr1
      unfold maxLen at hv3
      rw [hfv] at hl hr10
      obtain ⟨nF, hnF⟩ : ∃ n, n = gg.bytes.length := ⟨_, rfl⟩
      rw [← hnF] at hl hr10 hsy hfl hv2
      obtain ⟨sy, hsyn⟩ : ∃ n, n = gg.synced := ⟨_, rfl⟩
      rw [← hsyn] at hl hsy
      obtain ⟨BY, hBY⟩ : ∃ l, l = gg.bytes := ⟨_, rfl⟩
      rw [← hBY] at hr10 hnF
      obtain ⟨R, hR⟩ : ∃ R, R = tornT ts k gg := ⟨_, rfl⟩
      have HR := Lib.hid hR
      have hR2 : R = tornB BY sy (ts.getD k (0, 0)).1 (ts.getD k (0, 0)).2 := by rw [hR]; unfold tornT; rw [hBY, hsyn]
      have HR2 := Lib.hid hR2
      have HNM := Lib.hid hnm
      have HPR := Lib.hid hpr
      have HNK := Lib.hid hnk
      have HFS := Lib.hid hff
      have HFK := Lib.hid hfk
      have HNF := Lib.hid hnF
      have hkk : decide ((k : Int) < (nN : Int)) = true := by simpa using hk
      clear hlf hfv hv1 h2 h3 hg hR hR2 hnm hpr hnk hff hfk hnF hBY hsyn hfm hfn
      by_cases hkT : k < nT
      · obtain ⟨⟨q1, q2⟩, hq⟩ : ∃ t, ts[k]? = some t := ⟨_, List.getElem?_eq_getElem (by rw [← HNT.out]; exact hkT)⟩
        have hqd : ts.getD k (0, 0) = (q1, q2) := by rw [List.getD_eq_getElem?_getD, hq]; rfl
        have ht12 := HT0.out _ (List.mem_of_getElem? hq)
        obtain ⟨ht1, ht2⟩ := ht12
        simp only at ht1 ht2
        have hRq : R = tornB BY sy q1 q2 := by rw [HR2.out, hqd]
        have HRq := Lib.hid hRq
        have hvW := hS.rd (by decide) HV0.out hvd
        have ctt : ∃ b o, At = some ⟨b, o, none⟩ ∧ wr.cell? ⟨b, o + k * 2, none⟩ = some (.int .u16 q1) ∧ wr.cell? ⟨b, o + k * 2 + 1, none⟩ = some (.int .u16 q2) := by
          obtain ⟨_, _, he, _, _, _, h4⟩ := hvW
          cases he
          obtain ⟨b, o, hA, hat⟩ := h4 (by rw [← HNT.out]; omega)
          refine ⟨b, o, hA, hat (k * 2) _ (tear_at hq).1, ?_⟩
          have := hat (k * 2 + 1) _ (tear_at hq).2
          rwa [← Nat.add_assoc] at this
        obtain ⟨bt, ot, rfl, ct0, ct1⟩ := ctt
        obtain ⟨K, hK⟩ : ∃ K, K = min q1 (nF - sy) := ⟨_, rfl⟩
        have e0 : min (q1 : Int) ((nF : Int) - sy) = (K : Int) := by omega
        obtain ⟨N, hN⟩ : ∃ N, N = sy + K := ⟨_, rfl⟩
        have hK2 : N ≤ nF := by omega
        have eN : (sy : Int) + (K : Int) = (N : Int) := by omega
        have HKd := Lib.hid hK
        have HN := Lib.hid hN
        have hbX : Below wr.heap.size wr ((wr.alloc (Obj.cells #[Value.slice Af nF cf, Value.int IntKind.i64 ↑sy] 84)).alloc (Obj.cells #[Value.int IntKind.u16 0, Value.int IntKind.u16 0] 57)) := ((Below.refl _ _).alloc (Nat.le_refl _) _).alloc (Nat.le_trans (Nat.le_succ _) (Nat.le_of_eq (by rw [World.size_alloc]))) _
        have cX0 := cell_later hbX ct0
        have cX1 := cell_later hbX ct1
        have hkt2 : decide ((k : Int) < (nT : Int)) = true := by simpa using hkT
        clear hK hN hbX hq hqd hvW hRq
        go_wp2_with fail
        obtain ⟨W, hW⟩ : ∃ W, W = ((wr.alloc (Obj.cells #[Value.slice Af nF cf, Value.int IntKind.i64 ↑sy] 84)).alloc (Obj.cells #[Value.int IntKind.u16 q1, Value.int IntKind.u16 q2] 57)) := ⟨_, rfl⟩
        rw [← hW]
        have hbW : Below wr.heap.size wr W := by rw [hW]; exact ((Below.refl _ _).alloc (Nat.le_refl _) _).alloc (Nat.le_trans (Nat.le_succ _) (Nat.le_of_eq (by rw [World.size_alloc]))) _
        have hTW : Blk W (wr.heap.size + 1) #[.int .u16 q1, .int .u16 q2] 57 := by
          rw [hW]
          have := Blk.new (wr.alloc (Obj.cells #[Value.slice Af nF cf, Value.int IntKind.i64 ↑sy] 84)) #[.int .u16 q1, .int .u16 q2] 57
          rw [World.size_alloc] at this
          exact this
        have hDW := hD1'.below hbW
        have hp := (hr10.below hbW).pre hK2
        rw [u8L_pre] at hp
        have hLN : (BY.take N).length = N := by rw [List.length_take, ← HNF.out]; omega
        have hp2 : Rd W 1 (.slice Af N cf) (BY.take N).length (u8L (BY.take N)) := by rw [hLN]; exact hp
        have hC := clone8 _ _ W hp2 (by rw [hLN]; omega)
        rw [hLN] at hC
        clear hp hp2 hW cX0 cX1 ct0 ct1 cnk hl c0
        (with_reducible refine hC.mono ?_)
        rintro e wz ⟨v9, rfl, hv9, hb9⟩
        have hTz := hTW.below hb9 hTW.lt
        have cT1 : wz.cell? ⟨wr.heap.size + 1, 1, none⟩ = some (.int .u16 q2) := hTz.cell rfl
        clear hC
        by_cases hK0 : K = 0
        · obtain ⟨A9, c9', rfl⟩ := owns_slice hv9
          have hDz := hDW.below hb9
          have hMz : Mod [d, m] wr wz := Mod.of_below (hbW.trans (hb9.mono hbW.size))
          have hblk9 := hQ.out.below (hbW.trans (hb9.mono hbW.size)) hQ.out.lt
          have hfz : ∀ b ∈ rdFp (.slice A9 N c9') N, wr.heap.size ≤ b := fun b hb => Nat.le_trans hbW.size (fresh_val (owns_ge hv9) b hb)
          have hrz : Rd wz 1 (.slice A9 N c9') (BY.take N).length (u8L (BY.take N)) := by rw [hLN]; exact rd_of_owns hv9
          have hRe : R = BY.take N := by
            rw [HRq.out]; unfold tornB; rw [← HNF.out, ← HKd.out, if_neg (by omega), HN.out]
          have k1 : decide ((0 : Int) < (K : Int)) = false := by rw [hK0]; rfl
          have k2 : decide (0 < K) = false := by rw [hK0]; rfl
          clear hK0 hv9 hb9 hTz hTW hDW e0 hbW
          have cD := hDz.cell0
          have hDz' := hDz
          obtain ⟨_, ⟨es9, c9, h29, h39⟩, hg9⟩ := hDz
          obtain ⟨es', clock', hup, he'⟩ := upd_run h29 h39 hDz'.stamp ⟨s, .slice A9 N c9', BY.take N, N⟩
          simp only at hup
          have hmd := setMap_mod wz m (.map es' clock')
          have hat := setMap_at (o := .map es' clock') h29
          clear h29 h39 hg9
          go_wp2_with fail
          generalize setMap wz m (.map es' clock') = w4 at hmd hat ⊢
          have hdm := hDz'.ne
          have hblk4 := hmd.blk hblk9 (by simpa using hdm)
          have hM34 : Mod [d, m] wz w4 := hmd.mono (by simp)
          have hD4 := hDz'.put (g := ⟨s, .slice A9 N c9', BY.take N, N⟩) hM34 ⟨_, _, hblk4⟩ ⟨_, _, hat, he'⟩ ⟨hDz'.rd hM34 hrz, by show N ≤ (BY.take N).length; rw [hLN]; exact Nat.le_refl _, by show (BY.take N).length ≤ _; rw [hLN]; omega⟩
          have hU := Upd.ofModC (fs := fsK) (hMz.trans hM34) ⟨hD4, hblk4⟩ (fun g hg => by
            rcases putF_mem hg with rfl | hg
            · refine .inl fun b hb => hfz b ?_
              simp only [hLN] at hb
              exact hb
            · exact .inr ⟨g, hg, rfl, rfl⟩)
          have hS4 := hS.turn 1 rfl hU
          simp only [List.eraseIdx_cons_succ, List.eraseIdx_cons_zero, List.cons_append, List.nil_append] at hS4
          have hS5 := hS4.perm (List.Perm.swap _ _ _)
          have hst := crash_step (v := .slice A9 N c9') HNM.out HPR.out HND.out HNK.out HFS.out (by rw [← HR.out]; exact hRe) hLN
          generalize putF fsK ⟨s, .slice A9 N c9', BY.take N, N⟩ = fsN at hS5 hst
          have HST := Lib.hid hst
          clear hup hblk9 hmd hblk4 hat hM34 hDz' hrz hD4 hRe hU hS4 hS hMz hfz hst cD
          go_roundw
          case rel => exact ⟨k + 1, fsN, hkN, by go_num, hS5, HST.out⟩
          case measure => simp [intOf]; omega
        by_cases hb8 : q2 < 8
        · have hN0 : 0 < N := by have := HN.out; omega
          obtain ⟨g, cap, hgv, hgb, hglt⟩ := hv9.form hN0
          subst hgv
          obtain ⟨i9, hi9⟩ : ∃ i9, N = i9 + 1 := ⟨N - 1, by omega⟩
          have ei : (N : Int) - 1 = (i9 : Int) := by omega
          have li : (i9 : Int) < (N : Int) := by omega
          have hiN : i9 < N := by omega
          have wk : IntKind.i64.wrap (i9 : Int) = (i9 : Int) := by
            have h9 : i9 < 2097152 := by omega
            simp [IntKind.wrap, IntKind.signed, IntKind.bits]
            omega
          have li0 : (0 : Int) ≤ (i9 : Int) := by omega
          obtain ⟨x, hx⟩ : ∃ x, (BY.take N)[i9]? = some x := ⟨_, List.getElem?_eq_getElem (by rw [hLN]; omega)⟩
          have cg : wz.cell? ⟨g, i9, none⟩ = some (.int .u8 x.toNat) := by
            rw [hv9.cellAt i9 (by omega)]
            show (u8L (BY.take N))[i9]? = _
            rw [u8L, List.getElem?_map, hx]; rfl
          have fg := hv9.frozenAt i9
          have F : ∀ w', Below wz.heap.size wz w' → w'.cell? ⟨g, i9, none⟩ = some (.int .u8 x.toNat) ∧ w'.cell? ⟨wr.heap.size + 1, 1, none⟩ = some (.int .u16 q2) := fun w' h => ⟨cell_later h cg, cell_later h cT1⟩
          have hx8 := x.toNat_lt
          obtain ⟨p2, hp2⟩ : ∃ p2, p2 = 2 ^ q2 := ⟨_, rfl⟩
          have lp2 : p2 < 256 := by rw [hp2]; calc 2 ^ q2 ≤ 2 ^ 7 := Nat.pow_le_pow_right (by decide) (by omega)
                                       _ < 256 := by decide
          have ep : IntKind.u8.wrap ((2 : Int) ^ q2) = (p2 : Int) := by
            have q : ((2 : Int) ^ q2) = (p2 : Int) := by rw [hp2]; simp
            rw [q]
            simp [IntKind.wrap, IntKind.signed, IntKind.bits]
            omega
          obtain ⟨y, hy⟩ : ∃ y, y = x.toNat ^^^ p2 := ⟨_, rfl⟩
          have ly : y < 256 := by rw [hy]; exact Nat.xor_lt_two_pow (n := 8) (by omega) (by omega)
          have ey : bits .xor .u8 (x.toNat : Int) (p2 : Int) = (y : Int) := by rw [hy]; exact u8_xor_nat x.toNat p2 (by omega) (by omega)
          have k1 : 0 < K := by omega
          have k2 : decide ((q2 : Int) < 8) = true := by simp; omega
          have HX := Lib.hid hx
          have HY := Lib.hid hy
          have HP := Lib.hid hp2
          have HI := Lib.hid hi9
          clear hx hy hp2 hi9 e0 hTW
          go_wp2_with fail
          refine region_free (fun w' => Below wz.heap.size wz w') [] [11] [0, 1, 2, 3, 4, 5, 6, 7, 8, 9, 10] (by kernel_rfl) (by kernel_rfl) (by kernel_rfl) ((Below.refl _ _).drew) ?_
          repeat (first
            | (refine RelSeq.pure_ (c := ?_) rfl rfl ?_ ?_; rotate_left; (focus (intro x w'; dsimp only; go_simp; (repeat' apply And.intro) <;> first | with_reducible rfl | assumption)); simp only [Act.put, List.setIfInBounds_toArray, List.set_cons_zero, List.set_cons_succ])
            | (refine RelSeq.skip_ rfl (fun _ => rfl) ?_; simp only [Act.put, List.setIfInBounds_toArray, List.set_cons_zero, List.set_cons_succ])
            | (refine RelSeq.pureG_ (c := ?_) rfl (fun _ => rfl) rfl ?_ ?_; rotate_left; (focus (intro x w'; dsimp only; go_simp; (repeat' apply And.intro) <;> first | with_reducible rfl | assumption)); simp only [Act.put, List.setIfInBounds_toArray, List.set_cons_zero, List.set_cons_succ])
            | (refine RelSeq.grow_ (c := ?_) rfl rfl ?_ ?_; rotate_left; (focus (intro x w' hw _; dsimp only; obtain ⟨d0, d1⟩ := F w' hw; have hbr := Below.refl w'.heap.size w'; go_simp; (repeat' apply And.intro) <;> first | with_reducible rfl | assumption)); simp only [Act.put, List.setIfInBounds_toArray, List.set_cons_zero, List.set_cons_succ])
            | (refine RelSeq.growG_ (c := ?_) rfl (fun _ => rfl) rfl ?_ ?_; rotate_left; (focus (intro x w' hw _; dsimp only; obtain ⟨d0, d1⟩ := F w' hw; have hbr := Below.refl w'.heap.size w'; go_simp; (repeat' apply And.intro) <;> first | with_reducible rfl | assumption)); simp only [Act.put, List.setIfInBounds_toArray, List.set_cons_zero, List.set_cons_succ]))
          refine RelSeq.nil_ fun x_ w3 hw3 hfa _ => ?_
          have hv3 := (Mod.of_below (S := []) hw3).owns hv9 (by simp)
          have c3 := (F w3 hw3).1
          have f3 := hv3.frozenAt i9
          clear F hfa fg cg
          refine TailSeq.cons_ rfl ?_
          go_simp
          refine TailSeq.nil_ ?_
          obtain ⟨wY, hwY⟩ : ∃ wY, wY = w3.setCell ⟨g, i9, none⟩ (.int .u8 y) := ⟨_, rfl⟩
          rw [← hwY]
          obtain ⟨L, hL⟩ : ∃ L : List UInt8, L = (BY.take N).set i9 (UInt8.ofNat y) := ⟨_, rfl⟩
          have hvY : wY.ownsRow W.heap.size 5 1 (.slice (some ⟨g, 0, none⟩) N cap) N (u8L L) := by
            have h := (hv3.stored i9 (.int .u8 y)).1
            have e : (u8L (BY.take N)).set i9 (.int .u8 y) = u8L L := by
              rw [hL]
              unfold u8L
              rw [List.map_set]
              have : (UInt8.ofNat y).toNat = y := by rw [UInt8.toNat_ofNat', Nat.mod_eq_of_lt ly]
              rw [this]
            rw [e] at h
            rw [hwY]
            exact h
          have hB3 : Below W.heap.size W w3 := hb9.trans (hw3.mono hb9.size)
          have hBY : Below W.heap.size W wY := by rw [hwY]; exact hB3.grown (grown_set g i9 _) hB3.size (fun q hq => by cases hq; exact hgb)
          have hLN : L.length = N := by rw [hL, List.length_set]; exact hLN
          have hDz := hDW.below hBY
          have hMz : Mod [d, m] wr wY := Mod.of_below (hbW.trans (hBY.mono hbW.size))
          have hblk9 := hQ.out.below (hbW.trans (hBY.mono hbW.size)) hQ.out.lt
          have hfz : ∀ b ∈ rdFp (.slice (some ⟨g, 0, none⟩) N cap) N, wr.heap.size ≤ b := fun b hb => Nat.le_trans hbW.size (fresh_val (owns_ge hvY) b hb)
          have hrz : Rd wY 1 (.slice (some ⟨g, 0, none⟩) N cap) L.length (u8L L) := by rw [hLN]; exact rd_of_owns hvY
          have hRe : R = L := by
            have hx := HX.out
            rw [List.getElem?_take, if_pos hiN] at hx
            rw [HRq.out]; unfold tornB; rw [← HNF.out, ← HKd.out, if_pos ⟨k1, hb8⟩, ← HN.out, HI.out, Nat.add_sub_cancel, ← HI.out, List.getD_eq_getElem?_getD, hx, hL, HY.out, HP.out]; rfl
          clear hvY hB3 hBY hwY hL hv9 hb9 hTz hDW hbW hv3 c3 f3 hw3 cT1 hgb hglt ey ep ly lp2 hx8 ei li li0 wk hb8 hK0
          have cD := hDz.cell0
          have hDz' := hDz
          obtain ⟨_, ⟨es9, c9, h29, h39⟩, hg9⟩ := hDz
          obtain ⟨es', clock', hup, he'⟩ := upd_run h29 h39 hDz'.stamp ⟨s, .slice (some ⟨g, 0, none⟩) N cap, L, N⟩
          simp only at hup
          have hmd := setMap_mod wY m (.map es' clock')
          have hat := setMap_at (o := .map es' clock') h29
          clear h29 h39 hg9
          go_wp2_with fail
          generalize setMap wY m (.map es' clock') = w4 at hmd hat ⊢
          have hdm := hDz'.ne
          have hblk4 := hmd.blk hblk9 (by simpa using hdm)
          have hM34 : Mod [d, m] wY w4 := hmd.mono (by simp)
          have hD4 := hDz'.put (g := ⟨s, .slice (some ⟨g, 0, none⟩) N cap, L, N⟩) hM34 ⟨_, _, hblk4⟩ ⟨_, _, hat, he'⟩ ⟨hDz'.rd hM34 hrz, by show N ≤ (L).length; rw [hLN]; exact Nat.le_refl _, by show (L).length ≤ _; rw [hLN]; omega⟩
          have hU := Upd.ofModC (fs := fsK) (hMz.trans hM34) ⟨hD4, hblk4⟩ (fun g hg => by
            rcases putF_mem hg with rfl | hg
            · refine .inl fun b hb => hfz b ?_
              simp only [hLN] at hb
              exact hb
            · exact .inr ⟨g, hg, rfl, rfl⟩)
          have hS4 := hS.turn 1 rfl hU
          simp only [List.eraseIdx_cons_succ, List.eraseIdx_cons_zero, List.cons_append, List.nil_append] at hS4
          have hS5 := hS4.perm (List.Perm.swap _ _ _)
          have hst := crash_step (v := .slice (some ⟨g, 0, none⟩) N cap) HNM.out HPR.out HND.out HNK.out HFS.out (by rw [← HR.out]; exact hRe) hLN
          generalize putF fsK ⟨s, .slice (some ⟨g, 0, none⟩) N cap, L, N⟩ = fsN at hS5 hst
          have HST := Lib.hid hst
          clear hup hblk9 hmd hblk4 hat hM34 hDz' hrz hD4 hRe hU hS4 hS hMz hfz hst cD
          go_roundw
          case rel => exact ⟨k + 1, fsN, hkN, by go_num, hS5, HST.out⟩
          case measure => simp [intOf]; omega
        · obtain ⟨A9, c9', rfl⟩ := owns_slice hv9
          have hDz := hDW.below hb9
          have hMz : Mod [d, m] wr wz := Mod.of_below (hbW.trans (hb9.mono hbW.size))
          have hblk9 := hQ.out.below (hbW.trans (hb9.mono hbW.size)) hQ.out.lt
          have hfz : ∀ b ∈ rdFp (.slice A9 N c9') N, wr.heap.size ≤ b := fun b hb => Nat.le_trans hbW.size (fresh_val (owns_ge hv9) b hb)
          have hrz : Rd wz 1 (.slice A9 N c9') (BY.take N).length (u8L (BY.take N)) := by rw [hLN]; exact rd_of_owns hv9
          have hRe : R = BY.take N := by
            rw [HRq.out]; unfold tornB; rw [← HNF.out, ← HKd.out, if_neg (by omega), HN.out]
          have k1 : 0 < K := by omega
          have k2 : decide ((q2 : Int) < 8) = false := by simp; omega
          clear hK0 hb8 hv9 hb9 hTz hTW hDW e0 hbW
          have cD := hDz.cell0
          have hDz' := hDz
          obtain ⟨_, ⟨es9, c9, h29, h39⟩, hg9⟩ := hDz
          obtain ⟨es', clock', hup, he'⟩ := upd_run h29 h39 hDz'.stamp ⟨s, .slice A9 N c9', BY.take N, N⟩
          simp only at hup
          have hmd := setMap_mod wz m (.map es' clock')
          have hat := setMap_at (o := .map es' clock') h29
          clear h29 h39 hg9
          go_wp2_with fail
          generalize setMap wz m (.map es' clock') = w4 at hmd hat ⊢
          have hdm := hDz'.ne
          have hblk4 := hmd.blk hblk9 (by simpa using hdm)
          have hM34 : Mod [d, m] wz w4 := hmd.mono (by simp)
          have hD4 := hDz'.put (g := ⟨s, .slice A9 N c9', BY.take N, N⟩) hM34 ⟨_, _, hblk4⟩ ⟨_, _, hat, he'⟩ ⟨hDz'.rd hM34 hrz, by show N ≤ (BY.take N).length; rw [hLN]; exact Nat.le_refl _, by show (BY.take N).length ≤ _; rw [hLN]; omega⟩
          have hU := Upd.ofModC (fs := fsK) (hMz.trans hM34) ⟨hD4, hblk4⟩ (fun g hg => by
            rcases putF_mem hg with rfl | hg
            · refine .inl fun b hb => hfz b ?_
              simp only [hLN] at hb
              exact hb
            · exact .inr ⟨g, hg, rfl, rfl⟩)
          have hS4 := hS.turn 1 rfl hU
          simp only [List.eraseIdx_cons_succ, List.eraseIdx_cons_zero, List.cons_append, List.nil_append] at hS4
          have hS5 := hS4.perm (List.Perm.swap _ _ _)
          have hst := crash_step (v := .slice A9 N c9') HNM.out HPR.out HND.out HNK.out HFS.out (by rw [← HR.out]; exact hRe) hLN
          generalize putF fsK ⟨s, .slice A9 N c9', BY.take N, N⟩ = fsN at hS5 hst
          have HST := Lib.hid hst
          clear hup hblk9 hmd hblk4 hat hM34 hDz' hrz hD4 hRe hU hS4 hS hMz hfz hst cD
          go_roundw
          case rel => exact ⟨k + 1, fsN, hkN, by go_num, hS5, HST.out⟩
          case measure => simp [intOf]; omega
      · have hqd : ts.getD k (0, 0) = (0, 0) := by rw [List.getD_eq_getElem?_getD, List.getElem?_eq_none (by rw [← HNT.out]; omega)]; rfl
        have hRq : R = BY.take sy := by
          rw [HR2.out, hqd]; unfold tornB; simp
        have HRq := Lib.hid hRq
        have e0 : min (0 : Int) ((nF : Int) - sy) = 0 := by omega
        have hkt2 : decide ((k : Int) < (nT : Int)) = false := by simpa using hkT
        clear hRq hqd
        go_wp2_with fail
        obtain ⟨W, hW⟩ : ∃ W, W = ((wr.alloc (Obj.cells #[Value.slice Af nF cf, Value.int IntKind.i64 ↑sy] 84)).alloc (Obj.cells #[Value.int IntKind.u16 0, Value.int IntKind.u16 0] 57)) := ⟨_, rfl⟩
        rw [← hW]
        have hbW : Below wr.heap.size wr W := by rw [hW]; exact ((Below.refl _ _).alloc (Nat.le_refl _) _).alloc (Nat.le_trans (Nat.le_succ _) (Nat.le_of_eq (by rw [World.size_alloc]))) _
        have hDW := hD1'.below hbW
        have hp := (hr10.below hbW).pre hsy
        rw [u8L_pre] at hp
        have hLN : (BY.take sy).length = sy := by rw [List.length_take, ← HNF.out]; omega
        have hp2 : Rd W 1 (.slice Af sy cf) (BY.take sy).length (u8L (BY.take sy)) := by rw [hLN]; exact hp
        have hC := clone8 _ _ W hp2 (by rw [hLN]; omega)
        rw [hLN] at hC
        clear hp hp2 hW cnk hl c0
        (with_reducible refine hC.mono ?_)
        rintro e wz ⟨v9, rfl, hv9, hb9⟩
        obtain ⟨A9, c9', rfl⟩ := owns_slice hv9
        have hDz := hDW.below hb9
        have hMz : Mod [d, m] wr wz := Mod.of_below (hbW.trans (hb9.mono hbW.size))
        have hblk9 := hQ.out.below (hbW.trans (hb9.mono hbW.size)) hQ.out.lt
        have hfz : ∀ b ∈ rdFp (.slice A9 sy c9') sy, wr.heap.size ≤ b := fun b hb => Nat.le_trans hbW.size (fresh_val (owns_ge hv9) b hb)
        have hrz : Rd wz 1 (.slice A9 sy c9') (BY.take sy).length (u8L (BY.take sy)) := by rw [hLN]; exact rd_of_owns hv9
        have hRe : R = BY.take sy := HRq.out
        clear hv9 hb9 hDW e0 hbW hC
        have cD := hDz.cell0
        have hDz' := hDz
        obtain ⟨_, ⟨es9, c9, h29, h39⟩, hg9⟩ := hDz
        obtain ⟨es', clock', hup, he'⟩ := upd_run h29 h39 hDz'.stamp ⟨s, .slice A9 sy c9', BY.take sy, sy⟩
        simp only at hup
        have hmd := setMap_mod wz m (.map es' clock')
        have hat := setMap_at (o := .map es' clock') h29
        clear h29 h39 hg9
        go_wp2_with fail
        generalize setMap wz m (.map es' clock') = w4 at hmd hat ⊢
        have hdm := hDz'.ne
        have hblk4 := hmd.blk hblk9 (by simpa using hdm)
        have hM34 : Mod [d, m] wz w4 := hmd.mono (by simp)
        have hD4 := hDz'.put (g := ⟨s, .slice A9 sy c9', BY.take sy, sy⟩) hM34 ⟨_, _, hblk4⟩ ⟨_, _, hat, he'⟩ ⟨hDz'.rd hM34 hrz, by show sy ≤ (BY.take sy).length; rw [hLN]; exact Nat.le_refl _, by show (BY.take sy).length ≤ _; rw [hLN]; omega⟩
        have hU := Upd.ofModC (fs := fsK) (hMz.trans hM34) ⟨hD4, hblk4⟩ (fun g hg => by
          rcases putF_mem hg with rfl | hg
          · refine .inl fun b hb => hfz b ?_
            simp only [hLN] at hb
            exact hb
          · exact .inr ⟨g, hg, rfl, rfl⟩)
        have hS4 := hS.turn 1 rfl hU
        simp only [List.eraseIdx_cons_succ, List.eraseIdx_cons_zero, List.cons_append, List.nil_append] at hS4
        have hS5 := hS4.perm (List.Perm.swap _ _ _)
        have hst := crash_step (v := .slice A9 sy c9') HNM.out HPR.out HND.out HNK.out HFS.out (by rw [← HR.out]; exact hRe) hLN
        generalize putF fsK ⟨s, .slice A9 sy c9', BY.take sy, sy⟩ = fsN at hS5 hst
        have HST := Lib.hid hst
        clear hup hblk9 hmd hblk4 hat hM34 hDz' hrz hD4 hRe hU hS4 hS hMz hfz hst cD
        go_roundw
        case rel => exact ⟨k + 1, fsN, hkN, by go_num, hS5, HST.out⟩
        case measure => simp [intOf]; omega
    · obtain rfl : k = nN := by omega
      have hkk : decide ((k : Int) < (k : Int)) = false := by simp
      have hS2 := hS.drop 0
      simp only [List.eraseIdx_cons_zero] at hS2
      have hcr : Crashed fs ts fs.length fsK := by
        have : k = fs.length := by rw [HNN.out, HNL.out]
        rw [← this]
        exact ⟨hnm, hpr⟩
      have HCR := Lib.hid hcr
      clear hcr hnm hpr hS
      go_wp2_with fail
      go_end0
      exact ⟨rfl, fsK, hS2, HCR.out⟩
end Go.Proofs.Ytdjdhakmigofmaa
