/-
  The document's disk: Remove, Rename, Append.
-/
import Derived.Test.YtdjdhakmigofmaaRD2
namespace Go.Proofs.Ytdjdhakmigofmaa
open Go.RowKit
set_option maxRecDepth 100000
attribute [local go_sem] FreeTw.out

theorem u8L_add (a b : List UInt8) : u8L (a ++ b) = u8L a ++ u8L b := by simp [u8L]
theorem files_one {w : World} {g : Nat} {lv : Value} {a b : Int} {fs : List FileV} (hP : (chM g lv a b fs).P w) : ∀ f ∈ fs, f.val.oneCell' = true := fun f hf => ((Upd.open_ hP).files 2 rfl f hf).one
theorem files_sl {w : World} {g : Nat} {lv : Value} {a b : Int} {fs : List FileV} (hP : (chM g lv a b fs).P w) {f : FileV} (hf : f ∈ fs) : ∃ A n c, f.val = .slice A n c := by
  obtain ⟨⟨A, c, e, _⟩, _⟩ := (Upd.open_ hP).files 2 rfl f hf
  exact ⟨A, _, c, e⟩
theorem refRemoveNone (g : Nat) (lv : Value) (a b : Int) (fs : List FileV) (s : ByteArray) (w : World) (hP : (chM g lv a b fs).P w) (hlen : fs.length ≤ 1000) (hno : findI fs s = -1) :
    Calls Try.prog 25 #[.pointer (some ⟨g, 0, none⟩), .string s] w fun e w' => e = .returned (.int .i64 14) ∧ w' = w := by
  have K := refFindAny g lv a b fs s w hP hlen
  rw [hno] at K
  have HK := Lib.hid K
  clear K hP
  go_enter Try.func25, Try.ntmps25
  go_wp2_with fail
  (with_reducible refine HK.out.mono ?_)
  rintro e w1 ⟨rfl, rfl⟩
  go_wp2_with fail
  go_ret
  exact ⟨rfl, rfl⟩
theorem refRemoveOk (g : Nat) (lv : Value) (a b : Int) (fs : List FileV) (s : ByteArray) (i : Nat) (w : World) (hP : (chM g lv a b fs).P w) (hlen : fs.length ≤ 1000) (hi : findI fs s = i) (hil : i < fs.length) :
    Calls Try.prog 25 #[.pointer (some ⟨g, 0, none⟩), .string s] w fun e w' => e = .returned (.int .i64 0) ∧ ∃ lv', Upd (chM g lv a b fs).fp w [chM g lv' a b (fs.eraseIdx i)] w' := by
  have K := refFindAny g lv a b fs s w hP hlen
  rw [hi] at K
  have HK := Lib.hid K
  have S0 : Upd (chM g lv a b fs).fp w [chL g lv a b fs, chFiles fs] w := Upd.closeN (l := [_, _]) (r := [_]) (Upd.open_ hP)
  have KD := Lib.hid (refDrop g lv a b fs i w (S0.get 0 rfl) hil hlen (files_one hP))
  clear K hP
  go_enter Try.func25, Try.ntmps25
  go_wp2_with fail
  (with_reducible refine HK.out.mono ?_)
  rintro e w1 ⟨rfl, rfl⟩
  go_wp2_with fail
  (with_reducible refine KD.out.mono ?_)
  rintro e w2 ⟨rfl, lv', hu⟩
  have S1 := S0.turn 0 rfl hu
  simp only [List.eraseIdx_cons_zero, List.cons_append, List.nil_append] at S1
  have S2 := (chFiles_sub (fs' := fs.eraseIdx i) (S1.front 1 rfl) fun f hf => List.eraseIdx_subset hf).front 1 rfl
  simp only [List.eraseIdx_cons_succ, List.eraseIdx_cons_zero] at S2
  have HS := Lib.hid (Upd.openN (l := [_, _]) (r := [_]) S2).close
  clear S0 S1 S2 hu
  go_wp2_with fail
  go_ret
  exact ⟨rfl, lv', HS.out⟩

theorem refRenameNone (g : Nat) (lv : Value) (a b : Int) (fs : List FileV) (s t : ByteArray) (w : World) (hP : (chM g lv a b fs).P w) (hlen : fs.length ≤ 1000) (hno : findI fs s = -1) :
    Calls Try.prog 23 #[.pointer (some ⟨g, 0, none⟩), .string s, .string t] w fun e w' => e = .returned (.int .i64 14) ∧ w' = w := by
  have K := refFindAny g lv a b fs s w hP hlen
  rw [hno] at K
  have HK := Lib.hid K
  clear K hP
  go_enter Try.func23, Try.ntmps23
  go_wp2_with fail
  (with_reducible refine HK.out.mono ?_)
  rintro e w1 ⟨rfl, rfl⟩
  go_wp2_with fail
  go_ret
  exact ⟨rfl, rfl⟩
theorem refRenameName (g : Nat) (lv : Value) (a b : Int) (fs : List FileV) (s t : ByteArray) (i : Nat) (w : World) (hP : (chM g lv a b fs).P w) (hlen : fs.length ≤ 1000) (hi : findI fs s = i) (ht : t.size ≤ maxLen) (hw : wordB t 16 true = false) :
    Calls Try.prog 23 #[.pointer (some ⟨g, 0, none⟩), .string s, .string t] w fun e w' => e = .returned (.int .i64 8) ∧ w' = w := by
  have K := refFindAny g lv a b fs s w hP hlen
  rw [hi] at K
  have HK := Lib.hid K
  have V := refValue t w ht
  rw [hw] at V
  have HV := Lib.hid V
  clear K hP V
  go_enter Try.func23, Try.ntmps23
  go_wp2_with fail
  (with_reducible refine HK.out.mono ?_)
  rintro e w1 ⟨rfl, rfl⟩
  go_wp2_with fail
  (with_reducible refine HV.out.mono ?_)
  rintro e w2 ⟨rfl, rfl⟩
  go_wp2_with fail
  go_ret
  exact ⟨rfl, rfl⟩
def dropV (fs : List FileV) (t : ByteArray) : List FileV := match idxR (fs.map rdatF) t with | none => fs | some k => fs.eraseIdx k
set_option maxHeartbeats 4000000 in
theorem refRenameOk (g : Nat) (lv : Value) (a b : Int) (fs : List FileV) (s t : ByteArray) (i : Nat) (f : FileV) (w : World) (hP : (chM g lv a b fs).P w) (hlen : fs.length ≤ 1000) (hi : findI fs s = i) (hf : fs[i]? = some f) (ht : t.size ≤ maxLen) (hw : wordB t 16 true = true) :
    Calls Try.prog 23 #[.pointer (some ⟨g, 0, none⟩), .string s, .string t] w fun e w' => e = .returned (.int .i64 0) ∧ ∃ lv', Upd (chM g lv a b fs).fp w [chM g lv' a b (addV (dropV (fs.eraseIdx i) t) { f with name := t })] w' := by
  have K := refFindAny g lv a b fs s w hP hlen
  rw [hi] at K
  have HK := Lib.hid K
  have V := refValue t w ht
  rw [hw] at V
  have HV := Lib.hid V
  have hone := files_one hP
  obtain ⟨Av, nv, cv, ev⟩ := files_sl hP (List.mem_of_getElem? hf)
  have hfl := hlen
  clear K V
  obtain ⟨n, hn⟩ : ∃ n, n = fs.length := ⟨_, rfl⟩
  have HN := Lib.hid hn
  have hil := (List.getElem?_eq_some_iff.1 hf).1
  rw [← hn] at hil hlen
  have S0 := Upd.open_ hP
  obtain ⟨A, c, rfl⟩ := owns_slice (S0.row 1 rfl)
  have h3 : n ≤ c ∧ c ≤ maxLen := by
    obtain ⟨_, _, he, _, h2, h3, _⟩ := rd_of_owns (S0.row 1 rfl)
    cases he
    rw [hn]
    exact ⟨h2, h3⟩
  unfold maxLen at h3
  obtain ⟨q, rfl⟩ : ∃ q, A = some ⟨q, 0, none⟩ := by
    rcases (S0.row 1 rfl).2 with ⟨he, h0⟩ | ⟨g', cap, cur, he, _⟩
    · omega
    · cases he; exact ⟨_, rfl⟩
  have hq := rows_at (S0.row 1 rfl) hf
  have hB := S0.blk 0 rfl
  have hFV := S0.files 2 rfl f (List.mem_of_getElem? hf)
  rw [ev] at hq
  obtain ⟨hq0, hq1, hq2, hq3⟩ := hq
  have x0 := hB.cell (j := 0) (v := .slice (some ⟨q, 0, none⟩) fs.length c) rfl
  rw [← HN.out] at x0
  have HF := Lib.hid hf
  have HO := Lib.hid hone
  have HH := Lib.hid hfl
  obtain ⟨fn, fv, fb, fy⟩ := f
  simp only at ev
  subst ev
  simp only at hq0 hq1 hq2
  clear hq3 hf hB hn hP hFV hone hfl
  go_enter Try.func23, Try.ntmps23
  go_wp2_with fail
  (with_reducible refine HK.out.mono ?_)
  rintro e w1 ⟨rfl, rfl⟩
  go_wp2_with fail
  (with_reducible refine HV.out.mono ?_)
  rintro e w2 ⟨rfl, rfl⟩
  go_wp2_with fail
  refine calls_gen fun W hW => ?_
  have S1 := ((S0.alloc #[.string fn, .slice Av nv cv, .int .i64 fy] 90).same hW).pick [1, 2, 3, 0] (by decide)
  simp only [List.filterMap_cons, List.filterMap_nil, List.getElem?_cons_succ, List.getElem?_cons_zero] at S1
  have S2 : Upd _ w2 [chL g (.slice (some ⟨q, 0, none⟩) fs.length c) a b fs, chFiles fs, _] W := Upd.closeN (l := [_, _]) (r := [_, _]) S1
  have hln : (fs.eraseIdx i).length ≤ 1000 := by have := (List.eraseIdx_sublist fs i).length_le; have := HH.out; omega
  have HL := Lib.hid hln
  clear hW S0 S1 hq1 x0 hq0 hq2 hln
  (with_reducible refine (refDrop g _ a b fs i W (S2.get 0 rfl) (by rw [← HN.out]; exact hil) HH.out HO.out).mono ?_)
  rintro e w3 ⟨rfl, lv3, hu3⟩
  have S3 := S2.turn 0 rfl hu3
  simp only [List.eraseIdx_cons_zero, List.cons_append, List.nil_append] at S3
  have hu3' := Upd.openN (l := [_, _]) (r := [_, _]) S3
  have KF := refFind g lv3 a b (fs.eraseIdx i) t w3 (hu3'.blk 0 rfl) (rd_of_owns (hu3'.row 1 rfl)) HL.out
  clear S2 hu3 hu3'
  have HO1 := Lib.hid (fun f2 (hf2 : f2 ∈ fs.eraseIdx i) => HO.out f2 (List.eraseIdx_subset hf2))
  obtain ⟨fs1, hfs1⟩ : ∃ fs1, fs1 = fs.eraseIdx i := ⟨_, rfl⟩
  rw [← hfs1] at S3 KF HL HO1
  have HS1 := Lib.hid (fun f2 (hf2 : f2 ∈ fs1) => (show f2 ∈ fs from by rw [hfs1] at hf2; exact List.eraseIdx_subset hf2))
  have HE := Lib.hid hfs1
  clear hfs1
  cases hk : idxR (fs1.map rdatF) t with
  | none =>
    have hd : dropV fs1 t = fs1 := by unfold dropV; rw [hk]
    have hF : findI fs1 t = -1 := by unfold findI; rw [hk]
    rw [hF] at KF
    have HKF := Lib.hid KF
    have HD := Lib.hid (show dropV (fs.eraseIdx i) t = fs1 by rw [← HE.out]; exact hd)
    clear KF hk hd hF
    go_wp2_with fail
    (with_reducible refine HKF.out.mono ?_)
    rintro e w4 ⟨rfl, rfl⟩
    have y0 := (S3.blk 2 rfl).cell (j := 0) (v := .string fn) rfl
    have y1 := (S3.blk 2 rfl).cell (j := 1) (v := .slice Av nv cv) rfl
    have y2 := (S3.blk 2 rfl).cell (j := 2) (v := .int .i64 fy) rfl
    have z0 := (S3.blk 2 rfl).frozen 0
    go_wp2_with fail
    refine calls_gen fun W6 hW6 => ?_
    have S6 := (S3.put 2 rfl 0 (.string t)).same hW6
    simp only [List.eraseIdx_cons_succ, List.eraseIdx_cons_zero, List.setIfInBounds_toArray, List.set_cons_zero] at S6
    have S7 := S6.pick [1, 2] (by decide)
    simp only [List.filterMap_cons, List.filterMap_nil, List.getElem?_cons_succ, List.getElem?_cons_zero] at S7
    clear S3 S6 hW6 y0 y1 y2 z0
    have hA := refAdd g lv3 a b fs1 ⟨t, .slice Av nv cv, fb, fy⟩ W6 (S7.get 0 rfl) HL.out HO1.out ⟨_, _, _, rfl⟩
    (with_reducible refine hA.mono ?_)
    rintro e w7 ⟨rfl, lv7, hu7⟩
    have S8 := S7.turn 0 rfl hu7
    simp only [List.eraseIdx_cons_zero, List.cons_append, List.nil_append] at S8
    have S9 := (chFiles_re (fs' := addV fs1 ⟨t, .slice Av nv cv, fb, fy⟩) (S8.front 1 rfl) fun f2 hf2 => by
      rcases addV_mem.1 hf2 with h | h
      · exact ⟨_, List.mem_of_getElem? HF.out, by rw [h], by rw [h], by rw [h]; exact (S8.files 1 rfl _ (List.mem_of_getElem? HF.out)).2.1⟩
      · exact ⟨f2, HS1.out f2 h, rfl, rfl, (S8.files 1 rfl f2 (HS1.out f2 h)).2.1⟩).front 1 rfl
    simp only [List.eraseIdx_cons_succ, List.eraseIdx_cons_zero] at S9
    have HS := Lib.hid (Upd.openN (l := [_, _]) (r := [_]) S9).close
    clear S7 S8 S9 hu7 hA
    go_wp2_with fail
    go_ret
    exact ⟨rfl, lv7, by rw [HD.out]; exact HS.out⟩
  | some k =>
    have hkl : k < fs1.length := by have := (idxR_some hk).1; simpa using this
    have hd : dropV fs1 t = fs1.eraseIdx k := by unfold dropV; rw [hk]
    have hF : findI fs1 t = k := by unfold findI; rw [hk]
    rw [hF] at KF
    have HKF := Lib.hid KF
    have HD0 := Lib.hid (show dropV (fs.eraseIdx i) t = fs1.eraseIdx k by rw [← HE.out]; exact hd)
    have HKL := Lib.hid hkl
    have hk0 : decide ((0 : Int) ≤ (k : Int)) = true := by simp
    clear KF hk hd hF hkl
    go_wp2_with fail
    (with_reducible refine HKF.out.mono ?_)
    rintro e w4 ⟨rfl, rfl⟩
    go_wp2_with fail
    (with_reducible refine (refDrop g _ a b fs1 k w4 (S3.get 0 rfl) HKL.out HL.out HO1.out).mono ?_)
    rintro e w5 ⟨rfl, lv5, hu5⟩
    have S4 := S3.turn 0 rfl hu5
    simp only [List.eraseIdx_cons_zero, List.cons_append, List.nil_append] at S4
    have hln2 : (fs1.eraseIdx k).length ≤ 1000 := by have := (List.eraseIdx_sublist fs1 k).length_le; have := HL.out; omega
    have HO2 := Lib.hid (fun f2 (hf2 : f2 ∈ fs1.eraseIdx k) => HO1.out f2 (List.eraseIdx_subset hf2))
    have HS2 := Lib.hid (fun f2 (hf2 : f2 ∈ fs1.eraseIdx k) => HS1.out f2 (List.eraseIdx_subset hf2))
    have HL2 := Lib.hid hln2
    clear S3 hu5 hln2 HO1 HS1 HL
    obtain ⟨fs2, hfs2⟩ : ∃ fs2, fs2 = fs1.eraseIdx k := ⟨_, rfl⟩
    rw [← hfs2] at S4 HO2 HS2 HL2
    have HD := Lib.hid (show dropV (fs.eraseIdx i) t = fs2 by rw [hfs2]; exact HD0.out)
    clear hfs2 HD0
    have y0 := (S4.blk 2 rfl).cell (j := 0) (v := .string fn) rfl
    have y1 := (S4.blk 2 rfl).cell (j := 1) (v := .slice Av nv cv) rfl
    have y2 := (S4.blk 2 rfl).cell (j := 2) (v := .int .i64 fy) rfl
    have z0 := (S4.blk 2 rfl).frozen 0
    go_wp2_with fail
    refine calls_gen fun W6 hW6 => ?_
    have S6 := (S4.put 2 rfl 0 (.string t)).same hW6
    simp only [List.eraseIdx_cons_succ, List.eraseIdx_cons_zero, List.setIfInBounds_toArray, List.set_cons_zero] at S6
    have S7 := S6.pick [1, 2] (by decide)
    simp only [List.filterMap_cons, List.filterMap_nil, List.getElem?_cons_succ, List.getElem?_cons_zero] at S7
    clear S4 S6 hW6 y0 y1 y2 z0
    have hA := refAdd g lv5 a b fs2 ⟨t, .slice Av nv cv, fb, fy⟩ W6 (S7.get 0 rfl) HL2.out HO2.out ⟨_, _, _, rfl⟩
    (with_reducible refine hA.mono ?_)
    rintro e w7 ⟨rfl, lv7, hu7⟩
    have S8 := S7.turn 0 rfl hu7
    simp only [List.eraseIdx_cons_zero, List.cons_append, List.nil_append] at S8
    have S9 := (chFiles_re (fs' := addV fs2 ⟨t, .slice Av nv cv, fb, fy⟩) (S8.front 1 rfl) fun f2 hf2 => by
      rcases addV_mem.1 hf2 with h | h
      · exact ⟨_, List.mem_of_getElem? HF.out, by rw [h], by rw [h], by rw [h]; exact (S8.files 1 rfl _ (List.mem_of_getElem? HF.out)).2.1⟩
      · exact ⟨f2, HS2.out f2 h, rfl, rfl, (S8.files 1 rfl f2 (HS2.out f2 h)).2.1⟩).front 1 rfl
    simp only [List.eraseIdx_cons_succ, List.eraseIdx_cons_zero] at S9
    have HS := Lib.hid (Upd.openN (l := [_, _]) (r := [_]) S9).close
    clear S7 S8 S9 hu7 hA
    go_wp2_with fail
    go_ret
    exact ⟨rfl, lv7, by rw [HD.out]; exact HS.out⟩

theorem refAppendName (g : Nat) (_lv : Value) (_a _b : Int) (_fs : List FileV) (s : ByteArray) (v : Value) (w : World) (hs : s.size ≤ maxLen) (hw : wordB s 16 true = false) :
    Calls Try.prog 28 #[.pointer (some ⟨g, 0, none⟩), .string s, v] w fun e w' => e = .returned (.int .i64 8) ∧ w' = w := by
  have V := refValue s w hs
  rw [hw] at V
  have HV := Lib.hid V
  clear V
  go_enter Try.func28, Try.ntmps28
  go_wp2_with fail
  (with_reducible refine HV.out.mono ?_)
  rintro e w1 ⟨rfl, rfl⟩
  go_wp2_with fail
  go_ret
  exact ⟨rfl, rfl⟩
theorem refAppendMany (g : Nat) (lv : Value) (a b : Int) (fs : List FileV) (s : ByteArray) (v : Value) (w : World) (hP : (chM g lv a b fs).P w) (hs : s.size ≤ maxLen) (hw : wordB s 16 true = true) (hno : findI fs s = -1) (h64 : fs.length = 64) :
    Calls Try.prog 28 #[.pointer (some ⟨g, 0, none⟩), .string s, v] w fun e w' => e = .returned (.int .i64 5) ∧ w' = w := by
  have V := refValue s w hs
  rw [hw] at V
  have HV := Lib.hid V
  have K := refFindAny g lv a b fs s w hP (by omega)
  rw [hno] at K
  have HK := Lib.hid K
  have S0 := Upd.open_ hP
  obtain ⟨A, c, rfl⟩ := owns_slice (S0.row 1 rfl)
  have x0 := (S0.blk 0 rfl).cell (j := 0) (v := .slice A fs.length c) rfl
  rw [h64] at x0
  clear V K hP S0
  go_enter Try.func28, Try.ntmps28
  go_wp2_with fail
  (with_reducible refine HV.out.mono ?_)
  rintro e w1 ⟨rfl, rfl⟩
  go_wp2_with fail
  (with_reducible refine HK.out.mono ?_)
  rintro e w1 ⟨rfl, rfl⟩
  go_wp2_with fail
  go_ret
  exact ⟨rfl, rfl⟩
theorem findI_addV {fs : List FileV} {f : FileV} (h : findI fs f.name = -1) : ∃ i, findI (addV fs f) f.name = (i : Nat) ∧ (addV fs f)[i]? = some f := by
  have hno : idxR (fs.map rdatF) f.name = none := by
    unfold findI at h
    split at h
    · assumption
    · omega
  have h1 : lookR ((addV fs f).map rdatF) f.name = some (f.bytes, f.synced) := by
    rw [addV_map, lookR_add (g := rdatF f) (idxR_none.1 hno)]
    exact if_pos rfl
  cases hi : idxR ((addV fs f).map rdatF) f.name with
  | none => rw [idxR_none.1 hi] at h1; cases h1
  | some i =>
    obtain ⟨hl, b, k, h2, _⟩ := idxR_some hi
    refine ⟨i, by unfold findI; rw [hi], ?_⟩
    rw [List.getElem?_map] at h2
    cases h3 : (addV fs f)[i]? with
    | none => rw [h3] at h2; cases h2
    | some q =>
      rw [h3] at h2
      have hn : q.name = f.name := congrArg Prod.fst (Option.some.inj h2)
      rcases addV_mem.1 (List.mem_of_getElem? h3) with rfl | hq
      · rfl
      · exfalso
        have := lookR_isSome (L := fs.map rdatF) (s := f.name)
        obtain ⟨j, hj⟩ := List.getElem?_of_mem hq
        have h4 : ∀ (L : List RF) (t : ByteArray), idxR L t = none → ∀ x ∈ L, x.1 ≠ t := by
          intro L t
          induction L with
          | nil => intro _ x hx; cases hx
          | cons y r ih =>
            intro hh x hx
            simp only [idxR] at hh
            split at hh
            · cases hh
            · rename_i hy
              rcases List.mem_cons.1 hx with rfl | hx
              · exact hy
              · cases h5 : idxR r t with
                | none => exact ih h5 x hx
                | some z => rw [h5] at hh; cases hh
        exact h4 _ _ hno (rdatF q) (List.mem_map.2 ⟨q, hq, rfl⟩) hn
/-- The list as Append finds it: with the file there. -/
def withV (fs : List FileV) (s : ByteArray) : List FileV := if findI fs s = -1 then addV fs ⟨s, .slice none 0 0, [], 0⟩ else fs
theorem withV_at (fs : List FileV) (s : ByteArray) : ∃ (i : Nat) (f : FileV), findI (withV fs s) s = i ∧ (withV fs s)[i]? = some f ∧ f.name = s ∧ (findI fs s = -1 → f = ⟨s, .slice none 0 0, [], 0⟩) := by
  unfold withV
  split
  · rename_i h
    obtain ⟨i, h1, h2⟩ := findI_addV (f := ⟨s, .slice none 0 0, [], 0⟩) h
    exact ⟨i, _, h1, h2, rfl, fun _ => rfl⟩
  · rename_i h
    cases hi : idxR (fs.map rdatF) s with
    | none => exact absurd (by unfold findI; rw [hi]) h
    | some i =>
      obtain ⟨hl, b, k, h2, _⟩ := idxR_some hi
      rw [List.getElem?_map] at h2
      cases h3 : fs[i]? with
      | none => rw [h3] at h2; cases h2
      | some q =>
        rw [h3] at h2
        exact ⟨i, q, by unfold findI; rw [hi], h3, congrArg Prod.fst (Option.some.inj h2), fun h0 => absurd h0 h⟩
set_option maxHeartbeats 8000000 in
theorem refAppendOk (g : Nat) (lv : Value) (a b : Int) (fs : List FileV) (s : ByteArray) (v : Value) (l : List UInt8) (w : World) (hP : (chM g lv a b fs).P w) (hlen : fs.length < 64) (hs : s.size ≤ maxLen) (hw : wordB s 16 true = true) (hl : Rd w 1 v l.length (u8L l)) (hlv : ∀ p ∈ rdFp v l.length, p ∉ (chM g lv a b fs).fp) (hll : l.length ≤ 1048576)
    (hroom : ∀ f ∈ fs, f.bytes.length + l.length ≤ 1048576) (ha : 0 ≤ a ∧ a ≤ 1000) :
    Calls Try.prog 28 #[.pointer (some ⟨g, 0, none⟩), .string s, v] w fun e w' => e = .returned (.int .i64 0) ∧ ∃ lv' v' i f, findI (withV fs s) s = (i : Nat) ∧ (withV fs s)[i]? = some f ∧ Upd (chM g lv a b fs).fp w [chM g lv' (a + 1) b ((withV fs s).set i ⟨s, v', f.bytes ++ l, f.synced⟩)] w' := by
  obtain ⟨i0, hi0, hz0, hz1, hz2⟩ := info_parts infoByte
  have V := refValue s w hs
  rw [hw] at V
  have HV := Lib.hid V
  have K := refFindAny g lv a b fs s w hP (by omega)
  have S0 := Upd.open_ hP
  obtain ⟨Al, cl, rfl, _, hcl, hml, _⟩ := id hl
  obtain ⟨nl, hnl⟩ : ∃ nl, nl = l.length := ⟨_, rfl⟩
  rw [← hnl] at hl hcl hll hroom hlv ⊢
  have HNL := Lib.hid hnl
  have HR := Lib.hid hl
  have HV0 := Lib.hid hlv
  have HRM := Lib.hid hroom
  have HO := Lib.hid (files_one hP)
  unfold maxLen at hml
  by_cases hf0 : findI fs s = -1
  · rw [hf0] at K
    have HK := Lib.hid K
    obtain ⟨i, f1, hi, hf1, hnm, h0⟩ := withV_at fs s
    have e1 := h0 hf0
    have HNM := Lib.hid hnm
    have hwv : withV fs s = addV fs ⟨s, .slice none 0 0, [], 0⟩ := if_pos hf0
    obtain ⟨A0, c0, elv0⟩ := owns_slice (S0.row 1 rfl)
    have b0 := (S0.blk 0 rfl).cell (j := 0) (v := lv) rfl
    rw [elv0] at b0
    have b64 : ((fs.length : Int) == 64) = false := by simp; omega
    have S1 : Upd (chM g lv a b fs).fp w [chL g lv a b fs, chFiles fs] w := Upd.closeN (l := [_, _]) (r := [_]) S0
    have hroom1 : f1.bytes.length + nl ≤ 1048576 := by rw [e1]; simp only [List.length_nil]; omega
    have hl1 : (withV fs s).length ≤ 1000 := by
      rw [hwv]
      have h := congrArg List.length (addV_map fs ⟨s, .slice none 0 0, [], 0⟩)
      rw [List.length_map, addR_len, List.length_map] at h
      omega
    obtain ⟨fs1, hfs1⟩ : ∃ fs1, fs1 = withV fs s := ⟨_, rfl⟩
    rw [← hfs1] at hi hf1 hl1
    have HWV := Lib.hid hfs1.symm
    have HI := Lib.hid hi
    have HL1 := Lib.hid hl1
    have HF0 := Lib.hid hf1
    have HA1 := Lib.hid (hfs1.trans hwv)
    have HRM1 := Lib.hid hroom1
    clear V K hP hf0 hl hlv hroom hi hwv hnl h0 e1 hnm S0 hfs1 hl1 hf1 hroom1 elv0
    go_enter Try.func28, Try.ntmps28
    go_wp2_with fail
    (with_reducible refine HV.out.mono ?_)
    rintro e w1 ⟨rfl, rfl⟩
    go_wp2_with fail
    (with_reducible refine HK.out.mono ?_)
    rintro e w1 ⟨rfl, rfl⟩
    go_wp2_with fail
    have hA : Calls Try.prog 46 #[.pointer (some ⟨g, 0, none⟩), .agg #[.string s, .slice none 0 0, .int .i64 0]] w1 _ := refAdd g lv a b fs ⟨s, .slice none 0 0, [], 0⟩ w1 (S1.get 0 rfl) (by omega) HO.out ⟨_, _, _, rfl⟩
    (with_reducible refine hA.mono ?_)
    rintro e w3 ⟨rfl, lv3, hu3⟩
    have S3 := S1.turn 0 rfl hu3
    simp only [List.eraseIdx_cons_zero, List.cons_append, List.nil_append] at S3
    rw [← HA1.out] at S3
    have S3f := (S3.front 1 rfl).say (chFiles fs1) (fun f2 hf2 => by
      rw [HA1.out] at hf2
      rcases addV_mem.1 hf2 with h | h
      · rw [h]; exact ⟨rd_nil _ _ (by decide), Nat.le_refl _, by simp⟩
      · exact S3.files 1 rfl f2 h) (fun p hp => by
      obtain ⟨f2, hf2, hp⟩ := mem_filesFp.1 hp
      rw [HA1.out] at hf2
      rcases addV_mem.1 hf2 with h | h
      · rw [h] at hp; cases hp
      · exact mem_filesFp.2 ⟨f2, h, hp⟩)
    have S3g := S3f.front 1 rfl
    simp only [List.eraseIdx_cons_succ, List.eraseIdx_cons_zero] at S3g
    have S4 : Upd (chM g lv a b fs).fp w1 [chDk g lv3 a b, chFr lv3 fs1, chFiles fs1] w3 := Upd.openN (l := [_, _]) (r := [_]) S3g
    have hR2 := S4.rd (by decide) HR.out HV0.out
    have KF := refFind g lv3 a b fs1 s w3 (S4.blk 0 rfl) (rd_of_owns (S4.row 1 rfl)) HL1.out
    rw [HI.out] at KF
    have HKF := Lib.hid KF
    have HR2 := Lib.hid hR2
    have hl1 := HL1.out
    have hf1 := HF0.out
    have hroom1 := HRM1.out
    clear KF hR2 S3g S3f S3 hu3 hA S1 b0 HR HF0 HRM1
    obtain ⟨n, hn⟩ : ∃ n, n = fs1.length := ⟨_, rfl⟩
    have HN := Lib.hid hn
    have hil := (List.getElem?_eq_some_iff.1 hf1).1
    rw [← hn] at hil
    have hlen1 : n ≤ 1000 := by rw [hn]; exact hl1
    obtain ⟨A, c, elv⟩ := owns_slice (S4.row 1 rfl)
    subst elv
    have h3 : n ≤ c ∧ c ≤ maxLen := by
      obtain ⟨_, _, he, _, h2, h3, _⟩ := rd_of_owns (S4.row 1 rfl)
      cases he
      rw [hn]
      exact ⟨h2, h3⟩
    unfold maxLen at h3
    obtain ⟨q, rfl⟩ : ∃ q, A = some ⟨q, 0, none⟩ := by
      rcases (S4.row 1 rfl).2 with ⟨he, h0⟩ | ⟨g', cap, cur, he, _⟩
      · omega
      · cases he; exact ⟨_, rfl⟩
    have hq := rows_at (S4.row 1 rfl) hf1
    have hB := S4.blk 0 rfl
    have hFV := S4.files 2 rfl f1 (List.mem_of_getElem? hf1)
    have hFR := hFV.1
    obtain ⟨⟨Av, cv, ev, _, hv2, hv3, _⟩, hsy, hby⟩ := hFV
    obtain ⟨bl, hbl⟩ : ∃ bl, bl = f1.bytes.length := ⟨_, rfl⟩
    rw [← hbl] at ev hby hv2 hsy hroom1
    rw [ev, ← hbl] at hFR
    have HFR := Lib.hid hFR
    have HBL := Lib.hid hbl
    rw [ev] at hq
    have HF1 := Lib.hid hf1
    obtain ⟨hq0, hq1, hq2, hq3⟩ := hq
    have x0 := hB.cell (j := 0) (v := .slice (some ⟨q, 0, none⟩) fs1.length c) rfl
    rw [← HN.out] at x0
    have l1 := World.block_lt_of_cell? _ _ x0
    have l2 := World.block_lt_of_cell? _ _ hq1
    have F : ∀ w', Below w3.heap.size w3 w' → w'.cell? ⟨g, 0, none⟩ = some (.slice (some ⟨q, 0, none⟩) n c) ∧ w'.cell? ⟨q, i * 3 + 1, none⟩ = some (.slice Av bl cv) := fun w' h => ⟨by rw [h.cell l1]; exact x0, by rw [h.cell l2]; exact hq1⟩
    unfold maxLen at hv3
    clear hq0 hq2 hq3 hbl hf1 hB hn l1 l2 hFR
    have HR := HR2
    go_wp2_with fail
    (with_reducible refine HKF.out.mono ?_)
    rintro e w4 ⟨rfl, rfl⟩
    go_wp2_with fail
    refine FreeTw.region_free (fun w' => Below w4.heap.size w4 w') (fun w' => w'.cell? ⟨g, 0, none⟩ = some (.slice (some ⟨q, 0, none⟩) n c)) [5, 14, 2000001, 2000003, 2000017] [16, 19] [0, 1, 2, 3, 4, 5, 6, 7, 8, 9, 10, 11, 12, 13, 14, 15, 17, 18] (fun w' h => (F w' h).1) (by kernel_rfl) (by kernel_rfl) (by kernel_rfl) ((Below.refl _ _).drew) ?_
    repeat (first
      | (refine FreeTw.RelSeq.pure_ (c := ?_) rfl rfl ?_ ?_; rotate_left; (focus (intro x w'; dsimp only; go_simp; (first | ((repeat' apply And.intro) <;> first | with_reducible rfl | assumption) | (split <;> (try (focus (exfalso; omega))); (try go_simp); (repeat' apply And.intro) <;> first | with_reducible rfl | assumption)))); simp only [Act.put, List.setIfInBounds_toArray, List.set_cons_zero, List.set_cons_succ])
      | (refine FreeTw.RelSeq.skip_ rfl (fun _ => rfl) ?_; simp only [Act.put, List.setIfInBounds_toArray, List.set_cons_zero, List.set_cons_succ])
      | (refine FreeTw.RelSeq.pureG_ (c := ?_) rfl (fun _ => rfl) rfl ?_ ?_; rotate_left; (focus (intro x w'; dsimp only; go_simp; (repeat' apply And.intro) <;> first | with_reducible rfl | assumption)); simp only [Act.put, List.setIfInBounds_toArray, List.set_cons_zero, List.set_cons_succ])
      | (refine FreeTw.RelSeq.steady_ (c := ?_) rfl rfl rfl ?_ ?_; rotate_left; (focus (intro x w' hw; dsimp only; obtain d0 := hw; go_simp; (repeat' apply And.intro) <;> first | with_reducible rfl | assumption)); simp only [Act.put, List.setIfInBounds_toArray, List.set_cons_zero, List.set_cons_succ])
      | (refine FreeTw.RelSeq.grow_ (c := ?_) rfl rfl rfl ?_ ?_; rotate_left; (focus (intro x w' hw _; dsimp only; obtain ⟨d0, d1⟩ := F w' hw; have hbr := Below.refl w'.heap.size w'; go_simp; (repeat' apply And.intro) <;> first | with_reducible rfl | assumption)); simp only [Act.put, List.setIfInBounds_toArray, List.set_cons_zero, List.set_cons_succ])
      | (refine FreeTw.RelSeq.growG_ (c := ?_) rfl (fun _ => rfl) rfl rfl ?_ ?_; rotate_left; (focus (intro x w' hw _; dsimp only; obtain ⟨d0, d1⟩ := F w' hw; have hbr := Below.refl w'.heap.size w'; go_simp; (repeat' apply And.intro) <;> first | with_reducible rfl | assumption)); simp only [Act.put, List.setIfInBounds_toArray, List.set_cons_zero, List.set_cons_succ]))
    refine FreeTw.RelSeq.rel_ (NewSl w4.heap.size 0 #[] 5) rfl rfl NewSl.stable ?_ ?_
    focus
      intro x w' hw _; dsimp only
      have hba : Below w'.heap.size w' (w'.alloc (.cells #[] 5)) := (Below.refl _ _).alloc (Nat.le_refl _) _
      have hI := hw.trans (hba.mono hw.size)
      have hsz := hw.size
      go_simp
      (repeat' apply And.intro) <;> first | assumption | exact ⟨_, rfl, hsz, Blk.new _ _ _⟩ | decide
    simp only [Act.put, List.setIfInBounds_toArray, List.set_cons_zero, List.set_cons_succ, List.nil_append]
    repeat (first
      | (refine FreeTw.RelSeq.pure_ (c := ?_) rfl rfl ?_ ?_; rotate_left; (focus (intro x w'; dsimp only; go_simp; (first | ((repeat' apply And.intro) <;> first | with_reducible rfl | assumption) | (split <;> (try (focus (exfalso; omega))); (try go_simp); (repeat' apply And.intro) <;> first | with_reducible rfl | assumption)))); simp only [Act.put, List.setIfInBounds_toArray, List.set_cons_zero, List.set_cons_succ])
      | (refine FreeTw.RelSeq.skip_ rfl (fun _ => rfl) ?_; simp only [Act.put, List.setIfInBounds_toArray, List.set_cons_zero, List.set_cons_succ])
      | (refine FreeTw.RelSeq.pureG_ (c := ?_) rfl (fun _ => rfl) rfl ?_ ?_; rotate_left; (focus (intro x w'; dsimp only; go_simp; (repeat' apply And.intro) <;> first | with_reducible rfl | assumption)); simp only [Act.put, List.setIfInBounds_toArray, List.set_cons_zero, List.set_cons_succ])
      | (refine FreeTw.RelSeq.steady_ (c := ?_) rfl rfl rfl ?_ ?_; rotate_left; (focus (intro x w' hw; dsimp only; obtain d0 := hw; go_simp; (repeat' apply And.intro) <;> first | with_reducible rfl | assumption)); simp only [Act.put, List.setIfInBounds_toArray, List.set_cons_zero, List.set_cons_succ])
      | (refine FreeTw.RelSeq.grow_ (c := ?_) rfl rfl rfl ?_ ?_; rotate_left; (focus (intro x w' hw _; dsimp only; obtain ⟨d0, d1⟩ := F w' hw; have hbr := Below.refl w'.heap.size w'; go_simp; (repeat' apply And.intro) <;> first | with_reducible rfl | assumption)); simp only [Act.put, List.setIfInBounds_toArray, List.set_cons_zero, List.set_cons_succ])
      | (refine FreeTw.RelSeq.growG_ (c := ?_) rfl (fun _ => rfl) rfl rfl ?_ ?_; rotate_left; (focus (intro x w' hw _; dsimp only; obtain ⟨d0, d1⟩ := F w' hw; have hbr := Below.refl w'.heap.size w'; go_simp; (repeat' apply And.intro) <;> first | with_reducible rfl | assumption)); simp only [Act.put, List.setIfInBounds_toArray, List.set_cons_zero, List.set_cons_succ]))
    refine FreeTw.RelSeq.rel_ (fun v u => u.ownsRow w4.heap.size 5 1 v (bl) (u8L f1.bytes)) rfl rfl (fun v u u' h hb => owns_below h hb) ?_ ?_
    focus
      intro x w' hw hf; dsimp only
      obtain ⟨bq, eq, hbq, hBq⟩ := hf _ (.head _) (by kernel_rfl)
      have hrq := HFR.out.below hw
      refine wp_append_copy (.tmp 55) (.tmp 63) 27 rfl w4.heap.size 5 i0 _ 1 1 Try.underlying27 hi0 hz0 hz1 hz2 rfl (by decide) bq hBq hbq (by simp only [Act.eval]; exact eq) _ _ _ rfl hrq (by unfold maxLen; omega) (by omega) fun v2 w2 h2 h3 => ?_
      exact ⟨rfl, ⟨by first | exact h2 | simpa using h2, fun h => absurd h (by decide)⟩, hw.trans (h3.mono hw.size), h3⟩
    simp only [Act.put, List.setIfInBounds_toArray, List.set_cons_zero, List.set_cons_succ, List.nil_append, List.cons_append]
    repeat (first
      | (refine FreeTw.RelSeq.pure_ (c := ?_) rfl rfl ?_ ?_; rotate_left; (focus (intro x w'; dsimp only; go_simp; (first | ((repeat' apply And.intro) <;> first | with_reducible rfl | assumption) | (split <;> (try (focus (exfalso; omega))); (try go_simp); (repeat' apply And.intro) <;> first | with_reducible rfl | assumption)))); simp only [Act.put, List.setIfInBounds_toArray, List.set_cons_zero, List.set_cons_succ])
      | (refine FreeTw.RelSeq.skip_ rfl (fun _ => rfl) ?_; simp only [Act.put, List.setIfInBounds_toArray, List.set_cons_zero, List.set_cons_succ])
      | (refine FreeTw.RelSeq.pureG_ (c := ?_) rfl (fun _ => rfl) rfl ?_ ?_; rotate_left; (focus (intro x w'; dsimp only; go_simp; (repeat' apply And.intro) <;> first | with_reducible rfl | assumption)); simp only [Act.put, List.setIfInBounds_toArray, List.set_cons_zero, List.set_cons_succ])
      | (refine FreeTw.RelSeq.steady_ (c := ?_) rfl rfl rfl ?_ ?_; rotate_left; (focus (intro x w' hw; dsimp only; obtain d0 := hw; go_simp; (repeat' apply And.intro) <;> first | with_reducible rfl | assumption)); simp only [Act.put, List.setIfInBounds_toArray, List.set_cons_zero, List.set_cons_succ])
      | (refine FreeTw.RelSeq.grow_ (c := ?_) rfl rfl rfl ?_ ?_; rotate_left; (focus (intro x w' hw _; dsimp only; obtain ⟨d0, d1⟩ := F w' hw; have hbr := Below.refl w'.heap.size w'; go_simp; (repeat' apply And.intro) <;> first | with_reducible rfl | assumption)); simp only [Act.put, List.setIfInBounds_toArray, List.set_cons_zero, List.set_cons_succ])
      | (refine FreeTw.RelSeq.growG_ (c := ?_) rfl (fun _ => rfl) rfl rfl ?_ ?_; rotate_left; (focus (intro x w' hw _; dsimp only; obtain ⟨d0, d1⟩ := F w' hw; have hbr := Below.refl w'.heap.size w'; go_simp; (repeat' apply And.intro) <;> first | with_reducible rfl | assumption)); simp only [Act.put, List.setIfInBounds_toArray, List.set_cons_zero, List.set_cons_succ]))
    refine FreeTw.RelSeq.nil_ fun x w3 hw3 hf _ => ?_
    have hown := hf _ (.tail _ (.head _))
    dsimp only at hown
    have S3 := S4.addRow hw3 hown (Nat.le_refl _)
    have hrl := HR.out.below hw3
    clear hf S4 F x0 hq1
    refine FreeTw.TailSeq.cons_ rfl ?_
    refine wp_append_rd (.tmp 64) (.tmp 65) 27 rfl 0 5 i0 _ 1 1 Try.underlying27 hi0 hz0 hz1 hz2 rfl (by decide) _ bl _ rfl (S3.row 0 rfl) _ nl _ rfl hrl (by intro u hu; simp [u8L] at hu; obtain ⟨_, _, rfl⟩ := hu; rfl) (by unfold maxLen; omega) (by omega) (Nat.zero_le _) fun v5 w5 hown5 hgr5 hv5 => ?_
    have S5 := S3.app 0 rfl hown5 hgr5 hv5
    simp only [List.eraseIdx_cons_zero] at S5
    obtain ⟨A5, c5, rfl⟩ := owns_slice hown5
    have x0 := (S5.blk 1 rfl).cell (j := 0) (v := .slice (some ⟨q, 0, none⟩) fs1.length c) rfl
    rw [← HN.out] at x0
    have z1 := rows_at (by have := S5.row 2 rfl; rwa [← HN.out] at this) HF1.out
    rw [ev] at z1
    have z2 := z1.2.1
    have z0 := z1.2.2.2 (i * 3 + 1)
    refine ⟨rfl, .inr x0, ?_⟩
    simp only [Act.put, List.setIfInBounds_toArray, List.set_cons_zero, List.set_cons_succ]
    clear hown hown5 hgr5 hv5 S3 hrl z1
    refine FreeTw.TailSeq.cons_ rfl ?_
    go_simp
    refine FreeTw.TailSeq.nil_ ?_
    have S6 := S5.setFile (j := 1) (u := .slice A5 (bl + nl) c5) (f' := ⟨s, .slice A5 (bl + nl) c5, f1.bytes ++ l, f1.synced⟩) 2 rfl rfl HF1.out (by decide) (by rw [← HNM.out]; rfl)
    simp only [List.eraseIdx_cons_succ, List.eraseIdx_cons_zero] at S6
    have y1 := (S6.blk 2 rfl).cell (j := 1) (v := .int .i64 a) rfl
    have zz := (S6.blk 2 rfl).frozen 1
    have wa : IntKind.i64.wrap (a + 1) = a + 1 := by rw [IntKind.wrap_i64]; omega
    have S7 := S6.put 2 rfl 1 (.int .i64 (a + 1))
    simp only [List.eraseIdx_cons_succ, List.eraseIdx_cons_zero, List.setIfInBounds_toArray, List.set_cons_succ, List.set_cons_zero] at S7
    have S8 := S7.pick [2, 3, 0, 1] (by decide)
    simp only [List.filterMap_cons, List.filterMap_nil, List.getElem?_cons_succ, List.getElem?_cons_zero] at S8
    have hll2 : bl + nl = (f1.bytes ++ l).length := by rw [List.length_append, ← HBL.out, ← HNL.out]
    have S9 := chFiles_row (l := f1.bytes ++ l) (v := .slice A5 (bl + nl) c5) (fs' := fs1.set i ⟨s, .slice A5 (bl + nl) c5, f1.bytes ++ l, f1.synced⟩) (by rw [u8L_add, ← hll2]; exact S8) (by rw [← hll2]; omega) (fun f2 hf2 => by
      rcases List.mem_or_eq_of_mem_set hf2 with h | h
      · exact .inr h
      · exact .inl ⟨by rw [h], by rw [h], by rw [h, ← hll2]; simp only; omega⟩)
    have S10 := S9.pick [1, 2, 0] (by decide)
    simp only [List.filterMap_cons, List.filterMap_nil, List.getElem?_cons_succ, List.getElem?_cons_zero] at S10
    have HS := Lib.hid S10.close
    clear S5 S6 S7 S8 S9 S10 x0 z0 z2 hll2
    go_wp2_with fail
    go_ret
    exact ⟨rfl, .slice (some ⟨q, 0, none⟩) fs1.length c, .slice A5 (bl + nl) c5, i, f1, by rw [HWV.out]; exact HI.out, by rw [HWV.out]; exact HF1.out, by rw [HWV.out]; exact HS.out⟩
  · obtain ⟨i, f1, hi, hf1, hnm, _⟩ := withV_at fs s
    have HNM := Lib.hid hnm
    clear hnm
    have hwv : withV fs s = fs := if_neg hf0
    rw [hwv] at hi hf1
    rw [hi] at K
    have HK := Lib.hid K
    have hl1 : fs.length ≤ 1000 := by omega
    have hroom1 := HRM.out f1 (List.mem_of_getElem? hf1)
    have HI := Lib.hid hi
    have HWV := Lib.hid hwv
    clear V K hP hf0 hl hlv hroom hi hwv hnl
    obtain ⟨S, hS⟩ : ∃ S, S = (chM g lv a b fs).fp := ⟨_, rfl⟩
    have S1 : Upd S w [chDk g lv a b, chFr lv fs, chFiles fs] w := by rw [hS]; exact S0
    rw [← hS]
    obtain ⟨fs1, hfs1⟩ : ∃ fs1, fs1 = fs := ⟨_, rfl⟩
    have HWV1 := Lib.hid (show withV fs s = fs1 by rw [hfs1]; exact HWV.out)
    rw [← hfs1] at hl1 hf1 S1 HI
    clear S0 hS hfs1 HV0 HWV
    have HWV := HWV1
    clear HWV1
    obtain ⟨n, hn⟩ : ∃ n, n = fs1.length := ⟨_, rfl⟩
    have HN := Lib.hid hn
    have hil := (List.getElem?_eq_some_iff.1 hf1).1
    rw [← hn] at hil
    have hlen1 : n ≤ 1000 := by rw [hn]; exact hl1
    obtain ⟨A, c, elv⟩ := owns_slice (S1.row 1 rfl)
    subst elv
    have h3 : n ≤ c ∧ c ≤ maxLen := by
      obtain ⟨_, _, he, _, h2, h3, _⟩ := rd_of_owns (S1.row 1 rfl)
      cases he
      rw [hn]
      exact ⟨h2, h3⟩
    unfold maxLen at h3
    obtain ⟨q, rfl⟩ : ∃ q, A = some ⟨q, 0, none⟩ := by
      rcases (S1.row 1 rfl).2 with ⟨he, h0⟩ | ⟨g', cap, cur, he, _⟩
      · omega
      · cases he; exact ⟨_, rfl⟩
    have hq := rows_at (S1.row 1 rfl) hf1
    have hB := S1.blk 0 rfl
    have hFV := S1.files 2 rfl f1 (List.mem_of_getElem? hf1)
    have hFR := hFV.1
    obtain ⟨⟨Av, cv, ev, _, hv2, hv3, _⟩, hsy, hby⟩ := hFV
    obtain ⟨bl, hbl⟩ : ∃ bl, bl = f1.bytes.length := ⟨_, rfl⟩
    rw [← hbl] at ev hby hv2 hsy hroom1
    rw [ev, ← hbl] at hFR
    have HFR := Lib.hid hFR
    have HBL := Lib.hid hbl
    rw [ev] at hq
    have HF1 := Lib.hid hf1
    obtain ⟨hq0, hq1, hq2, hq3⟩ := hq
    have x0 := hB.cell (j := 0) (v := .slice (some ⟨q, 0, none⟩) fs1.length c) rfl
    rw [← HN.out] at x0
    have l1 := World.block_lt_of_cell? _ _ x0
    have l2 := World.block_lt_of_cell? _ _ hq1
    have F : ∀ w', Below w.heap.size w w' → w'.cell? ⟨g, 0, none⟩ = some (.slice (some ⟨q, 0, none⟩) n c) ∧ w'.cell? ⟨q, i * 3 + 1, none⟩ = some (.slice Av bl cv) := fun w' h => ⟨by rw [h.cell l1]; exact x0, by rw [h.cell l2]; exact hq1⟩
    unfold maxLen at hv3
    clear hq0 hq2 hq3 hbl hf1 hB hn l1 l2 hFR
    go_enter Try.func28, Try.ntmps28
    go_wp2_with fail
    (with_reducible refine HV.out.mono ?_)
    rintro e w1 ⟨rfl, rfl⟩
    go_wp2_with fail
    (with_reducible refine HK.out.mono ?_)
    rintro e w1 ⟨rfl, rfl⟩
    go_wp2_with fail
    refine FreeTw.region_free (fun w' => Below w1.heap.size w1 w') (fun w' => w'.cell? ⟨g, 0, none⟩ = some (.slice (some ⟨q, 0, none⟩) n c)) [5, 14, 2000001, 2000003, 2000017] [16, 19] [0, 1, 2, 3, 4, 5, 6, 7, 8, 9, 10, 11, 12, 13, 14, 15, 17, 18] (fun w' h => (F w' h).1) (by kernel_rfl) (by kernel_rfl) (by kernel_rfl) ((Below.refl _ _).drew) ?_
    repeat (first
      | (refine FreeTw.RelSeq.pure_ (c := ?_) rfl rfl ?_ ?_; rotate_left; (focus (intro x w'; dsimp only; go_simp; (first | ((repeat' apply And.intro) <;> first | with_reducible rfl | assumption) | (split <;> (try (focus (exfalso; omega))); (try go_simp); (repeat' apply And.intro) <;> first | with_reducible rfl | assumption)))); simp only [Act.put, List.setIfInBounds_toArray, List.set_cons_zero, List.set_cons_succ])
      | (refine FreeTw.RelSeq.skip_ rfl (fun _ => rfl) ?_; simp only [Act.put, List.setIfInBounds_toArray, List.set_cons_zero, List.set_cons_succ])
      | (refine FreeTw.RelSeq.pureG_ (c := ?_) rfl (fun _ => rfl) rfl ?_ ?_; rotate_left; (focus (intro x w'; dsimp only; go_simp; (repeat' apply And.intro) <;> first | with_reducible rfl | assumption)); simp only [Act.put, List.setIfInBounds_toArray, List.set_cons_zero, List.set_cons_succ])
      | (refine FreeTw.RelSeq.steady_ (c := ?_) rfl rfl rfl ?_ ?_; rotate_left; (focus (intro x w' hw; dsimp only; obtain d0 := hw; go_simp; (repeat' apply And.intro) <;> first | with_reducible rfl | assumption)); simp only [Act.put, List.setIfInBounds_toArray, List.set_cons_zero, List.set_cons_succ])
      | (refine FreeTw.RelSeq.grow_ (c := ?_) rfl rfl rfl ?_ ?_; rotate_left; (focus (intro x w' hw _; dsimp only; obtain ⟨d0, d1⟩ := F w' hw; have hbr := Below.refl w'.heap.size w'; go_simp; (repeat' apply And.intro) <;> first | with_reducible rfl | assumption)); simp only [Act.put, List.setIfInBounds_toArray, List.set_cons_zero, List.set_cons_succ])
      | (refine FreeTw.RelSeq.growG_ (c := ?_) rfl (fun _ => rfl) rfl rfl ?_ ?_; rotate_left; (focus (intro x w' hw _; dsimp only; obtain ⟨d0, d1⟩ := F w' hw; have hbr := Below.refl w'.heap.size w'; go_simp; (repeat' apply And.intro) <;> first | with_reducible rfl | assumption)); simp only [Act.put, List.setIfInBounds_toArray, List.set_cons_zero, List.set_cons_succ]))
    refine FreeTw.RelSeq.rel_ (NewSl w1.heap.size 0 #[] 5) rfl rfl NewSl.stable ?_ ?_
    focus
      intro x w' hw _; dsimp only
      have hba : Below w'.heap.size w' (w'.alloc (.cells #[] 5)) := (Below.refl _ _).alloc (Nat.le_refl _) _
      have hI := hw.trans (hba.mono hw.size)
      have hsz := hw.size
      go_simp
      (repeat' apply And.intro) <;> first | assumption | exact ⟨_, rfl, hsz, Blk.new _ _ _⟩ | decide
    simp only [Act.put, List.setIfInBounds_toArray, List.set_cons_zero, List.set_cons_succ, List.nil_append]
    repeat (first
      | (refine FreeTw.RelSeq.pure_ (c := ?_) rfl rfl ?_ ?_; rotate_left; (focus (intro x w'; dsimp only; go_simp; (first | ((repeat' apply And.intro) <;> first | with_reducible rfl | assumption) | (split <;> (try (focus (exfalso; omega))); (try go_simp); (repeat' apply And.intro) <;> first | with_reducible rfl | assumption)))); simp only [Act.put, List.setIfInBounds_toArray, List.set_cons_zero, List.set_cons_succ])
      | (refine FreeTw.RelSeq.skip_ rfl (fun _ => rfl) ?_; simp only [Act.put, List.setIfInBounds_toArray, List.set_cons_zero, List.set_cons_succ])
      | (refine FreeTw.RelSeq.pureG_ (c := ?_) rfl (fun _ => rfl) rfl ?_ ?_; rotate_left; (focus (intro x w'; dsimp only; go_simp; (repeat' apply And.intro) <;> first | with_reducible rfl | assumption)); simp only [Act.put, List.setIfInBounds_toArray, List.set_cons_zero, List.set_cons_succ])
      | (refine FreeTw.RelSeq.steady_ (c := ?_) rfl rfl rfl ?_ ?_; rotate_left; (focus (intro x w' hw; dsimp only; obtain d0 := hw; go_simp; (repeat' apply And.intro) <;> first | with_reducible rfl | assumption)); simp only [Act.put, List.setIfInBounds_toArray, List.set_cons_zero, List.set_cons_succ])
      | (refine FreeTw.RelSeq.grow_ (c := ?_) rfl rfl rfl ?_ ?_; rotate_left; (focus (intro x w' hw _; dsimp only; obtain ⟨d0, d1⟩ := F w' hw; have hbr := Below.refl w'.heap.size w'; go_simp; (repeat' apply And.intro) <;> first | with_reducible rfl | assumption)); simp only [Act.put, List.setIfInBounds_toArray, List.set_cons_zero, List.set_cons_succ])
      | (refine FreeTw.RelSeq.growG_ (c := ?_) rfl (fun _ => rfl) rfl rfl ?_ ?_; rotate_left; (focus (intro x w' hw _; dsimp only; obtain ⟨d0, d1⟩ := F w' hw; have hbr := Below.refl w'.heap.size w'; go_simp; (repeat' apply And.intro) <;> first | with_reducible rfl | assumption)); simp only [Act.put, List.setIfInBounds_toArray, List.set_cons_zero, List.set_cons_succ]))
    refine FreeTw.RelSeq.rel_ (fun v u => u.ownsRow w1.heap.size 5 1 v (bl) (u8L f1.bytes)) rfl rfl (fun v u u' h hb => owns_below h hb) ?_ ?_
    focus
      intro x w' hw hf; dsimp only
      obtain ⟨bq, eq, hbq, hBq⟩ := hf _ (.head _) (by kernel_rfl)
      have hrq := HFR.out.below hw
      refine wp_append_copy (.tmp 55) (.tmp 63) 27 rfl w1.heap.size 5 i0 _ 1 1 Try.underlying27 hi0 hz0 hz1 hz2 rfl (by decide) bq hBq hbq (by simp only [Act.eval]; exact eq) _ _ _ rfl hrq (by unfold maxLen; omega) (by omega) fun v2 w2 h2 h3 => ?_
      exact ⟨rfl, ⟨by first | exact h2 | simpa using h2, fun h => absurd h (by decide)⟩, hw.trans (h3.mono hw.size), h3⟩
    simp only [Act.put, List.setIfInBounds_toArray, List.set_cons_zero, List.set_cons_succ, List.nil_append, List.cons_append]
    repeat (first
      | (refine FreeTw.RelSeq.pure_ (c := ?_) rfl rfl ?_ ?_; rotate_left; (focus (intro x w'; dsimp only; go_simp; (first | ((repeat' apply And.intro) <;> first | with_reducible rfl | assumption) | (split <;> (try (focus (exfalso; omega))); (try go_simp); (repeat' apply And.intro) <;> first | with_reducible rfl | assumption)))); simp only [Act.put, List.setIfInBounds_toArray, List.set_cons_zero, List.set_cons_succ])
      | (refine FreeTw.RelSeq.skip_ rfl (fun _ => rfl) ?_; simp only [Act.put, List.setIfInBounds_toArray, List.set_cons_zero, List.set_cons_succ])
      | (refine FreeTw.RelSeq.pureG_ (c := ?_) rfl (fun _ => rfl) rfl ?_ ?_; rotate_left; (focus (intro x w'; dsimp only; go_simp; (repeat' apply And.intro) <;> first | with_reducible rfl | assumption)); simp only [Act.put, List.setIfInBounds_toArray, List.set_cons_zero, List.set_cons_succ])
      | (refine FreeTw.RelSeq.steady_ (c := ?_) rfl rfl rfl ?_ ?_; rotate_left; (focus (intro x w' hw; dsimp only; obtain d0 := hw; go_simp; (repeat' apply And.intro) <;> first | with_reducible rfl | assumption)); simp only [Act.put, List.setIfInBounds_toArray, List.set_cons_zero, List.set_cons_succ])
      | (refine FreeTw.RelSeq.grow_ (c := ?_) rfl rfl rfl ?_ ?_; rotate_left; (focus (intro x w' hw _; dsimp only; obtain ⟨d0, d1⟩ := F w' hw; have hbr := Below.refl w'.heap.size w'; go_simp; (repeat' apply And.intro) <;> first | with_reducible rfl | assumption)); simp only [Act.put, List.setIfInBounds_toArray, List.set_cons_zero, List.set_cons_succ])
      | (refine FreeTw.RelSeq.growG_ (c := ?_) rfl (fun _ => rfl) rfl rfl ?_ ?_; rotate_left; (focus (intro x w' hw _; dsimp only; obtain ⟨d0, d1⟩ := F w' hw; have hbr := Below.refl w'.heap.size w'; go_simp; (repeat' apply And.intro) <;> first | with_reducible rfl | assumption)); simp only [Act.put, List.setIfInBounds_toArray, List.set_cons_zero, List.set_cons_succ]))
    refine FreeTw.RelSeq.nil_ fun x w3 hw3 hf _ => ?_
    have hown := hf _ (.tail _ (.head _))
    dsimp only at hown
    have S3 := S1.addRow hw3 hown (Nat.le_refl _)
    have hrl := HR.out.below hw3
    clear hf S1 F x0 hq1
    refine FreeTw.TailSeq.cons_ rfl ?_
    refine wp_append_rd (.tmp 64) (.tmp 65) 27 rfl 0 5 i0 _ 1 1 Try.underlying27 hi0 hz0 hz1 hz2 rfl (by decide) _ bl _ rfl (S3.row 0 rfl) _ nl _ rfl hrl (by intro u hu; simp [u8L] at hu; obtain ⟨_, _, rfl⟩ := hu; rfl) (by unfold maxLen; omega) (by omega) (Nat.zero_le _) fun v5 w5 hown5 hgr5 hv5 => ?_
    have S5 := S3.app 0 rfl hown5 hgr5 hv5
    simp only [List.eraseIdx_cons_zero] at S5
    obtain ⟨A5, c5, rfl⟩ := owns_slice hown5
    have x0 := (S5.blk 1 rfl).cell (j := 0) (v := .slice (some ⟨q, 0, none⟩) fs1.length c) rfl
    rw [← HN.out] at x0
    have z1 := rows_at (by have := S5.row 2 rfl; rwa [← HN.out] at this) HF1.out
    rw [ev] at z1
    have z2 := z1.2.1
    have z0 := z1.2.2.2 (i * 3 + 1)
    refine ⟨rfl, .inr x0, ?_⟩
    simp only [Act.put, List.setIfInBounds_toArray, List.set_cons_zero, List.set_cons_succ]
    clear hown hown5 hgr5 hv5 S3 hrl z1
    refine FreeTw.TailSeq.cons_ rfl ?_
    go_simp
    refine FreeTw.TailSeq.nil_ ?_
    have S6 := S5.setFile (j := 1) (u := .slice A5 (bl + nl) c5) (f' := ⟨s, .slice A5 (bl + nl) c5, f1.bytes ++ l, f1.synced⟩) 2 rfl rfl HF1.out (by decide) (by rw [← HNM.out]; rfl)
    simp only [List.eraseIdx_cons_succ, List.eraseIdx_cons_zero] at S6
    have y1 := (S6.blk 2 rfl).cell (j := 1) (v := .int .i64 a) rfl
    have zz := (S6.blk 2 rfl).frozen 1
    have wa : IntKind.i64.wrap (a + 1) = a + 1 := by rw [IntKind.wrap_i64]; omega
    have S7 := S6.put 2 rfl 1 (.int .i64 (a + 1))
    simp only [List.eraseIdx_cons_succ, List.eraseIdx_cons_zero, List.setIfInBounds_toArray, List.set_cons_succ, List.set_cons_zero] at S7
    have S8 := S7.pick [2, 3, 0, 1] (by decide)
    simp only [List.filterMap_cons, List.filterMap_nil, List.getElem?_cons_succ, List.getElem?_cons_zero] at S8
    have hll2 : bl + nl = (f1.bytes ++ l).length := by rw [List.length_append, ← HBL.out, ← HNL.out]
    have S9 := chFiles_row (l := f1.bytes ++ l) (v := .slice A5 (bl + nl) c5) (fs' := fs1.set i ⟨s, .slice A5 (bl + nl) c5, f1.bytes ++ l, f1.synced⟩) (by rw [u8L_add, ← hll2]; exact S8) (by rw [← hll2]; omega) (fun f2 hf2 => by
      rcases List.mem_or_eq_of_mem_set hf2 with h | h
      · exact .inr h
      · exact .inl ⟨by rw [h], by rw [h], by rw [h, ← hll2]; simp only; omega⟩)
    have S10 := S9.pick [1, 2, 0] (by decide)
    simp only [List.filterMap_cons, List.filterMap_nil, List.getElem?_cons_succ, List.getElem?_cons_zero] at S10
    have HS := Lib.hid S10.close
    clear S5 S6 S7 S8 S9 S10 x0 z0 z2 hll2
    go_wp2_with fail
    go_ret
    exact ⟨rfl, .slice (some ⟨q, 0, none⟩) fs1.length c, .slice A5 (bl + nl) c5, i, f1, by rw [HWV.out]; exact HI.out, by rw [HWV.out]; exact HF1.out, by rw [HWV.out]; exact HS.out⟩
end Go.Proofs.Ytdjdhakmigofmaa
