/-
  Crash of any disk, any tears.
-/
import Derived.Test.YtdjdhakmigofmaaDSt
import Derived.Test.YtdjdhakmigofmaaDNil
import Derived.Test.YtdjdhakmigofmaaSpoiltL
namespace Go.Proofs.Ytdjdhakmigofmaa
open Go.RowKit FreeNew
set_option maxRecDepth 100000
attribute [local go_sem] out

def tornT (ts : List (Nat × Nat)) (j : Nat) (f : FileV) : List UInt8 := tornB f.bytes f.synced (ts.getD j (0, 0)).1 (ts.getD j (0, 0)).2
/-- The first k files, by their names, are what the tears leave of them; the others as they were. -/
def Crashed (fs : List FileV) (ts : List (Nat × Nat)) (k : Nat) (fsK : List FileV) : Prop :=
  fsK.map (·.name) = fs.map (·.name) ∧ ∀ j s f, (namesF fs)[j]? = some (nameL s) → findF fs s = some f → ∃ g, findF fsK s = some g ∧ (j < k → g.bytes = tornT ts j f ∧ g.synced = g.bytes.length) ∧ (k ≤ j → g = f)
theorem tear_at : ∀ {ts : List (Nat × Nat)} {k : Nat} {t : Nat × Nat}, ts[k]? = some t → (tearCells ts)[k * 2]? = some (.int .u16 t.1) ∧ (tearCells ts)[k * 2 + 1]? = some (.int .u16 t.2) := by
  intro ts
  induction ts with
  | nil => intro k t h; simp at h
  | cons a r ih =>
    intro k t h
    have e : tearCells (a :: r) = .int .u16 a.1 :: .int .u16 a.2 :: tearCells r := rfl
    cases k with
    | zero => simp only [List.getElem?_cons_zero, Option.some.injEq] at h; subst h; rw [e]; exact ⟨rfl, rfl⟩
    | succ k =>
      rw [List.getElem?_cons_succ] at h
      rw [e, Nat.succ_mul]
      exact ih h
theorem nameL_inj {s t : ByteArray} (h : nameL s = nameL t) : s = t := by
  cases s; cases t
  simp only [nameL] at h
  congr
  exact Array.toList_inj.1 h
theorem namesF_perm (fs : List FileV) : (namesF fs).Perm (fs.map fun f => nameL f.name) := List.mergeSort_perm _ _
theorem namesF_nodup {fs : List FileV} (h : (fs.map (·.name)).Nodup) : (namesF fs).Nodup := by
  refine (namesF_perm fs).nodup_iff.2 ?_
  have : (fs.map fun f => nameL f.name) = (fs.map (·.name)).map nameL := by simp
  rw [this]
  exact List.pairwise_map.2 (h.imp fun hne e => hne (nameL_inj e))
theorem namesF_len (fs : List FileV) : (namesF fs).length = fs.length := by simp [namesF]
theorem namesF_at {fs : List FileV} {k : Nat} (hk : k < (namesF fs).length) : ∃ s f, (namesF fs)[k]? = some (nameL s) ∧ f ∈ fs ∧ f.name = s := by
  have hm : (namesF fs)[k] ∈ fs.map fun f => nameL f.name := (namesF_perm fs).mem_iff.1 (List.getElem_mem hk)
  obtain ⟨f, hf, e⟩ := List.mem_map.1 hm
  exact ⟨f.name, f, by rw [List.getElem?_eq_getElem hk, e], hf, rfl⟩
theorem crash_step {fs fsK : List FileV} {ts : List (Nat × Nat)} {k : Nat} {s : ByteArray} {f : FileV} {v : Value} {L : List UInt8} {N : Nat} (hN : fsK.map (·.name) = fs.map (·.name))
    (hP : ∀ j s f, (namesF fs)[j]? = some (nameL s) → findF fs s = some f → ∃ g, findF fsK s = some g ∧ (j < k → g.bytes = tornT ts j f ∧ g.synced = g.bytes.length) ∧ (k ≤ j → g = f))
    (hnd : (fs.map (·.name)).Nodup) (hk : (namesF fs)[k]? = some (nameL s)) (hf : findF fs s = some f) (hL : tornT ts k f = L) (hl : L.length = N) : Crashed fs ts (k + 1) (putF fsK ⟨s, v, L, N⟩) := by
  refine ⟨?_, fun j s' f' hj hf' => ?_⟩
  · rw [putF_names]
    obtain ⟨g, hg, _⟩ := hP k s f hk hf
    rw [hg]
    simpa using hN
  · rw [find_putF]
    by_cases hs : s' = s
    · subst hs
      have hjk : j = k := by
        have hlt : j < (namesF fs).length := by
          rcases Nat.lt_or_ge j (namesF fs).length with h | h
          · exact h
          · rw [List.getElem?_eq_none h] at hj; cases hj
        exact (List.getElem?_inj hlt (namesF_nodup hnd)).1 (hj.trans hk.symm)
      subst hjk
      rw [hf] at hf'
      cases hf'
      refine ⟨_, if_pos rfl, fun _ => ⟨hL.symm, hl.symm⟩, fun h => by omega⟩
    · obtain ⟨g, hg, h1, h2⟩ := hP j s' f' hj hf'
      have hne : j ≠ k := by
        rintro rfl
        rw [hk] at hj
        exact hs (nameL_inj (Option.some.inj hj)).symm
      exact ⟨g, by rw [if_neg hs]; exact hg, fun h => h1 (by omega), fun h => h2 (by omega)⟩

set_option maxHeartbeats 8000000 in
theorem diskCrashAll (d m : Nat) (fs : List FileV) (v : Value) (ts : List (Nat × Nat)) (w : World) (hD : DiskAt w d m fs) (hv : Rd w 2 v ts.length (tearCells ts)) (ht : ∀ t ∈ ts, t.1 < 65536 ∧ t.2 < 65536)
    (hvd : ∀ b ∈ rdFp v ts.length, b ∉ d :: m :: filesFp fs) (hfs : fs.length ≤ 1048576) :
    Calls Try.prog 12 #[.pointer (some ⟨d, 0, none⟩), v] w fun e w' => e = .returned (.tuple #[]) ∧ ∃ fs', Upd (chDisk d m fs).fp w [chDisk d m fs'] w' ∧ Crashed fs ts fs.length fs' := by
  have hND := hD.nodup
  have hNm := diskNames d m fs w hD hfs
  have hv0 := hv
  obtain ⟨At, ct, rfl, t1, t2, t3, t4⟩ := hv
  unfold maxLen at t3
  obtain ⟨nT, hnT⟩ : ∃ nT, nT = ts.length := ⟨_, rfl⟩
  rw [← hnT] at t2 ⊢
  have HNT := Lib.hid hnT
  have HV0 := Lib.hid hv0
  clear hnT hv0 t4
  go_enter Try.func12, Try.ntmps12
  go_wp2_with fail
  (with_reducible refine hNm.mono ?_)
  rintro e w1 ⟨vn, rfl, hvn, hb1⟩
  obtain ⟨An, cn, rfl⟩ := owns_slice hvn
  have S1 := (Upd.one (chDisk d m fs) w hD).addRow hb1 hvn (Nat.le_refl _)
  have HND := Lib.hid hND
  have hnl := namesF_len fs
  obtain ⟨nN, hnN⟩ : ∃ n, n = (namesF fs).length := ⟨_, rfl⟩
  rw [← hnN] at S1 ⊢
  have HNN := Lib.hid hnN
  have HNL := Lib.hid hnl
  have hcn : nN ≤ cn ∧ nN ≤ 1048576 := by
    obtain ⟨_, _, he, _, h2, _⟩ := rd_of_owns (S1.row 0 rfl)
    cases he
    exact ⟨h2, by omega⟩
  have HT0 := Lib.hid ht
  clear hNm hvn hb1 hND hnN hnl t1 ht
  go_wp2_with fail
  go_loopw [13] (fun i wr => ∃ (k : Nat) (fsK : List FileV), k ≤ nN ∧ i = .int .i64 k ∧ Upd (chDisk d m fs).fp w [chRow 9 1 (.slice An nN cn) nN ((namesF fs).map encStr), chDisk d m fsK] wr ∧ Crashed fs ts k fsK) (fun i _ => nN - (intOf i).toNat)
  case atStart => exact ⟨0, fs, Nat.zero_le _, rfl, S1, rfl, fun j s f _ hf => ⟨f, hf, fun h => absurd h (Nat.not_lt_zero _), fun _ => rfl⟩⟩
  case round =>
    obtain ⟨k, fsK, hkn, rfl, hS, hnm, hpr⟩ := hrel
    clear S1
    by_cases hk : k < nN
    · obtain ⟨s, f, hnk, hfm, hfn⟩ := namesF_at (fs := fs) (k := k) (by rw [← HNN.out]; exact hk)
      have hff : findF fs s = some f := by rw [← hfn]; exact find_of_mem HND.out hfm
      obtain ⟨gg, hfk, _, hgf⟩ := hpr k s f hnk hff
      obtain rfl := hgf (Nat.le_refl _)
      have hkN : k + 1 ≤ nN := hk
      have cn0 : ∃ b o, An = some ⟨b, o, none⟩ ∧ wr.cell? ⟨b, o + k, none⟩ = some (.string s) := by
        obtain ⟨_, _, he, _, _, _, h4⟩ := rd_of_owns (hS.row 0 rfl)
        cases he
        obtain ⟨b, o, hA, hat⟩ := h4 (by omega)
        exact ⟨b, o, hA, hat k _ (by rw [List.getElem?_map, hnk]; rfl)⟩
      obtain ⟨bn, on, rfl, cnk⟩ := cn0
      have hD1 := hS.disk 1 rfl
      have hD1' := hD1
      obtain ⟨⟨ca, cb, hblk⟩, ⟨es, c, h2, h3⟩, hg⟩ := hD1
      have hl := look_no h2 h3 s
      have hlf : lookF fsK s = .agg #[gg.val, .int .i64 gg.synced] := by unfold lookF; rw [hfk]
      rw [hlf] at hl
      have c0 := hD1'.cell0
      obtain ⟨hr1, hsy, hfl⟩ := hD1'.good gg (findF_mem hfk).1
      have hr10 := hr1
      obtain ⟨Af, cf, hfv, hv1, hv2, hv3, _⟩ := hr1
      unfold maxLen at hv3
      rw [hfv] at hl hr10
      obtain ⟨nF, hnF⟩ : ∃ n, n = gg.bytes.length := ⟨_, rfl⟩
      rw [← hnF] at hl hr10 hsy hfl hv2
      obtain ⟨sy, hsyn⟩ : ∃ n, n = gg.synced := ⟨_, rfl⟩
      rw [← hsyn] at hl hsy
      obtain ⟨BY, hBY⟩ : ∃ l, l = gg.bytes := ⟨_, rfl⟩
      rw [← hBY] at hr10 hnF
      obtain ⟨R, hR⟩ : ∃ R, R = tornT ts k gg := ⟨_, rfl⟩
      have HR := Lib.hid hR
      have hR2 : R = tornB BY sy (ts.getD k (0, 0)).1 (ts.getD k (0, 0)).2 := by rw [hR]; unfold tornT; rw [hBY, hsyn]
      have HR2 := Lib.hid hR2
      have HNM := Lib.hid hnm
      have HPR := Lib.hid hpr
      have HNK := Lib.hid hnk
      have HFS := Lib.hid hff
      have HFK := Lib.hid hfk
      have HNF := Lib.hid hnF
      have hkk : decide ((k : Int) < (nN : Int)) = true := by simpa using hk
      clear hlf hfv hv1 h2 h3 hg hblk hR hR2 hnm hpr hnk hff hfk hnF hBY hsyn hfm hfn
      by_cases hkT : k < nT
      · obtain ⟨⟨q1, q2⟩, hq⟩ : ∃ t, ts[k]? = some t := ⟨_, List.getElem?_eq_getElem (by rw [← HNT.out]; exact hkT)⟩
        have hqd : ts.getD k (0, 0) = (q1, q2) := by rw [List.getD_eq_getElem?_getD, hq]; rfl
        have ht12 := HT0.out _ (List.mem_of_getElem? hq)
        obtain ⟨ht1, ht2⟩ := ht12
        simp only at ht1 ht2
        have hRq : R = tornB BY sy q1 q2 := by rw [HR2.out, hqd]
        have HRq := Lib.hid hRq
        have hvW := hS.rd (by decide) HV0.out hvd
        have ctt : ∃ b o, At = some ⟨b, o, none⟩ ∧ wr.cell? ⟨b, o + k * 2, none⟩ = some (.int .u16 q1) ∧ wr.cell? ⟨b, o + k * 2 + 1, none⟩ = some (.int .u16 q2) := by
          obtain ⟨_, _, he, _, _, _, h4⟩ := hvW
          cases he
          obtain ⟨b, o, hA, hat⟩ := h4 (by rw [← HNT.out]; omega)
          refine ⟨b, o, hA, hat (k * 2) _ (tear_at hq).1, ?_⟩
          have := hat (k * 2 + 1) _ (tear_at hq).2
          rwa [← Nat.add_assoc] at this
        obtain ⟨bt, ot, rfl, ct0, ct1⟩ := ctt
        obtain ⟨K, hK⟩ : ∃ K, K = min q1 (nF - sy) := ⟨_, rfl⟩
        have e0 : min (q1 : Int) ((nF : Int) - sy) = (K : Int) := by omega
        obtain ⟨N, hN⟩ : ∃ N, N = sy + K := ⟨_, rfl⟩
        have hK2 : N ≤ nF := by omega
        have eN : (sy : Int) + (K : Int) = (N : Int) := by omega
        have HKd := Lib.hid hK
        have HN := Lib.hid hN
        have hbX : Below wr.heap.size wr ((wr.alloc (Obj.cells #[Value.slice Af nF cf, Value.int IntKind.i64 ↑sy] 84)).alloc (Obj.cells #[Value.int IntKind.u16 0, Value.int IntKind.u16 0] 57)) := ((Below.refl _ _).alloc (Nat.le_refl _) _).alloc (Nat.le_trans (Nat.le_succ _) (Nat.le_of_eq (by rw [World.size_alloc]))) _
        have cX0 := cell_later hbX ct0
        have cX1 := cell_later hbX ct1
        have hkt2 : decide ((k : Int) < (nT : Int)) = true := by simpa using hkT
        clear hK hN hbX hq hqd hvW hRq
        go_wp2_with fail
        obtain ⟨W, hW⟩ : ∃ W, W = ((wr.alloc (Obj.cells #[Value.slice Af nF cf, Value.int IntKind.i64 ↑sy] 84)).alloc (Obj.cells #[Value.int IntKind.u16 q1, Value.int IntKind.u16 q2] 57)) := ⟨_, rfl⟩
        rw [← hW]
        have hbW : Below wr.heap.size wr W := by rw [hW]; exact ((Below.refl _ _).alloc (Nat.le_refl _) _).alloc (Nat.le_trans (Nat.le_succ _) (Nat.le_of_eq (by rw [World.size_alloc]))) _
        have hTW : Blk W (wr.heap.size + 1) #[.int .u16 q1, .int .u16 q2] 57 := by
          rw [hW]
          have := Blk.new (wr.alloc (Obj.cells #[Value.slice Af nF cf, Value.int IntKind.i64 ↑sy] 84)) #[.int .u16 q1, .int .u16 q2] 57
          rw [World.size_alloc] at this
          exact this
        have hDW := hD1'.below hbW
        have hp := (hr10.below hbW).pre hK2
        rw [u8L_pre] at hp
        have hLN : (BY.take N).length = N := by rw [List.length_take, ← HNF.out]; omega
        have hp2 : Rd W 1 (.slice Af N cf) (BY.take N).length (u8L (BY.take N)) := by rw [hLN]; exact hp
        have hC := clone8 _ _ W hp2 (by rw [hLN]; omega)
        rw [hLN] at hC
        clear hp hp2 hW cX0 cX1 ct0 ct1 cnk hl c0
        (with_reducible refine hC.mono ?_)
        rintro e wz ⟨v9, rfl, hv9, hb9⟩
        have hTz := hTW.below hb9 hTW.lt
        have cT1 : wz.cell? ⟨wr.heap.size + 1, 1, none⟩ = some (.int .u16 q2) := hTz.cell rfl
        clear hC
        by_cases hK0 : K = 0
        · obtain ⟨A9, c9', rfl⟩ := owns_slice hv9
          have hDz := hDW.below hb9
          have hMz : Mod [d, m] wr wz := Mod.of_below (hbW.trans (hb9.mono hbW.size))
          have hfz : ∀ b ∈ rdFp (.slice A9 N c9') N, wr.heap.size ≤ b := fun b hb => Nat.le_trans hbW.size (fresh_val (owns_ge hv9) b hb)
          have hrz : Rd wz 1 (.slice A9 N c9') (BY.take N).length (u8L (BY.take N)) := by rw [hLN]; exact rd_of_owns hv9
          have hRe : R = BY.take N := by
            rw [HRq.out]; unfold tornB; rw [← HNF.out, ← HKd.out, if_neg (by omega), HN.out]
          have k1 : decide ((0 : Int) < (K : Int)) = false := by rw [hK0]; rfl
          have k2 : decide (0 < K) = false := by rw [hK0]; rfl
          clear hK0 hv9 hb9 hTz hTW hDW e0 hbW
          have cD := hDz.cell0
          have hDz' := hDz
          obtain ⟨⟨ca9, cb9, hblk9⟩, ⟨es9, c9, h29, h39⟩, hg9⟩ := hDz
          obtain ⟨es', clock', hup, he'⟩ := upd_run h29 h39 hDz'.stamp ⟨s, .slice A9 N c9', BY.take N, N⟩
          simp only at hup
          have hmd := setMap_mod wz m (.map es' clock')
          have hat := setMap_at (o := .map es' clock') h29
          clear h29 h39 hg9
          go_wp2_with fail
          generalize setMap wz m (.map es' clock') = w4 at hmd hat ⊢
          have hdm := hDz'.ne
          have hblk4 := hmd.blk hblk9 (by simpa using hdm)
          have hM34 : Mod [d, m] wz w4 := hmd.mono (by simp)
          have hD4 := hDz'.put (g := ⟨s, .slice A9 N c9', BY.take N, N⟩) hM34 ⟨_, _, hblk4⟩ ⟨_, _, hat, he'⟩ ⟨hDz'.rd hM34 hrz, by show N ≤ (BY.take N).length; rw [hLN]; exact Nat.le_refl _, by show (BY.take N).length ≤ _; rw [hLN]; omega⟩
          have hU := Upd.ofMod (fs := fsK) (hMz.trans hM34) hD4 (fun g hg => by
            rcases putF_mem hg with rfl | hg
            · refine .inl fun b hb => hfz b ?_
              simp only [hLN] at hb
              exact hb
            · exact .inr ⟨g, hg, rfl, rfl⟩)
          have hS4 := hS.turn 1 rfl hU
          simp only [List.eraseIdx_cons_succ, List.eraseIdx_cons_zero, List.cons_append, List.nil_append] at hS4
          have hS5 := hS4.perm (List.Perm.swap _ _ _)
          have hst := crash_step (v := .slice A9 N c9') HNM.out HPR.out HND.out HNK.out HFS.out (by rw [← HR.out]; exact hRe) hLN
          generalize putF fsK ⟨s, .slice A9 N c9', BY.take N, N⟩ = fsN at hS5 hst
          have HST := Lib.hid hst
          clear hup hblk9 hmd hblk4 hat hM34 hDz' hrz hD4 hRe hU hS4 hS hMz hfz hst cD
          go_roundw
          case rel => exact ⟨k + 1, fsN, hkN, by go_num, hS5, HST.out⟩
          case measure => simp [intOf]; omega
        by_cases hb8 : q2 < 8
        · have hN0 : 0 < N := by have := HN.out; omega
          obtain ⟨g, cap, hgv, hgb, hglt⟩ := hv9.form hN0
          subst hgv
          obtain ⟨i9, hi9⟩ : ∃ i9, N = i9 + 1 := ⟨N - 1, by omega⟩
          have ei : (N : Int) - 1 = (i9 : Int) := by omega
          have li : (i9 : Int) < (N : Int) := by omega
          have hiN : i9 < N := by omega
          have wk : IntKind.i64.wrap (i9 : Int) = (i9 : Int) := by
            have h9 : i9 < 2097152 := by omega
            simp [IntKind.wrap, IntKind.signed, IntKind.bits]
            omega
          have li0 : (0 : Int) ≤ (i9 : Int) := by omega
          obtain ⟨x, hx⟩ : ∃ x, (BY.take N)[i9]? = some x := ⟨_, List.getElem?_eq_getElem (by rw [hLN]; omega)⟩
          have cg : wz.cell? ⟨g, i9, none⟩ = some (.int .u8 x.toNat) := by
            rw [hv9.cellAt i9 (by omega)]
            show (u8L (BY.take N))[i9]? = _
            rw [u8L, List.getElem?_map, hx]; rfl
          have fg := hv9.frozenAt i9
          have F : ∀ w', Below wz.heap.size wz w' → w'.cell? ⟨g, i9, none⟩ = some (.int .u8 x.toNat) ∧ w'.cell? ⟨wr.heap.size + 1, 1, none⟩ = some (.int .u16 q2) := fun w' h => ⟨cell_later h cg, cell_later h cT1⟩
          have hx8 := x.toNat_lt
          obtain ⟨p2, hp2⟩ : ∃ p2, p2 = 2 ^ q2 := ⟨_, rfl⟩
          have lp2 : p2 < 256 := by rw [hp2]; calc 2 ^ q2 ≤ 2 ^ 7 := Nat.pow_le_pow_right (by decide) (by omega)
                                       _ < 256 := by decide
          have ep : IntKind.u8.wrap ((2 : Int) ^ q2) = (p2 : Int) := by
            have q : ((2 : Int) ^ q2) = (p2 : Int) := by rw [hp2]; simp
            rw [q]
            simp [IntKind.wrap, IntKind.signed, IntKind.bits]
            omega
          obtain ⟨y, hy⟩ : ∃ y, y = x.toNat ^^^ p2 := ⟨_, rfl⟩
          have ly : y < 256 := by rw [hy]; exact Nat.xor_lt_two_pow (n := 8) (by omega) (by omega)
          have ey : bits .xor .u8 (x.toNat : Int) (p2 : Int) = (y : Int) := by rw [hy]; exact u8_xor_nat x.toNat p2 (by omega) (by omega)
          have k1 : 0 < K := by omega
          have k2 : decide ((q2 : Int) < 8) = true := by simp; omega
          have HX := Lib.hid hx
          have HY := Lib.hid hy
          have HP := Lib.hid hp2
          have HI := Lib.hid hi9
          clear hx hy hp2 hi9 e0 hTW
          go_wp2_with fail
          refine region_free (fun w' => Below wz.heap.size wz w') [] [11] [0, 1, 2, 3, 4, 5, 6, 7, 8, 9, 10] (by kernel_rfl) (by kernel_rfl) (by kernel_rfl) ((Below.refl _ _).drew) ?_
          repeat (first
            | (refine RelSeq.pure_ (c := ?_) rfl rfl ?_ ?_; rotate_left; (focus (intro x w'; dsimp only; go_simp; (repeat' apply And.intro) <;> first | with_reducible rfl | assumption)); simp only [Act.put, List.setIfInBounds_toArray, List.set_cons_zero, List.set_cons_succ])
            | (refine RelSeq.skip_ rfl (fun _ => rfl) ?_; simp only [Act.put, List.setIfInBounds_toArray, List.set_cons_zero, List.set_cons_succ])
            | (refine RelSeq.pureG_ (c := ?_) rfl (fun _ => rfl) rfl ?_ ?_; rotate_left; (focus (intro x w'; dsimp only; go_simp; (repeat' apply And.intro) <;> first | with_reducible rfl | assumption)); simp only [Act.put, List.setIfInBounds_toArray, List.set_cons_zero, List.set_cons_succ])
            | (refine RelSeq.grow_ (c := ?_) rfl rfl ?_ ?_; rotate_left; (focus (intro x w' hw _; dsimp only; obtain ⟨d0, d1⟩ := F w' hw; have hbr := Below.refl w'.heap.size w'; go_simp; (repeat' apply And.intro) <;> first | with_reducible rfl | assumption)); simp only [Act.put, List.setIfInBounds_toArray, List.set_cons_zero, List.set_cons_succ])
            | (refine RelSeq.growG_ (c := ?_) rfl (fun _ => rfl) rfl ?_ ?_; rotate_left; (focus (intro x w' hw _; dsimp only; obtain ⟨d0, d1⟩ := F w' hw; have hbr := Below.refl w'.heap.size w'; go_simp; (repeat' apply And.intro) <;> first | with_reducible rfl | assumption)); simp only [Act.put, List.setIfInBounds_toArray, List.set_cons_zero, List.set_cons_succ]))
          refine RelSeq.nil_ fun x_ w3 hw3 hfa _ => ?_
          have hv3 := (Mod.of_below (S := []) hw3).owns hv9 (by simp)
          have c3 := (F w3 hw3).1
          have f3 := hv3.frozenAt i9
          clear F hfa fg cg
          refine TailSeq.cons_ rfl ?_
          go_simp
          refine TailSeq.nil_ ?_
          obtain ⟨wY, hwY⟩ : ∃ wY, wY = w3.setCell ⟨g, i9, none⟩ (.int .u8 y) := ⟨_, rfl⟩
          rw [← hwY]
          obtain ⟨L, hL⟩ : ∃ L : List UInt8, L = (BY.take N).set i9 (UInt8.ofNat y) := ⟨_, rfl⟩
          have hvY : wY.ownsRow W.heap.size 5 1 (.slice (some ⟨g, 0, none⟩) N cap) N (u8L L) := by
            have h := (hv3.stored i9 (.int .u8 y)).1
            have e : (u8L (BY.take N)).set i9 (.int .u8 y) = u8L L := by
              rw [hL]
              unfold u8L
              rw [List.map_set]
              have : (UInt8.ofNat y).toNat = y := by rw [UInt8.toNat_ofNat', Nat.mod_eq_of_lt ly]
              rw [this]
            rw [e] at h
            rw [hwY]
            exact h
          have hB3 : Below W.heap.size W w3 := hb9.trans (hw3.mono hb9.size)
          have hBY : Below W.heap.size W wY := by rw [hwY]; exact hB3.grown (grown_set g i9 _) hB3.size (fun q hq => by cases hq; exact hgb)
          have hLN : L.length = N := by rw [hL, List.length_set]; exact hLN
          have hDz := hDW.below hBY
          have hMz : Mod [d, m] wr wY := Mod.of_below (hbW.trans (hBY.mono hbW.size))
          have hfz : ∀ b ∈ rdFp (.slice (some ⟨g, 0, none⟩) N cap) N, wr.heap.size ≤ b := fun b hb => Nat.le_trans hbW.size (fresh_val (owns_ge hvY) b hb)
          have hrz : Rd wY 1 (.slice (some ⟨g, 0, none⟩) N cap) L.length (u8L L) := by rw [hLN]; exact rd_of_owns hvY
          have hRe : R = L := by
            have hx := HX.out
            rw [List.getElem?_take, if_pos hiN] at hx
            rw [HRq.out]; unfold tornB; rw [← HNF.out, ← HKd.out, if_pos ⟨k1, hb8⟩, ← HN.out, HI.out, Nat.add_sub_cancel, ← HI.out, List.getD_eq_getElem?_getD, hx, hL, HY.out, HP.out]; rfl
          clear hvY hB3 hBY hwY hL hv9 hb9 hTz hDW hbW hv3 c3 f3 hw3 cT1 hgb hglt ey ep ly lp2 hx8 ei li li0 wk hb8 hK0
          have cD := hDz.cell0
          have hDz' := hDz
          obtain ⟨⟨ca9, cb9, hblk9⟩, ⟨es9, c9, h29, h39⟩, hg9⟩ := hDz
          obtain ⟨es', clock', hup, he'⟩ := upd_run h29 h39 hDz'.stamp ⟨s, .slice (some ⟨g, 0, none⟩) N cap, L, N⟩
          simp only at hup
          have hmd := setMap_mod wY m (.map es' clock')
          have hat := setMap_at (o := .map es' clock') h29
          clear h29 h39 hg9
          go_wp2_with fail
          generalize setMap wY m (.map es' clock') = w4 at hmd hat ⊢
          have hdm := hDz'.ne
          have hblk4 := hmd.blk hblk9 (by simpa using hdm)
          have hM34 : Mod [d, m] wY w4 := hmd.mono (by simp)
          have hD4 := hDz'.put (g := ⟨s, .slice (some ⟨g, 0, none⟩) N cap, L, N⟩) hM34 ⟨_, _, hblk4⟩ ⟨_, _, hat, he'⟩ ⟨hDz'.rd hM34 hrz, by show N ≤ (L).length; rw [hLN]; exact Nat.le_refl _, by show (L).length ≤ _; rw [hLN]; omega⟩
          have hU := Upd.ofMod (fs := fsK) (hMz.trans hM34) hD4 (fun g hg => by
            rcases putF_mem hg with rfl | hg
            · refine .inl fun b hb => hfz b ?_
              simp only [hLN] at hb
              exact hb
            · exact .inr ⟨g, hg, rfl, rfl⟩)
          have hS4 := hS.turn 1 rfl hU
          simp only [List.eraseIdx_cons_succ, List.eraseIdx_cons_zero, List.cons_append, List.nil_append] at hS4
          have hS5 := hS4.perm (List.Perm.swap _ _ _)
          have hst := crash_step (v := .slice (some ⟨g, 0, none⟩) N cap) HNM.out HPR.out HND.out HNK.out HFS.out (by rw [← HR.out]; exact hRe) hLN
          generalize putF fsK ⟨s, .slice (some ⟨g, 0, none⟩) N cap, L, N⟩ = fsN at hS5 hst
          have HST := Lib.hid hst
          clear hup hblk9 hmd hblk4 hat hM34 hDz' hrz hD4 hRe hU hS4 hS hMz hfz hst cD
          go_roundw
          case rel => exact ⟨k + 1, fsN, hkN, by go_num, hS5, HST.out⟩
          case measure => simp [intOf]; omega
        · obtain ⟨A9, c9', rfl⟩ := owns_slice hv9
          have hDz := hDW.below hb9
          have hMz : Mod [d, m] wr wz := Mod.of_below (hbW.trans (hb9.mono hbW.size))
          have hfz : ∀ b ∈ rdFp (.slice A9 N c9') N, wr.heap.size ≤ b := fun b hb => Nat.le_trans hbW.size (fresh_val (owns_ge hv9) b hb)
          have hrz : Rd wz 1 (.slice A9 N c9') (BY.take N).length (u8L (BY.take N)) := by rw [hLN]; exact rd_of_owns hv9
          have hRe : R = BY.take N := by
            rw [HRq.out]; unfold tornB; rw [← HNF.out, ← HKd.out, if_neg (by omega), HN.out]
          have k1 : 0 < K := by omega
          have k2 : decide ((q2 : Int) < 8) = false := by simp; omega
          clear hK0 hb8 hv9 hb9 hTz hTW hDW e0 hbW
          have cD := hDz.cell0
          have hDz' := hDz
          obtain ⟨⟨ca9, cb9, hblk9⟩, ⟨es9, c9, h29, h39⟩, hg9⟩ := hDz
          obtain ⟨es', clock', hup, he'⟩ := upd_run h29 h39 hDz'.stamp ⟨s, .slice A9 N c9', BY.take N, N⟩
          simp only at hup
          have hmd := setMap_mod wz m (.map es' clock')
          have hat := setMap_at (o := .map es' clock') h29
          clear h29 h39 hg9
          go_wp2_with fail
          generalize setMap wz m (.map es' clock') = w4 at hmd hat ⊢
          have hdm := hDz'.ne
          have hblk4 := hmd.blk hblk9 (by simpa using hdm)
          have hM34 : Mod [d, m] wz w4 := hmd.mono (by simp)
          have hD4 := hDz'.put (g := ⟨s, .slice A9 N c9', BY.take N, N⟩) hM34 ⟨_, _, hblk4⟩ ⟨_, _, hat, he'⟩ ⟨hDz'.rd hM34 hrz, by show N ≤ (BY.take N).length; rw [hLN]; exact Nat.le_refl _, by show (BY.take N).length ≤ _; rw [hLN]; omega⟩
          have hU := Upd.ofMod (fs := fsK) (hMz.trans hM34) hD4 (fun g hg => by
            rcases putF_mem hg with rfl | hg
            · refine .inl fun b hb => hfz b ?_
              simp only [hLN] at hb
              exact hb
            · exact .inr ⟨g, hg, rfl, rfl⟩)
          have hS4 := hS.turn 1 rfl hU
          simp only [List.eraseIdx_cons_succ, List.eraseIdx_cons_zero, List.cons_append, List.nil_append] at hS4
          have hS5 := hS4.perm (List.Perm.swap _ _ _)
          have hst := crash_step (v := .slice A9 N c9') HNM.out HPR.out HND.out HNK.out HFS.out (by rw [← HR.out]; exact hRe) hLN
          generalize putF fsK ⟨s, .slice A9 N c9', BY.take N, N⟩ = fsN at hS5 hst
          have HST := Lib.hid hst
          clear hup hblk9 hmd hblk4 hat hM34 hDz' hrz hD4 hRe hU hS4 hS hMz hfz hst cD
          go_roundw
          case rel => exact ⟨k + 1, fsN, hkN, by go_num, hS5, HST.out⟩
          case measure => simp [intOf]; omega
      · have hqd : ts.getD k (0, 0) = (0, 0) := by rw [List.getD_eq_getElem?_getD, List.getElem?_eq_none (by rw [← HNT.out]; omega)]; rfl
        have hRq : R = BY.take sy := by
          rw [HR2.out, hqd]; unfold tornB; simp
        have HRq := Lib.hid hRq
        have e0 : min (0 : Int) ((nF : Int) - sy) = 0 := by omega
        have hkt2 : decide ((k : Int) < (nT : Int)) = false := by simpa using hkT
        clear hRq hqd
        go_wp2_with fail
        obtain ⟨W, hW⟩ : ∃ W, W = ((wr.alloc (Obj.cells #[Value.slice Af nF cf, Value.int IntKind.i64 ↑sy] 84)).alloc (Obj.cells #[Value.int IntKind.u16 0, Value.int IntKind.u16 0] 57)) := ⟨_, rfl⟩
        rw [← hW]
        have hbW : Below wr.heap.size wr W := by rw [hW]; exact ((Below.refl _ _).alloc (Nat.le_refl _) _).alloc (Nat.le_trans (Nat.le_succ _) (Nat.le_of_eq (by rw [World.size_alloc]))) _
        have hDW := hD1'.below hbW
        have hp := (hr10.below hbW).pre hsy
        rw [u8L_pre] at hp
        have hLN : (BY.take sy).length = sy := by rw [List.length_take, ← HNF.out]; omega
        have hp2 : Rd W 1 (.slice Af sy cf) (BY.take sy).length (u8L (BY.take sy)) := by rw [hLN]; exact hp
        have hC := clone8 _ _ W hp2 (by rw [hLN]; omega)
        rw [hLN] at hC
        clear hp hp2 hW cnk hl c0
        (with_reducible refine hC.mono ?_)
        rintro e wz ⟨v9, rfl, hv9, hb9⟩
        obtain ⟨A9, c9', rfl⟩ := owns_slice hv9
        have hDz := hDW.below hb9
        have hMz : Mod [d, m] wr wz := Mod.of_below (hbW.trans (hb9.mono hbW.size))
        have hfz : ∀ b ∈ rdFp (.slice A9 sy c9') sy, wr.heap.size ≤ b := fun b hb => Nat.le_trans hbW.size (fresh_val (owns_ge hv9) b hb)
        have hrz : Rd wz 1 (.slice A9 sy c9') (BY.take sy).length (u8L (BY.take sy)) := by rw [hLN]; exact rd_of_owns hv9
        have hRe : R = BY.take sy := HRq.out
        clear hv9 hb9 hDW e0 hbW hC
        have cD := hDz.cell0
        have hDz' := hDz
        obtain ⟨⟨ca9, cb9, hblk9⟩, ⟨es9, c9, h29, h39⟩, hg9⟩ := hDz
        obtain ⟨es', clock', hup, he'⟩ := upd_run h29 h39 hDz'.stamp ⟨s, .slice A9 sy c9', BY.take sy, sy⟩
        simp only at hup
        have hmd := setMap_mod wz m (.map es' clock')
        have hat := setMap_at (o := .map es' clock') h29
        clear h29 h39 hg9
        go_wp2_with fail
        generalize setMap wz m (.map es' clock') = w4 at hmd hat ⊢
        have hdm := hDz'.ne
        have hblk4 := hmd.blk hblk9 (by simpa using hdm)
        have hM34 : Mod [d, m] wz w4 := hmd.mono (by simp)
        have hD4 := hDz'.put (g := ⟨s, .slice A9 sy c9', BY.take sy, sy⟩) hM34 ⟨_, _, hblk4⟩ ⟨_, _, hat, he'⟩ ⟨hDz'.rd hM34 hrz, by show sy ≤ (BY.take sy).length; rw [hLN]; exact Nat.le_refl _, by show (BY.take sy).length ≤ _; rw [hLN]; omega⟩
        have hU := Upd.ofMod (fs := fsK) (hMz.trans hM34) hD4 (fun g hg => by
          rcases putF_mem hg with rfl | hg
          · refine .inl fun b hb => hfz b ?_
            simp only [hLN] at hb
            exact hb
          · exact .inr ⟨g, hg, rfl, rfl⟩)
        have hS4 := hS.turn 1 rfl hU
        simp only [List.eraseIdx_cons_succ, List.eraseIdx_cons_zero, List.cons_append, List.nil_append] at hS4
        have hS5 := hS4.perm (List.Perm.swap _ _ _)
        have hst := crash_step (v := .slice A9 sy c9') HNM.out HPR.out HND.out HNK.out HFS.out (by rw [← HR.out]; exact hRe) hLN
        generalize putF fsK ⟨s, .slice A9 sy c9', BY.take sy, sy⟩ = fsN at hS5 hst
        have HST := Lib.hid hst
        clear hup hblk9 hmd hblk4 hat hM34 hDz' hrz hD4 hRe hU hS4 hS hMz hfz hst cD
        go_roundw
        case rel => exact ⟨k + 1, fsN, hkN, by go_num, hS5, HST.out⟩
        case measure => simp [intOf]; omega
    · obtain rfl : k = nN := by omega
      have hkk : decide ((k : Int) < (k : Int)) = false := by simp
      have hS2 := hS.drop 0
      simp only [List.eraseIdx_cons_zero] at hS2
      have hcr : Crashed fs ts fs.length fsK := by
        have : k = fs.length := by rw [HNN.out, HNL.out]
        rw [← this]
        exact ⟨hnm, hpr⟩
      have HCR := Lib.hid hcr
      clear hcr hnm hpr hS
      go_wp2_with fail
      go_end0
      exact ⟨rfl, fsK, hS2, HCR.out⟩
end Go.Proofs.Ytdjdhakmigofmaa
