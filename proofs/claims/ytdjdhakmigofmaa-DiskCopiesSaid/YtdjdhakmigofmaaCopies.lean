/-
  The law DiskCopies, walked.
-/
import Derived.Test.YtdjdhakmigofmaaAct
namespace Go.Proofs.Ytdjdhakmigofmaa
open Go.RowKit FreeNew
set_option maxRecDepth 100000
attribute [local go_sem] out

theorem Upd.dkC {S : List Nat} {w0 w : World} {C : List Chunk} (h : Upd S w0 C w) (i : Nat) {d m : Nat} {a b : Int} {fs : List FileV} (hi : C[i]? = some (chDiskC d m a b fs)) : DiskAt w d m fs := (h.diskC i hi).1
theorem Upd.ctC {S : List Nat} {w0 w : World} {C : List Chunk} (h : Upd S w0 C w) (i : Nat) {d m : Nat} {a b : Int} {fs : List FileV} (hi : C[i]? = some (chDiskC d m a b fs)) : Blk w d #[.map (some m), .int .i64 a, .int .i64 b] 81 := (h.diskC i hi).2
def OkF (fs : List FileV) (k : Nat) : Prop := (∀ f ∈ fs, ∃ q, q < 3 ∧ f.name = nm4 q) ∧ ∀ f ∈ fs, f.bytes.length ≤ 100 * k

theorem okF_len {w : World} {d m : Nat} {fs : List FileV} {k : Nat} (h : DiskAt w d m fs) (hF : OkF fs k) : fs.length ≤ 3 := by
  have h1 : (fs.map (·.name)).length ≤ [nm4 0, nm4 1, nm4 2].length := List.Nodup.length_le_of_subset h.nodup fun s hs => by
    obtain ⟨f, hf, e⟩ := List.mem_map.1 hs
    obtain ⟨q, hq, e2⟩ := hF.1 f hf
    have : q = 0 ∨ q = 1 ∨ q = 2 := by omega
    rcases this with rfl | rfl | rfl <;> simp [← e, e2]
  simpa using h1
theorem nm4_copy (q : Nat) : nm4 q ≠ ⟨#[99, 111, 112, 121]⟩ := by
  unfold nm4
  split
  · decide
  split
  · decide
  split <;> decide
theorem okF_put {fs : List FileV} {k q : Nat} {v : Value} {l : List UInt8} (hF : OkF fs k) (hq : q < 3) (hl : l.length ≤ 100) : OkF (putF fs ⟨nm4 q, v, (hadF fs (nm4 q)).1 ++ l, (hadF fs (nm4 q)).2⟩) (k + 1) := by
  refine ⟨fun f hf => ?_, fun f hf => ?_⟩
  · rcases putF_mem hf with rfl | hf
    · exact ⟨q, hq, rfl⟩
    · exact hF.1 f hf
  · rcases putF_mem hf with rfl | hf
    · rw [List.length_append]
      have : (hadF fs (nm4 q)).1.length ≤ 100 * k := by
        unfold hadF
        cases h : findF fs (nm4 q) with
        | none => simp
        | some g => exact hF.2 g (findF_mem h).1
      omega
    · have := hF.2 f hf; omega
theorem okF_sync {fs : List FileV} {k : Nat} {s : ByteArray} {f : FileV} (hF : OkF fs k) (hf : findF fs s = some f) : OkF (putF fs { f with synced := f.bytes.length }) k := by
  have hm := (findF_mem hf).1
  refine ⟨fun g hg => ?_, fun g hg => ?_⟩
  · rcases putF_mem hg with rfl | hg
    · exact hF.1 f hm
    · exact hF.1 g hg
  · rcases putF_mem hg with rfl | hg
    · exact hF.2 f hm
    · exact hF.2 g hg

set_option maxHeartbeats 16000000 in
theorem copiesWalk (v0 : Value) (acts : List ActV) (v1 : Value) (l : List UInt8) (w : World) (h0 : Rd w 8 v0 acts.length (acts.flatMap actCells)) (hok : ∀ x ∈ acts, x.ok w) (h1 : Rd w 1 v1 l.length (u8L l)) :
    Calls Try.prog 4 #[v0, v1] w fun e w' => e = .returned (.bool true) ∧ Below w.heap.size w w' := by
  have h10 := h1
  obtain ⟨A0, c0, rfl, r1, r2, r3, r4⟩ := h0
  obtain ⟨A9, c9, rfl, s1, s2, s3, _⟩ := h1
  unfold maxLen at r3 s3
  obtain ⟨nA, hnA⟩ : ∃ n, n = acts.length := ⟨_, rfl⟩
  obtain ⟨nL, hnL⟩ : ∃ n, n = l.length := ⟨_, rfl⟩
  rw [← hnA] at r2 r4 ⊢
  rw [← hnL] at s2 ⊢
  have HNA := Lib.hid hnA
  have HNL0 := Lib.hid hnL
  have HL := Lib.hid h10
  clear hnA hnL h10 r1 s1
  go_enter Try.func4, Try.ntmps4
  go_wp2_with fail
  (with_reducible refine (dAwake _).mono ?_)
  rintro e wa ⟨rfl, hba⟩
  by_cases hl : nL ≤ 100
  · have hl1 : decide ((100 : Int) < (nL : Int)) = false := by simp; omega
    go_wp2_with fail
    (with_reducible refine (diskNewC _).mono ?_)
    rintro e wb ⟨d, m, rfl, S1⟩
    have S2 : Upd [] w [chDisk d m []] wb := by
      have := ((Upd.nil [] w).grow hba).call S1
      exact this.say (chDisk d m []) (this.diskC 0 rfl).1 (fun _ h => h)
    clear S1 hba
    go_wp2_with fail
    go_loopw [26] (fun i wr => ∃ (k : Nat) (fs : List FileV), k ≤ nA ∧ k ≤ 31 ∧ i = .int .i64 k ∧ Upd [] w [chDisk d m fs] wr ∧ OkF fs k) (fun i _ => nA - (intOf i).toNat)
    case atStart => exact ⟨0, [], Nat.zero_le _, Nat.zero_le _, rfl, S2, (fun f hf => nomatch hf), (fun f hf => nomatch hf)⟩
    case round =>
      obtain ⟨k, fs, hk, hk31, rfl, hS, hF⟩ := hrel
      clear S2
      by_cases hkn : k < nA
      · obtain ⟨x, hx⟩ : ∃ x, acts[k]? = some x := ⟨_, List.getElem?_eq_getElem (by rw [← HNA.out]; exact hkn)⟩
        obtain ⟨b0, o0, rfl, hat⟩ := r4 (by omega)
        obtain ⟨ok1, ok2, ok3, ok4, ok5, ok6, ok7, ok8, ok9⟩ := hok x (List.mem_of_getElem? hx)
        have e0 := fun j hj => flat_at actCells 8 (fun _ => rfl) acts k x hx j hj
        obtain ⟨xk, xa, xb, xv, xl, xn, xs, xr, xt, xtl⟩ := x
        simp only at ok1 ok2 ok3 ok4 ok5 ok6 ok7 ok8 ok9
        have HB := Lib.hid ok4
        obtain ⟨A1, c1, rfl, _, q2, q3, _⟩ := ok4
        obtain ⟨A2, c2, rfl, _, _, _, _⟩ := ok8
        obtain ⟨nB, hnB⟩ : ∃ n, n = xl.length := ⟨_, rfl⟩
        obtain ⟨n2, hn2⟩ : ∃ n, n = xtl.length := ⟨_, rfl⟩
        unfold maxLen at q3
        have hbe := hS.below
        have x0 := hat.nth0 hbe (k * 8) (.int .u8 xk) (e0 0 (by omega))
        have x1 := hat.nth hbe (k * 8) 1 (.int .u8 xa) (e0 1 (by omega))
        have x2 := hat.nth hbe (k * 8) 2 (.int .u8 xb) (e0 2 (by omega))
        have x3 := hat.nth hbe (k * 8) 3 (.slice A1 nB c1) (by rw [hnB]; exact e0 3 (by omega))
        have x4 := hat.nth hbe (k * 8) 4 (.int .i64 xn) (e0 4 (by omega))
        have x5 := hat.nth hbe (k * 8) 5 (.string xs) (e0 5 (by omega))
        have x6 := hat.nth hbe (k * 8) 6 (.bool xr) (e0 6 (by omega))
        have x7 := hat.nth hbe (k * 8) 7 (.slice A2 n2 c2) (by rw [hn2]; exact e0 7 (by omega))
        rw [← hnB] at q2
        have HNB := Lib.hid hnB
        clear hx hat r4 e0 hnB hn2
        by_cases h31 : k = 31
        · subst h31
          go_wp2_with fail
          have S := hS.grow ((Below.refl wr.heap.size wr).alloc (Nat.le_refl _) (Obj.cells #[.int .u8 xk, .int .u8 xa, .int .u8 xb, .slice A1 nB c1, .int .i64 xn, .string xs, .bool xr, .slice A2 n2 c2] 38))
          clear hS x0 x1 x2 x3 x4 x5 x6 x7 HB hbe
          have hD := S.disk 0 rfl
          have hsz := okF_len hD hF
          (with_reducible refine (diskCopy d m fs _ hD).mono ?_)
          rintro e y1 ⟨c, mc, fs2, rfl, U1, hfd, hln⟩
          have T1 := S.call U1
          simp only [List.cons_append, List.nil_append] at T1
          have HFD := Lib.hid hfd
          have HLN := Lib.hid hln
          clear U1 hfd hln S hD
          go_wp2_with fail
          (with_reducible refine (diskNames d m fs _ (T1.disk 1 rfl) (by omega)).mono ?_)
          rintro e y2 ⟨vn, rfl, hvn, hb2⟩
          have T2 := T1.addRow hb2 hvn (Nat.le_refl _)
          obtain ⟨An, cn, rfl⟩ := owns_slice hvn
          have hnl := namesF_len fs
          obtain ⟨nN, hnN⟩ : ∃ n, n = (namesF fs).length := ⟨_, rfl⟩
          rw [← hnN] at T2 ⊢
          have hn3 : nN ≤ 3 := by omega
          have hcn : nN ≤ cn := by
            obtain ⟨_, _, he, _, h2, _⟩ := rd_of_owns (T2.row 0 rfl)
            cases he
            exact h2
          have HNN := Lib.hid hnN
          have HNL := Lib.hid hnl
          clear hvn hb2 T1 hnl hnN
          go_wp2_with fail
          go_loopw [67] (fun i wz => ∃ j : Nat, j ≤ nN ∧ i = .int .i64 j ∧ Upd [] w [chRow 9 1 (.slice An nN cn) nN ((namesF fs).map encStr), chDiskC c mc 0 0 fs2, chDisk d m fs] wz) (fun i _ => nN - (intOf i).toNat)
          case atStart => exact ⟨0, Nat.zero_le _, rfl, T2⟩
          case round =>
            obtain ⟨j, hj, rfl, T3⟩ := hrel
            clear T2
            by_cases hjn : j < nN
            · obtain ⟨s, f, hns, hfm, hfn⟩ := namesF_at (fs := fs) (k := j) (by rw [← HNN.out]; exact hjn)
              have hDd := T3.disk 2 rfl
              have hDc := (T3.diskC 1 rfl).1
              have hff : findF fs s = some f := by rw [← hfn]; exact find_of_mem hDd.nodup hfm
              obtain ⟨f2, hf2, hb2, hs2⟩ : ∃ f2, findF fs2 s = some f2 ∧ f2.bytes = f.bytes ∧ f2.synced = f.synced := by
                have h := HFD.out s
                rw [hff] at h
                cases h2 : findF fs2 s with
                | none => rw [h2] at h; cases h
                | some f2 =>
                  rw [h2] at h
                  injection h with h
                  exact ⟨f2, rfl, congrArg Prod.fst h, congrArg Prod.snd h⟩
              have cn0 : ∃ b o, An = some ⟨b, o, none⟩ ∧ wr.cell? ⟨b, o + j, none⟩ = some (.string s) := by
                obtain ⟨_, _, he, _, _, _, h4⟩ := rd_of_owns (T3.row 0 rfl)
                cases he
                obtain ⟨b, o, hA, hat⟩ := h4 (by omega)
                exact ⟨b, o, hA, hat j _ (by rw [List.getElem?_map, hns]; rfl)⟩
              obtain ⟨bn, on, rfl, cnk⟩ := cn0
              have kR1 := fun w' (h : DiskAt w' d m fs) => diskReadSome d m fs s f w' h hff
              have kR2 := fun w' (h : DiskAt w' c mc fs2) => diskReadSome c mc fs2 s f2 w' h hf2
              have kL1 := fun w' (h : DiskAt w' d m fs) => diskLooseSome d m fs s f w' h hff
              have kL2 := fun w' (h : DiskAt w' c mc fs2) => diskLooseSome c mc fs2 s f2 w' h hf2
              rw [hb2] at kR2
              rw [hb2, hs2] at kL2
              obtain ⟨BY, hBY⟩ : ∃ l, l = f.bytes := ⟨_, rfl⟩
              obtain ⟨sy, hsy⟩ : ∃ l, l = f.synced := ⟨_, rfl⟩
              rw [← hBY] at kR1 kR2 kL1 kL2
              rw [← hsy] at kL1 kL2
              obtain ⟨nB, hnB⟩ : ∃ n, n = BY.length := ⟨_, rfl⟩
              rw [← hnB] at kR1 kR2 kL1 kL2
              obtain ⟨lo, hlo⟩ : ∃ n, n = nB - sy := ⟨_, rfl⟩
              rw [← hlo] at kL1 kL2
              have K1 := Lib.hid kR1
              have K2 := Lib.hid kR2
              have K3 := Lib.hid kL1
              have K4 := Lib.hid kL2
              have hjj : decide ((j : Int) < (nN : Int)) = true := by simp; omega
              clear hns hfm hfn hff hf2 hb2 hs2 hBY hsy hnB kR1 kR2 kL1 kL2 hlo
              go_wp2_with fail
              (with_reducible refine (K1.out _ hDd).mono ?_)
              rintro e z1 ⟨vx, rfl, hx, hbx⟩
              have T4 := T3.addRow hbx hx (Nat.le_refl _)
              obtain ⟨Ax, cx, rfl⟩ := owns_slice hx
              clear T3 hDd hDc hx hbx K1 cnk
              go_wp2_with fail
              (with_reducible refine (K2.out _ (T4.dkC 2 rfl)).mono ?_)
              rintro e z2 ⟨vy, rfl, hy, hby⟩
              have T5 := T4.addRow hby hy (Nat.le_refl _)
              obtain ⟨Ay, cy, rfl⟩ := owns_slice hy
              have cv1 := conv8 (rd_of_owns (T5.row 0 rfl))
              have cv2 := conv8 (rd_of_owns (T5.row 1 rfl))
              clear T4 hy hby K2
              go_wp2_with fail
              (with_reducible refine (K4.out _ (T5.dkC 3 rfl)).mono ?_)
              rintro e z3 ⟨rfl, hb3⟩
              have T6 := T5.grow hb3
              clear T5 hb3 cv1 cv2 K4
              go_wp2_with fail
              (with_reducible refine (K3.out _ (T6.disk 4 rfl)).mono ?_)
              rintro e z4 ⟨rfl, hb4⟩
              have T7 := ((T6.grow hb4).drop 0).drop 0
              simp only [List.eraseIdx_cons_zero] at T7
              clear T6 hb4 K3
              go_wp2_with fail
              go_roundw
              case rel => exact ⟨j + 1, by omega, by go_num, T7⟩
              case measure => simp [intOf]; omega
            · obtain rfl : j = nN := by omega
              have hjj : decide ((j : Int) < (j : Int)) = false := by simp
              have hDd := T3.disk 2 rfl
              have hDc := (T3.diskC 1 rfl).1
              have hcop : findF fs ⟨#[99, 111, 112, 121]⟩ = none := by
                rw [find_none]
                intro hm
                obtain ⟨f, hf, e⟩ := List.mem_map.1 hm
                obtain ⟨q, _, hq⟩ := hF.1 f hf
                exact nm4_copy q (hq.symm.trans e)
              have hcop2 : findF fs2 ⟨#[99, 111, 112, 121]⟩ = none := by
                have h := HFD.out ⟨#[99, 111, 112, 121]⟩
                rw [hcop] at h
                cases h2 : findF fs2 ⟨#[99, 111, 112, 121]⟩ with
                | none => rfl
                | some f2 => rw [h2] at h; cases h
              have hl2 := HL.out.below T3.below
              have hA := diskAppendU c mc fs2 ⟨#[99, 111, 112, 121]⟩ (.slice A9 nL c9) l _ hDc (by decide) (by decide) (.inr (by have := HLN.out; omega)) (by rw [HNL0.out]; exact hl2) (by unfold hadF; rw [hcop2]; show 0 + l.length ≤ _; rw [← HNL0.out]; omega)
              have HC2 := Lib.hid hcop2
              clear hcop hcop2 hl2 hDd hDc
              go_wp2_with fail
              (with_reducible refine hA.mono ?_)
              rintro e z1 ⟨rfl, v', U4⟩
              have T4 := T3.turn 1 rfl U4
              simp only [List.eraseIdx_cons_succ, List.eraseIdx_cons_zero, List.cons_append, List.nil_append] at T4
              have hl3 : (putF fs2 ⟨⟨#[99, 111, 112, 121]⟩, v', (hadF fs2 ⟨#[99, 111, 112, 121]⟩).1 ++ l, (hadF fs2 ⟨#[99, 111, 112, 121]⟩).2⟩).length = j + 1 := by
                rw [putF_len]
                simp only [HC2.out, HLN.out, HNN.out, HNL.out]
                rfl
              generalize putF fs2 ⟨⟨#[99, 111, 112, 121]⟩, v', (hadF fs2 ⟨#[99, 111, 112, 121]⟩).1 ++ l, (hadF fs2 ⟨#[99, 111, 112, 121]⟩).2⟩ = fs3 at T4 hl3
              have HL3 := Lib.hid hl3
              clear U4 T3 hA hl3
              go_wp2_with fail
              (with_reducible refine (diskCrashAll c mc fs3 (.slice none 0 0) [] _ (T4.disk 0 rfl) (rdNil2 _) (by simp) (by simp [rdFp]) (by have := HL3.out; omega)).mono ?_)
              rintro e z2 ⟨rfl, fs4, U5, hcr⟩
              have T5 := T4.turn 0 rfl U5
              simp only [List.eraseIdx_cons_zero, List.cons_append, List.nil_append] at T5
              have hl4 : (namesF fs4).length = j + 1 := by
                have h := congrArg List.length hcr.1
                rw [List.length_map, List.length_map] at h
                rw [namesF_len, h, HL3.out]
              have HL4 := Lib.hid hl4
              clear U5 T4 hcr hl4
              go_wp2_with fail
              (with_reducible refine (diskCopy d m fs _ (T5.disk 2 rfl)).mono ?_)
              rintro e z3 ⟨c5, mc5, fs5, rfl, U6, _, _⟩
              have T6 := T5.call U6
              simp only [List.cons_append, List.nil_append] at T6
              clear U6 T5
              go_wp2_with fail
              (with_reducible refine (diskCounts c5 _ 0 0 _ (T6.ctC 0 rfl)).mono ?_)
              rintro e z4 ⟨rfl, hb7⟩
              have T7 := T6.grow hb7
              clear hb7 T6
              go_wp2_with fail
              have hN1 := diskNames d m fs z4 (T7.disk 3 rfl) (by omega)
              rw [← HNN.out] at hN1
              (with_reducible refine hN1.mono ?_)
              rintro e z5 ⟨v8, rfl, hv8, hb8⟩
              have T8 := T7.grow hb8
              obtain ⟨A8, c8, rfl⟩ := owns_slice hv8
              clear hv8 hb8 T7 hN1
              go_wp2_with fail
              have hN2 := diskNames c mc fs4 z5 (T8.disk 1 rfl) (by have := HL4.out; rw [namesF_len] at this; omega)
              rw [HL4.out] at hN2
              (with_reducible refine hN2.mono ?_)
              rintro e z6 ⟨v9, rfl, hv9, hb9⟩
              have T9 := (T8.grow hb9).below
              obtain ⟨A10, c10, rfl⟩ := owns_slice hv9
              clear hv9 hb9 T8 hN2
              go_wp2_with fail
              go_ret
              exact ⟨rfl, T9⟩
        have hk30 : decide ((30 : Int) < (k : Int)) = false := by simp; omega
        by_cases hb100 : nB ≤ 100
        · have hb1 : decide ((100 : Int) < (nB : Int)) = false := by simp; omega
          go_wp2_with fail
          refine wp_gen fun W hW => ?_
          have SW : Upd [] w [chBlk wr.heap.size #[.int .u8 xk, .int .u8 xa, .int .u8 xb, .slice A1 nB c1, .int .i64 xn, .string xs, .bool false, .slice A2 n2 c2] 38, chDisk d m fs] W := by rw [hW]; exact hS.alloc _ _
          have hBW := SW.blk 0 rfl
          have hsz := okF_len (hS.disk 0 rfl) hF
          obtain ⟨aq, haq⟩ : ∃ n, n = xa % 3 := ⟨_, rfl⟩
          obtain ⟨bq, hbq⟩ : ∃ n, n = xb % 3 := ⟨_, rfl⟩
          have r1 : (xa : Int).tmod 3 = (aq : Int) := by rw [haq]; rfl
          have r2 : (xb : Int).tmod 3 = (bq : Int) := by rw [hbq]; rfl
          have la : aq < 3 := by omega
          have lb : bq < 3 := by omega
          have na : nm4 (aq % 4) = nm4 aq := by rw [Nat.mod_eq_of_lt (by omega)]
          have nb : nm4 (bq % 4) = nm4 bq := by rw [Nat.mod_eq_of_lt (by omega)]
          have kN1 := fun w' => actNameFew xk xa xb A1 nB c1 xn xs A2 n2 c2 aq (by omega) w'
          have kN2 := fun w' => actNameFew xk xa xb A1 nB c1 xn xs A2 n2 c2 bq (by omega) w'
          rw [na] at kN1
          rw [nb] at kN2
          have N1 := Lib.hid kN1
          have N2 := Lib.hid kN2
          have F : ∀ w', Below W.heap.size W w' → w'.cell? ⟨wr.heap.size, 0, none⟩ = some (.int .u8 xk) ∧ w'.cell? ⟨wr.heap.size, 1, none⟩ = some (.int .u8 xa) ∧ w'.cell? ⟨wr.heap.size, 2, none⟩ = some (.int .u8 xb) ∧ w'.cell? ⟨wr.heap.size, 3, none⟩ = some (.slice A1 nB c1) ∧ w'.cell? ⟨wr.heap.size, 4, none⟩ = some (.int .i64 xn) ∧ w'.cell? ⟨wr.heap.size, 5, none⟩ = some (.string xs) ∧ w'.cell? ⟨wr.heap.size, 6, none⟩ = some (.bool false) ∧ w'.cell? ⟨wr.heap.size, 7, none⟩ = some (.slice A2 n2 c2) := fun w' h => by
            have q := hBW.below h hBW.lt
            exact ⟨q.cell rfl, q.cell rfl, q.cell rfl, q.cell rfl, q.cell rfl, q.cell rfl, q.cell rfl, q.cell rfl⟩
          clear hW hS x0 x1 x2 x3 x4 x5 x6 x7 hbe haq hbq na nb kN1 kN2
          refine region_free (fun w' => Below W.heap.size W w') [] [8] [0, 1, 2, 3, 4, 5, 6, 7] (by kernel_rfl) (by kernel_rfl) (by kernel_rfl) ((Below.refl _ _).drew) ?_
          repeat (first
            | (refine RelSeq.pure_ (c := ?_) rfl rfl ?_ ?_; rotate_left; (focus (intro x w'; dsimp only; go_simp; (repeat' apply And.intro) <;> first | with_reducible rfl | assumption)); simp only [Act.put, List.setIfInBounds_toArray, List.set_cons_zero, List.set_cons_succ])
            | (refine RelSeq.skip_ rfl (fun _ => rfl) ?_; simp only [Act.put, List.setIfInBounds_toArray, List.set_cons_zero, List.set_cons_succ])
            | (refine RelSeq.pureG_ (c := ?_) rfl (fun _ => rfl) rfl ?_ ?_; rotate_left; (focus (intro x w'; dsimp only; go_simp; (repeat' apply And.intro) <;> first | with_reducible rfl | assumption)); simp only [Act.put, List.setIfInBounds_toArray, List.set_cons_zero, List.set_cons_succ])
            | (refine RelSeq.grow_ (c := ?_) rfl rfl ?_ ?_; rotate_left; (focus (intro x w' hw _; dsimp only; obtain ⟨d0, d1, d2, d3, d4, d5, d6, d7⟩ := F w' hw; have hbr := Below.refl w'.heap.size w'; go_simp; (repeat' apply And.intro) <;> first | with_reducible rfl | assumption)); simp only [Act.put, List.setIfInBounds_toArray, List.set_cons_zero, List.set_cons_succ])
            | (refine RelSeq.growG_ (c := ?_) rfl (fun _ => rfl) rfl ?_ ?_; rotate_left; (focus (intro x w' hw _; dsimp only; obtain ⟨d0, d1, d2, d3, d4, d5, d6, d7⟩ := F w' hw; have hbr := Below.refl w'.heap.size w'; go_simp; (repeat' apply And.intro) <;> first | with_reducible rfl | assumption)); simp only [Act.put, List.setIfInBounds_toArray, List.set_cons_zero, List.set_cons_succ]))
          refine RelSeq.grow_ (c := .string (nm4 aq)) rfl rfl ?_ ?_
          focus
            intro x w' hw _; dsimp only
            have q := N1.out w'
            clear F
            go_simp
            (with_reducible refine q.mono ?_)
            rintro e w2 ⟨rfl, hb2⟩
            have hw2 := hw.trans (hb2.mono hw.size)
            go_simp
            all_goals ((repeat' apply And.intro) <;> first | with_reducible rfl | assumption)
          simp only [Act.put, List.setIfInBounds_toArray, List.set_cons_zero, List.set_cons_succ]
          repeat (first
            | (refine RelSeq.pure_ (c := ?_) rfl rfl ?_ ?_; rotate_left; (focus (intro x w'; dsimp only; go_simp; (repeat' apply And.intro) <;> first | with_reducible rfl | assumption)); simp only [Act.put, List.setIfInBounds_toArray, List.set_cons_zero, List.set_cons_succ])
            | (refine RelSeq.skip_ rfl (fun _ => rfl) ?_; simp only [Act.put, List.setIfInBounds_toArray, List.set_cons_zero, List.set_cons_succ])
            | (refine RelSeq.pureG_ (c := ?_) rfl (fun _ => rfl) rfl ?_ ?_; rotate_left; (focus (intro x w'; dsimp only; go_simp; (repeat' apply And.intro) <;> first | with_reducible rfl | assumption)); simp only [Act.put, List.setIfInBounds_toArray, List.set_cons_zero, List.set_cons_succ])
            | (refine RelSeq.grow_ (c := ?_) rfl rfl ?_ ?_; rotate_left; (focus (intro x w' hw _; dsimp only; obtain ⟨d0, d1, d2, d3, d4, d5, d6, d7⟩ := F w' hw; have hbr := Below.refl w'.heap.size w'; go_simp; (repeat' apply And.intro) <;> first | with_reducible rfl | assumption)); simp only [Act.put, List.setIfInBounds_toArray, List.set_cons_zero, List.set_cons_succ])
            | (refine RelSeq.growG_ (c := ?_) rfl (fun _ => rfl) rfl ?_ ?_; rotate_left; (focus (intro x w' hw _; dsimp only; obtain ⟨d0, d1, d2, d3, d4, d5, d6, d7⟩ := F w' hw; have hbr := Below.refl w'.heap.size w'; go_simp; (repeat' apply And.intro) <;> first | with_reducible rfl | assumption)); simp only [Act.put, List.setIfInBounds_toArray, List.set_cons_zero, List.set_cons_succ]))
          refine RelSeq.nil_ fun x w3 hw3 hfa _ => ?_
          have S3 := SW.grow hw3
          have hD3 := S3.disk 1 rfl
          have hl3 := HB.out.below S3.below
          have hA := diskAppendU d m fs (nm4 aq) (.slice A1 nB c1) xl w3 hD3 (by have := nm4_size aq; unfold maxLen; omega) (nm4_word aq) (.inr (by omega)) (by rw [HNB.out]; exact hl3) (by
            rw [← HNB.out]
            have : (hadF fs (nm4 aq)).1.length ≤ 100 * k := by
              unfold hadF
              cases h : findF fs (nm4 aq) with
              | none => simp
              | some g => exact hF.2 g (findF_mem h).1
            omega)
          clear F hfa hBW SW hw3 hl3
          refine TailSeq.cons_ rfl ?_
          go_simp
          (with_reducible refine hA.mono ?_)
          rintro e w4 ⟨rfl, v', U4⟩
          have S4 := S3.turn 1 rfl U4
          simp only [List.eraseIdx_cons_succ, List.eraseIdx_cons_zero, List.cons_append, List.nil_append] at S4
          have hF4 := okF_put (v := v') hF la (l := xl) (by rw [← HNB.out]; exact hb100)
          generalize putF fs ⟨nm4 aq, v', (hadF fs (nm4 aq)).1 ++ xl, (hadF fs (nm4 aq)).2⟩ = fs4 at S4 hF4
          clear hA U4 S3 hD3 HB HNB
          go_simp
          refine TailSeq.nil_ ?_
          have hB4 := S4.blk 1 rfl
          have y0 := hB4.cell (j := 0) (v := .int .u8 xk) rfl
          have y1 := hB4.cell (j := 1) (v := .int .u8 xa) rfl
          have y2 := hB4.cell (j := 2) (v := .int .u8 xb) rfl
          have y3 := hB4.cell (j := 3) (v := .slice A1 nB c1) rfl
          have y4 := hB4.cell (j := 4) (v := .int .i64 xn) rfl
          have y5 := hB4.cell (j := 5) (v := .string xs) rfl
          have y6 := hB4.cell (j := 6) (v := .bool false) rfl
          have y7 := hB4.cell (j := 7) (v := .slice A2 n2 c2) rfl
          clear hB4
          go_wp2_with fail
          · (with_reducible refine (N2.out _).mono ?_)
            rintro e w5 ⟨rfl, hb5⟩
            have S5 := S4.grow hb5
            have hD5 := S5.disk 0 rfl
            clear y0 y1 y2 y3 y4 y5 y6 y7 hb5 S4
            cases hf4 : findF fs4 (nm4 bq) with
            | none =>
              have kS := diskSyncNone d m fs4 (nm4 bq) w5 hD5 hf4
              clear hf4
              go_wp2_with fail
              (with_reducible refine kS.mono ?_)
              rintro e w6 ⟨rfl, hb6⟩
              have S6 := (S5.grow hb6).drop 1
              simp only [List.eraseIdx_cons_succ, List.eraseIdx_cons_zero] at S6
              clear hb6 S5 hD5 kS
              go_wp2_with fail
              go_roundw
              case rel => exact ⟨k + 1, fs4, by omega, by omega, by go_num, S6, hF4⟩
              case measure => simp [intOf]; omega
            | some f4 =>
              have kS := diskSyncU d m fs4 (nm4 bq) f4 w5 hD5 hf4
              have hF5 := okF_sync hF4 hf4
              clear hf4
              go_wp2_with fail
              (with_reducible refine kS.mono ?_)
              rintro e w6 ⟨rfl, U6⟩
              have S6 := (S5.turn 0 rfl U6).drop 1
              simp only [List.eraseIdx_cons_succ, List.eraseIdx_cons_zero, List.cons_append, List.nil_append] at S6
              clear U6 S5 hD5 kS
              go_wp2_with fail
              go_roundw
              case rel => exact ⟨k + 1, _, by omega, by omega, by go_num, S6, hF5⟩
              case measure => simp [intOf]; omega
          · have S6 := S4.drop 1
            simp only [List.eraseIdx_cons_succ, List.eraseIdx_cons_zero] at S6
            clear y0 y1 y2 y3 y4 y5 y6 y7 S4
            go_roundw
            case rel => exact ⟨k + 1, fs4, by omega, by omega, by go_num, S6, hF4⟩
            case measure => simp [intOf]; omega
        · have hb1 : decide ((100 : Int) < (nB : Int)) = true := by simp; omega
          go_wp2_with fail
          have S := hS.grow ((Below.refl wr.heap.size wr).alloc (Nat.le_refl _) (Obj.cells #[.int .u8 xk, .int .u8 xa, .int .u8 xb, .slice A1 nB c1, .int .i64 xn, .string xs, .bool xr, .slice A2 n2 c2] 38))
          clear hS x0 x1 x2 x3 x4 x5 x6 x7 HB hbe
          have hD := S.disk 0 rfl
          have hsz := okF_len hD hF
          (with_reducible refine (diskCopy d m fs _ hD).mono ?_)
          rintro e y1 ⟨c, mc, fs2, rfl, U1, hfd, hln⟩
          have T1 := S.call U1
          simp only [List.cons_append, List.nil_append] at T1
          have HFD := Lib.hid hfd
          have HLN := Lib.hid hln
          clear U1 hfd hln S hD
          go_wp2_with fail
          (with_reducible refine (diskNames d m fs _ (T1.disk 1 rfl) (by omega)).mono ?_)
          rintro e y2 ⟨vn, rfl, hvn, hb2⟩
          have T2 := T1.addRow hb2 hvn (Nat.le_refl _)
          obtain ⟨An, cn, rfl⟩ := owns_slice hvn
          have hnl := namesF_len fs
          obtain ⟨nN, hnN⟩ : ∃ n, n = (namesF fs).length := ⟨_, rfl⟩
          rw [← hnN] at T2 ⊢
          have hn3 : nN ≤ 3 := by omega
          have hcn : nN ≤ cn := by
            obtain ⟨_, _, he, _, h2, _⟩ := rd_of_owns (T2.row 0 rfl)
            cases he
            exact h2
          have HNN := Lib.hid hnN
          have HNL := Lib.hid hnl
          clear hvn hb2 T1 hnl hnN
          go_wp2_with fail
          go_loopw [67] (fun i wz => ∃ j : Nat, j ≤ nN ∧ i = .int .i64 j ∧ Upd [] w [chRow 9 1 (.slice An nN cn) nN ((namesF fs).map encStr), chDiskC c mc 0 0 fs2, chDisk d m fs] wz) (fun i _ => nN - (intOf i).toNat)
          case atStart => exact ⟨0, Nat.zero_le _, rfl, T2⟩
          case round =>
            obtain ⟨j, hj, rfl, T3⟩ := hrel
            clear T2
            by_cases hjn : j < nN
            · obtain ⟨s, f, hns, hfm, hfn⟩ := namesF_at (fs := fs) (k := j) (by rw [← HNN.out]; exact hjn)
              have hDd := T3.disk 2 rfl
              have hDc := (T3.diskC 1 rfl).1
              have hff : findF fs s = some f := by rw [← hfn]; exact find_of_mem hDd.nodup hfm
              obtain ⟨f2, hf2, hb2, hs2⟩ : ∃ f2, findF fs2 s = some f2 ∧ f2.bytes = f.bytes ∧ f2.synced = f.synced := by
                have h := HFD.out s
                rw [hff] at h
                cases h2 : findF fs2 s with
                | none => rw [h2] at h; cases h
                | some f2 =>
                  rw [h2] at h
                  injection h with h
                  exact ⟨f2, rfl, congrArg Prod.fst h, congrArg Prod.snd h⟩
              have cn0 : ∃ b o, An = some ⟨b, o, none⟩ ∧ wr.cell? ⟨b, o + j, none⟩ = some (.string s) := by
                obtain ⟨_, _, he, _, _, _, h4⟩ := rd_of_owns (T3.row 0 rfl)
                cases he
                obtain ⟨b, o, hA, hat⟩ := h4 (by omega)
                exact ⟨b, o, hA, hat j _ (by rw [List.getElem?_map, hns]; rfl)⟩
              obtain ⟨bn, on, rfl, cnk⟩ := cn0
              have kR1 := fun w' (h : DiskAt w' d m fs) => diskReadSome d m fs s f w' h hff
              have kR2 := fun w' (h : DiskAt w' c mc fs2) => diskReadSome c mc fs2 s f2 w' h hf2
              have kL1 := fun w' (h : DiskAt w' d m fs) => diskLooseSome d m fs s f w' h hff
              have kL2 := fun w' (h : DiskAt w' c mc fs2) => diskLooseSome c mc fs2 s f2 w' h hf2
              rw [hb2] at kR2
              rw [hb2, hs2] at kL2
              obtain ⟨BY, hBY⟩ : ∃ l, l = f.bytes := ⟨_, rfl⟩
              obtain ⟨sy, hsy⟩ : ∃ l, l = f.synced := ⟨_, rfl⟩
              rw [← hBY] at kR1 kR2 kL1 kL2
              rw [← hsy] at kL1 kL2
              obtain ⟨nB, hnB⟩ : ∃ n, n = BY.length := ⟨_, rfl⟩
              rw [← hnB] at kR1 kR2 kL1 kL2
              obtain ⟨lo, hlo⟩ : ∃ n, n = nB - sy := ⟨_, rfl⟩
              rw [← hlo] at kL1 kL2
              have K1 := Lib.hid kR1
              have K2 := Lib.hid kR2
              have K3 := Lib.hid kL1
              have K4 := Lib.hid kL2
              have hjj : decide ((j : Int) < (nN : Int)) = true := by simp; omega
              clear hns hfm hfn hff hf2 hb2 hs2 hBY hsy hnB kR1 kR2 kL1 kL2 hlo
              go_wp2_with fail
              (with_reducible refine (K1.out _ hDd).mono ?_)
              rintro e z1 ⟨vx, rfl, hx, hbx⟩
              have T4 := T3.addRow hbx hx (Nat.le_refl _)
              obtain ⟨Ax, cx, rfl⟩ := owns_slice hx
              clear T3 hDd hDc hx hbx K1 cnk
              go_wp2_with fail
              (with_reducible refine (K2.out _ (T4.dkC 2 rfl)).mono ?_)
              rintro e z2 ⟨vy, rfl, hy, hby⟩
              have T5 := T4.addRow hby hy (Nat.le_refl _)
              obtain ⟨Ay, cy, rfl⟩ := owns_slice hy
              have cv1 := conv8 (rd_of_owns (T5.row 0 rfl))
              have cv2 := conv8 (rd_of_owns (T5.row 1 rfl))
              clear T4 hy hby K2
              go_wp2_with fail
              (with_reducible refine (K4.out _ (T5.dkC 3 rfl)).mono ?_)
              rintro e z3 ⟨rfl, hb3⟩
              have T6 := T5.grow hb3
              clear T5 hb3 cv1 cv2 K4
              go_wp2_with fail
              (with_reducible refine (K3.out _ (T6.disk 4 rfl)).mono ?_)
              rintro e z4 ⟨rfl, hb4⟩
              have T7 := ((T6.grow hb4).drop 0).drop 0
              simp only [List.eraseIdx_cons_zero] at T7
              clear T6 hb4 K3
              go_wp2_with fail
              go_roundw
              case rel => exact ⟨j + 1, by omega, by go_num, T7⟩
              case measure => simp [intOf]; omega
            · obtain rfl : j = nN := by omega
              have hjj : decide ((j : Int) < (j : Int)) = false := by simp
              have hDd := T3.disk 2 rfl
              have hDc := (T3.diskC 1 rfl).1
              have hcop : findF fs ⟨#[99, 111, 112, 121]⟩ = none := by
                rw [find_none]
                intro hm
                obtain ⟨f, hf, e⟩ := List.mem_map.1 hm
                obtain ⟨q, _, hq⟩ := hF.1 f hf
                exact nm4_copy q (hq.symm.trans e)
              have hcop2 : findF fs2 ⟨#[99, 111, 112, 121]⟩ = none := by
                have h := HFD.out ⟨#[99, 111, 112, 121]⟩
                rw [hcop] at h
                cases h2 : findF fs2 ⟨#[99, 111, 112, 121]⟩ with
                | none => rfl
                | some f2 => rw [h2] at h; cases h
              have hl2 := HL.out.below T3.below
              have hA := diskAppendU c mc fs2 ⟨#[99, 111, 112, 121]⟩ (.slice A9 nL c9) l _ hDc (by decide) (by decide) (.inr (by have := HLN.out; omega)) (by rw [HNL0.out]; exact hl2) (by unfold hadF; rw [hcop2]; show 0 + l.length ≤ _; rw [← HNL0.out]; omega)
              have HC2 := Lib.hid hcop2
              clear hcop hcop2 hl2 hDd hDc
              go_wp2_with fail
              (with_reducible refine hA.mono ?_)
              rintro e z1 ⟨rfl, v', U4⟩
              have T4 := T3.turn 1 rfl U4
              simp only [List.eraseIdx_cons_succ, List.eraseIdx_cons_zero, List.cons_append, List.nil_append] at T4
              have hl3 : (putF fs2 ⟨⟨#[99, 111, 112, 121]⟩, v', (hadF fs2 ⟨#[99, 111, 112, 121]⟩).1 ++ l, (hadF fs2 ⟨#[99, 111, 112, 121]⟩).2⟩).length = j + 1 := by
                rw [putF_len]
                simp only [HC2.out, HLN.out, HNN.out, HNL.out]
                rfl
              generalize putF fs2 ⟨⟨#[99, 111, 112, 121]⟩, v', (hadF fs2 ⟨#[99, 111, 112, 121]⟩).1 ++ l, (hadF fs2 ⟨#[99, 111, 112, 121]⟩).2⟩ = fs3 at T4 hl3
              have HL3 := Lib.hid hl3
              clear U4 T3 hA hl3
              go_wp2_with fail
              (with_reducible refine (diskCrashAll c mc fs3 (.slice none 0 0) [] _ (T4.disk 0 rfl) (rdNil2 _) (by simp) (by simp [rdFp]) (by have := HL3.out; omega)).mono ?_)
              rintro e z2 ⟨rfl, fs4, U5, hcr⟩
              have T5 := T4.turn 0 rfl U5
              simp only [List.eraseIdx_cons_zero, List.cons_append, List.nil_append] at T5
              have hl4 : (namesF fs4).length = j + 1 := by
                have h := congrArg List.length hcr.1
                rw [List.length_map, List.length_map] at h
                rw [namesF_len, h, HL3.out]
              have HL4 := Lib.hid hl4
              clear U5 T4 hcr hl4
              go_wp2_with fail
              (with_reducible refine (diskCopy d m fs _ (T5.disk 2 rfl)).mono ?_)
              rintro e z3 ⟨c5, mc5, fs5, rfl, U6, _, _⟩
              have T6 := T5.call U6
              simp only [List.cons_append, List.nil_append] at T6
              clear U6 T5
              go_wp2_with fail
              (with_reducible refine (diskCounts c5 _ 0 0 _ (T6.ctC 0 rfl)).mono ?_)
              rintro e z4 ⟨rfl, hb7⟩
              have T7 := T6.grow hb7
              clear hb7 T6
              go_wp2_with fail
              have hN1 := diskNames d m fs z4 (T7.disk 3 rfl) (by omega)
              rw [← HNN.out] at hN1
              (with_reducible refine hN1.mono ?_)
              rintro e z5 ⟨v8, rfl, hv8, hb8⟩
              have T8 := T7.grow hb8
              obtain ⟨A8, c8, rfl⟩ := owns_slice hv8
              clear hv8 hb8 T7 hN1
              go_wp2_with fail
              have hN2 := diskNames c mc fs4 z5 (T8.disk 1 rfl) (by have := HL4.out; rw [namesF_len] at this; omega)
              rw [HL4.out] at hN2
              (with_reducible refine hN2.mono ?_)
              rintro e z6 ⟨v9, rfl, hv9, hb9⟩
              have T9 := (T8.grow hb9).below
              obtain ⟨A10, c10, rfl⟩ := owns_slice hv9
              clear hv9 hb9 T8 hN2
              go_wp2_with fail
              go_ret
              exact ⟨rfl, T9⟩
      · have hkk : decide ((k : Int) < (nA : Int)) = false := by simp; omega
        go_wp2_with fail
        have S := hS
        clear hS
        have hD := S.disk 0 rfl
        have hsz := okF_len hD hF
        (with_reducible refine (diskCopy d m fs _ hD).mono ?_)
        rintro e y1 ⟨c, mc, fs2, rfl, U1, hfd, hln⟩
        have T1 := S.call U1
        simp only [List.cons_append, List.nil_append] at T1
        have HFD := Lib.hid hfd
        have HLN := Lib.hid hln
        clear U1 hfd hln S hD
        go_wp2_with fail
        (with_reducible refine (diskNames d m fs _ (T1.disk 1 rfl) (by omega)).mono ?_)
        rintro e y2 ⟨vn, rfl, hvn, hb2⟩
        have T2 := T1.addRow hb2 hvn (Nat.le_refl _)
        obtain ⟨An, cn, rfl⟩ := owns_slice hvn
        have hnl := namesF_len fs
        obtain ⟨nN, hnN⟩ : ∃ n, n = (namesF fs).length := ⟨_, rfl⟩
        rw [← hnN] at T2 ⊢
        have hn3 : nN ≤ 3 := by omega
        have hcn : nN ≤ cn := by
          obtain ⟨_, _, he, _, h2, _⟩ := rd_of_owns (T2.row 0 rfl)
          cases he
          exact h2
        have HNN := Lib.hid hnN
        have HNL := Lib.hid hnl
        clear hvn hb2 T1 hnl hnN
        go_wp2_with fail
        go_loopw [67] (fun i wz => ∃ j : Nat, j ≤ nN ∧ i = .int .i64 j ∧ Upd [] w [chRow 9 1 (.slice An nN cn) nN ((namesF fs).map encStr), chDiskC c mc 0 0 fs2, chDisk d m fs] wz) (fun i _ => nN - (intOf i).toNat)
        case atStart => exact ⟨0, Nat.zero_le _, rfl, T2⟩
        case round =>
          obtain ⟨j, hj, rfl, T3⟩ := hrel
          clear T2
          by_cases hjn : j < nN
          · obtain ⟨s, f, hns, hfm, hfn⟩ := namesF_at (fs := fs) (k := j) (by rw [← HNN.out]; exact hjn)
            have hDd := T3.disk 2 rfl
            have hDc := (T3.diskC 1 rfl).1
            have hff : findF fs s = some f := by rw [← hfn]; exact find_of_mem hDd.nodup hfm
            obtain ⟨f2, hf2, hb2, hs2⟩ : ∃ f2, findF fs2 s = some f2 ∧ f2.bytes = f.bytes ∧ f2.synced = f.synced := by
              have h := HFD.out s
              rw [hff] at h
              cases h2 : findF fs2 s with
              | none => rw [h2] at h; cases h
              | some f2 =>
                rw [h2] at h
                injection h with h
                exact ⟨f2, rfl, congrArg Prod.fst h, congrArg Prod.snd h⟩
            have cn0 : ∃ b o, An = some ⟨b, o, none⟩ ∧ wr.cell? ⟨b, o + j, none⟩ = some (.string s) := by
              obtain ⟨_, _, he, _, _, _, h4⟩ := rd_of_owns (T3.row 0 rfl)
              cases he
              obtain ⟨b, o, hA, hat⟩ := h4 (by omega)
              exact ⟨b, o, hA, hat j _ (by rw [List.getElem?_map, hns]; rfl)⟩
            obtain ⟨bn, on, rfl, cnk⟩ := cn0
            have kR1 := fun w' (h : DiskAt w' d m fs) => diskReadSome d m fs s f w' h hff
            have kR2 := fun w' (h : DiskAt w' c mc fs2) => diskReadSome c mc fs2 s f2 w' h hf2
            have kL1 := fun w' (h : DiskAt w' d m fs) => diskLooseSome d m fs s f w' h hff
            have kL2 := fun w' (h : DiskAt w' c mc fs2) => diskLooseSome c mc fs2 s f2 w' h hf2
            rw [hb2] at kR2
            rw [hb2, hs2] at kL2
            obtain ⟨BY, hBY⟩ : ∃ l, l = f.bytes := ⟨_, rfl⟩
            obtain ⟨sy, hsy⟩ : ∃ l, l = f.synced := ⟨_, rfl⟩
            rw [← hBY] at kR1 kR2 kL1 kL2
            rw [← hsy] at kL1 kL2
            obtain ⟨nB, hnB⟩ : ∃ n, n = BY.length := ⟨_, rfl⟩
            rw [← hnB] at kR1 kR2 kL1 kL2
            obtain ⟨lo, hlo⟩ : ∃ n, n = nB - sy := ⟨_, rfl⟩
            rw [← hlo] at kL1 kL2
            have K1 := Lib.hid kR1
            have K2 := Lib.hid kR2
            have K3 := Lib.hid kL1
            have K4 := Lib.hid kL2
            have hjj : decide ((j : Int) < (nN : Int)) = true := by simp; omega
            clear hns hfm hfn hff hf2 hb2 hs2 hBY hsy hnB kR1 kR2 kL1 kL2 hlo
            go_wp2_with fail
            (with_reducible refine (K1.out _ hDd).mono ?_)
            rintro e z1 ⟨vx, rfl, hx, hbx⟩
            have T4 := T3.addRow hbx hx (Nat.le_refl _)
            obtain ⟨Ax, cx, rfl⟩ := owns_slice hx
            clear T3 hDd hDc hx hbx K1 cnk
            go_wp2_with fail
            (with_reducible refine (K2.out _ (T4.dkC 2 rfl)).mono ?_)
            rintro e z2 ⟨vy, rfl, hy, hby⟩
            have T5 := T4.addRow hby hy (Nat.le_refl _)
            obtain ⟨Ay, cy, rfl⟩ := owns_slice hy
            have cv1 := conv8 (rd_of_owns (T5.row 0 rfl))
            have cv2 := conv8 (rd_of_owns (T5.row 1 rfl))
            clear T4 hy hby K2
            go_wp2_with fail
            (with_reducible refine (K4.out _ (T5.dkC 3 rfl)).mono ?_)
            rintro e z3 ⟨rfl, hb3⟩
            have T6 := T5.grow hb3
            clear T5 hb3 cv1 cv2 K4
            go_wp2_with fail
            (with_reducible refine (K3.out _ (T6.disk 4 rfl)).mono ?_)
            rintro e z4 ⟨rfl, hb4⟩
            have T7 := ((T6.grow hb4).drop 0).drop 0
            simp only [List.eraseIdx_cons_zero] at T7
            clear T6 hb4 K3
            go_wp2_with fail
            go_roundw
            case rel => exact ⟨j + 1, by omega, by go_num, T7⟩
            case measure => simp [intOf]; omega
          · obtain rfl : j = nN := by omega
            have hjj : decide ((j : Int) < (j : Int)) = false := by simp
            have hDd := T3.disk 2 rfl
            have hDc := (T3.diskC 1 rfl).1
            have hcop : findF fs ⟨#[99, 111, 112, 121]⟩ = none := by
              rw [find_none]
              intro hm
              obtain ⟨f, hf, e⟩ := List.mem_map.1 hm
              obtain ⟨q, _, hq⟩ := hF.1 f hf
              exact nm4_copy q (hq.symm.trans e)
            have hcop2 : findF fs2 ⟨#[99, 111, 112, 121]⟩ = none := by
              have h := HFD.out ⟨#[99, 111, 112, 121]⟩
              rw [hcop] at h
              cases h2 : findF fs2 ⟨#[99, 111, 112, 121]⟩ with
              | none => rfl
              | some f2 => rw [h2] at h; cases h
            have hl2 := HL.out.below T3.below
            have hA := diskAppendU c mc fs2 ⟨#[99, 111, 112, 121]⟩ (.slice A9 nL c9) l _ hDc (by decide) (by decide) (.inr (by have := HLN.out; omega)) (by rw [HNL0.out]; exact hl2) (by unfold hadF; rw [hcop2]; show 0 + l.length ≤ _; rw [← HNL0.out]; omega)
            have HC2 := Lib.hid hcop2
            clear hcop hcop2 hl2 hDd hDc
            go_wp2_with fail
            (with_reducible refine hA.mono ?_)
            rintro e z1 ⟨rfl, v', U4⟩
            have T4 := T3.turn 1 rfl U4
            simp only [List.eraseIdx_cons_succ, List.eraseIdx_cons_zero, List.cons_append, List.nil_append] at T4
            have hl3 : (putF fs2 ⟨⟨#[99, 111, 112, 121]⟩, v', (hadF fs2 ⟨#[99, 111, 112, 121]⟩).1 ++ l, (hadF fs2 ⟨#[99, 111, 112, 121]⟩).2⟩).length = j + 1 := by
              rw [putF_len]
              simp only [HC2.out, HLN.out, HNN.out, HNL.out]
              rfl
            generalize putF fs2 ⟨⟨#[99, 111, 112, 121]⟩, v', (hadF fs2 ⟨#[99, 111, 112, 121]⟩).1 ++ l, (hadF fs2 ⟨#[99, 111, 112, 121]⟩).2⟩ = fs3 at T4 hl3
            have HL3 := Lib.hid hl3
            clear U4 T3 hA hl3
            go_wp2_with fail
            (with_reducible refine (diskCrashAll c mc fs3 (.slice none 0 0) [] _ (T4.disk 0 rfl) (rdNil2 _) (by simp) (by simp [rdFp]) (by have := HL3.out; omega)).mono ?_)
            rintro e z2 ⟨rfl, fs4, U5, hcr⟩
            have T5 := T4.turn 0 rfl U5
            simp only [List.eraseIdx_cons_zero, List.cons_append, List.nil_append] at T5
            have hl4 : (namesF fs4).length = j + 1 := by
              have h := congrArg List.length hcr.1
              rw [List.length_map, List.length_map] at h
              rw [namesF_len, h, HL3.out]
            have HL4 := Lib.hid hl4
            clear U5 T4 hcr hl4
            go_wp2_with fail
            (with_reducible refine (diskCopy d m fs _ (T5.disk 2 rfl)).mono ?_)
            rintro e z3 ⟨c5, mc5, fs5, rfl, U6, _, _⟩
            have T6 := T5.call U6
            simp only [List.cons_append, List.nil_append] at T6
            clear U6 T5
            go_wp2_with fail
            (with_reducible refine (diskCounts c5 _ 0 0 _ (T6.ctC 0 rfl)).mono ?_)
            rintro e z4 ⟨rfl, hb7⟩
            have T7 := T6.grow hb7
            clear hb7 T6
            go_wp2_with fail
            have hN1 := diskNames d m fs z4 (T7.disk 3 rfl) (by omega)
            rw [← HNN.out] at hN1
            (with_reducible refine hN1.mono ?_)
            rintro e z5 ⟨v8, rfl, hv8, hb8⟩
            have T8 := T7.grow hb8
            obtain ⟨A8, c8, rfl⟩ := owns_slice hv8
            clear hv8 hb8 T7 hN1
            go_wp2_with fail
            have hN2 := diskNames c mc fs4 z5 (T8.disk 1 rfl) (by have := HL4.out; rw [namesF_len] at this; omega)
            rw [HL4.out] at hN2
            (with_reducible refine hN2.mono ?_)
            rintro e z6 ⟨v9, rfl, hv9, hb9⟩
            have T9 := (T8.grow hb9).below
            obtain ⟨A10, c10, rfl⟩ := owns_slice hv9
            clear hv9 hb9 T8 hN2
            go_wp2_with fail
            go_ret
            exact ⟨rfl, T9⟩
  · have hl1 : decide ((100 : Int) < (nL : Int)) = true := by simp; omega
    go_wp2_with fail
    go_ret
    exact ⟨rfl, hba⟩
end Go.Proofs.Ytdjdhakmigofmaa
