/-
  The law DiskPlays, walked.
-/
import Derived.Test.YtdjdhakmigofmaaSame6
import Derived.Test.YtdjdhakmigofmaaPlayI
import Derived.Test.YtdjdhakmigofmaaDiskC
namespace Go.Proofs.Ytdjdhakmigofmaa
open Go.RowKit
set_option maxRecDepth 100000
attribute [local go_sem] FreeTw.out FreeBy.out

theorem infoInt : (Try.prog.info? 3).map (fun i => (i.zero, i.size, i.bytes)) = some (some (.int .i64 0), 1, 8) := by kernel_rfl
def nmOf (x : ActV) (q : Nat) : ByteArray := if x.raw then x.name else nm4 (q % 4)
theorem nmOf_size (x : ActV) (q : Nat) (h : x.name.size ≤ 50) : (nmOf x q).size ≤ 50 := by
  unfold nmOf
  split
  · exact h
  · have := nm4_size (q % 4); omega
theorem actName (kind a b : Nat) (A1 : Option Addr) (n1 c1 : Nat) (n : Int) (nm : ByteArray) (raw : Bool) (A2 : Option Addr) (n2 c2 : Nat) (q : Nat) (hq : q < 256) (w : World) :
    Calls Try.prog 15 #[.agg #[.int .u8 kind, .int .u8 a, .int .u8 b, .slice A1 n1 c1, .int .i64 n, .string nm, .bool raw, .slice A2 n2 c2], .int .u8 q] w fun e w' => e = .returned (.string (if raw then nm else nm4 (q % 4))) ∧ Below w.heap.size w w' := by
  cases raw
  · exact actNameFew kind a b A1 n1 c1 n nm A2 n2 c2 q hq w
  · exact actNameRaw kind a b A1 n1 c1 n nm A2 n2 c2 q w
theorem chM_nil {S : List Nat} {w0 w : World} {C : List Chunk} {g : Nat} {a b : Int} (h : Upd S w0 (chBlk g #[.slice none 0 0, .int .i64 a, .int .i64 b] 48 :: C) w) : Upd S w0 (chM g (.slice none 0 0) a b [] :: C) w := by
  have h1 := (h.nilRow 90 3).front 1 rfl
  simp only [List.eraseIdx_cons_succ, List.eraseIdx_cons_zero] at h1
  have h2 : Upd S w0 (chFiles [] :: chDk g (.slice none 0 0) a b :: chFr (.slice none 0 0) [] :: C) w := h1.add (Below.refl _ _) (chFiles []) (fun f hf => nomatch hf) (fun b hb => by cases hb)
  have h3 := (h2.front 1 rfl)
  simp only [List.eraseIdx_cons_succ, List.eraseIdx_cons_zero] at h3
  have h4 := h3.front 2 rfl
  simp only [List.eraseIdx_cons_succ, List.eraseIdx_cons_zero] at h4
  exact Upd.closeN (l := [_, _, _]) (r := C) (h4.perm ((List.Perm.swap _ _ _).trans (List.Perm.refl _)))
set_option maxHeartbeats 16000000 in
theorem playsWalk (av : Value) (acts : List ActV) (w : World) (hr : Rd w 8 av acts.length (acts.flatMap actCells)) (hx : ∀ x ∈ acts, x.ok w ∧ x.tears.length ≤ 1048576) :
    Calls Try.prog 5 #[av] w fun e w' => e = .returned (.bool true) ∧ Below w.heap.size w w' := by
  obtain ⟨Aa, ca, rfl, _, ha2, ha3, hat⟩ := hr
  unfold maxLen at ha3
  obtain ⟨ii0, hii, hiz0, hiz1, hiz2⟩ := info_parts infoInt
  obtain ⟨nA, hnA⟩ : ∃ n, n = acts.length := ⟨_, rfl⟩
  rw [← hnA] at ha2 hat ⊢
  have HNA := Lib.hid hnA
  have HX := Lib.hid hx
  clear hnA hx
  go_enter Try.func5, Try.ntmps5
  go_wp2_with fail
  (with_reducible refine (dAwake _).mono ?_)
  rintro e w1 ⟨rfl, hb1⟩
  have S0 := (Upd.nil [] w).grow hb1
  clear hb1
  go_wp2_with fail
  (with_reducible refine (diskNewC _).mono ?_)
  rintro e w2 ⟨d, m, rfl, hu2⟩
  have S1 := S0.call hu2
  simp only [List.cons_append, List.nil_append] at S1
  clear S0 hu2
  have S2 := chM_nil (S1.alloc #[.slice none 0 0, .int .i64 0, .int .i64 0] 48)
  have S3 := S2.front 1 rfl
  simp only [List.eraseIdx_cons_succ, List.eraseIdx_cons_zero] at S3
  obtain ⟨g, hg⟩ : ∃ g, g = w2.heap.size := ⟨_, rfl⟩
  rw [← hg] at S3
  clear S1 S2
  go_wp2_with fail
  rw [← hg]
  clear hg
  go_loopw [26] (fun i wr => ∃ (k : Nat) (ia ib : Int) (fs : List FileV) (lv : Value) (L : List FileV), k ≤ nA ∧ i = .int .i64 k ∧ (0 ≤ ia ∧ ia ≤ k) ∧ (0 ≤ ib ∧ ib ≤ k) ∧ PInv k fs L ∧ Upd [] w [chDiskC d m ia ib fs, chM g lv ia ib L] wr) (fun i _ => nA - (intOf i).toNat)
  case atStart => exact ⟨0, 0, 0, [], _, [], Nat.zero_le _, rfl, ⟨Int.le_refl _, Int.le_refl _⟩, ⟨Int.le_refl _, Int.le_refl _⟩, PInv.nil, S3⟩
  case round =>
    obtain ⟨k, ia, ib, fs, lv, L, hk, rfl, hia, hib, hI, S1⟩ := hrel
    clear S3
    have HI := Lib.hid hI
    clear hI
    by_cases hkn : k < nA
    case neg =>
      obtain rfl : k = nA := by omega
      have hkk : decide ((k : Int) < (k : Int)) = false := by simp
      have hb := S1.below
      clear S1 hat
      go_wp2_with fail
      go_ret
      exact ⟨rfl, hb⟩
    have hkn1 : decide ((k : Int) < (nA : Int)) = true := by simpa using hkn
    obtain ⟨x, hx⟩ : ∃ x, acts[k]? = some x := ⟨_, List.getElem?_eq_getElem (by rw [← HNA.out]; exact hkn)⟩
    obtain ⟨hxo, hxT⟩ := HX.out x (List.mem_of_getElem? hx)
    obtain ⟨b0, o0, rfl, hat0⟩ := hat (by omega)
    have e0 := fun j hj => flat_at actCells 8 (fun _ => rfl) acts k x hx j hj
    obtain ⟨xk, xa, xb, xv, xl, xn, xs, xr, xt, xts⟩ := x
    obtain ⟨hxk, hxa, hxb, hxv, hn1, hn2, hxs, hxt, hxts⟩ := hxo
    simp only at hxk hxa hxb hxv hn1 hn2 hxs hxt hxts hxT
    obtain ⟨A1, c1, rfl, _, hB2, hB3, _⟩ := id hxv
    obtain ⟨A2, c2, rfl, _, hT2, hT3, _⟩ := id hxt
    obtain ⟨nB, hnB⟩ : ∃ n, n = xl.length := ⟨_, rfl⟩
    obtain ⟨nT, hnT⟩ : ∃ n, n = xts.length := ⟨_, rfl⟩
    have hB := S1.below
    unfold maxLen at hB3 hT3
    have y0 := hat0.nth0 hB (k * 8) (.int .u8 xk) (e0 0 (by omega))
    have y1 := hat0.nth hB (k * 8) 1 (.int .u8 xa) (e0 1 (by omega))
    have y2 := hat0.nth hB (k * 8) 2 (.int .u8 xb) (e0 2 (by omega))
    have y3 := hat0.nth hB (k * 8) 3 (.slice A1 nB c1) (by rw [hnB]; exact e0 3 (by omega))
    have y4 := hat0.nth hB (k * 8) 4 (.int .i64 xn) (e0 4 (by omega))
    have y5 := hat0.nth hB (k * 8) 5 (.string xs) (e0 5 (by omega))
    have y6 := hat0.nth hB (k * 8) 6 (.bool xr) (e0 6 (by omega))
    have y7 := hat0.nth hB (k * 8) 7 (.slice A2 nT c2) (by rw [hnT]; exact e0 7 (by omega))
    rw [← hnB] at hB2 hxv
    rw [← hnT] at hT2 hxt hxT
    have HXV := Lib.hid hxv
    have HXT := Lib.hid hxt
    have HNB := Lib.hid hnB
    have HNT := Lib.hid hnT
    have HXTS := Lib.hid hxts
    clear hx e0 hxv hxt hxts hnB hnT hB hat hat0
    by_cases c60 : 60 < k
    · have d60 : decide ((60 : Int) < (k : Int)) = true := by simp; omega
      have hb := S1.below.trans (((Below.refl wr.heap.size wr).alloc (Nat.le_refl _) (.cells #[.int .u8 xk, .int .u8 xa, .int .u8 xb, .slice A1 nB c1, .int .i64 xn, .string xs, .bool xr, .slice A2 nT c2] 38)).mono S1.below.size)
      clear S1
      go_wp2_with fail
      go_ret
      exact ⟨rfl, hb⟩
    have d60 : decide ((60 : Int) < (k : Int)) = false := by simp; omega
    by_cases c200 : 200 < nB
    · have d200 : decide ((200 : Int) < (nB : Int)) = true := by simp; omega
      have hb := S1.below.trans (((Below.refl wr.heap.size wr).alloc (Nat.le_refl _) (.cells #[.int .u8 xk, .int .u8 xa, .int .u8 xb, .slice A1 nB c1, .int .i64 xn, .string xs, .bool xr, .slice A2 nT c2] 38)).mono S1.below.size)
      clear S1
      go_wp2_with fail
      go_ret
      exact ⟨rfl, hb⟩
    have d200 : decide ((200 : Int) < (nB : Int)) = false := by simp; omega
    by_cases c50 : 50 < xs.size
    · have d50 : decide ((50 : Int) < (xs.size : Int)) = true := by simp; omega
      have hb := S1.below.trans (((Below.refl wr.heap.size wr).alloc (Nat.le_refl _) (.cells #[.int .u8 xk, .int .u8 xa, .int .u8 xb, .slice A1 nB c1, .int .i64 xn, .string xs, .bool xr, .slice A2 nT c2] 38)).mono S1.below.size)
      clear S1
      go_wp2_with fail
      go_ret
      exact ⟨rfl, hb⟩
    have d50 : decide ((50 : Int) < (xs.size : Int)) = false := by simp; omega
    go_wp2_with fail
    refine wp_gen fun W hW => ?_
    have S2 := (S1.alloc #[.int .u8 xk, .int .u8 xa, .int .u8 xb, .slice A1 nB c1, .int .i64 xn, .string xs, .bool xr, .slice A2 nT c2] 38).same hW
    clear hW S1 y0 y1 y2 y3 y4 y5 y6 y7 d60 d200 d50 hkn1
    have hBx := S2.blk 0 rfl
    have F : ∀ w', Below W.heap.size W w' → w'.cell? ⟨wr.heap.size, 0, none⟩ = some (.int .u8 xk) ∧ w'.cell? ⟨wr.heap.size, 1, none⟩ = some (.int .u8 xa) ∧ w'.cell? ⟨wr.heap.size, 2, none⟩ = some (.int .u8 xb) ∧ w'.cell? ⟨wr.heap.size, 3, none⟩ = some (.slice A1 nB c1) ∧ w'.cell? ⟨wr.heap.size, 4, none⟩ = some (.int .i64 xn) ∧ w'.cell? ⟨wr.heap.size, 5, none⟩ = some (.string xs) ∧ w'.cell? ⟨wr.heap.size, 6, none⟩ = some (.bool xr) ∧ w'.cell? ⟨wr.heap.size, 7, none⟩ = some (.slice A2 nT c2) := fun w' h =>
      have p := hBx.below h hBx.lt
      ⟨p.cell rfl, p.cell rfl, p.cell rfl, p.cell rfl, p.cell rfl, p.cell rfl, p.cell rfl, p.cell rfl⟩
    obtain ⟨sx, hsx⟩ : ∃ sx, sx = (if xr then xs else nm4 (xa % 4)) := ⟨_, rfl⟩
    obtain ⟨sy, hsy⟩ : ∃ sy, sy = (if xr then xs else nm4 (xb % 4)) := ⟨_, rfl⟩
    have lsx : sx.size ≤ 50 := by
      rw [hsx]
      split
      · omega
      · have := nm4_size (xa % 4); omega
    have lsy : sy.size ≤ 50 := by
      rw [hsy]
      split
      · omega
      · have := nm4_size (xb % 4); omega
    have KA := Lib.hid (fun w' => actName xk xa xb A1 nB c1 xn xs xr A2 nT c2 xa hxa w')
    have KB := Lib.hid (fun w' => actName xk xa xb A1 nB c1 xn xs xr A2 nT c2 xb hxb w')
    have KA2 : Hid (∀ w', Calls Try.prog 15 #[.agg #[.int .u8 xk, .int .u8 xa, .int .u8 xb, .slice A1 nB c1, .int .i64 xn, .string xs, .bool xr, .slice A2 nT c2], .int .u8 xa] w' fun e w'' => e = .returned (.string sx) ∧ Below w'.heap.size w' w'') := Lib.hid (by rw [hsx]; exact KA.out)
    have KB2 : Hid (∀ w', Calls Try.prog 15 #[.agg #[.int .u8 xk, .int .u8 xa, .int .u8 xb, .slice A1 nB c1, .int .i64 xn, .string xs, .bool xr, .slice A2 nT c2], .int .u8 xb] w' fun e w'' => e = .returned (.string sy) ∧ Below w'.heap.size w' w'') := Lib.hid (by rw [hsy]; exact KB.out)
    clear hsx hsy KA KB hBx
    refine FreeTw.region_free (fun w' => Below W.heap.size W w') (fun _ => True) [] [] [0, 1, 2, 3, 4, 5, 6, 7, 8, 9] (fun _ _ => trivial) (by kernel_rfl) (by kernel_rfl) (by kernel_rfl) ((Below.refl _ _).drew) ?_
    repeat (first
      | (refine FreeTw.RelSeq.pure_ (c := ?_) rfl rfl ?_ ?_; rotate_left; (focus (intro x w'; dsimp only; go_simp; (first | ((repeat' apply And.intro) <;> first | with_reducible rfl | assumption) | (split <;> (try (focus (exfalso; omega))); (try go_simp); (repeat' apply And.intro) <;> first | with_reducible rfl | assumption)))); simp only [Act.put, List.setIfInBounds_toArray, List.set_cons_zero, List.set_cons_succ])
      | (refine FreeTw.RelSeq.skip_ rfl (fun _ => rfl) ?_; simp only [Act.put, List.setIfInBounds_toArray, List.set_cons_zero, List.set_cons_succ])
      | (refine FreeTw.RelSeq.pureG_ (c := ?_) rfl (fun _ => rfl) rfl ?_ ?_; rotate_left; (focus (intro x w'; dsimp only; go_simp; (repeat' apply And.intro) <;> first | with_reducible rfl | assumption)); simp only [Act.put, List.setIfInBounds_toArray, List.set_cons_zero, List.set_cons_succ])
      | (refine FreeTw.RelSeq.steady_ (c := ?_) rfl rfl rfl ?_ ?_; rotate_left; (focus (intro x w' hw; dsimp only; obtain _ := hw; go_simp; (repeat' apply And.intro) <;> first | with_reducible rfl | assumption)); simp only [Act.put, List.setIfInBounds_toArray, List.set_cons_zero, List.set_cons_succ])
      | (refine FreeTw.RelSeq.grow_ (c := ?_) rfl rfl rfl ?_ ?_; rotate_left; (focus (intro x w' hw _; dsimp only; obtain ⟨d0, d1, d2, d3, d4, d5, d6, d7⟩ := F w' hw; have hbr := Below.refl w'.heap.size w'; go_simp; (repeat' apply And.intro) <;> first | with_reducible rfl | assumption)); simp only [Act.put, List.setIfInBounds_toArray, List.set_cons_zero, List.set_cons_succ])
      | (refine FreeTw.RelSeq.growG_ (c := ?_) rfl (fun _ => rfl) rfl rfl ?_ ?_; rotate_left; (focus (intro x w' hw _; dsimp only; obtain ⟨d0, d1, d2, d3, d4, d5, d6, d7⟩ := F w' hw; have hbr := Below.refl w'.heap.size w'; go_simp; (repeat' apply And.intro) <;> first | with_reducible rfl | assumption)); simp only [Act.put, List.setIfInBounds_toArray, List.set_cons_zero, List.set_cons_succ])
      | (refine FreeTw.RelSeq.grow_ (c := ?_) rfl rfl rfl ?_ ?_; rotate_left; (focus (intro x w' hw _; dsimp only; have hbr := Below.refl w'.heap.size w'; go_simp; (go_at_call 15; (with_reducible refine (KA2.out w').mono ?_); rintro e w1 ⟨rfl, hb1⟩; have hI1 := hw.trans (hb1.mono hw.size); go_simp; (repeat' apply And.intro) <;> first | with_reducible rfl | assumption))); simp only [Act.put, List.setIfInBounds_toArray, List.set_cons_zero, List.set_cons_succ])
      | (refine FreeTw.RelSeq.growG_ (c := ?_) rfl (fun _ => rfl) rfl rfl ?_ ?_; rotate_left; (focus (intro x w' hw _; dsimp only; have hbr := Below.refl w'.heap.size w'; go_simp; (go_at_call 15; (with_reducible refine (KA2.out w').mono ?_); rintro e w1 ⟨rfl, hb1⟩; have hI1 := hw.trans (hb1.mono hw.size); go_simp; (repeat' apply And.intro) <;> first | with_reducible rfl | assumption))); simp only [Act.put, List.setIfInBounds_toArray, List.set_cons_zero, List.set_cons_succ])
      | (refine FreeTw.RelSeq.grow_ (c := ?_) rfl rfl rfl ?_ ?_; rotate_left; (focus (intro x w' hw _; dsimp only; have hbr := Below.refl w'.heap.size w'; go_simp; (go_at_call 15; (with_reducible refine (KB2.out w').mono ?_); rintro e w1 ⟨rfl, hb1⟩; have hI1 := hw.trans (hb1.mono hw.size); go_simp; (repeat' apply And.intro) <;> first | with_reducible rfl | assumption))); simp only [Act.put, List.setIfInBounds_toArray, List.set_cons_zero, List.set_cons_succ])
      | (refine FreeTw.RelSeq.growG_ (c := ?_) rfl (fun _ => rfl) rfl rfl ?_ ?_; rotate_left; (focus (intro x w' hw _; dsimp only; have hbr := Below.refl w'.heap.size w'; go_simp; (go_at_call 15; (with_reducible refine (KB2.out w').mono ?_); rintro e w1 ⟨rfl, hb1⟩; have hI1 := hw.trans (hb1.mono hw.size); go_simp; (repeat' apply And.intro) <;> first | with_reducible rfl | assumption))); simp only [Act.put, List.setIfInBounds_toArray, List.set_cons_zero, List.set_cons_succ]))
    refine FreeTw.RelSeq.nil_ fun x_ w3 hw3 _ _ => FreeTw.TailSeq.nil_ ?_
    have S3 := S2.grow hw3
    have y0 := (S3.blk 0 rfl).cell (j := 0) (v := .int .u8 xk) rfl
    have y3 := (S3.blk 0 rfl).cell (j := 3) (v := .slice A1 nB c1) rfl
    have y4 := (S3.blk 0 rfl).cell (j := 4) (v := .int .i64 xn) rfl
    have y6 := (S3.blk 0 rfl).cell (j := 6) (v := .bool xr) rfl
    have y7 := (S3.blk 0 rfl).cell (j := 7) (v := .slice A2 nT c2) rfl
    have hD := S3.diskC 1 rfl
    have hND := hD.1.nodup
    have hLn := relF_len HI.out.rel hND
    rw [List.length_map] at hLn
    have hlL : L.length ≤ 1000 := by have := HI.out.len; omega
    have HD := Lib.hid hD
    have HND := Lib.hid hND
    have HLL := Lib.hid hlL
    have HLN := Lib.hid hLn
    clear S2 F hD hND hlL hLn KA2 KB2
    have hr9 : xk % 9 < 9 := Nat.mod_lt _ (by omega)
    have hrr : (xk : Int).tmod 9 = ((xk % 9 : Nat) : Int) := rfl
    obtain ⟨r, hr⟩ : ∃ r, r = xk % 9 := ⟨_, rfl⟩
    rw [← hr] at hr9 hrr
    clear hr
    by_cases q3 : r = 3
    · as_aux_lemma =>
      subst q3
      cases hf : findF fs sx with
      | none =>
        have hno := rel_no HI.out.rel hf
        have K1 := Lib.hid (diskSyncNone d m fs sx w3 HD.out.1 hf)
        clear hf
        go_wp2_with fail
        (with_reducible refine K1.out.mono ?_)
        rintro e w4 ⟨rfl, hb4⟩
        have S4 := S3.grow hb4
        clear S3 hb4 K1 y0 y3 y4 y6 y7
        have K2 := Lib.hid (refSyncNone g lv ia ib L sx w4 (S4.get 2 rfl) HLL.out hno)
        go_wp2_with fail
        (with_reducible refine K2.out.mono ?_)
        rintro e w5 ⟨rfl, rfl⟩
        have S8 := S4.drop 0
        simp only [List.eraseIdx_cons_zero] at S8
        clear S4 K2
        have hI2 := HI.out.up
        have S9 := S8.pick [0, 1] (by decide)
        simp only [List.filterMap_cons, List.filterMap_nil, List.getElem?_cons_succ, List.getElem?_cons_zero] at S9
        clear S8
        have hD9 := S9.diskC 0 rfl
        have hLn9 := relF_len hI2.rel hD9.1.nodup
        rw [List.length_map] at hLn9
        have HS9 := Lib.hid (lawSame d m g lv (ia) (ib) fs L w5 hD9 (S9.get 1 rfl) hI2.rel (by have := hI2.len; omega))
        have HI2 := Lib.hid hI2
        clear hD9 hLn9 hI2
        go_wp2_with fail
        (with_reducible refine HS9.out.mono ?_)
        rintro e w9 ⟨rfl, hb9⟩
        have S10 := S9.grow hb9
        clear S9 hb9
        go_wp2_with fail
        go_roundw
        case rel => exact ⟨k + 1, ia, ib, fs, lv, L, by omega, by go_num, by omega, by omega, HI2.out, S10⟩
        case measure => simp [intOf]; omega
      | some f0 =>
        obtain ⟨i, f, h1, h2, h3, h4, h5⟩ := rel_at HI.out.rel hf
        have wb : IntKind.i64.wrap (ib + 1) = ib + 1 := by rw [IntKind.wrap_i64]; omega
        have K1 := diskSyncC d m ia ib fs sx f0 w3 HD.out hf
        rw [wb] at K1
        have HK1 := Lib.hid K1
        have HP := Lib.hid (HI.out.sync hf h2 h3 h4)
        have H1 := Lib.hid h1
        have H2 := Lib.hid h2
        clear K1 wb h1 h2 h3 h4 h5 hf
        go_wp2_with fail
        (with_reducible refine HK1.out.mono ?_)
        rintro e w4 ⟨rfl, hu4⟩
        have S4 := S3.turn 1 rfl hu4
        simp only [List.eraseIdx_cons_succ, List.eraseIdx_cons_zero, List.cons_append, List.nil_append] at S4
        clear S3 hu4 HK1 y0 y3 y4 y6 y7
        have K2 := Lib.hid (refSyncOk g lv ia ib L sx i f w4 (S4.get 2 rfl) HLL.out H1.out H2.out ⟨hib.1, by omega⟩)
        go_wp2_with fail
        (with_reducible refine K2.out.mono ?_)
        rintro e w5 ⟨rfl, hu5⟩
        have S5 := S4.turn 2 rfl hu5
        simp only [List.eraseIdx_cons_succ, List.eraseIdx_cons_zero, List.cons_append, List.nil_append] at S5
        have S8 := S5.pick [1, 0] (by decide)
        simp only [List.filterMap_cons, List.filterMap_nil, List.getElem?_cons_succ, List.getElem?_cons_zero] at S8
        clear S4 S5 hu5 K2
        generalize putF fs { f0 with synced := f0.bytes.length } = fs8 at S8 HP
        generalize L.set i { f with synced := f.bytes.length } = L8 at S8 HP
        have hI2 := HP.out
        have S9 := S8.pick [0, 1] (by decide)
        simp only [List.filterMap_cons, List.filterMap_nil, List.getElem?_cons_succ, List.getElem?_cons_zero] at S9
        clear S8
        have hD9 := S9.diskC 0 rfl
        have hLn9 := relF_len hI2.rel hD9.1.nodup
        rw [List.length_map] at hLn9
        have HS9 := Lib.hid (lawSame d m g lv (ia) ((ib + 1)) fs8 L8 w5 hD9 (S9.get 1 rfl) hI2.rel (by have := hI2.len; omega))
        have HI2 := Lib.hid hI2
        clear hD9 hLn9 hI2
        go_wp2_with fail
        (with_reducible refine HS9.out.mono ?_)
        rintro e w9 ⟨rfl, hb9⟩
        have S10 := S9.grow hb9
        clear S9 hb9
        go_wp2_with fail
        go_roundw
        case rel => exact ⟨k + 1, ia, (ib + 1), fs8, lv, L8, by omega, by go_num, by omega, by omega, HI2.out, S10⟩
        case measure => simp [intOf]; omega
    by_cases q4 : r = 4
    · as_aux_lemma =>
      subst q4
      cases xr
      · obtain ⟨z, hz⟩ : ∃ z : Nat, IntKind.u64.wrap xn = (z : Int) := Int.eq_ofNat_of_zero_le (by rw [IntKind.wrap_u64]; omega)
        obtain ⟨mm, hmm⟩ : ∃ mm, mm = z % 40 := ⟨_, rfl⟩
        have wz : (z : Int).tmod 40 = (mm : Int) := by rw [hmm]; rfl
        have wm : IntKind.i64.wrap (mm : Int) = (mm : Int) := by rw [IntKind.wrap_i64]; omega
        have hmm9 : mm < 40 := by rw [hmm]; omega
        clear hmm
        cases hf : findF fs sx with
        | none =>
          have hno := rel_no HI.out.rel hf
          have K1 := Lib.hid (diskCutNone d m fs sx (mm : Int) w3 HD.out.1 hf)
          go_wp2_with fail
          (with_reducible refine K1.out.mono ?_)
          rintro e w4 ⟨rfl, hb4⟩
          have S4 := S3.grow hb4
          clear S3 hb4 K1 y0 y3 y4 y6 y7
          have K2 := Lib.hid (refCutNone g lv ia ib L sx (mm : Int) w4 (S4.get 2 rfl) HLL.out hno)
          go_wp2_with fail
          (with_reducible refine K2.out.mono ?_)
          rintro e w5 ⟨rfl, rfl⟩
          have S8 := S4.drop 0
          simp only [List.eraseIdx_cons_zero] at S8
          clear S4 K2
          have hI2 := HI.out.up
          have S9 := S8.pick [0, 1] (by decide)
          simp only [List.filterMap_cons, List.filterMap_nil, List.getElem?_cons_succ, List.getElem?_cons_zero] at S9
          clear S8
          have hD9 := S9.diskC 0 rfl
          have hLn9 := relF_len hI2.rel hD9.1.nodup
          rw [List.length_map] at hLn9
          have HS9 := Lib.hid (lawSame d m g lv (ia) (ib) fs L w5 hD9 (S9.get 1 rfl) hI2.rel (by have := hI2.len; omega))
          have HI2 := Lib.hid hI2
          clear hD9 hLn9 hI2
          go_wp2_with fail
          (with_reducible refine HS9.out.mono ?_)
          rintro e w9 ⟨rfl, hb9⟩
          have S10 := S9.grow hb9
          clear S9 hb9
          go_wp2_with fail
          go_roundw
          case rel => exact ⟨k + 1, ia, ib, fs, lv, L, by omega, by go_num, by omega, by omega, HI2.out, S10⟩
          case measure => simp [intOf]; omega
        | some f0 =>
          obtain ⟨i, f, h1, h2, h3, h4, h5⟩ := rel_at HI.out.rel hf
          have HF := Lib.hid hf
          have H1 := Lib.hid h1
          have H2 := Lib.hid h2
          have H3 := Lib.hid h3
          have H4 := Lib.hid h4
          have H5 := Lib.hid h5
          clear h1 h2 h3 h4 h5 hf
          by_cases hc : (mm : Int) < 0 ∨ (f0.bytes.length : Int) < (mm : Int)
          · have HC := Lib.hid hc
            have K1 := Lib.hid (diskCutRange d m fs sx (mm : Int) f0 w3 HD.out.1 HF.out hc)
            clear hc
            go_wp2_with fail
            (with_reducible refine K1.out.mono ?_)
            rintro e w4 ⟨rfl, hb4⟩
            have S4 := S3.grow hb4
            clear S3 hb4 K1 y0 y3 y4 y6 y7
            have K2 := Lib.hid (refCutRange g lv ia ib L sx (mm : Int) i f w4 (S4.get 2 rfl) HLL.out H1.out H2.out (by rw [H4.out]; exact HC.out))
            go_wp2_with fail
            (with_reducible refine K2.out.mono ?_)
            rintro e w5 ⟨rfl, rfl⟩
            have S8 := S4.drop 0
            simp only [List.eraseIdx_cons_zero] at S8
            clear S4 K2
            have hI2 := HI.out.up
            have S9 := S8.pick [0, 1] (by decide)
            simp only [List.filterMap_cons, List.filterMap_nil, List.getElem?_cons_succ, List.getElem?_cons_zero] at S9
            clear S8
            have hD9 := S9.diskC 0 rfl
            have hLn9 := relF_len hI2.rel hD9.1.nodup
            rw [List.length_map] at hLn9
            have HS9 := Lib.hid (lawSame d m g lv (ia) (ib) fs L w5 hD9 (S9.get 1 rfl) hI2.rel (by have := hI2.len; omega))
            have HI2 := Lib.hid hI2
            clear hD9 hLn9 hI2
            go_wp2_with fail
            (with_reducible refine HS9.out.mono ?_)
            rintro e w9 ⟨rfl, hb9⟩
            have S10 := S9.grow hb9
            clear S9 hb9
            go_wp2_with fail
            go_roundw
            case rel => exact ⟨k + 1, ia, ib, fs, lv, L, by omega, by go_num, by omega, by omega, HI2.out, S10⟩
            case measure => simp [intOf]; omega
          · have HK1 := Lib.hid (diskCutC d m mm ia ib fs sx f0 w3 HD.out HF.out (by omega))
            go_wp2_with fail
            (with_reducible refine HK1.out.mono ?_)
            rintro e w4 ⟨rfl, v4, hu4⟩
            have S4 := S3.turn 1 rfl hu4
            simp only [List.eraseIdx_cons_succ, List.eraseIdx_cons_zero, List.cons_append, List.nil_append] at S4
            clear S3 hu4 HK1 y0 y3 y4 y6 y7
            have K2 := Lib.hid (refCutOk g lv ia ib L sx mm i f w4 (S4.get 2 rfl) HLL.out H1.out H2.out (by rw [H4.out]; omega))
            go_wp2_with fail
            (with_reducible refine K2.out.mono ?_)
            rintro e w5 ⟨rfl, v5, hu5⟩
            have S5 := S4.turn 2 rfl hu5
            simp only [List.eraseIdx_cons_succ, List.eraseIdx_cons_zero, List.cons_append, List.nil_append] at S5
            have S8 := S5.pick [1, 0] (by decide)
            simp only [List.filterMap_cons, List.filterMap_nil, List.getElem?_cons_succ, List.getElem?_cons_zero] at S8
            have HP := Lib.hid (HI.out.cut (m := mm) v4 v5 H2.out H3.out H4.out H5.out)
            clear S4 S5 hu5 K2
            generalize putF fs ⟨sx, v4, f0.bytes.take mm, min f0.synced mm⟩ = fs8 at S8 HP
            generalize L.set i ⟨f.name, v5, f.bytes.take mm, min f.synced mm⟩ = L8 at S8 HP
            have hI2 := HP.out
            have S9 := S8.pick [0, 1] (by decide)
            simp only [List.filterMap_cons, List.filterMap_nil, List.getElem?_cons_succ, List.getElem?_cons_zero] at S9
            clear S8
            have hD9 := S9.diskC 0 rfl
            have hLn9 := relF_len hI2.rel hD9.1.nodup
            rw [List.length_map] at hLn9
            have HS9 := Lib.hid (lawSame d m g lv (ia) (ib) fs8 L8 w5 hD9 (S9.get 1 rfl) hI2.rel (by have := hI2.len; omega))
            have HI2 := Lib.hid hI2
            clear hD9 hLn9 hI2
            go_wp2_with fail
            (with_reducible refine HS9.out.mono ?_)
            rintro e w9 ⟨rfl, hb9⟩
            have S10 := S9.grow hb9
            clear S9 hb9
            go_wp2_with fail
            go_roundw
            case rel => exact ⟨k + 1, ia, ib, fs8, lv, L8, by omega, by go_num, by omega, by omega, HI2.out, S10⟩
            case measure => simp [intOf]; omega
      · cases hf : findF fs sx with
        | none =>
          have hno := rel_no HI.out.rel hf
          have K1 := Lib.hid (diskCutNone d m fs sx xn w3 HD.out.1 hf)
          go_wp2_with fail
          (with_reducible refine K1.out.mono ?_)
          rintro e w4 ⟨rfl, hb4⟩
          have S4 := S3.grow hb4
          clear S3 hb4 K1 y0 y3 y4 y6 y7
          have K2 := Lib.hid (refCutNone g lv ia ib L sx xn w4 (S4.get 2 rfl) HLL.out hno)
          go_wp2_with fail
          (with_reducible refine K2.out.mono ?_)
          rintro e w5 ⟨rfl, rfl⟩
          have S8 := S4.drop 0
          simp only [List.eraseIdx_cons_zero] at S8
          clear S4 K2
          have hI2 := HI.out.up
          have S9 := S8.pick [0, 1] (by decide)
          simp only [List.filterMap_cons, List.filterMap_nil, List.getElem?_cons_succ, List.getElem?_cons_zero] at S9
          clear S8
          have hD9 := S9.diskC 0 rfl
          have hLn9 := relF_len hI2.rel hD9.1.nodup
          rw [List.length_map] at hLn9
          have HS9 := Lib.hid (lawSame d m g lv (ia) (ib) fs L w5 hD9 (S9.get 1 rfl) hI2.rel (by have := hI2.len; omega))
          have HI2 := Lib.hid hI2
          clear hD9 hLn9 hI2
          go_wp2_with fail
          (with_reducible refine HS9.out.mono ?_)
          rintro e w9 ⟨rfl, hb9⟩
          have S10 := S9.grow hb9
          clear S9 hb9
          go_wp2_with fail
          go_roundw
          case rel => exact ⟨k + 1, ia, ib, fs, lv, L, by omega, by go_num, by omega, by omega, HI2.out, S10⟩
          case measure => simp [intOf]; omega
        | some f0 =>
          obtain ⟨i, f, h1, h2, h3, h4, h5⟩ := rel_at HI.out.rel hf
          have HF := Lib.hid hf
          have H1 := Lib.hid h1
          have H2 := Lib.hid h2
          have H3 := Lib.hid h3
          have H4 := Lib.hid h4
          have H5 := Lib.hid h5
          clear h1 h2 h3 h4 h5 hf
          by_cases hc : xn < 0 ∨ (f0.bytes.length : Int) < xn
          · have HC := Lib.hid hc
            have K1 := Lib.hid (diskCutRange d m fs sx xn f0 w3 HD.out.1 HF.out hc)
            clear hc
            go_wp2_with fail
            (with_reducible refine K1.out.mono ?_)
            rintro e w4 ⟨rfl, hb4⟩
            have S4 := S3.grow hb4
            clear S3 hb4 K1 y0 y3 y4 y6 y7
            have K2 := Lib.hid (refCutRange g lv ia ib L sx xn i f w4 (S4.get 2 rfl) HLL.out H1.out H2.out (by rw [H4.out]; exact HC.out))
            go_wp2_with fail
            (with_reducible refine K2.out.mono ?_)
            rintro e w5 ⟨rfl, rfl⟩
            have S8 := S4.drop 0
            simp only [List.eraseIdx_cons_zero] at S8
            clear S4 K2
            have hI2 := HI.out.up
            have S9 := S8.pick [0, 1] (by decide)
            simp only [List.filterMap_cons, List.filterMap_nil, List.getElem?_cons_succ, List.getElem?_cons_zero] at S9
            clear S8
            have hD9 := S9.diskC 0 rfl
            have hLn9 := relF_len hI2.rel hD9.1.nodup
            rw [List.length_map] at hLn9
            have HS9 := Lib.hid (lawSame d m g lv (ia) (ib) fs L w5 hD9 (S9.get 1 rfl) hI2.rel (by have := hI2.len; omega))
            have HI2 := Lib.hid hI2
            clear hD9 hLn9 hI2
            go_wp2_with fail
            (with_reducible refine HS9.out.mono ?_)
            rintro e w9 ⟨rfl, hb9⟩
            have S10 := S9.grow hb9
            clear S9 hb9
            go_wp2_with fail
            go_roundw
            case rel => exact ⟨k + 1, ia, ib, fs, lv, L, by omega, by go_num, by omega, by omega, HI2.out, S10⟩
            case measure => simp [intOf]; omega
          · obtain ⟨m0, rfl⟩ := Int.eq_ofNat_of_zero_le (show 0 ≤ xn by omega)
            have HK1 := Lib.hid (diskCutC d m m0 ia ib fs sx f0 w3 HD.out HF.out (by omega))
            go_wp2_with fail
            (with_reducible refine HK1.out.mono ?_)
            rintro e w4 ⟨rfl, v4, hu4⟩
            have S4 := S3.turn 1 rfl hu4
            simp only [List.eraseIdx_cons_succ, List.eraseIdx_cons_zero, List.cons_append, List.nil_append] at S4
            clear S3 hu4 HK1 y0 y3 y4 y6 y7
            have K2 := Lib.hid (refCutOk g lv ia ib L sx m0 i f w4 (S4.get 2 rfl) HLL.out H1.out H2.out (by rw [H4.out]; omega))
            go_wp2_with fail
            (with_reducible refine K2.out.mono ?_)
            rintro e w5 ⟨rfl, v5, hu5⟩
            have S5 := S4.turn 2 rfl hu5
            simp only [List.eraseIdx_cons_succ, List.eraseIdx_cons_zero, List.cons_append, List.nil_append] at S5
            have S8 := S5.pick [1, 0] (by decide)
            simp only [List.filterMap_cons, List.filterMap_nil, List.getElem?_cons_succ, List.getElem?_cons_zero] at S8
            have HP := Lib.hid (HI.out.cut (m := m0) v4 v5 H2.out H3.out H4.out H5.out)
            clear S4 S5 hu5 K2
            generalize putF fs ⟨sx, v4, f0.bytes.take m0, min f0.synced m0⟩ = fs8 at S8 HP
            generalize L.set i ⟨f.name, v5, f.bytes.take m0, min f.synced m0⟩ = L8 at S8 HP
            have hI2 := HP.out
            have S9 := S8.pick [0, 1] (by decide)
            simp only [List.filterMap_cons, List.filterMap_nil, List.getElem?_cons_succ, List.getElem?_cons_zero] at S9
            clear S8
            have hD9 := S9.diskC 0 rfl
            have hLn9 := relF_len hI2.rel hD9.1.nodup
            rw [List.length_map] at hLn9
            have HS9 := Lib.hid (lawSame d m g lv (ia) (ib) fs8 L8 w5 hD9 (S9.get 1 rfl) hI2.rel (by have := hI2.len; omega))
            have HI2 := Lib.hid hI2
            clear hD9 hLn9 hI2
            go_wp2_with fail
            (with_reducible refine HS9.out.mono ?_)
            rintro e w9 ⟨rfl, hb9⟩
            have S10 := S9.grow hb9
            clear S9 hb9
            go_wp2_with fail
            go_roundw
            case rel => exact ⟨k + 1, ia, ib, fs8, lv, L8, by omega, by go_num, by omega, by omega, HI2.out, S10⟩
            case measure => simp [intOf]; omega
    by_cases q5 : r = 5
    · as_aux_lemma =>
      subst q5
      cases hf : findF fs sx with
      | none =>
        have hno := rel_no HI.out.rel hf
        have K1 := Lib.hid (diskRenameNone d m fs sx sy w3 HD.out.1 hf)
        go_wp2_with fail
        (with_reducible refine K1.out.mono ?_)
        rintro e w4 ⟨rfl, hb4⟩
        have S4 := S3.grow hb4
        clear S3 hb4 K1 y0 y3 y4 y6 y7
        have K2 := Lib.hid (refRenameNone g lv ia ib L sx sy w4 (S4.get 2 rfl) HLL.out hno)
        go_wp2_with fail
        (with_reducible refine K2.out.mono ?_)
        rintro e w5 ⟨rfl, rfl⟩
        have S8 := S4.drop 0
        simp only [List.eraseIdx_cons_zero] at S8
        clear S4 K2
        have hI2 := HI.out.up
        have S9 := S8.pick [0, 1] (by decide)
        simp only [List.filterMap_cons, List.filterMap_nil, List.getElem?_cons_succ, List.getElem?_cons_zero] at S9
        clear S8
        have hD9 := S9.diskC 0 rfl
        have hLn9 := relF_len hI2.rel hD9.1.nodup
        rw [List.length_map] at hLn9
        have HS9 := Lib.hid (lawSame d m g lv (ia) (ib) fs L w5 hD9 (S9.get 1 rfl) hI2.rel (by have := hI2.len; omega))
        have HI2 := Lib.hid hI2
        clear hD9 hLn9 hI2
        go_wp2_with fail
        (with_reducible refine HS9.out.mono ?_)
        rintro e w9 ⟨rfl, hb9⟩
        have S10 := S9.grow hb9
        clear S9 hb9
        go_wp2_with fail
        go_roundw
        case rel => exact ⟨k + 1, ia, ib, fs, lv, L, by omega, by go_num, by omega, by omega, HI2.out, S10⟩
        case measure => simp [intOf]; omega
      | some f0 =>
        obtain ⟨i, f, h1, h2, h3, h4, h5⟩ := rel_at HI.out.rel hf
        have HF := Lib.hid hf
        have H1 := Lib.hid h1
        have H2 := Lib.hid h2
        have H3 := Lib.hid h3
        have H4 := Lib.hid h4
        have H5 := Lib.hid h5
        clear h1 h2 h3 h4 h5 hf
        cases hw : wordB sy 16 true with
        | false =>
          have HW := Lib.hid hw
          have K1 := Lib.hid (diskRenameName d m fs sx sy w3 HD.out.1 (by rw [HF.out]; rfl) (by unfold maxLen; omega) hw)
          clear hw
          go_wp2_with fail
          (with_reducible refine K1.out.mono ?_)
          rintro e w4 ⟨rfl, hb4⟩
          have S4 := S3.grow hb4
          clear S3 hb4 K1 y0 y3 y4 y6 y7
          have K2 := Lib.hid (refRenameName g lv ia ib L sx sy i w4 (S4.get 2 rfl) HLL.out H1.out (by unfold maxLen; omega) HW.out)
          go_wp2_with fail
          (with_reducible refine K2.out.mono ?_)
          rintro e w5 ⟨rfl, rfl⟩
          have S8 := S4.drop 0
          simp only [List.eraseIdx_cons_zero] at S8
          clear S4 K2
          have hI2 := HI.out.up
          have S9 := S8.pick [0, 1] (by decide)
          simp only [List.filterMap_cons, List.filterMap_nil, List.getElem?_cons_succ, List.getElem?_cons_zero] at S9
          clear S8
          have hD9 := S9.diskC 0 rfl
          have hLn9 := relF_len hI2.rel hD9.1.nodup
          rw [List.length_map] at hLn9
          have HS9 := Lib.hid (lawSame d m g lv (ia) (ib) fs L w5 hD9 (S9.get 1 rfl) hI2.rel (by have := hI2.len; omega))
          have HI2 := Lib.hid hI2
          clear hD9 hLn9 hI2
          go_wp2_with fail
          (with_reducible refine HS9.out.mono ?_)
          rintro e w9 ⟨rfl, hb9⟩
          have S10 := S9.grow hb9
          clear S9 hb9
          go_wp2_with fail
          go_roundw
          case rel => exact ⟨k + 1, ia, ib, fs, lv, L, by omega, by go_num, by omega, by omega, HI2.out, S10⟩
          case measure => simp [intOf]; omega
        | true =>
          have HW := Lib.hid hw
          have HK1 := Lib.hid (diskRenameC d m ia ib fs sx sy f0 w3 HD.out HF.out (by unfold maxLen; omega) hw)
          clear hw
          go_wp2_with fail
          (with_reducible refine HK1.out.mono ?_)
          rintro e w4 ⟨rfl, hu4⟩
          have S4 := S3.turn 1 rfl hu4
          simp only [List.eraseIdx_cons_succ, List.eraseIdx_cons_zero, List.cons_append, List.nil_append] at S4
          clear S3 hu4 HK1 y0 y3 y4 y6 y7
          have K2 := Lib.hid (refRenameOk g lv ia ib L sx sy i f w4 (S4.get 2 rfl) HLL.out H1.out H2.out (by unfold maxLen; omega) HW.out)
          go_wp2_with fail
          (with_reducible refine K2.out.mono ?_)
          rintro e w5 ⟨rfl, lv5, hu5⟩
          have S5 := S4.turn 2 rfl hu5
          simp only [List.eraseIdx_cons_succ, List.eraseIdx_cons_zero, List.cons_append, List.nil_append] at S5
          have S8 := S5.pick [1, 0] (by decide)
          simp only [List.filterMap_cons, List.filterMap_nil, List.getElem?_cons_succ, List.getElem?_cons_zero] at S8
          have HP := Lib.hid (HI.out.rename HND.out H2.out H3.out H4.out H5.out (t := sy))
          clear S4 S5 hu5 K2
          generalize putF (delF fs sx) { f0 with name := sy } = fs8 at S8 HP
          generalize addV (dropV (L.eraseIdx i) sy) { f with name := sy } = L8 at S8 HP
          have hI2 := HP.out
          have S9 := S8.pick [0, 1] (by decide)
          simp only [List.filterMap_cons, List.filterMap_nil, List.getElem?_cons_succ, List.getElem?_cons_zero] at S9
          clear S8
          have hD9 := S9.diskC 0 rfl
          have hLn9 := relF_len hI2.rel hD9.1.nodup
          rw [List.length_map] at hLn9
          have HS9 := Lib.hid (lawSame d m g lv5 (ia) (ib) fs8 L8 w5 hD9 (S9.get 1 rfl) hI2.rel (by have := hI2.len; omega))
          have HI2 := Lib.hid hI2
          clear hD9 hLn9 hI2
          go_wp2_with fail
          (with_reducible refine HS9.out.mono ?_)
          rintro e w9 ⟨rfl, hb9⟩
          have S10 := S9.grow hb9
          clear S9 hb9
          go_wp2_with fail
          go_roundw
          case rel => exact ⟨k + 1, ia, ib, fs8, lv5, L8, by omega, by go_num, by omega, by omega, HI2.out, S10⟩
          case measure => simp [intOf]; omega
    by_cases q6 : r = 6
    · as_aux_lemma =>
      subst q6
      cases hf : findF fs sx with
      | none =>
        have hno := rel_no HI.out.rel hf
        have K1 := Lib.hid (diskRemoveNone d m fs sx w3 HD.out.1 hf)
        clear hf
        go_wp2_with fail
        (with_reducible refine K1.out.mono ?_)
        rintro e w4 ⟨rfl, hb4⟩
        have S4 := S3.grow hb4
        clear S3 hb4 K1 y0 y3 y4 y6 y7
        have K2 := Lib.hid (refRemoveNone g lv ia ib L sx w4 (S4.get 2 rfl) HLL.out hno)
        go_wp2_with fail
        (with_reducible refine K2.out.mono ?_)
        rintro e w5 ⟨rfl, rfl⟩
        have S8 := S4.drop 0
        simp only [List.eraseIdx_cons_zero] at S8
        clear S4 K2
        have hI2 := HI.out.up
        have S9 := S8.pick [0, 1] (by decide)
        simp only [List.filterMap_cons, List.filterMap_nil, List.getElem?_cons_succ, List.getElem?_cons_zero] at S9
        clear S8
        have hD9 := S9.diskC 0 rfl
        have hLn9 := relF_len hI2.rel hD9.1.nodup
        rw [List.length_map] at hLn9
        have HS9 := Lib.hid (lawSame d m g lv (ia) (ib) fs L w5 hD9 (S9.get 1 rfl) hI2.rel (by have := hI2.len; omega))
        have HI2 := Lib.hid hI2
        clear hD9 hLn9 hI2
        go_wp2_with fail
        (with_reducible refine HS9.out.mono ?_)
        rintro e w9 ⟨rfl, hb9⟩
        have S10 := S9.grow hb9
        clear S9 hb9
        go_wp2_with fail
        go_roundw
        case rel => exact ⟨k + 1, ia, ib, fs, lv, L, by omega, by go_num, by omega, by omega, HI2.out, S10⟩
        case measure => simp [intOf]; omega
      | some f0 =>
        obtain ⟨i, f, h1, h2, h3, h4, h5⟩ := rel_at HI.out.rel hf
        have HK1 := Lib.hid (diskRemoveC d m ia ib fs sx w3 HD.out (by rw [hf]; rfl))
        have HP := Lib.hid (HI.out.del HND.out h2 h3).up
        have H1 := Lib.hid h1
        have H2 := Lib.hid (List.getElem?_eq_some_iff.1 h2).1
        clear h1 h2 h3 h4 h5 hf
        go_wp2_with fail
        (with_reducible refine HK1.out.mono ?_)
        rintro e w4 ⟨rfl, hu4⟩
        have S4 := S3.turn 1 rfl hu4
        simp only [List.eraseIdx_cons_succ, List.eraseIdx_cons_zero, List.cons_append, List.nil_append] at S4
        clear S3 hu4 HK1 y0 y3 y4 y6 y7
        have K2 := Lib.hid (refRemoveOk g lv ia ib L sx i w4 (S4.get 2 rfl) HLL.out H1.out H2.out)
        go_wp2_with fail
        (with_reducible refine K2.out.mono ?_)
        rintro e w5 ⟨rfl, lv5, hu5⟩
        have S5 := S4.turn 2 rfl hu5
        simp only [List.eraseIdx_cons_succ, List.eraseIdx_cons_zero, List.cons_append, List.nil_append] at S5
        have S8 := S5.pick [1, 0] (by decide)
        simp only [List.filterMap_cons, List.filterMap_nil, List.getElem?_cons_succ, List.getElem?_cons_zero] at S8
        clear S4 S5 hu5 K2
        generalize delF fs sx = fs8 at S8 HP
        generalize L.eraseIdx i = L8 at S8 HP
        have hI2 := HP.out
        have S9 := S8.pick [0, 1] (by decide)
        simp only [List.filterMap_cons, List.filterMap_nil, List.getElem?_cons_succ, List.getElem?_cons_zero] at S9
        clear S8
        have hD9 := S9.diskC 0 rfl
        have hLn9 := relF_len hI2.rel hD9.1.nodup
        rw [List.length_map] at hLn9
        have HS9 := Lib.hid (lawSame d m g lv5 (ia) (ib) fs8 L8 w5 hD9 (S9.get 1 rfl) hI2.rel (by have := hI2.len; omega))
        have HI2 := Lib.hid hI2
        clear hD9 hLn9 hI2
        go_wp2_with fail
        (with_reducible refine HS9.out.mono ?_)
        rintro e w9 ⟨rfl, hb9⟩
        have S10 := S9.grow hb9
        clear S9 hb9
        go_wp2_with fail
        go_roundw
        case rel => exact ⟨k + 1, ia, ib, fs8, lv5, L8, by omega, by go_num, by omega, by omega, HI2.out, S10⟩
        case measure => simp [intOf]; omega
    by_cases q7 : r = 7
    · as_aux_lemma =>
      subst q7
      cases hf : findF fs sx with
      | none =>
        have hno := rel_no HI.out.rel hf
        have K1 := Lib.hid (diskReadNone d m fs sx w3 HD.out.1 hf)
        clear hf
        go_wp2_with fail
        (with_reducible refine K1.out.mono ?_)
        rintro e w4 ⟨rfl, hb4⟩
        have S4 := S3.grow hb4
        clear S3 hb4 K1 y0 y3 y4 y6 y7
        have k2 := refFindAny g lv ia ib L sx w4 (S4.get 2 rfl) HLL.out
        rw [hno] at k2
        have K2 := Lib.hid k2
        clear k2
        go_wp2_with fail
        (with_reducible refine K2.out.mono ?_)
        rintro e w5 ⟨rfl, rfl⟩
        have S8 := S4.drop 0
        simp only [List.eraseIdx_cons_zero] at S8
        clear S4 K2
        have hI2 := HI.out.up
        have S9 := S8.pick [0, 1] (by decide)
        simp only [List.filterMap_cons, List.filterMap_nil, List.getElem?_cons_succ, List.getElem?_cons_zero] at S9
        clear S8
        have hD9 := S9.diskC 0 rfl
        have hLn9 := relF_len hI2.rel hD9.1.nodup
        rw [List.length_map] at hLn9
        have HS9 := Lib.hid (lawSame d m g lv (ia) (ib) fs L w5 hD9 (S9.get 1 rfl) hI2.rel (by have := hI2.len; omega))
        have HI2 := Lib.hid hI2
        clear hD9 hLn9 hI2
        go_wp2_with fail
        (with_reducible refine HS9.out.mono ?_)
        rintro e w9 ⟨rfl, hb9⟩
        have S10 := S9.grow hb9
        clear S9 hb9
        go_wp2_with fail
        go_roundw
        case rel => exact ⟨k + 1, ia, ib, fs, lv, L, by omega, by go_num, by omega, by omega, HI2.out, S10⟩
        case measure => simp [intOf]; omega
      | some f0 =>
        obtain ⟨i, f, h1, h2, h3, h4, h5⟩ := rel_at HI.out.rel hf
        have K1 := Lib.hid (diskReadSome d m fs sx f0 w3 HD.out.1 hf)
        have H1 := Lib.hid h1
        clear h1 h2 h3 h4 h5 hf
        go_wp2_with fail
        (with_reducible refine K1.out.mono ?_)
        rintro e w4 ⟨v4, rfl, hv4, hb4⟩
        obtain ⟨A4, c4, rfl⟩ := owns_slice hv4
        have S4 := S3.grow hb4
        clear S3 hb4 K1 y0 y3 y4 y6 y7 hv4
        have k2 := refFindAny g lv ia ib L sx w4 (S4.get 2 rfl) HLL.out
        rw [H1.out] at k2
        have K2 := Lib.hid k2
        clear k2
        go_wp2_with fail
        (with_reducible refine K2.out.mono ?_)
        rintro e w5 ⟨rfl, rfl⟩
        have S8 := S4.drop 0
        simp only [List.eraseIdx_cons_zero] at S8
        clear S4 K2
        have hI2 := HI.out.up
        have S9 := S8.pick [0, 1] (by decide)
        simp only [List.filterMap_cons, List.filterMap_nil, List.getElem?_cons_succ, List.getElem?_cons_zero] at S9
        clear S8
        have hD9 := S9.diskC 0 rfl
        have hLn9 := relF_len hI2.rel hD9.1.nodup
        rw [List.length_map] at hLn9
        have HS9 := Lib.hid (lawSame d m g lv (ia) (ib) fs L w5 hD9 (S9.get 1 rfl) hI2.rel (by have := hI2.len; omega))
        have HI2 := Lib.hid hI2
        clear hD9 hLn9 hI2
        go_wp2_with fail
        (with_reducible refine HS9.out.mono ?_)
        rintro e w9 ⟨rfl, hb9⟩
        have S10 := S9.grow hb9
        clear S9 hb9
        go_wp2_with fail
        go_roundw
        case rel => exact ⟨k + 1, ia, ib, fs, lv, L, by omega, by go_num, by omega, by omega, HI2.out, S10⟩
        case measure => simp [intOf]; omega
    by_cases q8 : r = 8
    · as_aux_lemma =>
      subst q8
      obtain ⟨bx, hbx⟩ : ∃ bx, bx = wr.heap.size := ⟨_, rfl⟩
      rw [← hbx] at S3
      have S5 := (S3.nilRow 3 1).nilRow 3 1
      go_wp2_with fail
      rw [← hbx]
      clear hbx
      go_loopw [15, 16, 145] (fun kv bv jv wq => ∃ j, j ≤ nT ∧ jv = .int .i64 j ∧ Upd [] w [chRow 3 1 kv j (keepCells (xts.take j)), chRow 3 1 bv j (bitCells (xts.take j)), chBlk bx #[.int .u8 xk, .int .u8 xa, .int .u8 xb, .slice A1 nB c1, .int .i64 xn, .string xs, .bool xr, .slice A2 nT c2] 38, chDiskC d m ia ib fs, chM g lv ia ib L] wq) (fun _ _ jv _ => nT - (intOf jv).toNat)
      case atStart => exact ⟨0, Nat.zero_le _, rfl, S5⟩
      case round =>
        obtain ⟨j, hj, rfl, S6⟩ := hrel
        clear S5 S3 y0 y3 y4 y6 y7
        by_cases hjn : j < nT
        · obtain ⟨t, htj⟩ : ∃ t, xts[j]? = some t := ⟨_, List.getElem?_eq_getElem (by rw [← HNT.out]; exact hjn)⟩
          obtain ⟨q1, q2⟩ := t
          have hlt := HXTS.out _ (List.mem_of_getElem? htj)
          simp only at hlt
          obtain ⟨bt, ot, et, hatt⟩ : ∃ b o, A2 = some ⟨b, o, none⟩ ∧ RdAt wr b o (tearCells xts) := by
            obtain ⟨_, _, he, _, _, _, h4⟩ := S6.rd0 HXT.out
            cases he
            exact h4 (by omega)
          subst et
          have ht1 := (tear_at htj).1
          have ht2 := (tear_at htj).2
          have cz0 := hatt.nth0 (Below.refl _ _) (j * 2) (.int .u16 q1) ht1
          have cz1 := hatt.nth (Below.refl _ _) (j * 2) 1 (.int .u16 q2) ht2
          obtain ⟨Ak, ck, rfl⟩ := owns_slice (S6.row 0 rfl)
          obtain ⟨Ab, cb, rfl⟩ := owns_slice (S6.row 1 rfl)
          have hkt : keepCells (xts.take (j + 1)) = keepCells (xts.take j) ++ [.int .i64 q1] := by unfold keepCells; rw [List.take_add_one, htj, List.map_append]; rfl
          have hbt : bitCells (xts.take (j + 1)) = bitCells (xts.take j) ++ [.int .i64 q2] := by unfold bitCells; rw [List.take_add_one, htj, List.map_append]; rfl
          have wq1 : IntKind.i64.wrap (q1 : Int) = (q1 : Int) := by rw [IntKind.wrap_i64]; omega
          have wq2 : IntKind.i64.wrap (q2 : Int) = (q2 : Int) := by rw [IntKind.wrap_i64]; omega
          have HKT := Lib.hid hkt
          have HBT := Lib.hid hbt
          clear htj hatt ht1 ht2 hkt hbt
          have hjs : j ≤ 1048576 := by omega
          go_wp2_with fail
          refine wp_gen fun W hW => ?_
          have S7 := (S6.alloc #[.int .u16 q1, .int .u16 q2] 57).same hW
          clear hW S6 cz0 cz1
          have hTb := S7.blk 0 rfl
          have hne : some wr.heap.size ≠ (Value.slice Ak j ck).ownBlock := fun h => S7.apartAt 0 1 (by decide) rfl rfl _ (chBlk_fp.2 rfl) (chRow_fp.2 h.symm)
          have hbB : ∀ q, (Value.slice Ak j ck).ownBlock = some q → q < W.heap.size := fun q hq => S7.lt (.tail _ (.head _)) (chRow_fp.2 hq)
          have F : ∀ w', RowInv W 3 (.slice Ak j ck) j (keepCells (xts.take j)) w' → w'.cell? ⟨wr.heap.size, 0, none⟩ = some (.int .u16 q1) ∧ w'.cell? ⟨wr.heap.size, 1, none⟩ = some (.int .u16 q2) := fun w' h =>
            ⟨h.cell (hTb.cell rfl) hne, h.cell (hTb.cell rfl) hne⟩
          have hst := RowInv.start (S7.row 1 rfl)
          clear hTb hne
          refine FreeBy.region_free (RowInv W 3 (.slice Ak j ck) j (keepCells (xts.take j))) (rowReach (Value.slice Ak j ck).ownBlock 3 (j + 1) (keepCells (xts.take j) ++ [.int .i64 q1])) [4, 5, 10] [11, 12, 13] [0, 1, 2, 3, 4, 5, 6, 7, 8, 9, 10] (by kernel_rfl) (by kernel_rfl) (by kernel_rfl) hst ?_
          repeat (first
            | (refine FreeBy.RelSeq.pure_ (c := ?_) rfl rfl ?_ ?_; rotate_left; (focus (intro x w'; dsimp only; go_simp; (repeat' apply And.intro) <;> first | with_reducible rfl | assumption)); simp only [Act.put, List.setIfInBounds_toArray, List.set_cons_zero, List.set_cons_succ])
            | (refine FreeBy.RelSeq.grow_ (c := ?_) rfl rfl ?_ ?_; rotate_left; (focus (intro x w' hw _; dsimp only; obtain ⟨d0, d1⟩ := F w' hw; have hbr := (rowReach (Value.slice Ak j ck).ownBlock 3 (j + 1) (keepCells (xts.take j) ++ [.int .i64 q1])).refl w'; go_simp; (repeat' apply And.intro) <;> first | with_reducible rfl | assumption)); simp only [Act.put, List.setIfInBounds_toArray, List.set_cons_zero, List.set_cons_succ]))
          refine FreeBy.RelSeq.rel_ (NewSl W.heap.size 1 #[.int .i64 q1] 3) rfl rfl (NewSl.stableR hbB) ?_ ?_
          focus
            intro x w' hw _; dsimp only
            have hba : Below w'.heap.size w' (w'.alloc (.cells #[.int .i64 q1] 3)) := (Below.refl _ _).alloc (Nat.le_refl _) _
            have hI := hw.step hba
            have hE := rowReach_below (b := (Value.slice Ak j ck).ownBlock) (e := 3) (n := j + 1) (XS := keepCells (xts.take j) ++ [.int .i64 q1]) hba
            have hsz := hw.size
            go_simp
            (repeat' apply And.intro) <;> first | assumption | exact ⟨_, rfl, hsz, Blk.new _ _ _⟩ | decide
          simp only [Act.put, List.setIfInBounds_toArray, List.set_cons_zero, List.set_cons_succ, List.nil_append]
          refine FreeBy.RelSeq.rel_ (RowNow W.heap.size (Value.slice Ak j ck).ownBlock 3 (j + 1) (keepCells (xts.take j) ++ [.int .i64 q1])) rfl rfl (RowNow.stable hbB) ?_ ?_
          focus
            intro x w' hw hf; dsimp only
            obtain ⟨bq, eq, hbq, hBq⟩ := hf _ (.head _) (by kernel_rfl)
            refine wp_append_row (.tmp 149) (.tmp 153) 54 rfl 3 ii0 _ 8 Try.underlying54 hii hiz0 hiz1 hiz2 rfl W.heap.size hw.size (.slice Ak j ck) j _ rfl hw.own bq (.int .i64 q1) (by simp only [Act.eval]; exact eq) (hBq.cell rfl) rfl (by unfold maxLen; omega) (by omega) fun v2 w2 h2 h3 h4 => ?_
            exact ⟨rfl, ⟨h2, fun h => absurd h (by decide)⟩, hw.reach h3 h4, h3⟩
          simp only [Act.put, List.setIfInBounds_toArray, List.set_cons_zero, List.set_cons_succ, List.nil_append, List.cons_append]
          repeat (first
            | (refine FreeBy.RelSeq.pure_ (c := ?_) rfl rfl ?_ ?_; rotate_left; (focus (intro x w'; dsimp only; go_simp; (repeat' apply And.intro) <;> first | with_reducible rfl | assumption)); simp only [Act.put, List.setIfInBounds_toArray, List.set_cons_zero, List.set_cons_succ])
            | (refine FreeBy.RelSeq.grow_ (c := ?_) rfl rfl ?_ ?_; rotate_left; (focus (intro x w' hw _; dsimp only; obtain ⟨d0, d1⟩ := F w' hw; have hbr := (rowReach (Value.slice Ak j ck).ownBlock 3 (j + 1) (keepCells (xts.take j) ++ [.int .i64 q1])).refl w'; go_simp; (repeat' apply And.intro) <;> first | with_reducible rfl | assumption)); simp only [Act.put, List.setIfInBounds_toArray, List.set_cons_zero, List.set_cons_succ]))
          refine FreeBy.RelSeq.rel_ (NewSl W.heap.size 1 #[.int .i64 q2] 3) rfl rfl (NewSl.stableR hbB) ?_ ?_
          focus
            intro x w' hw _; dsimp only
            have hba : Below w'.heap.size w' (w'.alloc (.cells #[.int .i64 q2] 3)) := (Below.refl _ _).alloc (Nat.le_refl _) _
            have hI := hw.step hba
            have hE := rowReach_below (b := (Value.slice Ak j ck).ownBlock) (e := 3) (n := j + 1) (XS := keepCells (xts.take j) ++ [.int .i64 q1]) hba
            have hsz := hw.size
            go_simp
            (repeat' apply And.intro) <;> first | assumption | exact ⟨_, rfl, hsz, Blk.new _ _ _⟩ | decide
          simp only [Act.put, List.setIfInBounds_toArray, List.set_cons_zero, List.set_cons_succ, List.nil_append, List.cons_append]
          refine FreeBy.RelSeq.nil_ fun x w6 hw6 hf _ => ?_
          have hk6 := hf _ (.tail _ (.head _))
          obtain ⟨bq, eq, hbq, hBq⟩ := hf _ (.tail _ (.tail _ (.head _)))
          dsimp only at hk6
          have S8 := S7.rowNow 1 rfl hw6.os hw6.tape hw6.output hw6.size hw6.block hk6
          simp only [List.eraseIdx_cons_succ, List.eraseIdx_cons_zero] at S8
          obtain ⟨Ak2, ck2, ek2⟩ := owns_slice hk6.1
          rw [ek2] at S8 ⊢
          clear hf F hst hw6 hk6 S7 hbB
          refine FreeBy.TailSeq.cons_ rfl ?_
          refine wp_append_rd (.tmp 155) (.tmp 159) 54 rfl 0 3 ii0 _ 1 8 Try.underlying54 hii hiz0 hiz1 hiz2 rfl (by decide) _ j _ rfl (S8.row 2 rfl) _ 1 [.int .i64 q2] rfl (by simp only [Act.eval]; exact eq ▸ rd_one hBq (n := 1) rfl) (by intro u hu; simp at hu; rcases hu with rfl; rfl) (by unfold maxLen; omega) (by omega) (Nat.zero_le _) fun v7 w7 hown7 hgr7 hv7 => ?_
          have S9 := S8.app 2 rfl hown7 hgr7 hv7
          simp only [List.eraseIdx_cons_succ, List.eraseIdx_cons_zero] at S9
          obtain ⟨Ab2, cb2, rfl⟩ := owns_slice hown7
          refine ⟨rfl, ?_⟩
          simp only [Act.put, List.setIfInBounds_toArray, List.set_cons_zero, List.set_cons_succ]
          clear hown7 hgr7 hv7 S8
          refine FreeBy.TailSeq.cons_ rfl ?_
          go_simp
          refine FreeBy.TailSeq.cons_ rfl ?_
          go_simp
          refine FreeBy.TailSeq.nil_ ?_
          have S10 := S9.pick [1, 0, 3, 4, 5] (by decide)
          simp only [List.filterMap_cons, List.filterMap_nil, List.getElem?_cons_succ, List.getElem?_cons_zero] at S10
          clear S9
          go_wp2_with fail
          go_roundw
          case rel => exact ⟨j + 1, by omega, by go_num, by rw [HKT.out, HBT.out]; exact S10⟩
          case measure => simp [intOf]; omega
        · obtain rfl : j = nT := by omega
          have hjj : decide ((j : Int) < (j : Int)) = false := by simp
          have htk : xts.take j = xts := by rw [HNT.out, List.take_length]
          rw [htk] at S6
          have y7 := (S6.blk 2 rfl).cell (j := 7) (v := .slice A2 j c2) rfl
          have K1 := Lib.hid (diskCrashC d m ia ib fs (.slice A2 j c2) xts wr (S6.diskC 3 rfl) (by rw [← HNT.out]; exact S6.rd0 HXT.out) HXTS.out (by
            intro p hp hq
            rw [← HNT.out] at hp
            have h1 := (chRd 2 (.slice A2 j c2) j (tearCells xts) (by decide)).inn w HXT.out p hp
            rcases S6.own _ (.tail _ (.tail _ (.tail _ (.head _)))) p hq with h | h
            · cases h
            · omega) (by have := HLN.out; have := HLL.out; omega))
          clear htk
          go_wp2_with fail
          (with_reducible refine K1.out.mono ?_)
          rintro e w7 ⟨rfl, fs7, hu7, hcr⟩
          have S7 := S6.turn 3 rfl hu7
          simp only [List.eraseIdx_cons_succ, List.eraseIdx_cons_zero, List.cons_append, List.nil_append] at S7
          clear S6 hu7 K1 y7
          obtain ⟨Ak, ck, rfl⟩ := owns_slice (S7.row 1 rfl)
          obtain ⟨Ab, cb, rfl⟩ := owns_slice (S7.row 2 rfl)
          have hrf : ∀ (v : Value) (n : Nat) (p : Nat), p ∈ rdFp v n → v.ownBlock = some p := fun v n p hp => by
            unfold rdFp at hp
            split at hp
            · cases hp
            · simpa using hp
          have K2 := Lib.hid (refCrash g lv ia ib L (.slice Ak j ck) (.slice Ab j cb) xts w7 (S7.get 4 rfl) HLL.out (by rw [← HNT.out]; exact rd_of_owns (S7.row 1 rfl)) (by rw [← HNT.out]; exact rd_of_owns (S7.row 2 rfl)) HXTS.out
            (fun p hp => S7.apartAt 1 4 (by decide) rfl rfl p (chRow_fp.2 (hrf _ _ _ hp))) (fun p hp => S7.apartAt 2 4 (by decide) rfl rfl p (chRow_fp.2 (hrf _ _ _ hp))))
          go_wp2_with fail
          (with_reducible refine K2.out.mono ?_)
          rintro e w8 ⟨rfl, L8, hu8, hL8⟩
          have S9a := S7.turn 4 rfl hu8
          simp only [List.eraseIdx_cons_succ, List.eraseIdx_cons_zero, List.cons_append, List.nil_append] at S9a
          have S8 := S9a.pick [1, 0] (by decide)
          simp only [List.filterMap_cons, List.filterMap_nil, List.getElem?_cons_succ, List.getElem?_cons_zero] at S8
          have HP := Lib.hid (HI.out.crash HND.out hcr hL8)
          clear S7 S9a hu8 K2 hrf hL8 hcr
          have hI2 := HP.out
          have S9 := S8.pick [0, 1] (by decide)
          simp only [List.filterMap_cons, List.filterMap_nil, List.getElem?_cons_succ, List.getElem?_cons_zero] at S9
          clear S8
          have hD9 := S9.diskC 0 rfl
          have hLn9 := relF_len hI2.rel hD9.1.nodup
          rw [List.length_map] at hLn9
          have HS9 := Lib.hid (lawSame d m g lv (ia) (ib) fs7 L8 w8 hD9 (S9.get 1 rfl) hI2.rel (by have := hI2.len; omega))
          have HI2 := Lib.hid hI2
          clear hD9 hLn9 hI2
          go_wp2_with fail
          (with_reducible refine HS9.out.mono ?_)
          rintro e w9 ⟨rfl, hb9⟩
          have S10 := S9.grow hb9
          clear S9 hb9
          go_wp2_with fail
          go_roundw
          case rel => exact ⟨k + 1, ia, ib, fs7, lv, L8, by omega, by go_num, by omega, by omega, HI2.out, S10⟩
          case measure => simp [intOf]; omega
    have t3 : ((r : Int) == 3) = false := by simp; omega
    have t4 : ((r : Int) == 4) = false := by simp; omega
    have t5 : ((r : Int) == 5) = false := by simp; omega
    have t6 : ((r : Int) == 6) = false := by simp; omega
    have t7 : ((r : Int) == 7) = false := by simp; omega
    have t8 : ((r : Int) == 8) = false := by simp; omega
    have hBx := S3.blk 0 rfl
    have F : ∀ w', Below w3.heap.size w3 w' → w'.cell? ⟨wr.heap.size, 3, none⟩ = some (.slice A1 nB c1) := fun w' h => (hBx.below h hBx.lt).cell rfl
    clear hBx
    cases hw : wordB sx 16 true with
    | false =>
      have HW := Lib.hid hw
      clear hw
      go_wp2_with fail
      refine FreeTw.region_free (fun w' => Below w3.heap.size w3 w') (fun w' => w'.cell? ⟨wr.heap.size, 3, none⟩ = some (.slice A1 nB c1)) [2000008] [4, 9, 10, 11] [0, 1, 2, 3, 5, 6, 7, 8] (fun w' h => F w' h) (by kernel_rfl) (by kernel_rfl) (by kernel_rfl) ((Below.refl _ _).drew) ?_
      repeat (first
        | (refine FreeTw.RelSeq.pure_ (c := ?_) rfl rfl ?_ ?_; rotate_left; (focus (intro x w'; dsimp only; go_simp; (first | ((repeat' apply And.intro) <;> first | with_reducible rfl | assumption) | (split <;> (try (focus (exfalso; omega))); (try go_simp); (repeat' apply And.intro) <;> first | with_reducible rfl | assumption)))); simp only [Act.put, List.setIfInBounds_toArray, List.set_cons_zero, List.set_cons_succ])
        | (refine FreeTw.RelSeq.skip_ rfl (fun _ => rfl) ?_; simp only [Act.put, List.setIfInBounds_toArray, List.set_cons_zero, List.set_cons_succ])
        | (refine FreeTw.RelSeq.pureG_ (c := ?_) rfl (fun _ => rfl) rfl ?_ ?_; rotate_left; (focus (intro x w'; dsimp only; go_simp; (repeat' apply And.intro) <;> first | with_reducible rfl | assumption)); simp only [Act.put, List.setIfInBounds_toArray, List.set_cons_zero, List.set_cons_succ])
        | (refine FreeTw.RelSeq.steady_ (c := ?_) rfl rfl rfl ?_ ?_; rotate_left; (focus (intro x w' hw; dsimp only; obtain d0 := hw; go_simp; (repeat' apply And.intro) <;> first | with_reducible rfl | assumption)); simp only [Act.put, List.setIfInBounds_toArray, List.set_cons_zero, List.set_cons_succ])
        | (refine FreeTw.RelSeq.grow_ (c := ?_) rfl rfl rfl ?_ ?_; rotate_left; (focus (intro x w' hw _; dsimp only; obtain d0 := F w' hw; have hbr := Below.refl w'.heap.size w'; go_simp; (repeat' apply And.intro) <;> first | with_reducible rfl | assumption)); simp only [Act.put, List.setIfInBounds_toArray, List.set_cons_zero, List.set_cons_succ])
        | (refine FreeTw.RelSeq.growG_ (c := ?_) rfl (fun _ => rfl) rfl rfl ?_ ?_; rotate_left; (focus (intro x w' hw _; dsimp only; obtain d0 := F w' hw; have hbr := Below.refl w'.heap.size w'; go_simp; (repeat' apply And.intro) <;> first | with_reducible rfl | assumption)); simp only [Act.put, List.setIfInBounds_toArray, List.set_cons_zero, List.set_cons_succ]))
      refine FreeTw.RelSeq.nil_ fun x_ w4 hw4 _ _ => ?_
      have S4 := S3.grow hw4
      clear S3 F y0 y3 y4 y6 y7
      refine FreeTw.TailSeq.cons_ rfl ?_
      go_simp
      (with_reducible refine (diskAppendName' d m fs sx (.slice A1 nB c1) w4 (by unfold maxLen; omega) HW.out).mono ?_)
      rintro e w5 ⟨rfl, hb5⟩
      have S5 := S4.grow hb5
      have y3 := (S5.blk 0 rfl).cell (j := 3) (v := .slice A1 nB c1) rfl
      clear S4 hb5
      go_simp
      refine FreeTw.TailSeq.cons_ rfl ?_
      go_simp
      (with_reducible refine (refAppendName g lv ia ib L sx (.slice A1 nB c1) w5 (by unfold maxLen; omega) HW.out).mono ?_)
      rintro e w6 ⟨rfl, rfl⟩
      go_simp
      refine FreeTw.TailSeq.cons_ rfl ?_
      go_simp
      refine FreeTw.TailSeq.cons_ rfl ?_
      go_simp
      refine FreeTw.TailSeq.nil_ ?_
      have S8 := S5.drop 0
      simp only [List.eraseIdx_cons_zero] at S8
      clear S5 y3
      have hI2 := HI.out.up
      have S9 := S8.pick [0, 1] (by decide)
      simp only [List.filterMap_cons, List.filterMap_nil, List.getElem?_cons_succ, List.getElem?_cons_zero] at S9
      clear S8
      have hD9 := S9.diskC 0 rfl
      have hLn9 := relF_len hI2.rel hD9.1.nodup
      rw [List.length_map] at hLn9
      have HS9 := Lib.hid (lawSame d m g lv (ia) (ib) fs L w6 hD9 (S9.get 1 rfl) hI2.rel (by have := hI2.len; omega))
      have HI2 := Lib.hid hI2
      clear hD9 hLn9 hI2
      go_wp2_with fail
      (with_reducible refine HS9.out.mono ?_)
      rintro e w9 ⟨rfl, hb9⟩
      have S10 := S9.grow hb9
      clear S9 hb9
      go_wp2_with fail
      go_roundw
      case rel => exact ⟨k + 1, ia, ib, fs, lv, L, by omega, by go_num, by omega, by omega, HI2.out, S10⟩
      case measure => simp [intOf]; omega
    | true =>
      have HW := Lib.hid hw
      clear hw
      go_wp2_with fail
      refine FreeTw.region_free (fun w' => Below w3.heap.size w3 w') (fun w' => w'.cell? ⟨wr.heap.size, 3, none⟩ = some (.slice A1 nB c1)) [2000008] [4, 9, 10, 11] [0, 1, 2, 3, 5, 6, 7, 8] (fun w' h => F w' h) (by kernel_rfl) (by kernel_rfl) (by kernel_rfl) ((Below.refl _ _).drew) ?_
      repeat (first
        | (refine FreeTw.RelSeq.pure_ (c := ?_) rfl rfl ?_ ?_; rotate_left; (focus (intro x w'; dsimp only; go_simp; (first | ((repeat' apply And.intro) <;> first | with_reducible rfl | assumption) | (split <;> (try (focus (exfalso; omega))); (try go_simp); (repeat' apply And.intro) <;> first | with_reducible rfl | assumption)))); simp only [Act.put, List.setIfInBounds_toArray, List.set_cons_zero, List.set_cons_succ])
        | (refine FreeTw.RelSeq.skip_ rfl (fun _ => rfl) ?_; simp only [Act.put, List.setIfInBounds_toArray, List.set_cons_zero, List.set_cons_succ])
        | (refine FreeTw.RelSeq.pureG_ (c := ?_) rfl (fun _ => rfl) rfl ?_ ?_; rotate_left; (focus (intro x w'; dsimp only; go_simp; (repeat' apply And.intro) <;> first | with_reducible rfl | assumption)); simp only [Act.put, List.setIfInBounds_toArray, List.set_cons_zero, List.set_cons_succ])
        | (refine FreeTw.RelSeq.steady_ (c := ?_) rfl rfl rfl ?_ ?_; rotate_left; (focus (intro x w' hw; dsimp only; obtain d0 := hw; go_simp; (repeat' apply And.intro) <;> first | with_reducible rfl | assumption)); simp only [Act.put, List.setIfInBounds_toArray, List.set_cons_zero, List.set_cons_succ])
        | (refine FreeTw.RelSeq.grow_ (c := ?_) rfl rfl rfl ?_ ?_; rotate_left; (focus (intro x w' hw _; dsimp only; obtain d0 := F w' hw; have hbr := Below.refl w'.heap.size w'; go_simp; (repeat' apply And.intro) <;> first | with_reducible rfl | assumption)); simp only [Act.put, List.setIfInBounds_toArray, List.set_cons_zero, List.set_cons_succ])
        | (refine FreeTw.RelSeq.growG_ (c := ?_) rfl (fun _ => rfl) rfl rfl ?_ ?_; rotate_left; (focus (intro x w' hw _; dsimp only; obtain d0 := F w' hw; have hbr := Below.refl w'.heap.size w'; go_simp; (repeat' apply And.intro) <;> first | with_reducible rfl | assumption)); simp only [Act.put, List.setIfInBounds_toArray, List.set_cons_zero, List.set_cons_succ]))
      refine FreeTw.RelSeq.nil_ fun x_ w4 hw4 _ _ => ?_
      have S4 := S3.grow hw4
      have wa : IntKind.i64.wrap (ia + 1) = ia + 1 := by rw [IntKind.wrap_i64]; omega
      have hrm : ∀ s f0, findF fs s = some f0 → f0.bytes.length ≤ 200 * k := fun s f0 h => HI.out.file h
      have K1 := diskAppendC d m ia ib fs sx (.slice A1 nB c1) xl w4 (S4.diskC 1 rfl) (by unfold maxLen; omega) HW.out (.inr (by have := HLN.out; have := HI.out.len; omega)) (by rw [← HNB.out]; exact S4.rd0 HXV.out) (by
        rw [← HNB.out]
        have : (hadF fs sx).1.length ≤ 200 * k := by
          unfold hadF
          cases h : findF fs sx with
          | none => simp
          | some f0 => exact hrm sx f0 h
        omega)
      rw [wa] at K1
      clear S3 F y0 y3 y4 y6 y7 wa hrm
      refine FreeTw.TailSeq.cons_ rfl ?_
      go_simp
      (with_reducible refine K1.mono ?_)
      rintro e w5 ⟨rfl, v5, hu5⟩
      have S5 := S4.turn 1 rfl hu5
      simp only [List.eraseIdx_cons_succ, List.eraseIdx_cons_zero, List.cons_append, List.nil_append] at S5
      have S6 := S5.pick [1, 0, 2] (by decide)
      simp only [List.filterMap_cons, List.filterMap_nil, List.getElem?_cons_succ, List.getElem?_cons_zero] at S6
      have y3 := (S6.blk 0 rfl).cell (j := 3) (v := .slice A1 nB c1) rfl
      clear S4 S5 hu5 K1
      go_simp
      have K2 := refAppendOk g lv ia ib L sx (.slice A1 nB c1) xl w5 (S6.get 2 rfl) (by have := HI.out.len; omega) (by unfold maxLen; omega) HW.out (by rw [← HNB.out]; exact S6.rd0 HXV.out) (by
        intro p hp hq
        rw [← HNB.out] at hp
        have h1 := (chRd 1 (.slice A1 nB c1) nB (u8L xl) (by decide)).inn w HXV.out p hp
        rcases S6.own _ (.tail _ (.tail _ (.head _))) p hq with h | h
        · cases h
        · omega) (by rw [← HNB.out]; omega) (fun f hf => by rw [← HNB.out]; have := HI.out.bnd f hf; omega) ⟨hia.1, by omega⟩
      clear y3
      refine FreeTw.TailSeq.cons_ rfl ?_
      go_simp
      (with_reducible refine K2.mono ?_)
      rintro e w6 ⟨rfl, lv6, v6, i, f, h1, h2, hu6⟩
      have S7 := S6.turn 2 rfl hu6
      simp only [List.eraseIdx_cons_succ, List.eraseIdx_cons_zero, List.cons_append, List.nil_append] at S7
      have S8 := S7.pick [2, 0] (by decide)
      simp only [List.filterMap_cons, List.filterMap_nil, List.getElem?_cons_succ, List.getElem?_cons_zero] at S8
      have HP := Lib.hid (HI.out.append (l := xl) (by rw [← HNB.out]; omega) v5 v6 h1 h2)
      have y3 := (S7.blk 1 rfl).cell (j := 3) (v := .slice A1 nB c1) rfl
      clear S6 S7 hu6 K2 h1 h2
      go_simp
      refine FreeTw.TailSeq.cons_ rfl ?_
      go_simp
      refine FreeTw.TailSeq.cons_ rfl ?_
      go_simp
      refine FreeTw.TailSeq.nil_ ?_
      clear y3
      generalize putF fs ⟨sx, v5, (hadF fs sx).1 ++ xl, (hadF fs sx).2⟩ = fs8 at S8 HP
      generalize (withV L sx).set i ⟨sx, v6, f.bytes ++ xl, f.synced⟩ = L8 at S8 HP
      have hI2 := HP.out
      have S9 := S8.pick [0, 1] (by decide)
      simp only [List.filterMap_cons, List.filterMap_nil, List.getElem?_cons_succ, List.getElem?_cons_zero] at S9
      clear S8
      have hD9 := S9.diskC 0 rfl
      have hLn9 := relF_len hI2.rel hD9.1.nodup
      rw [List.length_map] at hLn9
      have HS9 := Lib.hid (lawSame d m g lv6 ((ia + 1)) (ib) fs8 L8 w6 hD9 (S9.get 1 rfl) hI2.rel (by have := hI2.len; omega))
      have HI2 := Lib.hid hI2
      clear hD9 hLn9 hI2
      go_wp2_with fail
      (with_reducible refine HS9.out.mono ?_)
      rintro e w9 ⟨rfl, hb9⟩
      have S10 := S9.grow hb9
      clear S9 hb9
      go_wp2_with fail
      go_roundw
      case rel => exact ⟨k + 1, (ia + 1), ib, fs8, lv6, L8, by omega, by go_num, by omega, by omega, HI2.out, S10⟩
      case measure => simp [intOf]; omega
end Go.Proofs.Ytdjdhakmigofmaa
