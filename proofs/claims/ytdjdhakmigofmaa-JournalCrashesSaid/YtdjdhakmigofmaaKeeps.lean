/-
  The walk of DiskKeeps.
-/
import Derived.Test.YtdjdhakmigofmaaCrash2
namespace Go.Proofs.Ytdjdhakmigofmaa
open Go.RowKit FreeNew
set_option maxRecDepth 100000
attribute [local go_sem] out

theorem tornB_len (l : List UInt8) (sy keep bit : Nat) (h : sy ≤ l.length) : (tornB l sy keep bit).length = sy + min keep (l.length - sy) := by
  unfold tornB
  split
  · simp; omega
  · simp; omega
theorem tornB_take (l : List UInt8) (sy keep bit : Nat) : (tornB l sy keep bit).take sy = l.take sy := by
  unfold tornB
  split
  · rename_i hc
    rw [List.take_set_of_le (by omega), List.take_take]
    congr 1; omega
  · rw [List.take_take]; congr 1; omega
theorem tornB_pred (l : List UInt8) (sy keep bit : Nat) (h : sy ≤ l.length) : (tornB l sy keep bit).take ((tornB l sy keep bit).length - 1) = l.take ((tornB l sy keep bit).length - 1) := by
  rw [tornB_len l sy keep bit h]
  unfold tornB
  split
  · rename_i hc
    rw [List.take_set_of_le (by omega), List.take_take]
    congr 1; omega
  · rw [List.take_take]; congr 1; omega

theorem diskCrashAny (d m : Nat) (f : FileV) (v : Value) (ts : List (Nat × Nat)) (w : World) (hD : DiskAt w d m [f]) (hv : Rd w 2 v ts.length (tearCells ts)) (ht : ∀ t ∈ ts, t.1 < 65536 ∧ t.2 < 65536) :
    Calls Try.prog 12 #[.pointer (some ⟨d, 0, none⟩), v] w fun e w' => e = .returned (.tuple #[]) ∧
      (∃ keep bit v', DiskAt w' d m [⟨f.name, v', tornB f.bytes f.synced keep bit, (tornB f.bytes f.synced keep bit).length⟩]) ∧ Mod [d, m] w w' := by
  cases ts with
  | nil => exact (diskCrashOne d m f v [] w hD hv rfl).mono fun e w' ⟨h1, ⟨v', h2⟩, h3⟩ => ⟨h1, ⟨_, _, v', h2⟩, h3⟩
  | cons t r => exact (diskCrashTorn d m f v t r w hD hv (ht t (.head _)).1 (ht t (.head _)).2).mono fun e w' ⟨h1, ⟨v', h2⟩, h3⟩ => ⟨h1, ⟨_, _, v', h2⟩, h3⟩
theorem diskCrashNone (d m : Nat) (v : Value) (w : World) (hD : DiskAt w d m []) :
    Calls Try.prog 12 #[.pointer (some ⟨d, 0, none⟩), v] w fun e w' => e = .returned (.tuple #[]) ∧ DiskAt w' d m [] ∧ Mod [d, m] w w' := by
  have hN := diskNames d m [] w hD (by decide)
  have el : (namesF []).length = 0 := by simp [namesF]
  rw [el] at hN
  go_enter Try.func12, Try.ntmps12
  go_wp2_with fail
  (with_reducible refine hN.mono ?_)
  rintro e w1 ⟨vn, rfl, hvn, hb1⟩
  obtain ⟨A1, c1, rfl⟩ := owns_slice hvn
  have hD1 := hD.below hb1
  clear hN hvn el
  go_wp2_with fail
  go_loopw [13] (fun i wr => i = .int .i64 0 ∧ wr = w1) (fun _ _ => 0)
  case atStart => exact ⟨rfl, rfl⟩
  case round =>
    obtain ⟨rfl, rfl⟩ := hrel
    go_wp2_with fail
    go_end0
    exact ⟨rfl, hD1, Mod.of_below hb1⟩

/-- The file f, or none yet. -/
def filesK (q : Nat) (fs : List FileV) (acc : List UInt8) (k : Nat) : Prop := (q = 0 ∧ fs = [] ∧ acc = [] ∧ k = 0) ∨ (0 < q ∧ ∃ v, fs = [⟨⟨#[102]⟩, v, acc, k⟩])
theorem filesK_had {q : Nat} {fs : List FileV} {acc : List UInt8} {k : Nat} (h : filesK q fs acc k) : hadF fs ⟨#[102]⟩ = (acc, k) ∧ (∀ v a n, putF fs ⟨⟨#[102]⟩, v, a, n⟩ = [⟨⟨#[102]⟩, v, a, n⟩]) ∧ fs.length ≠ 64 := by
  rcases h with ⟨_, rfl, rfl, rfl⟩ | ⟨_, v, rfl⟩
  · exact ⟨rfl, fun _ _ _ => rfl, by decide⟩
  · exact ⟨rfl, fun _ _ _ => rfl, by show 1 ≠ 64; decide⟩
theorem baList (l : List UInt8) : (⟨l.toArray⟩ : ByteArray).toList = l := by
  simp
theorem strL_append (a b : ByteArray) (l r : List UInt8) (ha : a.data.toList = l) (hb : b.data.toList = r) : (a ++ b).data.toList = l ++ r := by
  rw [ByteArray.data_append, Array.toList_append, ha, hb]

set_option maxHeartbeats 4000000 in
theorem keepsWalk (v0 : Value) (ps : List (Value × List UInt8)) (sync : Nat) (v2 : Value) (ts : List (Nat × Nat)) (w : World) (h0 : Rd w 1 v0 ps.length (ps.map (·.1))) (hp : ∀ p ∈ ps, Rd w 1 p.1 p.2.length (u8L p.2))
    (h2 : Rd w 2 v2 ts.length (tearCells ts)) (ht : ∀ t ∈ ts, t.1 < 65536 ∧ t.2 < 65536) :
    Calls Try.prog 3 #[v0, .int .u8 sync, v2] w fun e w' => e = .returned (.bool true) ∧ Below w.heap.size w w' := by
  obtain ⟨A0, c0, rfl, r1, r2, r3, r4⟩ := h0
  have h20 := h2
  obtain ⟨A2, c2, rfl, s1, s2, s3, s4⟩ := h2
  unfold maxLen at r3 s3
  clear s1 s4
  go_enter Try.func3, Try.ntmps3
  go_wp2_with fail
  (with_reducible refine (dAwake w).mono ?_)
  rintro e w1 ⟨rfl, hb1⟩
  by_cases hl1 : 20 < ps.length
  · go_wp2_with fail
    go_ret
    exact ⟨rfl, hb1⟩
  by_cases hl2 : 10 < ts.length
  · go_wp2_with fail
    go_ret
    exact ⟨rfl, hb1⟩
  go_wp2_with fail
  (with_reducible refine (diskNew _).mono ?_)
  rintro e w2 ⟨d, m, rfl, hld, hlm, hD2, hb2⟩
  have hbe2 : Below w.heap.size w w2 := hb1.trans (hb2.mono hb1.size)
  have hin : ∀ x ∈ [d, m], w.heap.size ≤ x := by
    intro x hx
    have := hb1.size
    simp only [List.mem_cons, List.mem_nil_iff, or_false] at hx
    rcases hx with rfl | rfl <;> omega
  obtain ⟨S, hS⟩ : ∃ S, S = sync % 20 := ⟨_, rfl⟩
  have eS : (sync : Int).tmod 20 = (S : Int) := by rw [hS]; rfl
  have hS20 : S < 20 := by omega
  clear hb1 hb2 hld hlm hS
  go_wp2_with fail
  go_loopw [8, 9, 28] (fun a k i wr => ∃ (q : Nat) (sa sk : ByteArray) (acc kp : List UInt8) (fs : List FileV), q ≤ ps.length ∧ a = .string sa ∧ k = .string sk ∧ i = .int .i64 q ∧ sa.data.toList = acc ∧ sk.data.toList = kp ∧ (∃ r, acc = kp ++ r) ∧ acc.length ≤ 100 * q ∧ filesK q fs acc kp.length ∧ DiskAt wr d m fs ∧ Below w.heap.size w wr) (fun _ _ i _ => ps.length - (intOf i).toNat)
  case atStart => exact ⟨0, ⟨#[]⟩, ⟨#[]⟩, [], [], [], Nat.zero_le _, rfl, rfl, rfl, rfl, rfl, ⟨[], rfl⟩, Nat.zero_le _, .inl ⟨rfl, rfl, rfl, rfl⟩, hD2, hbe2⟩
  case round =>
    obtain ⟨q, sa, sk, acc, kp, fs, hq, rfl, rfl, rfl, hsa, hsk, hpre, hacc, hfs, hD, hB⟩ := hrel
    have HSA := Lib.hid hsa
    have HSK := Lib.hid hsk
    have HPRE := Lib.hid hpre
    have hsaz : sa.size ≤ 2000 := by
      have : sa.size = acc.length := by show sa.data.size = _; rw [← hsa, Array.length_toList]
      omega
    clear hD2 hbe2 hsa hsk hpre
    by_cases hlt : q < ps.length
    · obtain ⟨x, hpk⟩ : ∃ p, ps[q]? = some p := ⟨_, List.getElem?_eq_getElem hlt⟩
      have hmem := List.mem_of_getElem? hpk
      obtain ⟨b, o, rfl, hr⟩ := r4 (by omega)
      have hx0 := hp x hmem
      have cx : wr.cell? ⟨b, o + q, none⟩ = some x.1 := RdAt.nth0 hr hB q _ (by simp [hpk])
      obtain ⟨vx, lx⟩ := x
      simp only at hx0 cx
      have hx1 := hx0
      obtain ⟨Ax, cc, rfl, q1, q2, q3, q4⟩ := hx0
      clear r4 hr hp hpk hmem q4 q1
      unfold maxLen at q3
      by_cases h100 : 100 < lx.length
      · go_wp2_with fail
        go_ret
        exact ⟨rfl, hB⟩
      · obtain ⟨hh1, hh2, hh3⟩ := filesK_had hfs
        have hAp := diskAppend d m fs ⟨#[102]⟩ _ lx wr hD (by decide) (by decide) (.inr hh3) (hx1.below hB) (by rw [hh1]; show acc.length + lx.length ≤ 1048576; omega)
        rw [hh1] at hAp
        simp only [hh2] at hAp
        clear hh1 hh2 hh3 hfs hD
        go_wp2_with fail
        (with_reducible refine hAp.mono ?_)
        rintro e w3 ⟨rfl, ⟨v3, hD3⟩, hM3⟩
        have hB3 := hM3.below hB (Nat.le_refl _) hin
        have hcv := conv8 (hx1.below hB3)
        have hsl := strL_append sa ⟨lx.toArray⟩ acc lx HSA.out rfl
        have HSL := Lib.hid hsl
        have HPR2 : ∃ r, acc ++ lx = kp ++ r := by
          obtain ⟨r, hr⟩ := HPRE.out
          exact ⟨r ++ lx, by rw [hr, List.append_assoc]⟩
        have HPR := Lib.hid HPR2
        clear hAp hM3 hB cx hsl HPR2
        have hlq : (acc ++ lx).length ≤ 100 * (q + 1) := by simp only [List.length_append]; omega
        by_cases hqS : q = S
        · subst hqS
          have hSy := diskSync d m _ ⟨#[102]⟩ ⟨⟨#[102]⟩, v3, acc ++ lx, kp.length⟩ w3 hD3 rfl
          clear hD3
          go_wp2_with fail
          (with_reducible refine hSy.mono ?_)
          rintro e w4 ⟨rfl, hD4, hM4⟩
          have hD4' : DiskAt w4 d m [⟨⟨#[102]⟩, v3, acc ++ lx, (acc ++ lx).length⟩] := hD4
          have hB4 := hM4.below hB3 (Nat.le_refl _) hin
          clear hSy hD4 hM4 hB3 hcv
          go_wp2_with fail
          go_roundw
          case rel => exact ⟨q + 1, _, _, acc ++ lx, acc ++ lx, _, by omega, rfl, rfl, by go_num, HSL.out, HSL.out, ⟨[], by simp⟩, hlq, .inr ⟨by omega, _, rfl⟩, hD4', hB4⟩
          case measure => simp [intOf]; omega
        · have hne : ((q : Int) == (S : Int)) = false := by rw [beq_eq_false_iff_ne]; omega
          clear hqS
          go_wp2_with fail
          go_roundw
          case rel => exact ⟨q + 1, _, _, acc ++ lx, kp, _, by omega, rfl, rfl, by go_num, HSL.out, HSK.out, HPR.out, hlq, .inr ⟨by omega, _, rfl⟩, hD3, hB3⟩
          case measure => simp [intOf]; omega
    · obtain rfl : q = ps.length := by omega
      have hts := h20.below hB
      clear hlt r4 hp hq
      rcases hfs with ⟨hq0, rfl, _, _⟩ | ⟨hq0, v, rfl⟩
      · have hCr := diskCrashNone d m (.slice A2 ts.length c2) wr hD
        clear hD
        go_wp2_with fail
        (with_reducible refine hCr.mono ?_)
        rintro e w4 ⟨rfl, hD4, hM4⟩
        have hB4 := hM4.below hB (Nat.le_refl _) hin
        have hRe := diskReadNone d m [] ⟨#[102]⟩ w4 hD4 rfl
        clear hCr hM4 hB hD4
        go_wp2_with fail
        (with_reducible refine hRe.mono ?_)
        rintro e w5 ⟨rfl, hb5⟩
        have hB5 := hB4.trans (hb5.mono hB4.size)
        clear hRe hB4 hb5
        go_wp2_with fail
        go_ret
        exact ⟨rfl, hB5⟩
      · have hCr := diskCrashAny d m _ _ ts wr hD hts ht
        have hkl : kp.length ≤ acc.length := by
          obtain ⟨r, hr⟩ := HPRE.out
          rw [hr]; simp
        clear hD hts
        go_wp2_with fail
        (with_reducible refine hCr.mono ?_)
        rintro e w4 ⟨rfl, ⟨keep, bit, v4, hD4⟩, hM4⟩
        have hB4 := hM4.below hB (Nat.le_refl _) hin
        obtain ⟨R, hR⟩ : ∃ R, R = tornB acc kp.length keep bit := ⟨_, rfl⟩
        rw [← hR] at hD4
        have hR0 : R.length = kp.length + min keep (acc.length - kp.length) := by rw [hR]; exact tornB_len _ _ _ _ hkl
        have hR1 : R.take kp.length = kp := by
          obtain ⟨r, hr⟩ := HPRE.out
          rw [hR, tornB_take, hr]; simp
        have hR2 : R.take (R.length - 1) = acc.take (R.length - 1) := by rw [hR]; exact tornB_pred _ _ _ _ hkl
        have k1 : kp.length ≤ R.length := by omega
        have k2 : R.length ≤ acc.length := by omega
        have hRe := diskReadSome d m _ ⟨#[102]⟩ ⟨⟨#[102]⟩, v4, R, R.length⟩ w4 hD4 rfl
        have HR1 := Lib.hid hR1
        have HR2 := Lib.hid hR2
        obtain rfl : sk = ⟨kp.toArray⟩ := by
          have := HSK.out
          rw [← this]
        obtain rfl : sa = ⟨acc.toArray⟩ := by
          have := HSA.out
          rw [← this]
        clear hCr hM4 hB hR hR0 hR1 hR2 HSK HSA HPRE hkl
        go_wp2_with fail
        (with_reducible refine hRe.mono ?_)
        rintro e w5 ⟨v5, rfl, hv5, hb5⟩
        have hB5 := hB4.trans (hb5.mono hB4.size)
        have hD5 := hD4.below hb5
        have hv5' : w5.ownsRow w4.heap.size 5 1 v5 R.length (u8L R) := hv5
        have hr5 := rd_of_owns hv5'
        obtain ⟨A5, c5, rfl⟩ := owns_slice hv5'
        have hr6 := hr5
        obtain ⟨_, _, he6, _, g5, g6, _⟩ := hr6
        cases he6
        unfold maxLen at g6
        have hp1 := hr5.pre k1
        rw [u8L_pre, HR1.out] at hp1
        have hcv1 := conv8 hp1
        have hLo := diskLooseSome d m _ ⟨#[102]⟩ ⟨⟨#[102]⟩, v4, R, R.length⟩ w5 hD5 rfl
        have f1 : decide (R.length < kp.length) = false := by simp; omega
        have f2 : decide (acc.length < R.length) = false := by simp; omega
        clear hRe hB4 hb5 hD4 hD5 hv5 hv5' hp1
        go_wp2_with fail
        (with_reducible refine hLo.mono ?_)
        rintro e w6 ⟨rfl, hb6⟩
        have hB6 := hB5.trans (hb6.mono hB5.size)
        clear hLo hB5
        go_wp2_with fail
        by_cases hRk : R.length = kp.length
        · have e1 : ((R.length : Int) == (kp.length : Int)) = true := by rw [hRk]; exact beq_self_eq_true _
          clear hRk hr5 hcv1 f1 f2 k1 k2
          refine region_free (fun w' => Below w6.heap.size w6 w') [] [] (List.range 17) (by kernel_rfl) (by kernel_rfl) (by kernel_rfl) (Below.refl _ _).drew ?_
          simp only [List.range, List.range.loop]
          repeat (first
            | (refine RelSeq.pure_ (c := ?_) rfl rfl ?_ ?_; rotate_left; (focus (intro x w'; dsimp only; go_simp; (repeat' apply And.intro) <;> first | with_reducible rfl | assumption)); simp only [Act.put, List.setIfInBounds_toArray, List.set_cons_zero, List.set_cons_succ])
            | (refine RelSeq.skip_ rfl (fun _ => rfl) ?_; simp only [Act.put, List.setIfInBounds_toArray, List.set_cons_zero, List.set_cons_succ])
            | (refine RelSeq.pureG_ (c := ?_) rfl (fun _ => rfl) rfl ?_ ?_; rotate_left; (focus (intro x w'; dsimp only; go_simp; (repeat' apply And.intro) <;> first | with_reducible rfl | assumption)); simp only [Act.put, List.setIfInBounds_toArray, List.set_cons_zero, List.set_cons_succ])
            | (refine RelSeq.grow_ (c := ?_) rfl rfl ?_ ?_; rotate_left; (focus (intro x w' hw _; dsimp only; have hbr := Below.refl w'.heap.size w'; go_simp; (repeat' apply And.intro) <;> first | with_reducible rfl | assumption)); simp only [Act.put, List.setIfInBounds_toArray, List.set_cons_zero, List.set_cons_succ])
            | (refine RelSeq.growG_ (c := ?_) rfl (fun _ => rfl) rfl ?_ ?_; rotate_left; (focus (intro x w' hw _; dsimp only; have hbr := Below.refl w'.heap.size w'; go_simp; (repeat' apply And.intro) <;> first | with_reducible rfl | assumption)); simp only [Act.put, List.setIfInBounds_toArray, List.set_cons_zero, List.set_cons_succ]))
          refine RelSeq.nil_ fun x w7 hw7 _ _ => TailSeq.nil_ ?_
          have hB7 := hB6.trans (hw7.mono hB6.size)
          go_wp2_with fail
          go_ret
          exact ⟨rfl, hB7⟩
        · have e1 : ((R.length : Int) == (kp.length : Int)) = false := by rw [beq_eq_false_iff_ne]; omega
          obtain ⟨n, hn⟩ : ∃ n, R.length = n + 1 := ⟨R.length - 1, by omega⟩
          have ei : (R.length : Int) - 1 = (n : Int) := by omega
          have wk : IntKind.i64.wrap (n : Int) = (n : Int) := IntWalk.i64_in _ (by omega)
          have ln : n ≤ R.length := by omega
          have ln2 : n ≤ acc.length := by omega
          have lc : n ≤ c5 := by omega
          have he2 : R.take n = acc.take n := by
            have := HR2.out
            rw [hn] at this
            exact this
          have F : ∀ w', Below w6.heap.size w6 w' → (convert 27 9 (.slice A5 n c5)).run Try.prog w' = .ok (.string ⟨(acc.take n).toArray⟩) w' := fun w' h => by
            have hp := ((hr5.below hb6).below h).pre ln
            rw [u8L_pre, he2] at hp
            exact conv8 hp
          have hex : (List.take n acc == (({ data := acc.toArray } : ByteArray).extract 0 n).toList) = true := by
            have e : (({ data := acc.toArray } : ByteArray).extract 0 n) = ⟨(acc.take n).toArray⟩ := by
              apply ByteArray.ext
              rw [ByteArray.data_extract]
              simp
            rw [e, baList]
            exact beq_self_eq_true _
          have HX := Lib.hid hex
          have HN := Lib.hid hn
          clear hex
          clear hRk hr5 hcv1 f1 f2 k1 hn he2
          refine region_free (fun w' => Below w6.heap.size w6 w') [] [] (List.range 17) (by kernel_rfl) (by kernel_rfl) (by kernel_rfl) (Below.refl _ _).drew ?_
          simp only [List.range, List.range.loop]
          repeat (first
            | (refine RelSeq.pure_ (c := ?_) rfl rfl ?_ ?_; rotate_left; (focus (intro x w'; dsimp only; go_simp; (repeat' apply And.intro) <;> first | with_reducible rfl | assumption)); simp only [Act.put, List.setIfInBounds_toArray, List.set_cons_zero, List.set_cons_succ])
            | (refine RelSeq.skip_ rfl (fun _ => rfl) ?_; simp only [Act.put, List.setIfInBounds_toArray, List.set_cons_zero, List.set_cons_succ])
            | (refine RelSeq.pureG_ (c := ?_) rfl (fun _ => rfl) rfl ?_ ?_; rotate_left; (focus (intro x w'; dsimp only; go_simp; (repeat' apply And.intro) <;> first | with_reducible rfl | assumption)); simp only [Act.put, List.setIfInBounds_toArray, List.set_cons_zero, List.set_cons_succ])
            | (refine RelSeq.grow_ (c := ?_) rfl rfl ?_ ?_; rotate_left; (focus (intro x w' hw _; dsimp only; obtain d0 := F w' hw; have hbr := Below.refl w'.heap.size w'; go_simp; (repeat' apply And.intro) <;> first | with_reducible rfl | assumption)); simp only [Act.put, List.setIfInBounds_toArray, List.set_cons_zero, List.set_cons_succ])
            | (refine RelSeq.growG_ (c := ?_) rfl (fun _ => rfl) rfl ?_ ?_; rotate_left; (focus (intro x w' hw _; dsimp only; obtain d0 := F w' hw; have hbr := Below.refl w'.heap.size w'; go_simp; (repeat' apply And.intro) <;> first | with_reducible rfl | assumption)); simp only [Act.put, List.setIfInBounds_toArray, List.set_cons_zero, List.set_cons_succ]))
          refine RelSeq.nil_ fun x w7 hw7 _ _ => TailSeq.nil_ ?_
          have hB7 := hB6.trans (hw7.mono hB6.size)
          rw [HX.out]
          clear F
          go_wp2_with fail
          go_ret
          exact ⟨rfl, hB7⟩
end Go.Proofs.Ytdjdhakmigofmaa
