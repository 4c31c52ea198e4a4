/-
  The document's answer for records one behind the other: Scan.
-/
import Derived.Test.YtiblkkaneonajaaConv
import Derived.Test.YtiblkkaneonajaaScan
import Derived.Test.YtiblkkaneonajaaRefLay
import Derived.Deep.QuietTactic
import Derived.BigQuiet
import Derived.IntWalk
namespace Go.Proofs.Ytiblkkaneonajaa
open Go.RowKit FreeNew
set_option maxRecDepth 100000
attribute [local go_sem] out

theorem take8 (l : List UInt8) (h : 8 ≤ l.length) : ∃ x0 x1 x2 x3 x4 x5 x6 x7 r, l = x0 :: x1 :: x2 :: x3 :: x4 :: x5 :: x6 :: x7 :: r := by
  match l, h with
  | x0 :: x1 :: x2 :: x3 :: x4 :: x5 :: x6 :: x7 :: r, _ => exact ⟨x0, x1, x2, x3, x4, x5, x6, x7, r, rfl⟩
theorem takeL_short {l : List UInt8} (h : l.length < 8) : takeL l = none := by
  unfold takeL
  split
  · simp at h; omega
  · rfl
theorem Rd.byte {w : World} {q o n c : Nat} {l : List UInt8} (h : Rd w 1 (.slice (some ⟨q, o, none⟩) n c) n (u8L l)) (j : Nat) (x : UInt8) (hj : l[j]? = some x) : w.cell? ⟨q, o + j, none⟩ = some (.int .u8 x.toNat) := by
  obtain ⟨A, c', he, h1, h2, h3, h4⟩ := h
  cases he
  have hl : j < l.length := by
    rcases Nat.lt_or_ge j l.length with h | h
    · exact h
    · rw [List.getElem?_eq_none h] at hj; cases hj
  rw [u8L_len] at h1
  obtain ⟨q', o', he, hr⟩ := h4 (by omega)
  cases he
  exact hr j _ (by simp [u8L, hj])
theorem Rd.sub {w : World} {q o n c a m c2 : Nat} {xs : List Value} (h : Rd w 1 (.slice (some ⟨q, o, none⟩) n c) n xs) (ham : a + m ≤ n) (hc : m ≤ c2) (hc2 : c2 ≤ maxLen) :
    Rd w 1 (.slice (some ⟨q, o + a, none⟩) m c2) m ((xs.drop a).take m) := by
  obtain ⟨A, c', he, h1, h2, h3, h4⟩ := h
  cases he
  refine ⟨_, _, rfl, by simp; omega, hc, hc2, fun hm => ?_⟩
  obtain ⟨q', o', he, hr⟩ := h4 (by omega)
  cases he
  refine ⟨_, _, rfl, fun j u hj => ?_⟩
  rw [List.getElem?_take] at hj
  split at hj
  · rw [List.getElem?_drop] at hj
    rw [Nat.add_assoc]
    exact hr _ u hj
  · cases hj
theorem takeL_rec (x0 x1 x2 x3 x4 x5 x6 x7 : UInt8) (r : List UInt8) (n : Nat) (hn : n = unfour x0.toNat x1.toNat x2.toNat x3.toNat) (h1 : ¬ 524288 < n) (h2 : ¬ r.length < n) :
    takeL (x0 :: x1 :: x2 :: x3 :: x4 :: x5 :: x6 :: x7 :: r) = if layL (r.take n) = x0 :: x1 :: x2 :: x3 :: x4 :: x5 :: x6 :: x7 :: r.take n then some (r.take n) else none := by
  have hl : unfour x0.toNat x1.toNat x2.toNat x3.toNat = (r.take n).length := by rw [← hn]; simp; omega
  simp only [takeL, ← hn]
  rw [if_neg (by omega)]
  simp only [lay_iff x0 x1 x2 x3 x4 x5 x6 x7 _ hl]
def ScanPost (l : List UInt8) (w : World) (e : Ending) (w' : World) : Prop := ∃ v' ps, e = .returned (.tuple #[v', .int .i64 (lenR (scanL l) : Nat)]) ∧ ps.map (·.2) = scanL l ∧
      w'.ownsRow w.heap.size 23 1 v' ps.length (ps.map (·.1)) ∧ OwnAll w' w.heap.size ps ∧ Below w.heap.size w w'
set_option maxHeartbeats 1000000 in
theorem refScan (v : Value) (l : List UInt8) (w : World) (hl : Rd w 1 v l.length (u8L l)) (hlen : l.length ≤ 1099511627776) :
    Calls Try.prog 12 #[v] w (ScanPost l w) := by
  have hl0 := hl
  obtain ⟨A, c, rfl, h1, h2, h3, h4⟩ := hl
  unfold maxLen at h3
  obtain ⟨i0, hi, hz0, hz1, hz2⟩ := info_parts infoRow
  obtain ⟨i1, hi1, hz3, hz4, hz5⟩ := info_parts infoByte
  go_enter Try.func12, Try.ntmps12
  go_wp2_with fail
  go_loopw [4, 5] (fun v i wr => ∃ (ps : List (Value × List UInt8)) (k : Nat), k ≤ l.length ∧ i = .int .i64 k ∧ wr.ownsRow w.heap.size 23 1 v ps.length (ps.map (·.1)) ∧ OwnAll wr w.heap.size ps ∧ Below w.heap.size w wr ∧ ps.map (·.2) ++ scanL (l.drop k) = scanL l ∧ k = lenR (ps.map (·.2))) (fun _ i _ => l.length - (intOf i).toNat)
  case atStart => exact ⟨[], 0, Nat.zero_le _, rfl, World.ownsRow_nil _ _ _ _, OwnAll.nil, Below.refl _ _, by simp, rfl⟩
  case round =>
    obtain ⟨ps, k, hk, rfl, hv, hps, hB, hsc, hkl⟩ := hrel
    obtain ⟨A6, c6, rfl⟩ := owns_slice hv
    have hge := lenR_ge (ps.map (·.2))
    rw [← hkl] at hge
    simp only [List.length_map] at hge
    have fin : takeL (l.drop k) = none → ps.map (·.2) = scanL l ∧ k = lenR (scanL l) := by
      intro hx
      have hfin : ps.map (·.2) = scanL l := by rw [← hsc, scanL_none hx, List.append_nil]
      exact ⟨hfin, by rw [← hfin]; exact hkl⟩
    have HS := Lib.hid hsc
    have HK := Lib.hid hkl
    have hdl : (l.drop k).length = l.length - k := by simp
    clear hsc hkl h1
    by_cases h8 : l.length - k < 8
    · have HF := Lib.hid (fin (takeL_short (by rw [hdl]; exact h8)))
      clear fin hl0 h4 hdl
      go_wp2_with fail
      go_ret2
      exact ⟨_, ps, by rw [← HF.out.2]; rfl, HF.out.1, hv, hps, hB⟩
    · obtain ⟨q, o, rfl, hr⟩ := h4 (by omega)
      obtain ⟨x0, x1, x2, x3, x4, x5, x6, x7, r, hd⟩ := take8 (l.drop k) (by omega)
      have hrd := hl0.below hB
      have at_ : ∀ j (x : UInt8), (l.drop k)[j]? = some x → wr.cell? ⟨q, o + (k + j), none⟩ = some (.int .u8 x.toNat) := by
        intro j x hj
        rw [List.getElem?_drop] at hj
        exact hrd.byte _ _ hj
      have c0 := at_ 0 x0 (by rw [hd]; rfl)
      have c1 := at_ 1 x1 (by rw [hd]; rfl)
      have c2 := at_ 2 x2 (by rw [hd]; rfl)
      have c3 := at_ 3 x3 (by rw [hd]; rfl)
      clear at_ h4 hr hrd
      have hu : unfour x0.toNat x1.toNat x2.toNat x3.toNat < 4294967296 := unfour_lt _ _ _ _
      have b0 := x0.toNat_lt
      have b1 := x1.toNat_lt
      have b2 := x2.toNat_lt
      have b3 := x3.toNat_lt
      obtain ⟨n, hn⟩ : ∃ n, n = unfour x0.toNat x1.toNat x2.toNat x3.toNat := ⟨_, rfl⟩
      have hrl : r.length + 8 = l.length - k := by rw [← hdl, hd]; simp
      have HD := Lib.hid hd
      have HL := Lib.hid hdl
      clear hd hdl
      have w1 : IntKind.i64.wrap ((k : Int) + 1) = (k : Int) + 1 := IntWalk.i64_in _ (by omega)
      have w2 : IntKind.i64.wrap ((k : Int) + 2) = (k : Int) + 2 := IntWalk.i64_in _ (by omega)
      have w3 : IntKind.i64.wrap ((k : Int) + 3) = (k : Int) + 3 := IntWalk.i64_in _ (by omega)
      have t1 : ((k : Int) + 1).toNat = k + 1 := by omega
      have t2 : ((k : Int) + 2).toNat = k + 2 := by omega
      have t3 : ((k : Int) + 3).toNat = k + 3 := by omega
      have p1 : 0 ≤ (k : Int) + 1 := by omega
      have p2 : 0 ≤ (k : Int) + 2 := by omega
      have p3 : 0 ≤ (k : Int) + 3 := by omega
      have l0 : (k : Int) < (l.length : Int) := by omega
      have l1 : (k : Int) + 1 < (l.length : Int) := by omega
      have l2 : (k : Int) + 2 < (l.length : Int) := by omega
      have l3 : (k : Int) + 3 < (l.length : Int) := by omega
      have z0 : IntKind.i64.wrap (x0.toNat : Int) = (x0.toNat : Int) := IntWalk.i64_in _ (by omega)
      have z1 : IntKind.i64.wrap (x1.toNat : Int) = (x1.toNat : Int) := IntWalk.i64_in _ (by omega)
      have z2 : IntKind.i64.wrap (x2.toNat : Int) = (x2.toNat : Int) := IntWalk.i64_in _ (by omega)
      have z3 : IntKind.i64.wrap (x3.toNat : Int) = (x3.toNat : Int) := IntWalk.i64_in _ (by omega)
      have m1 : IntKind.i64.wrap (256 * (x1.toNat : Int)) = 256 * (x1.toNat : Int) := IntWalk.i64_in _ (by omega)
      have m2 : IntKind.i64.wrap (65536 * (x2.toNat : Int)) = 65536 * (x2.toNat : Int) := IntWalk.i64_in _ (by omega)
      have m3 : IntKind.i64.wrap (16777216 * (x3.toNat : Int)) = 16777216 * (x3.toNat : Int) := IntWalk.i64_in _ (by omega)
      have s1 : IntKind.i64.wrap ((x0.toNat : Int) + 256 * (x1.toNat : Int)) = (x0.toNat : Int) + 256 * (x1.toNat : Int) := IntWalk.i64_in _ (by omega)
      have s2 : IntKind.i64.wrap ((x0.toNat : Int) + 256 * (x1.toNat : Int) + 65536 * (x2.toNat : Int)) = (x0.toNat : Int) + 256 * (x1.toNat : Int) + 65536 * (x2.toNat : Int) := IntWalk.i64_in _ (by omega)
      have s3 : IntKind.i64.wrap ((x0.toNat : Int) + 256 * (x1.toNat : Int) + 65536 * (x2.toNat : Int) + 16777216 * (x3.toNat : Int)) = (n : Int) := by rw [IntWalk.i64_in _ (by omega), hn]; unfold unfour; omega
      rw [← hn] at hu
      have HN := Lib.hid hn
      clear hn
      go_wp2_with fail
      have F : ∀ w', Below wr.heap.size wr w' → w'.cell? ⟨q, o + k, none⟩ = some (.int .u8 x0.toNat) ∧ w'.cell? ⟨q, o + (k + 1), none⟩ = some (.int .u8 x1.toNat) ∧ w'.cell? ⟨q, o + (k + 2), none⟩ = some (.int .u8 x2.toNat) ∧ w'.cell? ⟨q, o + (k + 3), none⟩ = some (.int .u8 x3.toNat) := by
        intro w' h
        have hq : q < wr.heap.size := World.block_lt_of_cell? wr _ c0
        exact ⟨(h.cell hq).trans c0, (h.cell hq).trans c1, (h.cell hq).trans c2, (h.cell hq).trans c3⟩
      clear c0 c1 c2 c3
      refine region_free (fun w' => Below wr.heap.size wr w') [] [] (List.range 30) (by kernel_rfl) (by kernel_rfl) (by kernel_rfl) (Below.refl _ _).drew ?_
      simp only [List.range, List.range.loop]
      repeat (first
        | (refine RelSeq.pure_ (c := ?_) rfl rfl ?_ ?_; rotate_left; (focus (intro x w'; dsimp only; go_simp; (repeat' apply And.intro) <;> first | with_reducible rfl | assumption)); simp only [Act.put, List.setIfInBounds_toArray, List.set_cons_zero, List.set_cons_succ])
        | (refine RelSeq.grow_ (c := ?_) rfl rfl ?_ ?_; rotate_left; (focus (intro x w' hw _; dsimp only; obtain ⟨d0, d1, d2, d3⟩ := F w' hw; have hbr := Below.refl w'.heap.size w'; go_simp; (repeat' apply And.intro) <;> first | with_reducible rfl | assumption)); simp only [Act.put, List.setIfInBounds_toArray, List.set_cons_zero, List.set_cons_succ]))
      refine RelSeq.nil_ fun x wz hz _ _ => TailSeq.nil_ ?_
      have hvz := owns_below hv hz
      have hpsz := hps.below hz
      have hBz := hB.trans (hz.mono hB.size)
      clear hv hps hz F w1 w2 w3 t1 t2 t3 p1 p2 p3 l0 l1 l2 l3 z0 z1 z2 z3 m1 m2 m3 s1 s2 s3
      by_cases hbig : 524288 < n
      · have HF := Lib.hid (fin (by rw [HD.out]; simp only [takeL]; rw [if_pos (by rw [← HN.out]; exact .inl hbig)]))
        clear fin
        go_wp2_with fail
        go_ret2
        exact ⟨_, ps, by rw [← HF.out.2]; rfl, HF.out.1, hvz, hpsz, hBz⟩
      · by_cases hsh : r.length < n
        · have hsh2 : l.length - k - 8 < n := by omega
          have HF := Lib.hid (fin (by rw [HD.out]; simp only [takeL]; rw [if_pos (by rw [← HN.out]; exact .inr hsh)]))
          clear fin
          go_wp2_with fail
          go_ret2
          exact ⟨_, ps, by rw [← HF.out.2]; rfl, HF.out.1, hvz, hpsz, hBz⟩
        · have hT := takeL_rec x0 x1 x2 x3 x4 x5 x6 x7 r n HN.out hbig hsh
          rw [← HD.out] at hT
          have hrdz := hl0.below hBz
          have hck : ¬ c = k := by omega
          have hnn : (r.take n).length = n := by simp; omega
          have HLL := HL.out
          have hwin : Rd wz 1 (.slice (some ⟨q, o + k, none⟩) (n + 8) (c - k)) (n + 8) (u8L (x0 :: x1 :: x2 :: x3 :: x4 :: x5 :: x6 :: x7 :: r.take n)) := by
            have := hrdz.sub (a := k) (m := n + 8) (c2 := c - k) (by omega) (by omega) (by unfold maxLen; omega)
            have e : (u8L l).drop k = u8L (x0 :: x1 :: x2 :: x3 :: x4 :: x5 :: x6 :: x7 :: r) := by rw [u8L_drop, HD.out]
            rw [e] at this
            simpa [u8L, List.map_take] using this
          have hin : ∀ c2, n ≤ c2 → c2 ≤ maxLen → Rd wz 1 (.slice (some ⟨q, o + (k + 8), none⟩) n c2) n (u8L (r.take n)) := by
            intro c2 hc2 hc3
            have := hrdz.sub (a := k + 8) (m := n) (c2 := c2) (by omega) hc2 hc3
            have e : (u8L l).drop (k + 8) = u8L r := by rw [← List.drop_drop, u8L_drop, u8L_drop, HD.out]; rfl
            rw [e] at this
            simpa [u8L, List.map_take] using this
          obtain ⟨m, hm⟩ : ∃ m, m = r.take n := ⟨_, rfl⟩
          rw [← hm] at hT hnn hin hwin
          obtain ⟨L2, hL2⟩ : ∃ L2, L2 = x0 :: x1 :: x2 :: x3 :: x4 :: x5 :: x6 :: x7 :: m := ⟨_, rfl⟩
          rw [← hL2] at hT hwin
          have HT := Lib.hid hT
          have hsn : n ≤ l.length - (k + 8) := by omega
          clear hT hm hL2 HLL hrdz
          by_cases hc8 : c = k + 8
          case' pos =>
            have hvin : Rd wz 1 (.slice (some ⟨q, o, none⟩) n 0) n (u8L m) := by
              have hn0 : n = 0 := by omega
              have hm0 : m = [] := List.eq_nil_of_length_eq_zero (by omega)
              exact ⟨_, _, rfl, by simp [u8L, hn0, hm0], by omega, by unfold maxLen; omega, fun h => by omega⟩
            have e0 : k + 8 - k = 8 := by omega
            have hn0 : n = 0 := by omega
            subst hc8
            have y5 : (k : Int) + 8 + (n : Int) ≤ (k : Int) + 8 := by omega
            clear hn0
            rw [e0] at hwin
            clear e0
          case' neg =>
            have y5 : (k : Int) + 8 + (n : Int) ≤ (c : Int) := by omega
            have hvin := hin (c - (k + 8)) (by omega) (by unfold maxLen; omega)
          all_goals
            clear hin
            rw [← hnn] at hvin
            have hL := refLay _ m wz hvin (by omega)
            rw [hnn] at hvin hL
            go_wp2_with fail
            (with_reducible refine hL.mono ?_)
            rintro e w6 ⟨vl, rfl, hvl, hb6⟩
            have hv6 := owns_below hvz hb6
            have hps6 := hpsz.below hb6
            have hB6 := hBz.trans (hb6.mono hBz.size)
            have hwin6 := hwin.below hb6
            have hvin6 := hvin.below hb6
            obtain ⟨Al, cl, rfl⟩ := owns_slice hvl
            clear hvz hpsz hBz hwin hvin hL
            have F : ∀ w', Below w6.heap.size w6 w' → (convert 23 9 (.slice Al (layL m).length cl)).run Try.prog w' = .ok (.string ⟨(layL m).toArray⟩) w' ∧ (convert 23 9 (.slice (some ⟨q, o + k, none⟩) (n + 8) _)).run Try.prog w' = .ok (.string ⟨L2.toArray⟩) w' := fun w' h =>
              ⟨conv8 (rd_of_owns (owns_below hvl h)), conv8 (hwin6.below h)⟩
            have e9 : k + 8 + n - k = n + 8 := by omega
            have t9 : ((k : Int) + 8 + (n : Int)).toNat = k + 8 + n := by omega
            have y1 : IntKind.i64.wrap ((k : Int) + 8) = (k : Int) + 8 := IntWalk.i64_in _ (by omega)
            have y2 : IntKind.i64.wrap ((k : Int) + 8 + (n : Int)) = (k : Int) + 8 + (n : Int) := IntWalk.i64_in _ (by omega)
            have y3 : (k : Int) ≤ (k : Int) + 8 + (n : Int) := by omega
            have y4 : 0 ≤ (k : Int) + 8 + (n : Int) := by omega
            have y6 : k ≤ k + 8 + n := by omega
            by_cases hs : layL m = L2
            · have tB : (layL m == L2) = true := by simp [hs]
              have HQ := Lib.hid hs
              clear hs
              go_wp2_with fail
              refine region_free (fun w' => Below w6.heap.size w6 w') [] [] (List.range 11) (by kernel_rfl) (by kernel_rfl) (by kernel_rfl) (Below.refl _ _).drew ?_
              simp only [List.range, List.range.loop]
              repeat (first
                | (refine RelSeq.pure_ (c := ?_) rfl rfl ?_ ?_; rotate_left; (focus (intro x w'; dsimp only; go_simp; (repeat' apply And.intro) <;> first | with_reducible rfl | assumption)); simp only [Act.put, List.setIfInBounds_toArray, List.set_cons_zero, List.set_cons_succ])
                | (refine RelSeq.grow_ (c := ?_) rfl rfl ?_ ?_; rotate_left; (focus (intro x w' hw _; dsimp only; obtain ⟨d0, d1⟩ := F w' hw; have hbr := Below.refl w'.heap.size w'; go_simp; (repeat' apply And.intro) <;> first | with_reducible rfl | assumption)); simp only [Act.put, List.setIfInBounds_toArray, List.set_cons_zero, List.set_cons_succ]))
              refine RelSeq.nil_ fun x w7 hz7 _ _ => TailSeq.nil_ ?_
              have hx : takeL (l.drop k) = some m := by rw [HT.out, if_pos HQ.out]
              have HX := Lib.hid hx
              have hv7 := owns_below hv6 hz7
              have hps7 := hps6.below hz7
              have hB7 := hB6.trans (hz7.mono hB6.size)
              have hvin7 := hvin6.below hz7
              clear hv6 hps6 hB6 hvin6 hwin6 hvl hx fin hz7 F hb6
              go_wp2_with (at_builtin; refine wpl_stop fun W hW => ?_)
              refine Stopped.mk ?_
              have hBe : Blk W w7.heap.size #[] 5 := by rw [hW]; exact Blk.new _ _ _
              have hbW : Below w7.heap.size w7 W := by rw [hW]; exact (Below.refl _ _).alloc (Nat.le_refl _) _
              clear hW
              have hoe := owns_of_blk hBe (base := w.heap.size) hB7.size (by unfold maxLen; simp)
              refine wpl_append_rd rfl (.tmp 76) (.tmp 77) 23 rfl w.heap.size 5 i1 _ 1 1 Try.underlying23 hi1 hz3 hz4 hz5 rfl (by decide) _ 0 [] rfl hoe _ n (u8L m) rfl (hvin7.below hbW) (u8L_one _) (by unfold maxLen; omega) (by omega) (Nat.le_trans hB7.size hbW.size) fun v9 w9 hown9 hgr9 _ => ?_
              have hb9 : Below w7.heap.size w7 w9 := hbW.grown hgr9 hbW.size (fun q hq => Nat.le_of_eq (Option.some.inj hq))
              have hv9 := owns_below hv7 hb9
              have hps9 := hps7.below hb9
              have hB9 := hB7.trans (hb9.mono hB7.size)
              have hm9 : w9.ownsRow w.heap.size 5 1 v9 n (u8L m) := by
                have := hown9
                rw [Nat.zero_add, List.nil_append] at this
                exact this
              clear hv7 hps7 hB7 hvin7 hoe hBe hbW hgr9 hb9 hown9
              obtain ⟨A9, c9, rfl⟩ := owns_slice hm9
              go_wp2_with (at_builtin; refine wpl_stop fun W hW => ?_)
              refine Stopped.mk ?_
              have hBW : Blk W w9.heap.size #[.slice A9 n c9] 23 := by rw [hW]; exact Blk.new _ _ _
              have hbW : Below w9.heap.size w9 W := by rw [hW]; exact (Below.refl _ _).alloc (Nat.le_refl _) _
              clear hW
              have hvW := owns_below hv9 hbW
              have hsz := hB9.size
              have hnx : Rd W 1 (.slice (some ⟨w9.heap.size, 0, none⟩) 1 1) 1 [.slice A9 n c9] := ⟨_, _, rfl, rfl, Nat.le_refl _, by unfold maxLen; omega, fun _ => ⟨_, _, rfl, fun j u hj => by
                match j, hj with
                | 0, hj => simp at hj; subst hj; exact hBW.cell rfl
                | j + 1, hj => simp at hj⟩⟩
              refine wpl_append_rd rfl (.tmp 75) (.tmp 79) 22 rfl w.heap.size 23 i0 _ 1 24 Try.underlying22 hi hz0 hz1 hz2 rfl (by decide) _ ps.length _ rfl hvW _ 1 _ rfl hnx (by simp [Value.oneCell']) (by unfold maxLen; omega) (by omega) (Nat.le_trans hsz hbW.size) fun v3 w3 hown3 hgr3 _ => ?_
              have hps3 := ((hps9.below hbW).snoc (x := m) (by rw [hnn]; exact owns_below hm9 hbW)).grown hvW (by decide) hgr3
              have hB3 : Below w.heap.size w w3 := (hB9.trans (hbW.mono hB9.size)).grown hgr3 (Nat.le_trans hsz hbW.size) (fun q hq => (hvW.lt q hq).1)
              obtain ⟨A3, c3, rfl⟩ := owns_slice hown3
              clear hv9 hps9 hm9 hvW hnx hBW hbW hB9 hgr3
              go_wp2_with fail
              go_roundw
              case rel =>
                exact ⟨ps ++ [(.slice A9 n c9, m)], k + (m.length + 8), by omega, by rw [hnn]; go_num, by simpa using hown3, hps3, hB3, by rw [List.map_append]; exact scanL_snoc l _ k m HS.out HX.out, by rw [List.map_append, lenR_append, ← HK.out]; simp [lenR]⟩
              case measure => simp [intOf]; omega
            · have tB : (layL m == L2) = false := by simp [hs]
              have HQ := Lib.hid hs
              clear hs
              go_wp2_with fail
              refine region_free (fun w' => Below w6.heap.size w6 w') [] [] (List.range 11) (by kernel_rfl) (by kernel_rfl) (by kernel_rfl) (Below.refl _ _).drew ?_
              simp only [List.range, List.range.loop]
              repeat (first
                | (refine RelSeq.pure_ (c := ?_) rfl rfl ?_ ?_; rotate_left; (focus (intro x w'; dsimp only; go_simp; (repeat' apply And.intro) <;> first | with_reducible rfl | assumption)); simp only [Act.put, List.setIfInBounds_toArray, List.set_cons_zero, List.set_cons_succ])
                | (refine RelSeq.grow_ (c := ?_) rfl rfl ?_ ?_; rotate_left; (focus (intro x w' hw _; dsimp only; obtain ⟨d0, d1⟩ := F w' hw; have hbr := Below.refl w'.heap.size w'; go_simp; (repeat' apply And.intro) <;> first | with_reducible rfl | assumption)); simp only [Act.put, List.setIfInBounds_toArray, List.set_cons_zero, List.set_cons_succ]))
              refine RelSeq.nil_ fun x w7 hz7 _ _ => TailSeq.nil_ ?_
              have HF := Lib.hid (fin (by rw [HT.out, if_neg HQ.out]))
              have hv7 := owns_below hv6 hz7
              have hps7 := hps6.below hz7
              have hB7 := hB6.trans (hz7.mono hB6.size)
              clear hv6 hps6 hB6 hvin6 hwin6 hvl fin hz7 F hb6
              go_wp2_with fail
              go_ret2
              exact ⟨_, ps, by rw [← HF.out.2]; rfl, HF.out.1, hv7, hps7, hB7⟩
end Go.Proofs.Ytiblkkaneonajaa
