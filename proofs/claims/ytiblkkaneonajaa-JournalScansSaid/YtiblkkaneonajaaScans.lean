/-
  The walk of JournalScans.
-/
import Derived.Test.YtiblkkaneonajaaAwk
import Derived.Deep.AppendLies
namespace Go.Proofs.Ytiblkkaneonajaa
open Go.RowKit FreeNew
set_option maxRecDepth 100000
attribute [local go_sem] out

theorem Rd.take_ {w : World} {A : Option Addr} {n c m : Nat} {xs : List Value} (h : Rd w 1 (.slice A n c) n xs) (hm : m ≤ n) : Rd w 1 (.slice A m c) m (xs.take m) := by
  obtain ⟨A', c', he, h1, h2, h3, h4⟩ := h
  cases he
  refine ⟨_, _, rfl, by simp; omega, by omega, h3, fun h0 => ?_⟩
  obtain ⟨q, o, rfl, hr⟩ := h4 (by omega)
  refine ⟨q, o, rfl, fun j u hj => hr j u ?_⟩
  rw [List.getElem?_take] at hj
  split at hj
  · exact hj
  · cases hj
theorem u8L_take (l : List UInt8) (k : Nat) : (u8L l).take k = u8L (l.take k) := by simp [u8L, List.map_take]
set_option maxHeartbeats 8000000 in
theorem scansWalk (v0 v1 : Value) (ps : List (Value × List UInt8)) (raw : List UInt8) (cut at_ turn : Nat) (w : World) (h0 : Rd w 1 v0 ps.length (ps.map (·.1))) (hp : ∀ p ∈ ps, Rd w 1 p.1 p.2.length (u8L p.2)) (h1 : Rd w 1 v1 raw.length (u8L raw))
    (hcut : cut < 65536) (hat : at_ < 65536) (hturn : turn < 256) :
    Calls Try.prog 3 #[v0, v1, .int .u16 cut, .int .u16 at_, .int .u8 turn] w fun e w' => e = .returned (.bool true) ∧ Below w.heap.size w w' := by
  have h0' := h0
  have h1' := h1
  obtain ⟨A0, c0, rfl, r1, r2, r3, r4⟩ := h0
  obtain ⟨A1, c1, rfl, s1, s2, s3, s4⟩ := h1
  obtain ⟨i1, hi1, hz3, hz4, hz5⟩ := info_parts infoByte
  unfold maxLen at r3 s3
  go_enter Try.func3, Try.ntmps3
  go_wp2_with fail
  (with_reducible refine (jAwake w).mono ?_)
  rintro e w1 ⟨rfl, hb1⟩
  by_cases hl20 : 20 < ps.length
  · go_wp2_with fail
    go_ret
    exact ⟨rfl, hb1⟩
  by_cases hl200 : 200 < raw.length
  · go_wp2_with fail
    go_ret
    exact ⟨rfl, hb1⟩
  go_wp2_with fail
  (with_reducible refine (crcNew w1).mono ?_)
  rintro e w2 ⟨rfl, hT2, hb2⟩
  have hbe2 : Below w.heap.size w w2 := hb1.trans (hb2.mono hb1.size)
  have htb : w.heap.size ≤ w1.heap.size := hb1.size
  generalize w1.heap.size = tb at hT2 htb hb2 ⊢
  clear hb1 hb2
  go_wp2_with fail
  go_loopw [12, 41] (fun v i wr => ∃ (k : Nat) (acc : List UInt8), k ≤ ps.length ∧ i = .int .i64 k ∧ wr.ownsRow w.heap.size 5 1 v acc.length (u8L acc) ∧ acc.length ≤ 108 * k ∧ TabOk wr tb ∧ Below w.heap.size w wr) (fun _ i _ => ps.length - (intOf i).toNat)
  case atStart => exact ⟨0, [], Nat.zero_le _, rfl, World.ownsRow_nil _ _ _ _, Nat.le_refl _, hT2, hbe2⟩
  case round =>
    obtain ⟨k, acc, hk, rfl, hv, hal, hT, hB⟩ := hrel
    obtain ⟨A12, c12, rfl⟩ := owns_slice hv
    clear hT2 hbe2
    by_cases hlt : k < ps.length
    · obtain ⟨x, hpk⟩ : ∃ p, ps[k]? = some p := ⟨_, List.getElem?_eq_getElem hlt⟩
      have hmem := List.mem_of_getElem? hpk
      obtain ⟨q, o, rfl, hr⟩ := r4 (by omega)
      have hx0 := (hp x hmem).below hB
      have cx : wr.cell? ⟨q, o + k, none⟩ = some x.1 := RdAt.nth0 hr hB k _ (by simp [hpk])
      obtain ⟨vx, lx⟩ := x
      simp only at hx0 cx
      have hx1 := hx0
      obtain ⟨Ax, cc, rfl, q1, q2, q3, q4⟩ := hx0
      clear r4 hr hp hpk hmem q4 q1
      unfold maxLen at q3
      by_cases h100 : 100 < lx.length
      · go_wp2_with fail
        go_ret
        exact ⟨rfl, hB⟩
      · go_wp2_with fail
        (with_reducible refine (jLay tb _ lx wr hT hx1 (by omega)).mono ?_)
        rintro e w3 ⟨vy, rfl, hy3, hT3, hB3⟩
        have hv3 := owns_but hv hT hB3 (by decide)
        have hx3 := hx1.but8 hT hB3
        have hbe3 := hB3.below hB (Nat.le_refl _) htb
        have hlen : (layL lx).length = lx.length + 8 := by simp [layL, four] <;> omega
        rw [hlen] at hy3
        have hx3' := rd_of_owns hy3
        obtain ⟨Ay, cy, rfl⟩ := owns_slice hy3
        clear hv hT hB hx1 hB3 hy3
        have F : ∀ w', Below w3.heap.size w3 w' → (convert 23 9 (.slice Ay (lx.length + 8) cy)).run Try.prog w' = .ok (.string ⟨(layL lx).toArray⟩) w' := fun w' h => conv8 (hx3'.below h)
        go_wp2_with fail
        refine region_free (fun w' => Below w3.heap.size w3 w') [6] [] (List.range 10) (by kernel_rfl) (by kernel_rfl) (by kernel_rfl) (Below.refl _ _).drew ?_
        simp only [List.range, List.range.loop]
        repeat (first
          | (refine RelSeq.pure_ (c := ?_) rfl rfl ?_ ?_; rotate_left; (focus (intro x w'; dsimp only; go_simp; (repeat' apply And.intro) <;> first | with_reducible rfl | assumption)); simp only [Act.put, List.setIfInBounds_toArray, List.set_cons_zero, List.set_cons_succ])
          | (refine RelSeq.skip_ rfl (fun _ => rfl) ?_; simp only [Act.put, List.setIfInBounds_toArray, List.set_cons_zero, List.set_cons_succ])
          | (refine RelSeq.pureG_ (c := ?_) rfl (fun _ => rfl) rfl ?_ ?_; rotate_left; (focus (intro x w'; dsimp only; go_simp; (repeat' apply And.intro) <;> first | with_reducible rfl | assumption)); simp only [Act.put, List.setIfInBounds_toArray, List.set_cons_zero, List.set_cons_succ])
          | (refine RelSeq.grow_ (c := ?_) rfl rfl ?_ ?_; rotate_left; (focus (intro x w' hw _; dsimp only; obtain d0 := F w' hw; have hbr := Below.refl w'.heap.size w'; go_simp; (repeat' apply And.intro) <;> first | with_reducible rfl | assumption)); simp only [Act.put, List.setIfInBounds_toArray, List.set_cons_zero, List.set_cons_succ])
          | (refine RelSeq.growG_ (c := ?_) rfl (fun _ => rfl) rfl ?_ ?_; rotate_left; (focus (intro x w' hw _; dsimp only; obtain d0 := F w' hw; have hbr := Below.refl w'.heap.size w'; go_simp; (repeat' apply And.intro) <;> first | with_reducible rfl | assumption)); simp only [Act.put, List.setIfInBounds_toArray, List.set_cons_zero, List.set_cons_succ]))
        refine RelSeq.relG_ (fun v u => ∃ A c, v = .slice A (lx.length + 8) c ∧ Rd u 1 v (lx.length + 8) (u8L (layL lx))) rfl (fun _ => rfl) rfl (fun v u u' h hb => let ⟨A, c, h1, h2⟩ := h; ⟨A, c, h1, h2.below hb⟩) ?_ ?_
        focus
          intro x w' hw _; dsimp only
          have hx9 := hx3.below hw
          go_simp
          (with_reducible refine (refLay _ lx w' hx9 (by omega)).mono ?_)
          rintro e w9 ⟨v9, rfl, hv9, hb9⟩
          rw [hlen] at hv9
          have hr9 := rd_of_owns hv9
          obtain ⟨A9, c9, rfl⟩ := owns_slice hv9
          have hw9 := hw.trans (hb9.mono hw.size)
          have hR : ∃ A c, Value.slice A9 (lx.length + 8) c9 = .slice A (lx.length + 8) c ∧ Rd w9 1 (.slice A9 (lx.length + 8) c9) (lx.length + 8) (u8L (layL lx)) := ⟨_, _, rfl, hr9⟩
          clear hv9
          go_simp
          all_goals ((repeat' apply And.intro) <;> first | assumption | exact ⟨_, _, rfl, hr9⟩ | with_reducible rfl | decide)
        simp only [Act.put, List.setIfInBounds_toArray, List.set_cons_zero, List.set_cons_succ, List.nil_append]
        refine RelSeq.growG_ (c := .string ⟨(layL lx).toArray⟩) rfl (fun _ => rfl) rfl ?_ ?_
        focus
          intro x w' hw hf; dsimp only
          obtain ⟨A9, c9, e9, h9⟩ := hf _ (.head _) (by kernel_rfl)
          rw [e9] at h9
          have d9 := conv8 h9
          have hbr := Below.refl w'.heap.size w'
          clear h9
          go_simp
          all_goals ((repeat' apply And.intro) <;> first | assumption | with_reducible rfl)
        simp only [Act.put, List.setIfInBounds_toArray, List.set_cons_zero, List.set_cons_succ]
        repeat (first
          | (refine RelSeq.pure_ (c := ?_) rfl rfl ?_ ?_; rotate_left; (focus (intro x w'; dsimp only; go_simp; (repeat' apply And.intro) <;> first | with_reducible rfl | assumption)); simp only [Act.put, List.setIfInBounds_toArray, List.set_cons_zero, List.set_cons_succ])
          | (refine RelSeq.skip_ rfl (fun _ => rfl) ?_; simp only [Act.put, List.setIfInBounds_toArray, List.set_cons_zero, List.set_cons_succ])
          | (refine RelSeq.pureG_ (c := ?_) rfl (fun _ => rfl) rfl ?_ ?_; rotate_left; (focus (intro x w'; dsimp only; go_simp; (repeat' apply And.intro) <;> first | with_reducible rfl | assumption)); simp only [Act.put, List.setIfInBounds_toArray, List.set_cons_zero, List.set_cons_succ])
          | (refine RelSeq.grow_ (c := ?_) rfl rfl ?_ ?_; rotate_left; (focus (intro x w' hw _; dsimp only; obtain d0 := F w' hw; have hbr := Below.refl w'.heap.size w'; go_simp; (repeat' apply And.intro) <;> first | with_reducible rfl | assumption)); simp only [Act.put, List.setIfInBounds_toArray, List.set_cons_zero, List.set_cons_succ])
          | (refine RelSeq.growG_ (c := ?_) rfl (fun _ => rfl) rfl ?_ ?_; rotate_left; (focus (intro x w' hw _; dsimp only; obtain d0 := F w' hw; have hbr := Below.refl w'.heap.size w'; go_simp; (repeat' apply And.intro) <;> first | with_reducible rfl | assumption)); simp only [Act.put, List.setIfInBounds_toArray, List.set_cons_zero, List.set_cons_succ]))
        refine RelSeq.nil_ fun z w5 hz5 _ _ => TailSeq.nil_ ?_
        have hv5 := owns_below hv3 hz5
        have hT5 := hT3.below hz5
        have hbe5 := hbe3.trans (hz5.mono hbe3.size)
        have hy5 := hx3'.below hz5
        clear hv3 hT3 hbe3 hz5 hx3' hx3 F
        go_wp2_with (at_builtin; refine wpl_stop fun W hW => ?_)
        refine Stopped.mk ?_
        subst hW
        refine wpl_append_rd rfl (.tmp 64) (.tmp 65) 23 rfl w.heap.size 5 i1 _ 1 1 Try.underlying23 hi1 hz3 hz4 hz5 rfl (by decide) _ acc.length _ rfl hv5 _ (lx.length + 8) _ rfl hy5 (u8L_one _) (by unfold maxLen; omega) (by omega) hbe5.size fun v6 w6 hown6 hgr6 _ => ?_
        have hT6 := hT5.grown hv5 hgr6 (by decide)
        have hbe6 : Below w.heap.size w w6 := hbe5.grown hgr6 hbe5.size (fun q hq => (hv5.lt q hq).1)
        have hown6 : w6.ownsRow w.heap.size 5 1 v6 (acc ++ layL lx).length (u8L (acc ++ layL lx)) := by
          have e : (acc ++ layL lx).length = acc.length + (lx.length + 8) := by simp [hlen]
          rw [e]
          simpa [u8L] using hown6
        have hacc : (acc ++ layL lx).length ≤ 108 * (k + 1) := by simp only [List.length_append, hlen]; omega
        obtain ⟨acc6, ea⟩ : ∃ a, a = acc ++ layL lx := ⟨_, rfl⟩
        rw [← ea] at hown6 hacc
        clear hv5 hT5 hbe5 hgr6 hy5 hlen ea
        obtain ⟨A6, c6, rfl⟩ := owns_slice hown6
        go_wp2_with fail
        go_roundw
        case rel => exact ⟨k + 1, acc6, by omega, by go_num, hown6, hacc, hT6, hbe6⟩
        case measure => simp [intOf]; omega
    · have hA : acc.length ≤ 2160 := by omega
      clear r4 hp
      go_wp2_with (at_builtin; refine wpl_stop fun W hW => ?_)
      refine Stopped.mk ?_
      have hBe : Blk W wr.heap.size #[] 5 := by rw [hW]; exact Blk.new _ _ _
      have hbW : Below wr.heap.size wr W := by rw [hW]; exact (Below.refl _ _).alloc (Nat.le_refl _) _
      clear hW
      have hoe := owns_of_blk hBe (base := wr.heap.size) (Nat.le_refl _) (by unfold maxLen; simp)
      refine wpl_append_rd rfl (.tmp 68) (.tmp 69) 23 rfl wr.heap.size 5 i1 _ 1 1 Try.underlying23 hi1 hz3 hz4 hz5 rfl (by decide) _ 0 [] rfl hoe _ acc.length (u8L acc) rfl (rd_of_owns (owns_below hv hbW)) (u8L_one _) (by unfold maxLen; omega) (by omega) hbW.size fun v17 w17 hown17 hgr17 _ => ?_
      have hb17 : Below wr.heap.size wr w17 := hbW.grown hgr17 hbW.size (fun q hq => Nat.le_of_eq (Option.some.inj hq))
      have hv17 := owns_below hv hb17
      have hT17 := hT.below hb17
      have hbe17 := hB.trans (hb17.mono hB.size)
      rw [Nat.zero_add, List.nil_append] at hown17
      have hg12 : ∀ g, (Value.slice A12 acc.length c12).ownBlock = some g → g < wr.heap.size := fun g hg => (hv.lt g hg).2
      have hwB := hB.size
      clear hv hT hB hoe hBe hbW hgr17 hb17
      obtain ⟨A17, c17, rfl⟩ := owns_slice hown17
      obtain ⟨m, hm⟩ : ∃ m, m = cut % (acc.length + 1) := ⟨_, rfl⟩
      have em : (cut : Int).tmod ((acc.length : Int) + 1) = (m : Int) := by rw [hm]; rfl
      have hml : m ≤ acc.length := by rw [hm]; have := Nat.mod_lt cut (show 0 < acc.length + 1 by omega); omega
      clear hm
      have hcl : acc.length ≤ c12 ∧ c12 ≤ maxLen := by
        obtain ⟨A, c, he, _, h2, h3, _⟩ := rd_of_owns hv17
        cases he
        exact ⟨h2, h3⟩
      obtain ⟨hcl, hcm⟩ := hcl
      unfold maxLen at hcm
      have hmc : m ≤ c12 := by omega
      by_cases hz : acc.length = 0
      · obtain rfl : acc = [] := List.eq_nil_of_length_eq_zero hz
        obtain rfl : m = 0 := by simpa using hml
        obtain ⟨acc', ha', hvX⟩ : ∃ acc' : List UInt8, acc'.length = 0 ∧ w17.ownsRow w.heap.size 5 1 (.slice A12 0 c12) 0 (u8L acc') := ⟨[], rfl, hv17⟩
        obtain ⟨wX, hwX⟩ : ∃ wX, wX = w17 := ⟨_, rfl⟩
        have HsX := Lib.hid (show wX.heap.size = w17.heap.size by rw [hwX])
        have hTX := hT17
        have hbeX := hbe17
        have h17X : w17.ownsRow wr.heap.size 5 1 (.slice A17 0 c17) 0 (u8L []) := hown17
        rw [← hwX] at hTX hbeX h17X hvX
        go_wp2_with (at_builtin; refine wpl_stop fun W hW => ?_)
        refine Stopped.mk ?_
        subst hW
        refine wpl_gen fun W hW => ?_
        rw [← hwX] at hW
        clear hv17 hT17 hbe17 hown17 hg12 hwX
        have hBe : Blk W w17.heap.size #[] 5 := by rw [hW, ← HsX.out]; exact Blk.new _ _ _
        have hbW : Below wX.heap.size wX W := by rw [hW]; exact (Below.refl _ _).alloc (Nat.le_refl _) _
        clear hW
        have hoe := owns_of_blk hBe (base := wX.heap.size) (Nat.le_of_eq HsX.out) (by unfold maxLen; simp)
        refine wpl_append_rd rfl (.tmp 97) (.tmp 98) 23 rfl wX.heap.size 5 i1 _ 1 1 Try.underlying23 hi1 hz3 hz4 hz5 rfl (by decide) _ 0 [] rfl hoe _ 0 (u8L ([] : List UInt8)) rfl (rd_of_owns (owns_below h17X hbW)) (u8L_one _) (by unfold maxLen; omega) (by omega) hbW.size fun v9 w9 hown9 hgr9 _ => ?_
        have hb9 : Below wX.heap.size wX w9 := hbW.grown hgr9 hbW.size (fun q hq => Nat.le_of_eq (HsX.out.trans (Option.some.inj hq)))
        rw [Nat.zero_add, List.nil_append] at hown9
        clear hoe hBe hbW hgr9
        obtain ⟨A9, c9, rfl⟩ := owns_slice hown9
        go_wp2_with (at_builtin; refine wpl_stop fun W hW => ?_)
        refine Stopped.mk ?_
        subst hW
        refine wpl_append_rd rfl (.tmp 99) (.tmp 100) 23 rfl wX.heap.size 5 i1 _ 1 1 Try.underlying23 hi1 hz3 hz4 hz5 rfl (by decide) _ 0 _ rfl hown9 _ raw.length (u8L raw) rfl (h1'.below (hbeX.trans (hb9.mono hbeX.size))) (u8L_one _) (by unfold maxLen; omega) (by omega) hb9.size fun v10 w10 hown10 hgr10 _ => ?_
        have hb10 : Below wX.heap.size wX w10 := hb9.grown hgr10 hb9.size (fun q hq => (hown9.lt q hq).1)
        obtain ⟨L5, hL5, hL5'⟩ : ∃ L5 : List UInt8, L5.length = 0 + raw.length ∧ w10.ownsRow wX.heap.size 5 1 v10 L5.length (u8L L5) := by
          have e : (([] : List UInt8) ++ raw).length = 0 + raw.length := by simp
          exact ⟨([] : List UInt8) ++ raw, e, by rw [e]; simpa [u8L] using hown10⟩
        have hl5 : L5.length ≤ 3000 := by omega
        clear hown9 hb9 hgr10 hown10 hL5
        obtain ⟨A10, c10, rfl⟩ := owns_slice hL5'
        go_wp2_with fail
        refine wp_gen fun w5 hw5 => ?_
        have hb5 : Below wX.heap.size wX w5 := by rw [hw5]; exact hb10.alloc hb10.size _
        have hb5' : Below w10.heap.size w10 w5 := by rw [hw5]; exact (Below.refl _ _).alloc (Nat.le_refl _) _
        obtain ⟨qs, hqn, hqs, hall⟩ : ∃ qs : List (Value × List UInt8), qs.length = 5 ∧ Rd w5 1 (.slice (some ⟨w10.heap.size, 0, none⟩) 5 5) 5 (qs.map (·.1)) ∧ ∀ p ∈ qs, Rd w5 1 p.1 p.2.length (u8L p.2) ∧ p.2.length ≤ 5000 := by
          have hB5 : Blk w5 w10.heap.size #[.slice A17 0 c17, .slice A12 0 c12, .slice A12 0 c12, .slice A1 raw.length c1, .slice A10 L5.length c10] 23 := by rw [hw5]; exact Blk.new _ _ _
          refine ⟨[(.slice A17 0 c17, ([] : List UInt8)), (.slice A12 0 c12, acc'.take 0), (.slice A12 0 c12, acc'), (.slice A1 raw.length c1, raw), (.slice A10 L5.length c10, L5)], rfl, ⟨_, _, rfl, rfl, Nat.le_refl _, by unfold maxLen; omega, fun _ => ⟨_, _, rfl, fun j u hj => ?_⟩⟩, ?_⟩
          · rw [Nat.zero_add]
            refine hB5.cell ?_
            rw [← hj]
            match j with
            | 0 => rfl
            | 1 => rfl
            | 2 => rfl
            | 3 => rfl
            | 4 => rfl
            | j + 5 => rfl
          · have g1 := rd_of_owns (owns_below h17X hb5)
            have g3 := rd_of_owns (owns_below hvX hb5)
            have g4 := h1'.below (hbeX.trans (hb5.mono hbeX.size))
            have g5 := rd_of_owns (owns_below hL5' hb5')
            have g2 := g3.take_ (m := 0) (by omega)
            intro p hp
            simp only [List.mem_cons, List.mem_nil_iff, or_false] at hp
            rcases hp with rfl | rfl | rfl | rfl | rfl
            · exact ⟨g1, by first | (dsimp only; omega) | (simp; done) | omega⟩
            · have e : (acc'.take 0).length = 0 := by simp <;> omega
              simp only [e]
              rw [u8L_take] at g2
              exact ⟨g2, by first | (dsimp only; omega) | (simp; done) | omega⟩
            · simp only [ha']
              exact ⟨g3, by first | (dsimp only; omega) | (simp; done) | omega⟩
            · exact ⟨g4, by first | (dsimp only; omega) | (simp; done) | omega⟩
            · exact ⟨g5, by first | (dsimp only; omega) | (simp; done) | omega⟩
        have hT5 := hTX.below hb5
        have hbe5 := hbeX.trans (hb5.mono hbeX.size)
        generalize w10.heap.size = n10 at hqs ⊢
        clear hw5 hb5 hb5' hTX hbeX h17X hvX hL5' hb10
        go_loopw [104] (fun i wr => ∃ k : Nat, k ≤ 5 ∧ i = .int .i64 k ∧ TabOk wr tb ∧ But tb w5 wr) (fun i _ => 5 - (intOf i).toNat)
        case atStart => exact ⟨0, Nat.zero_le _, rfl, hT5, But.refl _ _⟩
        case round =>
          obtain ⟨j, hj, rfl, hTr, hBr⟩ := hrel
          by_cases hj5 : j < 5
          · obtain ⟨p, hpj⟩ : ∃ p, qs[j]? = some p := ⟨_, List.getElem?_eq_getElem (by omega)⟩
            obtain ⟨hp1, hp2⟩ := hall p (List.mem_of_getElem? hpj)
            have hrd := hp1.but8 hT5 hBr
            obtain ⟨vp, L⟩ := p
            simp only at hp1 hp2 hrd
            obtain ⟨Ap, cp, rfl, _, _, _, _⟩ := hp1
            have hcx : ∀ ww, But tb w5 ww → ww.cell? ⟨n10, j, none⟩ = some (Value.slice Ap L.length cp) := by
              intro ww hBr
              obtain ⟨_, _, he, _, _, _, h4⟩ := hqs
              cases he
              obtain ⟨_, _, he, h4⟩ := h4 (by omega)
              cases he
              have c0 := h4 j (.slice Ap L.length cp) (by simp [hpj])
              have hne := hT5.far c0 (fun n => by simp)
              rw [Nat.zero_add] at c0
              rw [World.cell?_of_block (w := w5) (hBr.block n10 (World.block_lt_of_cell? w5 _ c0) hne)]
              exact c0
            have cx := hcx _ hBr
            clear hall hqs hpj hqn hcx
            go_wp2_with fail
            (with_reducible refine (jScan tb _ L _ hTr hrd (by omega)).mono ?_)
            rintro e w6 ⟨vg, pg, rfl, eg, hvg, hpg, hT6, hB6⟩
            have hB6' := hBr.trans hB6
            have hrd6 := hrd.but8 hTr hB6
            obtain ⟨Ag, cg, rfl⟩ := owns_slice hvg
            have HG := Lib.hid eg
            clear eg cx hrd hTr hBr hB6
            go_wp2_with fail
            (with_reducible refine (refScan _ L w6 hrd6 (by omega)).mono ?_)
            rintro e w7 ⟨vw, pw, rfl, ew, hvw, hpw, hb7⟩
            obtain ⟨Aw, cw, rfl⟩ := owns_slice hvw
            have HW := Lib.hid ew
            have hT7 := hT6.below hb7
            have hB7 := hB6'.trans (But.of_below hb7)
            have hrd7 := hrd6.below hb7
            have hvg7 := owns_below hvg hb7
            have hpg7 := hpg.below hb7
            clear ew hrd6 hvg hpg hT6 hB6' hb7
            cases hx : takeL L with
            | none =>
              have hs := scanL_none hx
              obtain rfl : pg = [] := by
                have := HG.out
                rw [hs] at this
                simpa using this
              obtain rfl : pw = [] := by
                have := HW.out
                rw [hs] at this
                simpa using this
              have hC := jTakeNone tb _ L w7 hT7 hrd7 hx
              clear hx hs
              have hr1 := rd_of_owns hvg7
              have hr2 := rd_of_owns hvw
              clear hvg7 hvw hpg7 hpw
              go_wp2_with fail
              (with_reducible refine hC.mono ?_)
              rintro e w8 ⟨rfl, hT8, hB8⟩
              have hB8' := hB7.trans hB8
              have hsame : ∀ w', Below w8.heap.size w8 w' → Calls Try.prog 14 #[.slice Ag 0 cg, .slice Aw 0 cw] w' fun e w'' => e = .returned (.bool true) ∧ Below w'.heap.size w' w'' := fun w' hw =>
                sameRecs _ _ [] [] w' ((Rd.but hr1 hT7 hB8 (by simp)).below hw) ((Rd.but hr2 hT7 hB8 (by simp)).below hw) (by simp) (by simp)
              have HSM := Lib.hid hsame
              clear hsame hr1 hr2 hC hrd7 hB8 hT7 hB7
              go_wp2_with fail
              refine region_free (fun w' => Below w8.heap.size w8 w') [] [] (List.range 48) (by kernel_rfl) (by kernel_rfl) (by kernel_rfl) (Below.refl _ _).drew ?_
              simp only [List.range, List.range.loop]
              repeat (first
                | (refine RelSeq.pure_ (c := ?_) rfl rfl ?_ ?_; rotate_left; (focus (intro x w'; dsimp only; go_simp; (repeat' apply And.intro) <;> first | with_reducible rfl | assumption)); simp only [Act.put, List.setIfInBounds_toArray, List.set_cons_zero, List.set_cons_succ])
                | (refine RelSeq.skip_ rfl (fun _ => rfl) ?_; simp only [Act.put, List.setIfInBounds_toArray, List.set_cons_zero, List.set_cons_succ])
                | (refine RelSeq.pureG_ (c := ?_) rfl (fun _ => rfl) rfl ?_ ?_; rotate_left; (focus (intro x w'; dsimp only; go_simp; (repeat' apply And.intro) <;> first | with_reducible rfl | assumption)); simp only [Act.put, List.setIfInBounds_toArray, List.set_cons_zero, List.set_cons_succ])
                | (refine RelSeq.grow_ (c := ?_) rfl rfl ?_ ?_; rotate_left; (focus (intro x w' hw _; dsimp only; have hbr := Below.refl w'.heap.size w'; go_simp; (repeat' apply And.intro) <;> first | with_reducible rfl | assumption)); simp only [Act.put, List.setIfInBounds_toArray, List.set_cons_zero, List.set_cons_succ])
                | (refine RelSeq.growG_ (c := ?_) rfl (fun _ => rfl) rfl ?_ ?_; rotate_left; (focus (intro x w' hw _; dsimp only; have hbr := Below.refl w'.heap.size w'; go_simp; (repeat' apply And.intro) <;> first | with_reducible rfl | assumption)); simp only [Act.put, List.setIfInBounds_toArray, List.set_cons_zero, List.set_cons_succ]))
              refine RelSeq.growG_ (c := .bool true) rfl (fun _ => rfl) rfl ?_ ?_
              focus
                intro x w' hw _; dsimp only
                have hS := HSM.out w' hw
                go_simp
                (with_reducible refine hS.mono ?_)
                rintro e w9 ⟨rfl, hb9⟩
                have hw9 := hw.trans (hb9.mono hw.size)
                go_simp
                all_goals ((repeat' apply And.intro) <;> first | assumption | with_reducible rfl)
              simp only [Act.put, List.setIfInBounds_toArray, List.set_cons_zero, List.set_cons_succ]
              repeat (first
                | (refine RelSeq.pure_ (c := ?_) rfl rfl ?_ ?_; rotate_left; (focus (intro x w'; dsimp only; go_simp; (repeat' apply And.intro) <;> first | with_reducible rfl | assumption)); simp only [Act.put, List.setIfInBounds_toArray, List.set_cons_zero, List.set_cons_succ])
                | (refine RelSeq.skip_ rfl (fun _ => rfl) ?_; simp only [Act.put, List.setIfInBounds_toArray, List.set_cons_zero, List.set_cons_succ])
                | (refine RelSeq.pureG_ (c := ?_) rfl (fun _ => rfl) rfl ?_ ?_; rotate_left; (focus (intro x w'; dsimp only; go_simp; (repeat' apply And.intro) <;> first | with_reducible rfl | assumption)); simp only [Act.put, List.setIfInBounds_toArray, List.set_cons_zero, List.set_cons_succ])
                | (refine RelSeq.grow_ (c := ?_) rfl rfl ?_ ?_; rotate_left; (focus (intro x w' hw _; dsimp only; have hbr := Below.refl w'.heap.size w'; go_simp; (repeat' apply And.intro) <;> first | with_reducible rfl | assumption)); simp only [Act.put, List.setIfInBounds_toArray, List.set_cons_zero, List.set_cons_succ])
                | (refine RelSeq.growG_ (c := ?_) rfl (fun _ => rfl) rfl ?_ ?_; rotate_left; (focus (intro x w' hw _; dsimp only; have hbr := Below.refl w'.heap.size w'; go_simp; (repeat' apply And.intro) <;> first | with_reducible rfl | assumption)); simp only [Act.put, List.setIfInBounds_toArray, List.set_cons_zero, List.set_cons_succ]))
              refine RelSeq.nil_ fun z w10 hz _ _ => TailSeq.nil_ ?_
              have hT10 := hT8.below hz
              have hB10 := hB8'.trans (But.of_below hz)
              clear hT8 hB8' hz
              go_wp2_with fail
              go_roundw
              case rel => exact ⟨j + 1, by omega, by go_num, hT10, hB10⟩
              case measure => simp [intOf]; omega
            | some y =>
              have hs := scanL_some hx
              have hyl := takeL_len hx
              obtain ⟨p0, pg, rfl⟩ : ∃ p0 pg', pg = p0 :: pg' := by
                cases pg with
                | nil => have := HG.out; rw [hs] at this; cases this
                | cons p0 pg' => exact ⟨_, _, rfl⟩
              obtain ⟨q0, pw, rfl⟩ : ∃ p0 pg', pw = p0 :: pg' := by
                cases pw with
                | nil => have := HW.out; rw [hs] at this; cases this
                | cons p0 pg' => exact ⟨_, _, rfl⟩
              have hq0 : q0.2 = y := by
                have := HW.out
                rw [hs] at this
                injection this
              have hC := jTakeSome tb _ L y w7 hT7 hrd7 hx
              clear hx hs
              have hr1 := rd_of_owns hvg7
              have hr2 := rd_of_owns hvw
              obtain ⟨gw, cw', hgv, hgb, hglt⟩ := hvw.form (by simp)
              injection hgv with hgv _ hcw'
              subst hgv
              subst hcw'
              have hq0r := rd_of_owns (hpw q0 (.head _))
              have cq0 : w7.cell? ⟨gw, 0, none⟩ = some q0.1 := by
                obtain ⟨_, _, he, _, _, _, h4⟩ := hr2
                cases he
                obtain ⟨_, _, he, h4⟩ := h4 (by simp)
                cases he
                exact h4 0 _ rfl
              have e1 : (p0 :: pg).length = pg.length + 1 := rfl
              have e2 : (q0 :: pw).length = pw.length + 1 := rfl
              rw [e1] at hr1
              rw [e2] at hr2
              have hQ1 : ∀ p ∈ p0 :: pg, Rd w7 1 p.1 p.2.length (u8L p.2) := fun p hp => rd_of_owns (hpg7 p hp)
              have hQ2 : ∀ p ∈ q0 :: pw, Rd w7 1 p.1 p.2.length (u8L p.2) := fun p hp => rd_of_owns (hpw p hp)
              clear hvg7 hvw hpg7 hpw e1 e2
              obtain ⟨vq, yy⟩ := q0
              simp only at hq0 hq0r cq0
              subst hq0
              go_wp2_with fail
              (with_reducible refine hC.mono ?_)
              rintro e w8 ⟨v8, rfl, hv8, hT8, hB8⟩
              have hB8' := hB7.trans hB8
              have hr8 := rd_of_owns hv8
              obtain ⟨A8, c8, rfl⟩ := owns_slice hv8
              have no : ∀ (p : List (Value × List UInt8)), (∀ r ∈ p, Rd w7 1 r.1 r.2.length (u8L r.2)) → ∀ u ∈ p.map (·.1), ∀ n, u ≠ .int .u32 n ∧ u ≠ .int .i32 n ∧ u ≠ .int .u64 n := by
                intro p hp u hu n
                obtain ⟨r, hr, rfl⟩ := List.mem_map.1 hu
                obtain ⟨_, _, he, _⟩ := hp r hr
                rw [he]
                simp
              have hsame : ∀ w', Below w8.heap.size w8 w' → Calls Try.prog 14 #[.slice Ag (pg.length + 1) cg, .slice (some ⟨gw, 0, none⟩) (pw.length + 1) cw] w' fun e w'' => e = .returned (.bool true) ∧ Below w'.heap.size w' w'' := fun w' hw => by
                have := sameRecs _ _ (p0 :: pg) ((vq, yy) :: pw) w' ((Rd.but hr1 hT7 hB8 (no _ hQ1)).below hw) ((Rd.but hr2 hT7 hB8 (no _ hQ2)).below hw) (fun p hp => ((hQ1 p hp).but8 hT7 hB8).below hw) (fun p hp => ((hQ2 p hp).but8 hT7 hB8).below hw)
                have e : sameL ((p0 :: pg).map (·.2)) (((vq, yy) :: pw).map (·.2)) = true := by rw [HG.out, HW.out]; exact decide_eq_true rfl
                rw [e] at this
                exact this
              have HSM := Lib.hid hsame
              have hqr8 := hq0r.but8 hT7 hB8
              have cq8 : w8.cell? ⟨gw, 0, none⟩ = some vq := by
                have hne := hT7.far cq0 (fun n => by obtain ⟨_, _, he, _⟩ := hq0r; rw [he]; simp)
                rw [World.cell?_of_block (w := w7) (hB8.block gw (World.block_lt_of_cell? w7 _ cq0) hne)]
                exact cq0
              have F : ∀ w', Below w8.heap.size w8 w' → w'.cell? ⟨gw, 0, none⟩ = some vq ∧ (convert 23 9 vq).run Try.prog w' = .ok (.string ⟨yy.toArray⟩) w' ∧ (convert 23 9 (.slice A8 yy.length c8)).run Try.prog w' = .ok (.string ⟨yy.toArray⟩) w' := fun w' h =>
                ⟨(h.cell (World.block_lt_of_cell? w8 _ cq8)).trans cq8, conv8 (hqr8.below h), conv8 (hr8.below h)⟩
              have wy : IntKind.i64.wrap ((yy.length : Int) + 8) = (yy.length : Int) + 8 := IntWalk.i64_in _ (by omega)
              clear hsame hr1 hr2 hC hrd7 hB8 hT7 hB7 hr8 hv8 hQ1 hQ2 hqr8 cq8 cq0 hq0r no
              go_wp2_with fail
              refine region_free (fun w' => Below w8.heap.size w8 w') [] [] (List.range 48) (by kernel_rfl) (by kernel_rfl) (by kernel_rfl) (Below.refl _ _).drew ?_
              simp only [List.range, List.range.loop]
              repeat (first
                | (refine RelSeq.pure_ (c := ?_) rfl rfl ?_ ?_; rotate_left; (focus (intro x w'; dsimp only; go_simp; (repeat' apply And.intro) <;> first | with_reducible rfl | assumption)); simp only [Act.put, List.setIfInBounds_toArray, List.set_cons_zero, List.set_cons_succ])
                | (refine RelSeq.skip_ rfl (fun _ => rfl) ?_; simp only [Act.put, List.setIfInBounds_toArray, List.set_cons_zero, List.set_cons_succ])
                | (refine RelSeq.pureG_ (c := ?_) rfl (fun _ => rfl) rfl ?_ ?_; rotate_left; (focus (intro x w'; dsimp only; go_simp; (repeat' apply And.intro) <;> first | with_reducible rfl | assumption)); simp only [Act.put, List.setIfInBounds_toArray, List.set_cons_zero, List.set_cons_succ])
                | (refine RelSeq.grow_ (c := ?_) rfl rfl ?_ ?_; rotate_left; (focus (intro x w' hw _; dsimp only; obtain ⟨d0, d1, d2⟩ := F w' hw; have hbr := Below.refl w'.heap.size w'; go_simp; (repeat' apply And.intro) <;> first | with_reducible rfl | assumption)); simp only [Act.put, List.setIfInBounds_toArray, List.set_cons_zero, List.set_cons_succ])
                | (refine RelSeq.growG_ (c := ?_) rfl (fun _ => rfl) rfl ?_ ?_; rotate_left; (focus (intro x w' hw _; dsimp only; obtain ⟨d0, d1, d2⟩ := F w' hw; have hbr := Below.refl w'.heap.size w'; go_simp; (repeat' apply And.intro) <;> first | with_reducible rfl | assumption)); simp only [Act.put, List.setIfInBounds_toArray, List.set_cons_zero, List.set_cons_succ]))
              refine RelSeq.growG_ (c := .bool true) rfl (fun _ => rfl) rfl ?_ ?_
              focus
                intro x w' hw _; dsimp only
                have hS := HSM.out w' hw
                go_simp
                (with_reducible refine hS.mono ?_)
                rintro e w9 ⟨rfl, hb9⟩
                have hw9 := hw.trans (hb9.mono hw.size)
                go_simp
                all_goals ((repeat' apply And.intro) <;> first | assumption | with_reducible rfl)
              simp only [Act.put, List.setIfInBounds_toArray, List.set_cons_zero, List.set_cons_succ]
              repeat (first
                | (refine RelSeq.pure_ (c := ?_) rfl rfl ?_ ?_; rotate_left; (focus (intro x w'; dsimp only; go_simp; (repeat' apply And.intro) <;> first | with_reducible rfl | assumption)); simp only [Act.put, List.setIfInBounds_toArray, List.set_cons_zero, List.set_cons_succ])
                | (refine RelSeq.skip_ rfl (fun _ => rfl) ?_; simp only [Act.put, List.setIfInBounds_toArray, List.set_cons_zero, List.set_cons_succ])
                | (refine RelSeq.pureG_ (c := ?_) rfl (fun _ => rfl) rfl ?_ ?_; rotate_left; (focus (intro x w'; dsimp only; go_simp; (repeat' apply And.intro) <;> first | with_reducible rfl | assumption)); simp only [Act.put, List.setIfInBounds_toArray, List.set_cons_zero, List.set_cons_succ])
                | (refine RelSeq.grow_ (c := ?_) rfl rfl ?_ ?_; rotate_left; (focus (intro x w' hw _; dsimp only; obtain ⟨d0, d1, d2⟩ := F w' hw; have hbr := Below.refl w'.heap.size w'; go_simp; (repeat' apply And.intro) <;> first | with_reducible rfl | assumption)); simp only [Act.put, List.setIfInBounds_toArray, List.set_cons_zero, List.set_cons_succ])
                | (refine RelSeq.growG_ (c := ?_) rfl (fun _ => rfl) rfl ?_ ?_; rotate_left; (focus (intro x w' hw _; dsimp only; obtain ⟨d0, d1, d2⟩ := F w' hw; have hbr := Below.refl w'.heap.size w'; go_simp; (repeat' apply And.intro) <;> first | with_reducible rfl | assumption)); simp only [Act.put, List.setIfInBounds_toArray, List.set_cons_zero, List.set_cons_succ]))
              refine RelSeq.nil_ fun z w10 hz _ _ => TailSeq.nil_ ?_
              have hT10 := hT8.below hz
              have hB10 := hB8'.trans (But.of_below hz)
              clear hT8 hB8' hz
              go_wp2_with fail
              go_roundw
              case rel => exact ⟨j + 1, by omega, by go_num, hT10, hB10⟩
              case measure => simp [intOf]; omega
          · go_wp2_with fail
            go_ret
            exact ⟨rfl, hBr.below hbe5 (Nat.le_refl _) htb⟩
      · have hpos : 0 < acc.length := by omega
        obtain ⟨g, cap, hgv, hgb, hglt⟩ := hv17.form hpos
        injection hgv with hgv _ hcap
        subst hgv
        subst hcap
        obtain ⟨i, hi⟩ : ∃ i, i = at_ % acc.length := ⟨_, rfl⟩
        have ei : (at_ : Int).tmod (acc.length : Int) = (i : Int) := by rw [hi]; rfl
        have hil : i < acc.length := by rw [hi]; exact Nat.mod_lt _ hpos
        clear hi
        obtain ⟨x, hx⟩ : ∃ x, acc[i]? = some x := ⟨_, List.getElem?_eq_getElem hil⟩
        have ci : w17.cell? ⟨g, i, none⟩ = some (.int .u8 x.toNat) := by
          rw [hv17.cellAt i (by omega)]; simp [u8L, hx]
        have fi := hv17.frozenAt i
        have hx8 := x.toNat_lt
        obtain ⟨y, hy⟩ : ∃ y, y = x.toNat ^^^ turn := ⟨_, rfl⟩
        have ly : y < 256 := by rw [hy]; exact Nat.xor_lt_two_pow (n := 8) (by omega) (by omega)
        have ey : bits .xor .u8 (x.toNat : Int) (turn : Int) = (y : Int) := by rw [hy]; exact u8_xor_nat x.toNat turn (by omega) (by omega)
        have Hx := Lib.hid hx
        have Hy := Lib.hid hy
        have hgw := hg12 g rfl
        clear hx hy hg12
        have li : (i : Int) < (acc.length : Int) := by omega
        have li0 : 0 ≤ (i : Int) := by omega
        go_wp2_with (at_builtin; refine wpl_stop fun W hW => ?_)
        refine Stopped.mk ?_
        subst hW
        refine wpl_gen fun W hW => ?_
        obtain ⟨wX, hwX⟩ : ∃ wX, wX = w17.setCell ⟨g, i, none⟩ (.int .u8 y) := ⟨_, rfl⟩
        have HsX := Lib.hid (show wX.heap.size = w17.heap.size by rw [hwX]; simp)
        obtain ⟨acc', ha', hvX⟩ : ∃ acc' : List UInt8, acc'.length = acc.length ∧ wX.ownsRow w.heap.size 5 1 (.slice (some ⟨g, 0, none⟩) acc.length c12) acc.length (u8L acc') := by
          refine ⟨acc.set i (UInt8.ofNat y), by simp, ?_⟩
          have h := (hv17.stored i (.int .u8 y)).1
          have e : (u8L acc).set i (.int .u8 y) = u8L (acc.set i (UInt8.ofNat y)) := by
            unfold u8L
            rw [List.map_set]
            have : (UInt8.ofNat y).toNat = y := by simp; omega
            rw [this]
          rw [e] at h
          rw [hwX]
          exact h
        have h17X : wX.ownsRow wr.heap.size 5 1 (.slice A17 acc.length c17) acc.length (u8L acc) := by
          rw [hwX]
          exact hown17.kept (grown_set g i _) (.inr fun he => by have := (hown17.lt g he).1; omega)
        have hTX : TabOk wX tb := by rw [hwX]; exact hT17.grown hv17 (grown_set g i _) (by decide)
        have hbeX : Below w.heap.size w wX := by rw [hwX]; exact hbe17.grown (grown_set g i _) hbe17.size (fun q hq => by cases hq; exact hgb)
        rw [← hwX] at hW
        clear hv17 hT17 hbe17 hown17 hwX ci fi ey ei li li0 hx8 ly
        have hBe : Blk W w17.heap.size #[] 5 := by rw [hW, ← HsX.out]; exact Blk.new _ _ _
        have hbW : Below wX.heap.size wX W := by rw [hW]; exact (Below.refl _ _).alloc (Nat.le_refl _) _
        clear hW
        have hoe := owns_of_blk hBe (base := wX.heap.size) (Nat.le_of_eq HsX.out) (by unfold maxLen; simp)
        refine wpl_append_rd rfl (.tmp 97) (.tmp 98) 23 rfl wX.heap.size 5 i1 _ 1 1 Try.underlying23 hi1 hz3 hz4 hz5 rfl (by decide) _ 0 [] rfl hoe _ acc.length (u8L acc) rfl (rd_of_owns (owns_below h17X hbW)) (u8L_one _) (by unfold maxLen; omega) (by omega) hbW.size fun v9 w9 hown9 hgr9 _ => ?_
        have hb9 : Below wX.heap.size wX w9 := hbW.grown hgr9 hbW.size (fun q hq => Nat.le_of_eq (HsX.out.trans (Option.some.inj hq)))
        rw [Nat.zero_add, List.nil_append] at hown9
        clear hoe hBe hbW hgr9
        obtain ⟨A9, c9, rfl⟩ := owns_slice hown9
        go_wp2_with (at_builtin; refine wpl_stop fun W hW => ?_)
        refine Stopped.mk ?_
        subst hW
        refine wpl_append_rd rfl (.tmp 99) (.tmp 100) 23 rfl wX.heap.size 5 i1 _ 1 1 Try.underlying23 hi1 hz3 hz4 hz5 rfl (by decide) _ acc.length _ rfl hown9 _ raw.length (u8L raw) rfl (h1'.below (hbeX.trans (hb9.mono hbeX.size))) (u8L_one _) (by unfold maxLen; omega) (by omega) hb9.size fun v10 w10 hown10 hgr10 _ => ?_
        have hb10 : Below wX.heap.size wX w10 := hb9.grown hgr10 hb9.size (fun q hq => (hown9.lt q hq).1)
        obtain ⟨L5, hL5, hL5'⟩ : ∃ L5 : List UInt8, L5.length = acc.length + raw.length ∧ w10.ownsRow wX.heap.size 5 1 v10 L5.length (u8L L5) := by
          have e : (acc ++ raw).length = acc.length + raw.length := by simp
          exact ⟨acc ++ raw, e, by rw [e]; simpa [u8L] using hown10⟩
        have hl5 : L5.length ≤ 3000 := by omega
        clear hown9 hb9 hgr10 hown10 hL5
        obtain ⟨A10, c10, rfl⟩ := owns_slice hL5'
        go_wp2_with fail
        refine wp_gen fun w5 hw5 => ?_
        have hb5 : Below wX.heap.size wX w5 := by rw [hw5]; exact hb10.alloc hb10.size _
        have hb5' : Below w10.heap.size w10 w5 := by rw [hw5]; exact (Below.refl _ _).alloc (Nat.le_refl _) _
        obtain ⟨qs, hqn, hqs, hall⟩ : ∃ qs : List (Value × List UInt8), qs.length = 5 ∧ Rd w5 1 (.slice (some ⟨w10.heap.size, 0, none⟩) 5 5) 5 (qs.map (·.1)) ∧ ∀ p ∈ qs, Rd w5 1 p.1 p.2.length (u8L p.2) ∧ p.2.length ≤ 5000 := by
          have hB5 : Blk w5 w10.heap.size #[.slice A17 acc.length c17, .slice (some ⟨g, 0, none⟩) m c12, .slice (some ⟨g, 0, none⟩) acc.length c12, .slice A1 raw.length c1, .slice A10 L5.length c10] 23 := by rw [hw5]; exact Blk.new _ _ _
          refine ⟨[(.slice A17 acc.length c17, acc), (.slice (some ⟨g, 0, none⟩) m c12, acc'.take m), (.slice (some ⟨g, 0, none⟩) acc.length c12, acc'), (.slice A1 raw.length c1, raw), (.slice A10 L5.length c10, L5)], rfl, ⟨_, _, rfl, rfl, Nat.le_refl _, by unfold maxLen; omega, fun _ => ⟨_, _, rfl, fun j u hj => ?_⟩⟩, ?_⟩
          · rw [Nat.zero_add]
            refine hB5.cell ?_
            rw [← hj]
            match j with
            | 0 => rfl
            | 1 => rfl
            | 2 => rfl
            | 3 => rfl
            | 4 => rfl
            | j + 5 => rfl
          · have g1 := rd_of_owns (owns_below h17X hb5)
            have g3 := rd_of_owns (owns_below hvX hb5)
            have g4 := h1'.below (hbeX.trans (hb5.mono hbeX.size))
            have g5 := rd_of_owns (owns_below hL5' hb5')
            have g2 := g3.take_ (m := m) (by omega)
            intro p hp
            simp only [List.mem_cons, List.mem_nil_iff, or_false] at hp
            rcases hp with rfl | rfl | rfl | rfl | rfl
            · exact ⟨g1, by first | (dsimp only; omega) | (simp; done) | omega⟩
            · have e : (acc'.take m).length = m := by simp <;> omega
              simp only [e]
              rw [u8L_take] at g2
              exact ⟨g2, by first | (dsimp only; omega) | (simp; done) | omega⟩
            · simp only [ha']
              exact ⟨g3, by first | (dsimp only; omega) | (simp; done) | omega⟩
            · exact ⟨g4, by first | (dsimp only; omega) | (simp; done) | omega⟩
            · exact ⟨g5, by first | (dsimp only; omega) | (simp; done) | omega⟩
        have hT5 := hTX.below hb5
        have hbe5 := hbeX.trans (hb5.mono hbeX.size)
        generalize w10.heap.size = n10 at hqs ⊢
        clear hw5 hb5 hb5' hTX hbeX h17X hvX hL5' hb10
        go_loopw [104] (fun i wr => ∃ k : Nat, k ≤ 5 ∧ i = .int .i64 k ∧ TabOk wr tb ∧ But tb w5 wr) (fun i _ => 5 - (intOf i).toNat)
        case atStart => exact ⟨0, Nat.zero_le _, rfl, hT5, But.refl _ _⟩
        case round =>
          obtain ⟨j, hj, rfl, hTr, hBr⟩ := hrel
          by_cases hj5 : j < 5
          · obtain ⟨p, hpj⟩ : ∃ p, qs[j]? = some p := ⟨_, List.getElem?_eq_getElem (by omega)⟩
            obtain ⟨hp1, hp2⟩ := hall p (List.mem_of_getElem? hpj)
            have hrd := hp1.but8 hT5 hBr
            obtain ⟨vp, L⟩ := p
            simp only at hp1 hp2 hrd
            obtain ⟨Ap, cp, rfl, _, _, _, _⟩ := hp1
            have hcx : ∀ ww, But tb w5 ww → ww.cell? ⟨n10, j, none⟩ = some (Value.slice Ap L.length cp) := by
              intro ww hBr
              obtain ⟨_, _, he, _, _, _, h4⟩ := hqs
              cases he
              obtain ⟨_, _, he, h4⟩ := h4 (by omega)
              cases he
              have c0 := h4 j (.slice Ap L.length cp) (by simp [hpj])
              have hne := hT5.far c0 (fun n => by simp)
              rw [Nat.zero_add] at c0
              rw [World.cell?_of_block (w := w5) (hBr.block n10 (World.block_lt_of_cell? w5 _ c0) hne)]
              exact c0
            have cx := hcx _ hBr
            clear hall hqs hpj hqn hcx
            go_wp2_with fail
            (with_reducible refine (jScan tb _ L _ hTr hrd (by omega)).mono ?_)
            rintro e w6 ⟨vg, pg, rfl, eg, hvg, hpg, hT6, hB6⟩
            have hB6' := hBr.trans hB6
            have hrd6 := hrd.but8 hTr hB6
            obtain ⟨Ag, cg, rfl⟩ := owns_slice hvg
            have HG := Lib.hid eg
            clear eg cx hrd hTr hBr hB6
            go_wp2_with fail
            (with_reducible refine (refScan _ L w6 hrd6 (by omega)).mono ?_)
            rintro e w7 ⟨vw, pw, rfl, ew, hvw, hpw, hb7⟩
            obtain ⟨Aw, cw, rfl⟩ := owns_slice hvw
            have HW := Lib.hid ew
            have hT7 := hT6.below hb7
            have hB7 := hB6'.trans (But.of_below hb7)
            have hrd7 := hrd6.below hb7
            have hvg7 := owns_below hvg hb7
            have hpg7 := hpg.below hb7
            clear ew hrd6 hvg hpg hT6 hB6' hb7
            cases hx : takeL L with
            | none =>
              have hs := scanL_none hx
              obtain rfl : pg = [] := by
                have := HG.out
                rw [hs] at this
                simpa using this
              obtain rfl : pw = [] := by
                have := HW.out
                rw [hs] at this
                simpa using this
              have hC := jTakeNone tb _ L w7 hT7 hrd7 hx
              clear hx hs
              have hr1 := rd_of_owns hvg7
              have hr2 := rd_of_owns hvw
              clear hvg7 hvw hpg7 hpw
              go_wp2_with fail
              (with_reducible refine hC.mono ?_)
              rintro e w8 ⟨rfl, hT8, hB8⟩
              have hB8' := hB7.trans hB8
              have hsame : ∀ w', Below w8.heap.size w8 w' → Calls Try.prog 14 #[.slice Ag 0 cg, .slice Aw 0 cw] w' fun e w'' => e = .returned (.bool true) ∧ Below w'.heap.size w' w'' := fun w' hw =>
                sameRecs _ _ [] [] w' ((Rd.but hr1 hT7 hB8 (by simp)).below hw) ((Rd.but hr2 hT7 hB8 (by simp)).below hw) (by simp) (by simp)
              have HSM := Lib.hid hsame
              clear hsame hr1 hr2 hC hrd7 hB8 hT7 hB7
              go_wp2_with fail
              refine region_free (fun w' => Below w8.heap.size w8 w') [] [] (List.range 48) (by kernel_rfl) (by kernel_rfl) (by kernel_rfl) (Below.refl _ _).drew ?_
              simp only [List.range, List.range.loop]
              repeat (first
                | (refine RelSeq.pure_ (c := ?_) rfl rfl ?_ ?_; rotate_left; (focus (intro x w'; dsimp only; go_simp; (repeat' apply And.intro) <;> first | with_reducible rfl | assumption)); simp only [Act.put, List.setIfInBounds_toArray, List.set_cons_zero, List.set_cons_succ])
                | (refine RelSeq.skip_ rfl (fun _ => rfl) ?_; simp only [Act.put, List.setIfInBounds_toArray, List.set_cons_zero, List.set_cons_succ])
                | (refine RelSeq.pureG_ (c := ?_) rfl (fun _ => rfl) rfl ?_ ?_; rotate_left; (focus (intro x w'; dsimp only; go_simp; (repeat' apply And.intro) <;> first | with_reducible rfl | assumption)); simp only [Act.put, List.setIfInBounds_toArray, List.set_cons_zero, List.set_cons_succ])
                | (refine RelSeq.grow_ (c := ?_) rfl rfl ?_ ?_; rotate_left; (focus (intro x w' hw _; dsimp only; have hbr := Below.refl w'.heap.size w'; go_simp; (repeat' apply And.intro) <;> first | with_reducible rfl | assumption)); simp only [Act.put, List.setIfInBounds_toArray, List.set_cons_zero, List.set_cons_succ])
                | (refine RelSeq.growG_ (c := ?_) rfl (fun _ => rfl) rfl ?_ ?_; rotate_left; (focus (intro x w' hw _; dsimp only; have hbr := Below.refl w'.heap.size w'; go_simp; (repeat' apply And.intro) <;> first | with_reducible rfl | assumption)); simp only [Act.put, List.setIfInBounds_toArray, List.set_cons_zero, List.set_cons_succ]))
              refine RelSeq.growG_ (c := .bool true) rfl (fun _ => rfl) rfl ?_ ?_
              focus
                intro x w' hw _; dsimp only
                have hS := HSM.out w' hw
                go_simp
                (with_reducible refine hS.mono ?_)
                rintro e w9 ⟨rfl, hb9⟩
                have hw9 := hw.trans (hb9.mono hw.size)
                go_simp
                all_goals ((repeat' apply And.intro) <;> first | assumption | with_reducible rfl)
              simp only [Act.put, List.setIfInBounds_toArray, List.set_cons_zero, List.set_cons_succ]
              repeat (first
                | (refine RelSeq.pure_ (c := ?_) rfl rfl ?_ ?_; rotate_left; (focus (intro x w'; dsimp only; go_simp; (repeat' apply And.intro) <;> first | with_reducible rfl | assumption)); simp only [Act.put, List.setIfInBounds_toArray, List.set_cons_zero, List.set_cons_succ])
                | (refine RelSeq.skip_ rfl (fun _ => rfl) ?_; simp only [Act.put, List.setIfInBounds_toArray, List.set_cons_zero, List.set_cons_succ])
                | (refine RelSeq.pureG_ (c := ?_) rfl (fun _ => rfl) rfl ?_ ?_; rotate_left; (focus (intro x w'; dsimp only; go_simp; (repeat' apply And.intro) <;> first | with_reducible rfl | assumption)); simp only [Act.put, List.setIfInBounds_toArray, List.set_cons_zero, List.set_cons_succ])
                | (refine RelSeq.grow_ (c := ?_) rfl rfl ?_ ?_; rotate_left; (focus (intro x w' hw _; dsimp only; have hbr := Below.refl w'.heap.size w'; go_simp; (repeat' apply And.intro) <;> first | with_reducible rfl | assumption)); simp only [Act.put, List.setIfInBounds_toArray, List.set_cons_zero, List.set_cons_succ])
                | (refine RelSeq.growG_ (c := ?_) rfl (fun _ => rfl) rfl ?_ ?_; rotate_left; (focus (intro x w' hw _; dsimp only; have hbr := Below.refl w'.heap.size w'; go_simp; (repeat' apply And.intro) <;> first | with_reducible rfl | assumption)); simp only [Act.put, List.setIfInBounds_toArray, List.set_cons_zero, List.set_cons_succ]))
              refine RelSeq.nil_ fun z w10 hz _ _ => TailSeq.nil_ ?_
              have hT10 := hT8.below hz
              have hB10 := hB8'.trans (But.of_below hz)
              clear hT8 hB8' hz
              go_wp2_with fail
              go_roundw
              case rel => exact ⟨j + 1, by omega, by go_num, hT10, hB10⟩
              case measure => simp [intOf]; omega
            | some y =>
              have hs := scanL_some hx
              have hyl := takeL_len hx
              obtain ⟨p0, pg, rfl⟩ : ∃ p0 pg', pg = p0 :: pg' := by
                cases pg with
                | nil => have := HG.out; rw [hs] at this; cases this
                | cons p0 pg' => exact ⟨_, _, rfl⟩
              obtain ⟨q0, pw, rfl⟩ : ∃ p0 pg', pw = p0 :: pg' := by
                cases pw with
                | nil => have := HW.out; rw [hs] at this; cases this
                | cons p0 pg' => exact ⟨_, _, rfl⟩
              have hq0 : q0.2 = y := by
                have := HW.out
                rw [hs] at this
                injection this
              have hC := jTakeSome tb _ L y w7 hT7 hrd7 hx
              clear hx hs
              have hr1 := rd_of_owns hvg7
              have hr2 := rd_of_owns hvw
              obtain ⟨gw, cw', hgv, hgb, hglt⟩ := hvw.form (by simp)
              injection hgv with hgv _ hcw'
              subst hgv
              subst hcw'
              have hq0r := rd_of_owns (hpw q0 (.head _))
              have cq0 : w7.cell? ⟨gw, 0, none⟩ = some q0.1 := by
                obtain ⟨_, _, he, _, _, _, h4⟩ := hr2
                cases he
                obtain ⟨_, _, he, h4⟩ := h4 (by simp)
                cases he
                exact h4 0 _ rfl
              have e1 : (p0 :: pg).length = pg.length + 1 := rfl
              have e2 : (q0 :: pw).length = pw.length + 1 := rfl
              rw [e1] at hr1
              rw [e2] at hr2
              have hQ1 : ∀ p ∈ p0 :: pg, Rd w7 1 p.1 p.2.length (u8L p.2) := fun p hp => rd_of_owns (hpg7 p hp)
              have hQ2 : ∀ p ∈ q0 :: pw, Rd w7 1 p.1 p.2.length (u8L p.2) := fun p hp => rd_of_owns (hpw p hp)
              clear hvg7 hvw hpg7 hpw e1 e2
              obtain ⟨vq, yy⟩ := q0
              simp only at hq0 hq0r cq0
              subst hq0
              go_wp2_with fail
              (with_reducible refine hC.mono ?_)
              rintro e w8 ⟨v8, rfl, hv8, hT8, hB8⟩
              have hB8' := hB7.trans hB8
              have hr8 := rd_of_owns hv8
              obtain ⟨A8, c8, rfl⟩ := owns_slice hv8
              have no : ∀ (p : List (Value × List UInt8)), (∀ r ∈ p, Rd w7 1 r.1 r.2.length (u8L r.2)) → ∀ u ∈ p.map (·.1), ∀ n, u ≠ .int .u32 n ∧ u ≠ .int .i32 n ∧ u ≠ .int .u64 n := by
                intro p hp u hu n
                obtain ⟨r, hr, rfl⟩ := List.mem_map.1 hu
                obtain ⟨_, _, he, _⟩ := hp r hr
                rw [he]
                simp
              have hsame : ∀ w', Below w8.heap.size w8 w' → Calls Try.prog 14 #[.slice Ag (pg.length + 1) cg, .slice (some ⟨gw, 0, none⟩) (pw.length + 1) cw] w' fun e w'' => e = .returned (.bool true) ∧ Below w'.heap.size w' w'' := fun w' hw => by
                have := sameRecs _ _ (p0 :: pg) ((vq, yy) :: pw) w' ((Rd.but hr1 hT7 hB8 (no _ hQ1)).below hw) ((Rd.but hr2 hT7 hB8 (no _ hQ2)).below hw) (fun p hp => ((hQ1 p hp).but8 hT7 hB8).below hw) (fun p hp => ((hQ2 p hp).but8 hT7 hB8).below hw)
                have e : sameL ((p0 :: pg).map (·.2)) (((vq, yy) :: pw).map (·.2)) = true := by rw [HG.out, HW.out]; exact decide_eq_true rfl
                rw [e] at this
                exact this
              have HSM := Lib.hid hsame
              have hqr8 := hq0r.but8 hT7 hB8
              have cq8 : w8.cell? ⟨gw, 0, none⟩ = some vq := by
                have hne := hT7.far cq0 (fun n => by obtain ⟨_, _, he, _⟩ := hq0r; rw [he]; simp)
                rw [World.cell?_of_block (w := w7) (hB8.block gw (World.block_lt_of_cell? w7 _ cq0) hne)]
                exact cq0
              have F : ∀ w', Below w8.heap.size w8 w' → w'.cell? ⟨gw, 0, none⟩ = some vq ∧ (convert 23 9 vq).run Try.prog w' = .ok (.string ⟨yy.toArray⟩) w' ∧ (convert 23 9 (.slice A8 yy.length c8)).run Try.prog w' = .ok (.string ⟨yy.toArray⟩) w' := fun w' h =>
                ⟨(h.cell (World.block_lt_of_cell? w8 _ cq8)).trans cq8, conv8 (hqr8.below h), conv8 (hr8.below h)⟩
              have wy : IntKind.i64.wrap ((yy.length : Int) + 8) = (yy.length : Int) + 8 := IntWalk.i64_in _ (by omega)
              clear hsame hr1 hr2 hC hrd7 hB8 hT7 hB7 hr8 hv8 hQ1 hQ2 hqr8 cq8 cq0 hq0r no
              go_wp2_with fail
              refine region_free (fun w' => Below w8.heap.size w8 w') [] [] (List.range 48) (by kernel_rfl) (by kernel_rfl) (by kernel_rfl) (Below.refl _ _).drew ?_
              simp only [List.range, List.range.loop]
              repeat (first
                | (refine RelSeq.pure_ (c := ?_) rfl rfl ?_ ?_; rotate_left; (focus (intro x w'; dsimp only; go_simp; (repeat' apply And.intro) <;> first | with_reducible rfl | assumption)); simp only [Act.put, List.setIfInBounds_toArray, List.set_cons_zero, List.set_cons_succ])
                | (refine RelSeq.skip_ rfl (fun _ => rfl) ?_; simp only [Act.put, List.setIfInBounds_toArray, List.set_cons_zero, List.set_cons_succ])
                | (refine RelSeq.pureG_ (c := ?_) rfl (fun _ => rfl) rfl ?_ ?_; rotate_left; (focus (intro x w'; dsimp only; go_simp; (repeat' apply And.intro) <;> first | with_reducible rfl | assumption)); simp only [Act.put, List.setIfInBounds_toArray, List.set_cons_zero, List.set_cons_succ])
                | (refine RelSeq.grow_ (c := ?_) rfl rfl ?_ ?_; rotate_left; (focus (intro x w' hw _; dsimp only; obtain ⟨d0, d1, d2⟩ := F w' hw; have hbr := Below.refl w'.heap.size w'; go_simp; (repeat' apply And.intro) <;> first | with_reducible rfl | assumption)); simp only [Act.put, List.setIfInBounds_toArray, List.set_cons_zero, List.set_cons_succ])
                | (refine RelSeq.growG_ (c := ?_) rfl (fun _ => rfl) rfl ?_ ?_; rotate_left; (focus (intro x w' hw _; dsimp only; obtain ⟨d0, d1, d2⟩ := F w' hw; have hbr := Below.refl w'.heap.size w'; go_simp; (repeat' apply And.intro) <;> first | with_reducible rfl | assumption)); simp only [Act.put, List.setIfInBounds_toArray, List.set_cons_zero, List.set_cons_succ]))
              refine RelSeq.growG_ (c := .bool true) rfl (fun _ => rfl) rfl ?_ ?_
              focus
                intro x w' hw _; dsimp only
                have hS := HSM.out w' hw
                go_simp
                (with_reducible refine hS.mono ?_)
                rintro e w9 ⟨rfl, hb9⟩
                have hw9 := hw.trans (hb9.mono hw.size)
                go_simp
                all_goals ((repeat' apply And.intro) <;> first | assumption | with_reducible rfl)
              simp only [Act.put, List.setIfInBounds_toArray, List.set_cons_zero, List.set_cons_succ]
              repeat (first
                | (refine RelSeq.pure_ (c := ?_) rfl rfl ?_ ?_; rotate_left; (focus (intro x w'; dsimp only; go_simp; (repeat' apply And.intro) <;> first | with_reducible rfl | assumption)); simp only [Act.put, List.setIfInBounds_toArray, List.set_cons_zero, List.set_cons_succ])
                | (refine RelSeq.skip_ rfl (fun _ => rfl) ?_; simp only [Act.put, List.setIfInBounds_toArray, List.set_cons_zero, List.set_cons_succ])
                | (refine RelSeq.pureG_ (c := ?_) rfl (fun _ => rfl) rfl ?_ ?_; rotate_left; (focus (intro x w'; dsimp only; go_simp; (repeat' apply And.intro) <;> first | with_reducible rfl | assumption)); simp only [Act.put, List.setIfInBounds_toArray, List.set_cons_zero, List.set_cons_succ])
                | (refine RelSeq.grow_ (c := ?_) rfl rfl ?_ ?_; rotate_left; (focus (intro x w' hw _; dsimp only; obtain ⟨d0, d1, d2⟩ := F w' hw; have hbr := Below.refl w'.heap.size w'; go_simp; (repeat' apply And.intro) <;> first | with_reducible rfl | assumption)); simp only [Act.put, List.setIfInBounds_toArray, List.set_cons_zero, List.set_cons_succ])
                | (refine RelSeq.growG_ (c := ?_) rfl (fun _ => rfl) rfl ?_ ?_; rotate_left; (focus (intro x w' hw _; dsimp only; obtain ⟨d0, d1, d2⟩ := F w' hw; have hbr := Below.refl w'.heap.size w'; go_simp; (repeat' apply And.intro) <;> first | with_reducible rfl | assumption)); simp only [Act.put, List.setIfInBounds_toArray, List.set_cons_zero, List.set_cons_succ]))
              refine RelSeq.nil_ fun z w10 hz _ _ => TailSeq.nil_ ?_
              have hT10 := hT8.below hz
              have hB10 := hB8'.trans (But.of_below hz)
              clear hT8 hB8' hz
              go_wp2_with fail
              go_roundw
              case rel => exact ⟨j + 1, by omega, by go_num, hT10, hB10⟩
              case measure => simp [intOf]; omega
          · go_wp2_with fail
            go_ret
            exact ⟨rfl, hBr.below hbe5 (Nat.le_refl _) htb⟩

end Go.Proofs.Ytiblkkaneonajaa
