/-
  Crash of a disk with one file, the first tear torn.
-/
import Derived.Test.YtdjdhakmigofmaaDNil
import Derived.Test.YtdjdhakmigofmaaSpoiltL
namespace Go.Proofs.Ytdjdhakmigofmaa
open Go.RowKit FreeNew
set_option maxRecDepth 100000
attribute [local go_sem] out

set_option maxHeartbeats 4000000 in
theorem diskCrashTorn (d m : Nat) (f : FileV) (v : Value) (t : Nat × Nat) (r : List (Nat × Nat)) (w : World) (hD : DiskAt w d m [f]) (hv : Rd w 2 v (t :: r).length (tearCells (t :: r))) (ht1 : t.1 < 65536) (ht2 : t.2 < 65536) :
    Calls Try.prog 12 #[.pointer (some ⟨d, 0, none⟩), v] w fun e w' => e = .returned (.tuple #[]) ∧
      (∃ v', DiskAt w' d m [⟨f.name, v', tornB f.bytes f.synced t.1 t.2, (tornB f.bytes f.synced t.1 t.2).length⟩]) ∧ Mod [d, m] w w' := by
  have hN := diskNames d m [f] w hD (by show 1 ≤ 1048576; decide)
  rw [namesF_one] at hN
  obtain ⟨At, ct, rfl, t1, t2, t3, t4⟩ := hv
  unfold maxLen at t3
  obtain ⟨nT, hnT⟩ : ∃ nT, nT = (t :: r).length := ⟨_, rfl⟩
  rw [← hnT] at t2 t4 ⊢
  have HNT := Lib.hid hnT
  clear hnT
  obtain ⟨hr0, hsy, hfl⟩ := hD.good f (.head _)
  go_enter Try.func12, Try.ntmps12
  go_wp2_with fail
  (with_reducible refine hN.mono ?_)
  rintro e w1 ⟨vn, rfl, hvn, hb1⟩
  obtain ⟨gn, cn, hgn, hgb, hgl⟩ := hvn.form (by show 0 < 1; decide)
  subst hgn
  have cn0 : w1.cell? ⟨gn, 0, none⟩ = some (.string f.name) := by
    obtain ⟨_, _, he, _, _, _, h4⟩ := rd_of_owns hvn
    cases he
    obtain ⟨_, _, he, h4⟩ := h4 (by show 0 < 1; decide)
    cases he
    exact h4 0 _ rfl
  have hD1 := hD.below hb1
  have hDlt := hD.lt
  have hgm : gn ∉ [d, m] := fun h => by have := hDlt gn h; omega
  have el : ([nameL f.name] : List (List UInt8)).length = 1 := rfl
  rw [el]
  obtain ⟨R, hR⟩ : ∃ R, R = tornB f.bytes f.synced t.1 t.2 := ⟨_, rfl⟩
  have HR := Lib.hid hR
  clear hN hvn hR el
  go_wp2_with fail
  go_loopw [13] (fun i wr => (i = .int .i64 0 ∧ wr = w1) ∨ (i = .int .i64 1 ∧ (∃ v', DiskAt wr d m [⟨f.name, v', R, R.length⟩]) ∧ Mod [d, m] w1 wr)) (fun i _ => 1 - (intOf i).toNat)
  case atStart => exact .inl ⟨rfl, rfl⟩
  case round =>
    rcases hrel with ⟨rfl, rfl⟩ | ⟨rfl, hv', hM⟩
    · have hD1' := hD1
      obtain ⟨⟨ca, cb, hblk⟩, ⟨es, c, h2, h3⟩, hg⟩ := hD1
      have hl := look_no h2 h3 f.name
      have hlf : lookF [f] f.name = .agg #[f.val, .int .i64 f.synced] := by simp [lookF, findF]
      rw [hlf] at hl
      have c0 := hD1'.cell0
      obtain ⟨hr1, _, _⟩ := hD1'.good f (.head _)
      have hr10 := hr1
      obtain ⟨Af, cf, hfv, hv1, hv2, hv3, _⟩ := hr1
      unfold maxLen at hv3
      rw [hfv] at hl hr10
      have HFV := Lib.hid hfv
      clear hlf hfv hv1 h2 h3 hg hblk
      have hl1 : 0 < nT := by rw [HNT.out]; simp
      obtain ⟨bt, ot, rfl, hat⟩ := t4 hl1
      have ct0 : wr.cell? ⟨bt, ot, none⟩ = some (.int .u16 t.1) := cell_later hb1 (hat 0 _ rfl)
      have ct1 : wr.cell? ⟨bt, ot + 1, none⟩ = some (.int .u16 t.2) := cell_later hb1 (hat 1 _ rfl)
      obtain ⟨K, hK⟩ : ∃ K, K = min t.1 (f.bytes.length - f.synced) := ⟨_, rfl⟩
      have e0 : min (t.1 : Int) ((f.bytes.length : Int) - f.synced) = (K : Int) := by omega
      obtain ⟨N, hN⟩ : ∃ N, N = f.synced + K := ⟨_, rfl⟩
      have hK2 : N ≤ f.bytes.length := by omega
      have eN : (f.synced : Int) + (K : Int) = (N : Int) := by omega
      have HKd := Lib.hid hK
      have HN := Lib.hid hN
      have hbX : Below wr.heap.size wr ((wr.alloc (Obj.cells #[Value.slice Af f.bytes.length cf, Value.int IntKind.i64 ↑f.synced] 84)).alloc (Obj.cells #[Value.int IntKind.u16 0, Value.int IntKind.u16 0] 57)) := ((Below.refl _ _).alloc (Nat.le_refl _) _).alloc (Nat.le_trans (Nat.le_succ _) (Nat.le_of_eq (by rw [World.size_alloc]))) _
      have cX0 := cell_later hbX ct0
      have cX1 := cell_later hbX ct1
      clear hK hN hat t4 hbX
      go_wp2_with fail
      obtain ⟨W, hW⟩ : ∃ W, W = ((wr.alloc (Obj.cells #[Value.slice Af f.bytes.length cf, Value.int IntKind.i64 ↑f.synced] 84)).alloc (Obj.cells #[Value.int IntKind.u16 t.1, Value.int IntKind.u16 t.2] 57)) := ⟨_, rfl⟩
      rw [← hW]
      have hbW : Below wr.heap.size wr W := by rw [hW]; exact ((Below.refl _ _).alloc (Nat.le_refl _) _).alloc (Nat.le_trans (Nat.le_succ _) (Nat.le_of_eq (by rw [World.size_alloc]))) _
      have hTW : Blk W (wr.heap.size + 1) #[.int .u16 t.1, .int .u16 t.2] 57 := by
        rw [hW]
        have := Blk.new (wr.alloc (Obj.cells #[Value.slice Af f.bytes.length cf, Value.int IntKind.i64 ↑f.synced] 84)) #[.int .u16 t.1, .int .u16 t.2] 57
        rw [World.size_alloc] at this
        exact this
      have hDW := hD1'.below hbW
      have hp := (hr10.below hbW).pre hK2
      rw [u8L_pre] at hp
      have hLN : (f.bytes.take N).length = N := by simp; omega
      have hp2 : Rd W 1 (.slice Af N cf) (f.bytes.take N).length (u8L (f.bytes.take N)) := by rw [hLN]; exact hp
      have hC := clone8 _ _ W hp2 (by rw [hLN]; omega)
      rw [hLN] at hC
      clear hp hp2 hW cX0 cX1 ct0 ct1
      (with_reducible refine hC.mono ?_)
      rintro e wz ⟨v9, rfl, hv9, hb9⟩
      have hTz := hTW.below hb9 hTW.lt
      have cT1 : wz.cell? ⟨wr.heap.size + 1, 1, none⟩ = some (.int .u16 t.2) := hTz.cell rfl
      clear hC
      by_cases hK0 : K = 0
      · obtain ⟨A9, c9', rfl⟩ := owns_slice hv9
        have hDz := hDW.below hb9
        have hMz : Mod [d, m] wr wz := Mod.of_below (hbW.trans (hb9.mono hbW.size))
        have hrz : Rd wz 1 (.slice A9 N c9') (f.bytes.take N).length (u8L (f.bytes.take N)) := by rw [hLN]; exact rd_of_owns hv9
        have hRe : R = f.bytes.take N := by
          rw [HR.out]; unfold tornB; rw [← HKd.out, if_neg (by omega), HN.out]
        have k1 : decide ((0 : Int) < (K : Int)) = false := by rw [hK0]; rfl
        have k2 : decide (0 < K) = false := by rw [hK0]; rfl
        clear hK0 hv9 hb9 hTz hTW hDW e0 hbW
        have cD := hDz.cell0
        have hDz' := hDz
        obtain ⟨⟨ca9, cb9, hblk9⟩, ⟨es9, c9, h29, h39⟩, hg9⟩ := hDz
        obtain ⟨es', clock', hup, he'⟩ := upd_run h29 h39 hDz'.stamp ⟨f.name, .slice A9 N c9', f.bytes.take N, N⟩
        simp only at hup
        have hmd := setMap_mod wz m (.map es' clock')
        have hat := setMap_at (o := .map es' clock') h29
        clear h29 h39 hg9
        go_wp2_with fail
        generalize setMap wz m (.map es' clock') = w4 at hmd hat ⊢
        have hdm := hDz'.ne
        have hblk4 := hmd.blk hblk9 (by simpa using hdm)
        have hM34 : Mod [d, m] wz w4 := hmd.mono (by simp)
        have hD4 := hDz'.put (g := ⟨f.name, .slice A9 N c9', f.bytes.take N, N⟩) hM34 ⟨_, _, hblk4⟩ ⟨_, _, hat, he'⟩ ⟨hDz'.rd hM34 hrz, by show N ≤ (f.bytes.take N).length; rw [hLN]; exact Nat.le_refl _, by show (f.bytes.take N).length ≤ _; rw [hLN]; omega⟩
        have hM4 := hMz.trans hM34
        have hD5 : ∃ v', DiskAt w4 d m [⟨f.name, v', R, R.length⟩] := by
          refine ⟨.slice A9 N c9', ?_⟩
          rw [hRe, hLN]
          have hpf : putF [f] ⟨f.name, .slice A9 N c9', f.bytes.take N, N⟩ = [⟨f.name, .slice A9 N c9', f.bytes.take N, N⟩] := by simp [putF]
          rw [hpf] at hD4
          exact hD4
        clear hup hblk9 hmd hblk4 hat hM34 hDz' hrz hD4 hRe
        go_roundw
        case rel => exact .inr ⟨rfl, hD5, hM4⟩
        case measure => decide
      by_cases hb8 : t.2 < 8
      · have hN0 : 0 < N := by have := HN.out; omega
        obtain ⟨g, cap, hgv, hgb, hglt⟩ := hv9.form hN0
        subst hgv
        obtain ⟨i9, hi9⟩ : ∃ i9, N = i9 + 1 := ⟨N - 1, by omega⟩
        have ei : (N : Int) - 1 = (i9 : Int) := by omega
        have li : (i9 : Int) < (N : Int) := by omega
        have hiN : i9 < N := by omega
        have wk : IntKind.i64.wrap (i9 : Int) = (i9 : Int) := by
          have h9 : i9 < 2097152 := by omega
          simp [IntKind.wrap, IntKind.signed, IntKind.bits]
          omega
        have li0 : (0 : Int) ≤ (i9 : Int) := by omega
        obtain ⟨x, hx⟩ : ∃ x, (f.bytes.take N)[i9]? = some x := ⟨_, List.getElem?_eq_getElem (by rw [hLN]; omega)⟩
        have cg : wz.cell? ⟨g, i9, none⟩ = some (.int .u8 x.toNat) := by
          rw [hv9.cellAt i9 (by omega)]
          show (u8L (f.bytes.take N))[i9]? = _
          rw [u8L, List.getElem?_map, hx]; rfl
        have fg := hv9.frozenAt i9
        have F : ∀ w', Below wz.heap.size wz w' → w'.cell? ⟨g, i9, none⟩ = some (.int .u8 x.toNat) ∧ w'.cell? ⟨wr.heap.size + 1, 1, none⟩ = some (.int .u16 t.2) := fun w' h => ⟨cell_later h cg, cell_later h cT1⟩
        have hx8 := x.toNat_lt
        obtain ⟨p2, hp2⟩ : ∃ p2, p2 = 2 ^ t.2 := ⟨_, rfl⟩
        have lp2 : p2 < 256 := by rw [hp2]; calc 2 ^ t.2 ≤ 2 ^ 7 := Nat.pow_le_pow_right (by decide) (by omega)
                                     _ < 256 := by decide
        have ep : IntKind.u8.wrap ((2 : Int) ^ t.2) = (p2 : Int) := by
          have q : ((2 : Int) ^ t.2) = (p2 : Int) := by rw [hp2]; simp
          rw [q]
          simp [IntKind.wrap, IntKind.signed, IntKind.bits]
          omega
        obtain ⟨y, hy⟩ : ∃ y, y = x.toNat ^^^ p2 := ⟨_, rfl⟩
        have ly : y < 256 := by rw [hy]; exact Nat.xor_lt_two_pow (n := 8) (by omega) (by omega)
        have ey : bits .xor .u8 (x.toNat : Int) (p2 : Int) = (y : Int) := by rw [hy]; exact u8_xor_nat x.toNat p2 (by omega) (by omega)
        have k1 : 0 < K := by omega
        have k2 : decide ((t.2 : Int) < 8) = true := by simp; omega
        have HX := Lib.hid hx
        have HY := Lib.hid hy
        have HP := Lib.hid hp2
        have HI := Lib.hid hi9
        clear hx hy hp2 hi9 e0 hTW
        go_wp2_with fail
        refine region_free (fun w' => Below wz.heap.size wz w') [] [11] [0, 1, 2, 3, 4, 5, 6, 7, 8, 9, 10] (by kernel_rfl) (by kernel_rfl) (by kernel_rfl) (Below.refl _ _).drew ?_
        repeat (first
          | (refine RelSeq.pure_ (c := ?_) rfl rfl ?_ ?_; rotate_left; (focus (intro x w'; dsimp only; go_simp; (repeat' apply And.intro) <;> first | with_reducible rfl | assumption)); simp only [Act.put, List.setIfInBounds_toArray, List.set_cons_zero, List.set_cons_succ])
          | (refine RelSeq.skip_ rfl (fun _ => rfl) ?_; simp only [Act.put, List.setIfInBounds_toArray, List.set_cons_zero, List.set_cons_succ])
          | (refine RelSeq.pureG_ (c := ?_) rfl (fun _ => rfl) rfl ?_ ?_; rotate_left; (focus (intro x w'; dsimp only; go_simp; (repeat' apply And.intro) <;> first | with_reducible rfl | assumption)); simp only [Act.put, List.setIfInBounds_toArray, List.set_cons_zero, List.set_cons_succ])
          | (refine RelSeq.grow_ (c := ?_) rfl rfl ?_ ?_; rotate_left; (focus (intro x w' hw _; dsimp only; obtain ⟨d0, d1⟩ := F w' hw; have hbr := Below.refl w'.heap.size w'; go_simp; (repeat' apply And.intro) <;> first | with_reducible rfl | assumption)); simp only [Act.put, List.setIfInBounds_toArray, List.set_cons_zero, List.set_cons_succ])
          | (refine RelSeq.growG_ (c := ?_) rfl (fun _ => rfl) rfl ?_ ?_; rotate_left; (focus (intro x w' hw _; dsimp only; obtain ⟨d0, d1⟩ := F w' hw; have hbr := Below.refl w'.heap.size w'; go_simp; (repeat' apply And.intro) <;> first | with_reducible rfl | assumption)); simp only [Act.put, List.setIfInBounds_toArray, List.set_cons_zero, List.set_cons_succ]))
        refine RelSeq.nil_ fun x_ w3 hw3 hfa _ => ?_
        have hv3 := (Mod.of_below (S := []) hw3).owns hv9 (by simp)
        have c3 := (F w3 hw3).1
        have f3 := hv3.frozenAt i9
        clear F hfa fg cg
        refine TailSeq.cons_ rfl ?_
        go_simp
        refine TailSeq.nil_ ?_
        obtain ⟨wY, hwY⟩ : ∃ wY, wY = w3.setCell ⟨g, i9, none⟩ (.int .u8 y) := ⟨_, rfl⟩
        rw [← hwY]
        obtain ⟨L, hL⟩ : ∃ L : List UInt8, L = (f.bytes.take N).set i9 (UInt8.ofNat y) := ⟨_, rfl⟩
        have hvY : wY.ownsRow W.heap.size 5 1 (.slice (some ⟨g, 0, none⟩) N cap) N (u8L L) := by
          have h := (hv3.stored i9 (.int .u8 y)).1
          have e : (u8L (f.bytes.take N)).set i9 (.int .u8 y) = u8L L := by
            rw [hL]
            unfold u8L
            rw [List.map_set]
            have : (UInt8.ofNat y).toNat = y := by rw [UInt8.toNat_ofNat', Nat.mod_eq_of_lt ly]
            rw [this]
          rw [e] at h
          rw [hwY]
          exact h
        have hB3 : Below W.heap.size W w3 := hb9.trans (hw3.mono hb9.size)
        have hBY : Below W.heap.size W wY := by rw [hwY]; exact hB3.grown (grown_set g i9 _) hB3.size (fun q hq => by cases hq; exact hgb)
        have hLN : L.length = N := by rw [hL, List.length_set]; exact hLN
        have hDz := hDW.below hBY
        have hMz : Mod [d, m] wr wY := Mod.of_below (hbW.trans (hBY.mono hbW.size))
        have hrz : Rd wY 1 (.slice (some ⟨g, 0, none⟩) N cap) L.length (u8L L) := by rw [hLN]; exact rd_of_owns hvY
        have hRe : R = L := by
          have hx := HX.out
          rw [List.getElem?_take, if_pos hiN] at hx
          rw [HR.out]; unfold tornB; rw [← HKd.out, if_pos ⟨k1, hb8⟩, ← HN.out, HI.out, Nat.add_sub_cancel, ← HI.out, List.getD_eq_getElem?_getD, hx, hL, HY.out, HP.out]; rfl
        clear hvY hB3 hBY hwY hL hv9 hb9 hTz hDW hbW hv3 c3 f3 hw3 cT1 hgb hglt ey ep ly lp2 hx8 ei li li0 wk hb8 hK0
        have cD := hDz.cell0
        have hDz' := hDz
        obtain ⟨⟨ca9, cb9, hblk9⟩, ⟨es9, c9, h29, h39⟩, hg9⟩ := hDz
        obtain ⟨es', clock', hup, he'⟩ := upd_run h29 h39 hDz'.stamp ⟨f.name, .slice (some ⟨g, 0, none⟩) N cap, L, N⟩
        simp only at hup
        have hmd := setMap_mod wY m (.map es' clock')
        have hat := setMap_at (o := .map es' clock') h29
        clear h29 h39 hg9
        go_wp2_with fail
        generalize setMap wY m (.map es' clock') = w4 at hmd hat ⊢
        have hdm := hDz'.ne
        have hblk4 := hmd.blk hblk9 (by simpa using hdm)
        have hM34 : Mod [d, m] wY w4 := hmd.mono (by simp)
        have hD4 := hDz'.put (g := ⟨f.name, .slice (some ⟨g, 0, none⟩) N cap, L, N⟩) hM34 ⟨_, _, hblk4⟩ ⟨_, _, hat, he'⟩ ⟨hDz'.rd hM34 hrz, by show N ≤ (L).length; rw [hLN]; exact Nat.le_refl _, by show (L).length ≤ _; rw [hLN]; omega⟩
        have hM4 := hMz.trans hM34
        have hD5 : ∃ v', DiskAt w4 d m [⟨f.name, v', R, R.length⟩] := by
          refine ⟨.slice (some ⟨g, 0, none⟩) N cap, ?_⟩
          rw [hRe, hLN]
          have hpf : putF [f] ⟨f.name, .slice (some ⟨g, 0, none⟩) N cap, L, N⟩ = [⟨f.name, .slice (some ⟨g, 0, none⟩) N cap, L, N⟩] := by simp [putF]
          rw [hpf] at hD4
          exact hD4
        clear hup hblk9 hmd hblk4 hat hM34 hDz' hrz hD4 hRe
        go_roundw
        case rel => exact .inr ⟨rfl, hD5, hM4⟩
        case measure => decide

      · obtain ⟨A9, c9', rfl⟩ := owns_slice hv9
        have hDz := hDW.below hb9
        have hMz : Mod [d, m] wr wz := Mod.of_below (hbW.trans (hb9.mono hbW.size))
        have hrz : Rd wz 1 (.slice A9 N c9') (f.bytes.take N).length (u8L (f.bytes.take N)) := by rw [hLN]; exact rd_of_owns hv9
        have hRe : R = f.bytes.take N := by
          rw [HR.out]; unfold tornB; rw [← HKd.out, if_neg (by omega), HN.out]
        have k1 : 0 < K := by omega
        have k2 : decide ((t.2 : Int) < 8) = false := by simp; omega
        clear hK0 hb8 hv9 hb9 hTz hTW hDW e0 hbW
        have cD := hDz.cell0
        have hDz' := hDz
        obtain ⟨⟨ca9, cb9, hblk9⟩, ⟨es9, c9, h29, h39⟩, hg9⟩ := hDz
        obtain ⟨es', clock', hup, he'⟩ := upd_run h29 h39 hDz'.stamp ⟨f.name, .slice A9 N c9', f.bytes.take N, N⟩
        simp only at hup
        have hmd := setMap_mod wz m (.map es' clock')
        have hat := setMap_at (o := .map es' clock') h29
        clear h29 h39 hg9
        go_wp2_with fail
        generalize setMap wz m (.map es' clock') = w4 at hmd hat ⊢
        have hdm := hDz'.ne
        have hblk4 := hmd.blk hblk9 (by simpa using hdm)
        have hM34 : Mod [d, m] wz w4 := hmd.mono (by simp)
        have hD4 := hDz'.put (g := ⟨f.name, .slice A9 N c9', f.bytes.take N, N⟩) hM34 ⟨_, _, hblk4⟩ ⟨_, _, hat, he'⟩ ⟨hDz'.rd hM34 hrz, by show N ≤ (f.bytes.take N).length; rw [hLN]; exact Nat.le_refl _, by show (f.bytes.take N).length ≤ _; rw [hLN]; omega⟩
        have hM4 := hMz.trans hM34
        have hD5 : ∃ v', DiskAt w4 d m [⟨f.name, v', R, R.length⟩] := by
          refine ⟨.slice A9 N c9', ?_⟩
          rw [hRe, hLN]
          have hpf : putF [f] ⟨f.name, .slice A9 N c9', f.bytes.take N, N⟩ = [⟨f.name, .slice A9 N c9', f.bytes.take N, N⟩] := by simp [putF]
          rw [hpf] at hD4
          exact hD4
        clear hup hblk9 hmd hblk4 hat hM34 hDz' hrz hD4 hRe
        go_roundw
        case rel => exact .inr ⟨rfl, hD5, hM4⟩
        case measure => decide
    · go_wp2_with fail
      go_end0
      exact ⟨rfl, by rw [← HR.out]; exact hv', (Mod.of_below hb1).trans hM⟩
end Go.Proofs.Ytdjdhakmigofmaa
