/-
  The document's disk: Crash.
-/
import Derived.Test.YtdjdhakmigofmaaRD3
namespace Go.Proofs.Ytdjdhakmigofmaa
open Go.RowKit
set_option maxRecDepth 100000
attribute [local go_sem] FreeTw.out

def keepCells (ts : List (Nat × Nat)) : List Value := ts.map fun t => .int .i64 t.1
def bitCells (ts : List (Nat × Nat)) : List Value := ts.map fun t => .int .i64 t.2
set_option maxHeartbeats 16000000 in
theorem refCrash (g : Nat) (lv : Value) (a b : Int) (fs : List FileV) (kv bv : Value) (ts : List (Nat × Nat)) (w : World) (hP : (chM g lv a b fs).P w) (hlen : fs.length ≤ 1000) (hk : Rd w 1 kv ts.length (keepCells ts)) (hb : Rd w 1 bv ts.length (bitCells ts))
    (ht : ∀ t ∈ ts, t.1 < 65536 ∧ t.2 < 65536) (hkd : ∀ p ∈ rdFp kv ts.length, p ∉ (chM g lv a b fs).fp) (hbd : ∀ p ∈ rdFp bv ts.length, p ∉ (chM g lv a b fs).fp) :
    Calls Try.prog 27 #[.pointer (some ⟨g, 0, none⟩), kv, bv] w fun e w' => e = .returned (.tuple #[]) ∧ ∃ fs', Upd (chM g lv a b fs).fp w [chM g lv a b fs'] w' ∧ fs'.map rdatF = (fs.map rdatF).mapIdx (tornR ts) := by
  obtain ⟨i0, hi0, hz0, hz1, hz2⟩ := info_parts infoByte
  have S0 := Upd.open_ hP
  obtain ⟨S, hS⟩ : ∃ S, S = (chM g lv a b fs).fp := ⟨_, rfl⟩
  have S1 : Upd S w [chDk g lv a b, chFr lv fs, chFiles fs] w := by rw [hS]; exact S0
  rw [← hS] at hkd hbd ⊢
  clear S0 hS hP
  have HKD := Lib.hid (fun w' (h : Upd S w [] w') => h.rd (by decide) hk hkd)
  have HBD := Lib.hid (fun w' (h : Upd S w [] w') => h.rd (by decide) hb hbd)
  obtain ⟨Ak, ck, rfl, _, hk2, hk3, _⟩ := hk
  obtain ⟨Ab, cb, rfl, _, hb2, hb3, _⟩ := hb
  obtain ⟨A, c, rfl⟩ := owns_slice (S1.row 1 rfl)
  have h3 : fs.length ≤ c ∧ c ≤ maxLen := by
    obtain ⟨_, _, he, _, h2, h3, _⟩ := rd_of_owns (S1.row 1 rfl)
    cases he
    exact ⟨h2, h3⟩
  unfold maxLen at h3 hk3 hb3
  obtain ⟨n, hn⟩ : ∃ n, n = fs.length := ⟨_, rfl⟩
  obtain ⟨nt, hnt⟩ : ∃ nt, nt = ts.length := ⟨_, rfl⟩
  rw [← hn] at h3 hlen S1
  rw [← hnt] at HKD HBD hk2 hb2 ⊢
  have HN := Lib.hid hn
  have HNT := Lib.hid hnt
  have HT := Lib.hid ht
  clear hn hnt ht hkd hbd
  go_enter Try.func27, Try.ntmps27
  go_wp2_with fail
  go_loopw [6] (fun i wr => ∃ (k : Nat) (fsK : List FileV), k ≤ n ∧ i = .int .i64 k ∧ fsK.length = n ∧ (∀ j f, j < k → fs[j]? = some f → ∃ v, fsK[j]? = some ⟨f.name, v, tornT ts j f, (tornT ts j f).length⟩) ∧ (∀ j, k ≤ j → fsK[j]? = fs[j]?) ∧ Upd S w [chDk g (.slice A n c) a b, chFr (.slice A n c) fsK, chFiles fsK] wr) (fun i _ => n - (intOf i).toNat)
  case atStart => exact ⟨0, fs, Nat.zero_le _, rfl, HN.out.symm, fun j f hj => by omega, fun j _ => rfl, S1⟩
  case round =>
    obtain ⟨k, fsK, hk, rfl, hlk, hdn, hst, S2⟩ := hrel
    clear S1
    have S1 := S2
    clear S2
    have HLK := Lib.hid hlk
    have HDN := Lib.hid hdn
    have HST := Lib.hid hst
    clear hlk hdn hst
    have x0 := (S1.blk 0 rfl).cell (j := 0) (v := .slice A n c) rfl
    by_cases hkn : k < n
    · have hkn1 : decide ((k : Int) < (n : Int)) = true := by simpa using hkn
      obtain ⟨f, hf⟩ : ∃ f, fs[k]? = some f := ⟨_, List.getElem?_eq_getElem (by rw [← HN.out]; exact hkn)⟩
      have hfk : fsK[k]? = some f := by rw [HST.out k (Nat.le_refl _)]; exact hf
      have HF := Lib.hid hf
      have HFK := Lib.hid hfk
      obtain ⟨q, rfl⟩ : ∃ q, A = some ⟨q, 0, none⟩ := by
        rcases (S1.row 1 rfl).2 with ⟨he, h0⟩ | ⟨g', cap, cur, he, _⟩
        · rw [HLK.out] at h0; omega
        · cases he; exact ⟨_, rfl⟩
      have hFV := S1.files 2 rfl f (List.mem_of_getElem? hfk)
      have hFR := hFV.1
      obtain ⟨⟨Av, cv, ev, _, hv2, hv3, _⟩, hsy, hby⟩ := hFV
      obtain ⟨bl, hbl⟩ : ∃ bl, bl = f.bytes.length := ⟨_, rfl⟩
      obtain ⟨sy, hsye⟩ : ∃ sy, sy = f.synced := ⟨_, rfl⟩
      rw [← hbl] at ev hby hv2 hsy
      rw [← hsye] at hsy
      rw [ev, ← hbl] at hFR
      obtain ⟨av, hav⟩ : ∃ av, av = bl - sy := ⟨_, rfl⟩
      have wav : IntKind.i64.wrap ((bl : Int) - (sy : Int)) = (av : Int) := by rw [IntKind.wrap_i64]; omega
      have HFR := Lib.hid hFR
      have HBL := Lib.hid hbl
      have HSY := Lib.hid hsye
      have HAV := Lib.hid hav
      unfold maxLen at hv3
      clear hf hfk hFR hbl hsye hav
      by_cases hkt : k < nt
      · obtain ⟨t, htk⟩ : ∃ t, ts[k]? = some t := ⟨_, List.getElem?_eq_getElem (by rw [← HNT.out]; exact hkt)⟩
        obtain ⟨K, Bt⟩ := t
        have hlt := HT.out _ (List.mem_of_getElem? htk)
        simp only at hlt
        have hgd : ts.getD k (0, 0) = (K, Bt) := by rw [List.getD_eq_getElem?_getD, htk]; rfl
        have HGD := Lib.hid hgd
        have hkt1 : decide ((k : Int) < (nt : Int)) = true := by simpa using hkt
        obtain ⟨pk, ok, ek, hatk⟩ : ∃ b o, Ak = some ⟨b, o, none⟩ ∧ RdAt wr b o (keepCells ts) := by
          obtain ⟨_, _, he, _, _, _, h4⟩ := HKD.out wr (S1.sub (List.nil_sublist _))
          cases he
          exact h4 (by omega)
        obtain ⟨pb, ob, eb, hatb⟩ : ∃ b o, Ab = some ⟨b, o, none⟩ ∧ RdAt wr b o (bitCells ts) := by
          obtain ⟨_, _, he, _, _, _, h4⟩ := HBD.out wr (S1.sub (List.nil_sublist _))
          cases he
          exact h4 (by omega)
        subst ek eb
        have ck0 := hatk.nth0 (Below.refl _ _) k (.int .i64 K) (by unfold keepCells; rw [List.getElem?_map, htk]; rfl)
        have cb0 := hatb.nth0 (Below.refl _ _) k (.int .i64 Bt) (by unfold bitCells; rw [List.getElem?_map, htk]; rfl)
        have l1 := World.block_lt_of_cell? _ _ ck0
        have l2 := World.block_lt_of_cell? _ _ cb0
        have F6 : ∀ w', Below wr.heap.size wr w' → w'.cell? ⟨pk, ok + k, none⟩ = some (.int .i64 K) ∧ w'.cell? ⟨pb, ob + k, none⟩ = some (.int .i64 Bt) := fun w' h => ⟨by rw [h.cell l1]; exact ck0, by rw [h.cell l2]; exact cb0⟩
        clear hatk hatb htk hgd l1 l2 ck0 cb0
        go_wp2_with fail
        refine FreeTw.region_free (fun w' => Below wr.heap.size wr w') (fun _ => True) [] [] [0, 1, 2, 3, 4, 5, 6, 7, 8, 9] (fun _ _ => trivial) (by kernel_rfl) (by kernel_rfl) (by kernel_rfl) ((Below.refl _ _).drew) ?_
        repeat (first
          | (refine FreeTw.RelSeq.pure_ (c := ?_) rfl rfl ?_ ?_; rotate_left; (focus (intro x w'; dsimp only; go_simp; (first | ((repeat' apply And.intro) <;> first | with_reducible rfl | assumption) | (split <;> (try (focus (exfalso; omega))); (try go_simp); (repeat' apply And.intro) <;> first | with_reducible rfl | assumption)))); simp only [Act.put, List.setIfInBounds_toArray, List.set_cons_zero, List.set_cons_succ])
          | (refine FreeTw.RelSeq.skip_ rfl (fun _ => rfl) ?_; simp only [Act.put, List.setIfInBounds_toArray, List.set_cons_zero, List.set_cons_succ])
          | (refine FreeTw.RelSeq.pureG_ (c := ?_) rfl (fun _ => rfl) rfl ?_ ?_; rotate_left; (focus (intro x w'; dsimp only; go_simp; (repeat' apply And.intro) <;> first | with_reducible rfl | assumption)); simp only [Act.put, List.setIfInBounds_toArray, List.set_cons_zero, List.set_cons_succ])
          | (refine FreeTw.RelSeq.steady_ (c := ?_) rfl rfl rfl ?_ ?_; rotate_left; (focus (intro x w' hw; dsimp only; obtain _ := hw; go_simp; (repeat' apply And.intro) <;> first | with_reducible rfl | assumption)); simp only [Act.put, List.setIfInBounds_toArray, List.set_cons_zero, List.set_cons_succ])
          | (refine FreeTw.RelSeq.grow_ (c := ?_) rfl rfl rfl ?_ ?_; rotate_left; (focus (intro x w' hw _; dsimp only; obtain ⟨d0, d1⟩ := F6 w' hw; have hbr := Below.refl w'.heap.size w'; go_simp; (repeat' apply And.intro) <;> first | with_reducible rfl | assumption)); simp only [Act.put, List.setIfInBounds_toArray, List.set_cons_zero, List.set_cons_succ])
          | (refine FreeTw.RelSeq.growG_ (c := ?_) rfl (fun _ => rfl) rfl rfl ?_ ?_; rotate_left; (focus (intro x w' hw _; dsimp only; obtain ⟨d0, d1⟩ := F6 w' hw; have hbr := Below.refl w'.heap.size w'; go_simp; (repeat' apply And.intro) <;> first | with_reducible rfl | assumption)); simp only [Act.put, List.setIfInBounds_toArray, List.set_cons_zero, List.set_cons_succ]))
        refine FreeTw.RelSeq.nil_ fun x2 w2 hw2 _ _ => FreeTw.TailSeq.nil_ ?_
        have S2 := S1.grow hw2
        clear S1 F6 x0
        have S1 := S2
        clear S2
        by_cases hgt0 : av < K
        · have hgt : decide ((av : Int) < (K : Int)) = true := by simp; omega
          obtain ⟨N, hN⟩ : ∃ N, N = av := ⟨_, rfl⟩
          have wN : IntKind.i64.wrap ((bl : Int) - (sy : Int)) = (N : Int) := by rw [hN]; exact wav
          obtain ⟨M, hM⟩ : ∃ M, M = sy + N := ⟨_, rfl⟩
          have hav := HAV.out
          have wm : IntKind.i64.wrap ((sy : Int) + (N : Int)) = (M : Int) := by rw [IntKind.wrap_i64]; omega
          have hMN : sy + min K av = M := by rw [hM, hN, Nat.min_eq_right (by omega)]
          have hMb : M ≤ bl := by omega
          have hMc : M ≤ cv := by omega
          have HMN := Lib.hid hMN
          have HMM := Lib.hid hM
          clear hM hav hMN
          have HNV := Lib.hid hN
          clear hN
          have z_ := rows_at (by have := S1.row 1 rfl; rwa [HLK.out] at this) HFK.out
          rw [ev] at z_
          have F : ∀ w', Below w2.heap.size w2 w' → w'.cell? ⟨q, k * 3 + 1, none⟩ = some (.slice Av bl cv) ∧ w'.cell? ⟨q, k * 3 + 2, none⟩ = some (.int .i64 sy) := fun w' h => ⟨cell_later h z_.2.1, by rw [HSY.out]; exact cell_later h z_.2.2.1⟩
          clear z_
          go_wp2_with fail
          refine FreeTw.region_free (fun w' => Below w2.heap.size w2 w') (fun _ => True) [] [] [0, 1, 2, 3, 4, 5, 6, 7, 8, 9, 10, 11] (fun _ _ => trivial) (by kernel_rfl) (by kernel_rfl) (by kernel_rfl) ((Below.refl _ _).drew) ?_
          repeat (first
            | (refine FreeTw.RelSeq.pure_ (c := ?_) rfl rfl ?_ ?_; rotate_left; (focus (intro x w'; dsimp only; go_simp; (first | ((repeat' apply And.intro) <;> first | with_reducible rfl | assumption) | (split <;> (try (focus (exfalso; omega))); (try go_simp); (repeat' apply And.intro) <;> first | with_reducible rfl | assumption)))); simp only [Act.put, List.setIfInBounds_toArray, List.set_cons_zero, List.set_cons_succ])
            | (refine FreeTw.RelSeq.skip_ rfl (fun _ => rfl) ?_; simp only [Act.put, List.setIfInBounds_toArray, List.set_cons_zero, List.set_cons_succ])
            | (refine FreeTw.RelSeq.pureG_ (c := ?_) rfl (fun _ => rfl) rfl ?_ ?_; rotate_left; (focus (intro x w'; dsimp only; go_simp; (repeat' apply And.intro) <;> first | with_reducible rfl | assumption)); simp only [Act.put, List.setIfInBounds_toArray, List.set_cons_zero, List.set_cons_succ])
            | (refine FreeTw.RelSeq.steady_ (c := ?_) rfl rfl rfl ?_ ?_; rotate_left; (focus (intro x w' hw; dsimp only; obtain _ := hw; go_simp; (repeat' apply And.intro) <;> first | with_reducible rfl | assumption)); simp only [Act.put, List.setIfInBounds_toArray, List.set_cons_zero, List.set_cons_succ])
            | (refine FreeTw.RelSeq.grow_ (c := ?_) rfl rfl rfl ?_ ?_; rotate_left; (focus (intro x w' hw _; dsimp only; obtain ⟨d0, d1⟩ := F w' hw; have hbr := Below.refl w'.heap.size w'; go_simp; (repeat' apply And.intro) <;> first | with_reducible rfl | assumption)); simp only [Act.put, List.setIfInBounds_toArray, List.set_cons_zero, List.set_cons_succ])
            | (refine FreeTw.RelSeq.growG_ (c := ?_) rfl (fun _ => rfl) rfl rfl ?_ ?_; rotate_left; (focus (intro x w' hw _; dsimp only; obtain ⟨d0, d1⟩ := F w' hw; have hbr := Below.refl w'.heap.size w'; go_simp; (repeat' apply And.intro) <;> first | with_reducible rfl | assumption)); simp only [Act.put, List.setIfInBounds_toArray, List.set_cons_zero, List.set_cons_succ]))
          refine FreeTw.RelSeq.nil_ fun x3 w3 hw3 _ _ => FreeTw.TailSeq.nil_ ?_
          have S2 := S1.grow hw3
          clear S1 F
          have S1 := S2
          clear S2
          clear wav
          have z_ := rows_at (by have := S1.row 1 rfl; rwa [HLK.out] at this) HFK.out
          rw [ev] at z_
          have F : ∀ w', Below w3.heap.size w3 w' → w'.cell? ⟨q, k * 3 + 1, none⟩ = some (.slice Av bl cv) ∧ w'.cell? ⟨q, k * 3 + 2, none⟩ = some (.int .i64 sy) := fun w' h => ⟨cell_later h z_.2.1, by rw [HSY.out]; exact cell_later h z_.2.2.1⟩
          clear z_
          go_wp2_with fail
          refine FreeTw.region_free (fun w' => Below w3.heap.size w3 w') (fun _ => True) [] [] [0, 1, 2, 3, 4, 5, 6, 7, 8, 9, 10] (fun _ _ => trivial) (by kernel_rfl) (by kernel_rfl) (by kernel_rfl) ((Below.refl _ _).drew) ?_
          repeat (first
            | (refine FreeTw.RelSeq.pure_ (c := ?_) rfl rfl ?_ ?_; rotate_left; (focus (intro x w'; dsimp only; go_simp; (first | ((repeat' apply And.intro) <;> first | with_reducible rfl | assumption) | (split <;> (try (focus (exfalso; omega))); (try go_simp); (repeat' apply And.intro) <;> first | with_reducible rfl | assumption)))); simp only [Act.put, List.setIfInBounds_toArray, List.set_cons_zero, List.set_cons_succ])
            | (refine FreeTw.RelSeq.skip_ rfl (fun _ => rfl) ?_; simp only [Act.put, List.setIfInBounds_toArray, List.set_cons_zero, List.set_cons_succ])
            | (refine FreeTw.RelSeq.pureG_ (c := ?_) rfl (fun _ => rfl) rfl ?_ ?_; rotate_left; (focus (intro x w'; dsimp only; go_simp; (repeat' apply And.intro) <;> first | with_reducible rfl | assumption)); simp only [Act.put, List.setIfInBounds_toArray, List.set_cons_zero, List.set_cons_succ])
            | (refine FreeTw.RelSeq.steady_ (c := ?_) rfl rfl rfl ?_ ?_; rotate_left; (focus (intro x w' hw; dsimp only; obtain _ := hw; go_simp; (repeat' apply And.intro) <;> first | with_reducible rfl | assumption)); simp only [Act.put, List.setIfInBounds_toArray, List.set_cons_zero, List.set_cons_succ])
            | (refine FreeTw.RelSeq.grow_ (c := ?_) rfl rfl rfl ?_ ?_; rotate_left; (focus (intro x w' hw _; dsimp only; obtain ⟨d0, d1⟩ := F w' hw; have hbr := Below.refl w'.heap.size w'; go_simp; (repeat' apply And.intro) <;> first | with_reducible rfl | assumption)); simp only [Act.put, List.setIfInBounds_toArray, List.set_cons_zero, List.set_cons_succ])
            | (refine FreeTw.RelSeq.growG_ (c := ?_) rfl (fun _ => rfl) rfl rfl ?_ ?_; rotate_left; (focus (intro x w' hw _; dsimp only; obtain ⟨d0, d1⟩ := F w' hw; have hbr := Below.refl w'.heap.size w'; go_simp; (repeat' apply And.intro) <;> first | with_reducible rfl | assumption)); simp only [Act.put, List.setIfInBounds_toArray, List.set_cons_zero, List.set_cons_succ]))
          refine FreeTw.RelSeq.nil_ fun x4 w4 hw4 _ _ => FreeTw.TailSeq.nil_ ?_
          have S2 := S1.grow hw4
          clear S1 F
          have S1 := S2
          clear S2
          have z_ := rows_at (by have := S1.row 1 rfl; rwa [HLK.out] at this) HFK.out
          rw [ev] at z_
          have F : ∀ w', Below w4.heap.size w4 w' → w'.cell? ⟨q, k * 3 + 1, none⟩ = some (.slice Av bl cv) ∧ w'.cell? ⟨q, k * 3 + 2, none⟩ = some (.int .i64 sy) := fun w' h => ⟨cell_later h z_.2.1, by rw [HSY.out]; exact cell_later h z_.2.2.1⟩
          clear z_
          have hFR2 := (S1.files 2 rfl f (List.mem_of_getElem? HFK.out)).1
          rw [ev, ← HBL.out] at hFR2
          have hR := hFR2.preN (m := M) hMb
          rw [Nat.mul_one, show (u8L f.bytes).take M = u8L (f.bytes.take M) by simp [u8L]] at hR
          have HR := Lib.hid hR
          clear hFR2 hR
          go_wp2_with fail
          refine FreeTw.region_free (fun w' => Below w4.heap.size w4 w') (fun _ => True) [1, 13] [16] [0, 1, 2, 3, 4, 5, 6, 7, 8, 9, 10, 11, 12, 13, 14, 15] (fun _ _ => trivial) (by kernel_rfl) (by kernel_rfl) (by kernel_rfl) ((Below.refl _ _).drew) ?_
          repeat (first
            | (refine FreeTw.RelSeq.pure_ (c := ?_) rfl rfl ?_ ?_; rotate_left; (focus (intro x w'; dsimp only; go_simp; (first | ((repeat' apply And.intro) <;> first | with_reducible rfl | assumption) | (split <;> (try (focus (exfalso; omega))); (try go_simp); (repeat' apply And.intro) <;> first | with_reducible rfl | assumption)))); simp only [Act.put, List.setIfInBounds_toArray, List.set_cons_zero, List.set_cons_succ])
            | (refine FreeTw.RelSeq.skip_ rfl (fun _ => rfl) ?_; simp only [Act.put, List.setIfInBounds_toArray, List.set_cons_zero, List.set_cons_succ])
            | (refine FreeTw.RelSeq.pureG_ (c := ?_) rfl (fun _ => rfl) rfl ?_ ?_; rotate_left; (focus (intro x w'; dsimp only; go_simp; (repeat' apply And.intro) <;> first | with_reducible rfl | assumption)); simp only [Act.put, List.setIfInBounds_toArray, List.set_cons_zero, List.set_cons_succ])
            | (refine FreeTw.RelSeq.steady_ (c := ?_) rfl rfl rfl ?_ ?_; rotate_left; (focus (intro x w' hw; dsimp only; obtain _ := hw; go_simp; (repeat' apply And.intro) <;> first | with_reducible rfl | assumption)); simp only [Act.put, List.setIfInBounds_toArray, List.set_cons_zero, List.set_cons_succ])
            | (refine FreeTw.RelSeq.grow_ (c := ?_) rfl rfl rfl ?_ ?_; rotate_left; (focus (intro x w' hw _; dsimp only; obtain ⟨d0, d1⟩ := F w' hw; have hbr := Below.refl w'.heap.size w'; go_simp; (repeat' apply And.intro) <;> first | with_reducible rfl | assumption)); simp only [Act.put, List.setIfInBounds_toArray, List.set_cons_zero, List.set_cons_succ])
            | (refine FreeTw.RelSeq.growG_ (c := ?_) rfl (fun _ => rfl) rfl rfl ?_ ?_; rotate_left; (focus (intro x w' hw _; dsimp only; obtain ⟨d0, d1⟩ := F w' hw; have hbr := Below.refl w'.heap.size w'; go_simp; (repeat' apply And.intro) <;> first | with_reducible rfl | assumption)); simp only [Act.put, List.setIfInBounds_toArray, List.set_cons_zero, List.set_cons_succ]))
          refine FreeTw.RelSeq.rel_ (NewSl w4.heap.size 0 #[] 5) rfl rfl NewSl.stable ?_ ?_
          focus
            intro x w' hw _; dsimp only
            have hba : Below w'.heap.size w' (w'.alloc (.cells #[] 5)) := (Below.refl _ _).alloc (Nat.le_refl _) _
            have hI := hw.trans (hba.mono hw.size)
            have hsz := hw.size
            go_simp
            (repeat' apply And.intro) <;> first | assumption | exact ⟨_, rfl, hsz, Blk.new _ _ _⟩ | decide
          simp only [Act.put, List.setIfInBounds_toArray, List.set_cons_zero, List.set_cons_succ, List.nil_append]
          repeat (first
            | (refine FreeTw.RelSeq.pure_ (c := ?_) rfl rfl ?_ ?_; rotate_left; (focus (intro x w'; dsimp only; go_simp; (first | ((repeat' apply And.intro) <;> first | with_reducible rfl | assumption) | (split <;> (try (focus (exfalso; omega))); (try go_simp); (repeat' apply And.intro) <;> first | with_reducible rfl | assumption)))); simp only [Act.put, List.setIfInBounds_toArray, List.set_cons_zero, List.set_cons_succ])
            | (refine FreeTw.RelSeq.skip_ rfl (fun _ => rfl) ?_; simp only [Act.put, List.setIfInBounds_toArray, List.set_cons_zero, List.set_cons_succ])
            | (refine FreeTw.RelSeq.pureG_ (c := ?_) rfl (fun _ => rfl) rfl ?_ ?_; rotate_left; (focus (intro x w'; dsimp only; go_simp; (repeat' apply And.intro) <;> first | with_reducible rfl | assumption)); simp only [Act.put, List.setIfInBounds_toArray, List.set_cons_zero, List.set_cons_succ])
            | (refine FreeTw.RelSeq.steady_ (c := ?_) rfl rfl rfl ?_ ?_; rotate_left; (focus (intro x w' hw; dsimp only; obtain _ := hw; go_simp; (repeat' apply And.intro) <;> first | with_reducible rfl | assumption)); simp only [Act.put, List.setIfInBounds_toArray, List.set_cons_zero, List.set_cons_succ])
            | (refine FreeTw.RelSeq.grow_ (c := ?_) rfl rfl rfl ?_ ?_; rotate_left; (focus (intro x w' hw _; dsimp only; obtain ⟨d0, d1⟩ := F w' hw; have hbr := Below.refl w'.heap.size w'; go_simp; (repeat' apply And.intro) <;> first | with_reducible rfl | assumption)); simp only [Act.put, List.setIfInBounds_toArray, List.set_cons_zero, List.set_cons_succ])
            | (refine FreeTw.RelSeq.growG_ (c := ?_) rfl (fun _ => rfl) rfl rfl ?_ ?_; rotate_left; (focus (intro x w' hw _; dsimp only; obtain ⟨d0, d1⟩ := F w' hw; have hbr := Below.refl w'.heap.size w'; go_simp; (repeat' apply And.intro) <;> first | with_reducible rfl | assumption)); simp only [Act.put, List.setIfInBounds_toArray, List.set_cons_zero, List.set_cons_succ]))
          refine FreeTw.RelSeq.rel_ (fun v u => u.ownsRow w4.heap.size 5 1 v (M) (u8L (f.bytes.take M))) rfl rfl (fun v u u' h hb => owns_below h hb) ?_ ?_
          focus
            intro x w' hw hf; dsimp only
            obtain ⟨bq, eq, hbq, hBq⟩ := hf _ (.head _) (by kernel_rfl)
            have hrq := HR.out.below hw
            refine wp_append_copy (.tmp 60) (.tmp 71) 27 rfl w4.heap.size 5 i0 _ 1 1 Try.underlying27 hi0 hz0 hz1 hz2 rfl (by decide) bq hBq hbq (by simp only [Act.eval]; exact eq) _ _ _ rfl hrq (by unfold maxLen; omega) (by omega) fun v2 w2 h2 h3 => ?_
            exact ⟨rfl, ⟨by first | exact h2 | simpa using h2, fun h => absurd h (by decide)⟩, hw.trans (h3.mono hw.size), h3⟩
          simp only [Act.put, List.setIfInBounds_toArray, List.set_cons_zero, List.set_cons_succ, List.nil_append, List.cons_append]
          repeat (first
            | (refine FreeTw.RelSeq.pure_ (c := ?_) rfl rfl ?_ ?_; rotate_left; (focus (intro x w'; dsimp only; go_simp; (first | ((repeat' apply And.intro) <;> first | with_reducible rfl | assumption) | (split <;> (try (focus (exfalso; omega))); (try go_simp); (repeat' apply And.intro) <;> first | with_reducible rfl | assumption)))); simp only [Act.put, List.setIfInBounds_toArray, List.set_cons_zero, List.set_cons_succ])
            | (refine FreeTw.RelSeq.skip_ rfl (fun _ => rfl) ?_; simp only [Act.put, List.setIfInBounds_toArray, List.set_cons_zero, List.set_cons_succ])
            | (refine FreeTw.RelSeq.pureG_ (c := ?_) rfl (fun _ => rfl) rfl ?_ ?_; rotate_left; (focus (intro x w'; dsimp only; go_simp; (repeat' apply And.intro) <;> first | with_reducible rfl | assumption)); simp only [Act.put, List.setIfInBounds_toArray, List.set_cons_zero, List.set_cons_succ])
            | (refine FreeTw.RelSeq.steady_ (c := ?_) rfl rfl rfl ?_ ?_; rotate_left; (focus (intro x w' hw; dsimp only; obtain _ := hw; go_simp; (repeat' apply And.intro) <;> first | with_reducible rfl | assumption)); simp only [Act.put, List.setIfInBounds_toArray, List.set_cons_zero, List.set_cons_succ])
            | (refine FreeTw.RelSeq.grow_ (c := ?_) rfl rfl rfl ?_ ?_; rotate_left; (focus (intro x w' hw _; dsimp only; obtain ⟨d0, d1⟩ := F w' hw; have hbr := Below.refl w'.heap.size w'; go_simp; (repeat' apply And.intro) <;> first | with_reducible rfl | assumption)); simp only [Act.put, List.setIfInBounds_toArray, List.set_cons_zero, List.set_cons_succ])
            | (refine FreeTw.RelSeq.growG_ (c := ?_) rfl (fun _ => rfl) rfl rfl ?_ ?_; rotate_left; (focus (intro x w' hw _; dsimp only; obtain ⟨d0, d1⟩ := F w' hw; have hbr := Below.refl w'.heap.size w'; go_simp; (repeat' apply And.intro) <;> first | with_reducible rfl | assumption)); simp only [Act.put, List.setIfInBounds_toArray, List.set_cons_zero, List.set_cons_succ]))
          refine FreeTw.RelSeq.nil_ fun x5 w5 hw5 hf _ => ?_
          have hown := hf _ (.tail _ (.head _))
          dsimp only at hown
          obtain ⟨A5, c5, e5⟩ := owns_slice hown
          rw [e5] at hown ⊢
          have S3 := S1.addRow hw5 hown (Nat.le_refl _)
          have z_ := rows_at (by have := S3.row 2 rfl; rwa [HLK.out] at this) HFK.out
          rw [ev] at z_
          have z2 := z_.2.1
          have z0 := z_.2.2.2 (k * 3 + 1)
          clear F hf hown z_ S1
          refine FreeTw.TailSeq.cons_ rfl ?_
          go_simp
          refine FreeTw.TailSeq.nil_ ?_
          have S4 := S3.setFile (j := 1) (u := .slice A5 M c5) (f' := { f with val := .slice A5 M c5 }) 2 rfl HLK.out.symm HFK.out (by decide) rfl
          simp only [List.eraseIdx_cons_succ, List.eraseIdx_cons_zero] at S4
          clear S3 z2 z0
          by_cases h0 : 0 < N
          · have d0 : decide ((0 : Int) < (N : Int)) = true := by simpa using h0
            by_cases h8 : Bt < 8
            · have d8 : decide ((Bt : Int) < 8) = true := by simp; omega
              have hF0 : 0 < N ∧ Bt < 8 := ⟨h0, h8⟩
              obtain ⟨i9, hi9⟩ : ∃ i9, i9 = M - 1 := ⟨_, rfl⟩
              have hav0 := HAV.out
              have hmm0 := HMM.out
              have w9 : IntKind.i64.wrap ((M : Int) - 1) = (i9 : Int) := by rw [IntKind.wrap_i64]; omega
              obtain ⟨gv, rfl⟩ : ∃ gv, A5 = some ⟨gv, 0, none⟩ := by
                rcases (S4.row 1 rfl).2 with ⟨he, h9⟩ | ⟨g', cap, cur, he, _⟩
                · omega
                · cases he; exact ⟨_, rfl⟩
              have hrow := S4.row 1 rfl
              have hlt9 : (f.bytes.take M).length = M := by rw [List.length_take, ← HBL.out]; omega
              obtain ⟨y, hy⟩ : ∃ y, (f.bytes.take M)[i9]? = some y := ⟨_, List.getElem?_eq_getElem (by rw [hlt9]; omega)⟩
              obtain ⟨_, _, he9, _, _, _, h49⟩ := rd_of_owns hrow
              cases he9
              obtain ⟨_, _, he8, hat9⟩ := h49 (by omega)
              cases he8
              have c9 := hat9.nth0 (Below.refl _ _) i9 (.int .u8 y.toNat) (by rw [u8L, List.getElem?_map, hy]; rfl)
              rw [Nat.zero_add] at c9
              have HG3 : (fsK.set k { f with val := .slice (some ⟨gv, 0, none⟩) M c5 })[k]? = some { f with val := .slice (some ⟨gv, 0, none⟩) M c5 } := by rw [List.getElem?_set_self (by rw [HLK.out]; exact hkn)]
              have z_ := rows_at (by have := S4.row 0 rfl; rwa [List.length_set, HLK.out] at this) HG3
              have z1 := z_.2.1
              simp only at z1
              obtain ⟨wq, hwq⟩ : ∃ wq, wq = w5.setCell ⟨q, k * 3 + 1, none⟩ (.slice (some ⟨gv, 0, none⟩) M c5) := ⟨_, rfl⟩
              rw [← hwq] at S4 c9 z1 ⊢
              have F : ∀ w', Below wq.heap.size wq w' → w'.cell? ⟨q, k * 3 + 1, none⟩ = some (.slice (some ⟨gv, 0, none⟩) M c5) ∧ w'.cell? ⟨gv, i9, none⟩ = some (.int .u8 y.toNat) := fun w' h => ⟨cell_later h z1, cell_later h c9⟩
              have hx8 := y.toNat_lt
              obtain ⟨p2, hp2⟩ : ∃ p2, p2 = 2 ^ Bt := ⟨_, rfl⟩
              have lp2 : p2 < 256 := by rw [hp2]; calc 2 ^ Bt ≤ 2 ^ 7 := Nat.pow_le_pow_right (by decide) (by omega)
                                             _ < 256 := by decide
              have ep : IntKind.u8.wrap ((2 : Int) ^ Bt) = (p2 : Int) := by
                have q : ((2 : Int) ^ Bt) = (p2 : Int) := by rw [hp2]; simp
                rw [q]
                simp [IntKind.wrap, IntKind.signed, IntKind.bits]
                omega
              obtain ⟨yy, hyy⟩ : ∃ yy, yy = y.toNat ^^^ p2 := ⟨_, rfl⟩
              have ly : yy < 256 := by rw [hyy]; exact Nat.xor_lt_two_pow (n := 8) (by omega) (by omega)
              have ey : bits .xor .u8 (y.toNat : Int) (p2 : Int) = (yy : Int) := by rw [hyy]; exact u8_xor_nat y.toNat p2 (by omega) (by omega)
              have li0 : (0 : Int) ≤ (i9 : Int) := by omega
              have li : (i9 : Int) < (M : Int) := by omega
              have HY := Lib.hid hy
              have HYY := Lib.hid hyy
              have HP2 := Lib.hid hp2
              have HI9 := Lib.hid hi9
              clear hy hyy hp2 hi9 z1 z_ c9 hat9 h49 hrow hwq HG3 hav0 hmm0
              go_wp2_with fail
              refine FreeTw.region_free (fun w' => Below wq.heap.size wq w') (fun _ => True) [] [26] [0, 1, 2, 3, 4, 5, 6, 7, 8, 9, 10, 11, 12, 13, 14, 15, 16, 17, 18, 19, 20, 21, 22, 23, 24, 25] (fun _ _ => trivial) (by kernel_rfl) (by kernel_rfl) (by kernel_rfl) ((Below.refl _ _).drew) ?_
              repeat (first
                | (refine FreeTw.RelSeq.pure_ (c := ?_) rfl rfl ?_ ?_; rotate_left; (focus (intro x w'; dsimp only; go_simp; (first | ((repeat' apply And.intro) <;> first | with_reducible rfl | assumption) | (split <;> (try (focus (exfalso; omega))); (try go_simp); (repeat' apply And.intro) <;> first | with_reducible rfl | assumption)))); simp only [Act.put, List.setIfInBounds_toArray, List.set_cons_zero, List.set_cons_succ])
                | (refine FreeTw.RelSeq.skip_ rfl (fun _ => rfl) ?_; simp only [Act.put, List.setIfInBounds_toArray, List.set_cons_zero, List.set_cons_succ])
                | (refine FreeTw.RelSeq.pureG_ (c := ?_) rfl (fun _ => rfl) rfl ?_ ?_; rotate_left; (focus (intro x w'; dsimp only; go_simp; (repeat' apply And.intro) <;> first | with_reducible rfl | assumption)); simp only [Act.put, List.setIfInBounds_toArray, List.set_cons_zero, List.set_cons_succ])
                | (refine FreeTw.RelSeq.steady_ (c := ?_) rfl rfl rfl ?_ ?_; rotate_left; (focus (intro x w' hw; dsimp only; obtain _ := hw; go_simp; (repeat' apply And.intro) <;> first | with_reducible rfl | assumption)); simp only [Act.put, List.setIfInBounds_toArray, List.set_cons_zero, List.set_cons_succ])
                | (refine FreeTw.RelSeq.grow_ (c := ?_) rfl rfl rfl ?_ ?_; rotate_left; (focus (intro x w' hw _; dsimp only; obtain ⟨d0, d1⟩ := F w' hw; have hbr := Below.refl w'.heap.size w'; go_simp; (repeat' apply And.intro) <;> first | with_reducible rfl | assumption)); simp only [Act.put, List.setIfInBounds_toArray, List.set_cons_zero, List.set_cons_succ])
                | (refine FreeTw.RelSeq.growG_ (c := ?_) rfl (fun _ => rfl) rfl rfl ?_ ?_; rotate_left; (focus (intro x w' hw _; dsimp only; obtain ⟨d0, d1⟩ := F w' hw; have hbr := Below.refl w'.heap.size w'; go_simp; (repeat' apply And.intro) <;> first | with_reducible rfl | assumption)); simp only [Act.put, List.setIfInBounds_toArray, List.set_cons_zero, List.set_cons_succ]))
              refine FreeTw.RelSeq.nil_ fun x6 w6 hw6 _ _ => ?_
              have S5 := S4.grow hw6
              have c6 := (F w6 hw6).2
              have f6 : w6.frozen? ⟨gv, i9, none⟩ = false := by
                rcases (S5.row 1 rfl).2 with ⟨he, _⟩ | ⟨g', cap, cur, he, _, hh, _⟩
                · cases he
                · cases he
                  exact Lib.frozen_of_heap hh i9
              clear S4 F
              refine FreeTw.TailSeq.cons_ rfl ?_
              go_simp
              refine FreeTw.TailSeq.nil_ ?_
              obtain ⟨L, hL⟩ : ∃ L, L = (f.bytes.take M).set i9 (UInt8.ofNat yy) := ⟨_, rfl⟩
              have hset : (u8L (f.bytes.take M)).set i9 (.int .u8 yy) = u8L L := by
                rw [hL]
                unfold u8L
                rw [List.map_set, UInt8.toNat_ofNat', Nat.mod_eq_of_lt (by omega)]
              have S6a := S5.putRow 1 rfl i9 (.int .u8 yy)
              rw [hset] at S6a
              have hav := HAV.out
              have hMM := HMM.out
              have h99 := HI9.out
              have hnv := HNV.out
              have hTL : tornT ts k f = L := by
                unfold tornT tornB
                rw [HGD.out, ← HBL.out, ← HSY.out, ← HAV.out]
                simp only
                rw [if_pos (by omega), hL, HMN.out, ← HI9.out, HYY.out, HP2.out]
                have e : f.bytes.getD i9 0 = y := by
                  have := HY.out
                  rw [List.getElem?_take] at this
                  split at this
                  · rw [List.getD_eq_getElem?_getD, this]; rfl
                  · cases this
                rw [e]
              have hLM : L.length = M := by rw [hL, List.length_set, List.length_take, ← HBL.out]; omega
              have HTL := Lib.hid hTL
              have HLM := Lib.hid hLM
              have S6 := S6a.pick [1, 0, 2, 3] (by decide)
              simp only [List.filterMap_cons, List.filterMap_nil, List.getElem?_cons_succ, List.getElem?_cons_zero, List.eraseIdx_cons_succ, List.eraseIdx_cons_zero] at S6
              clear S5 S6a hset hL hTL hLM hav hMM h99 c6 f6 d0 d8
              have HG2 : (fsK.set k { f with val := .slice (some ⟨gv, 0, none⟩) M c5 })[k]? = some { f with val := .slice (some ⟨gv, 0, none⟩) M c5 } := by rw [List.getElem?_set_self (by rw [HLK.out]; exact hkn)]
              have z_ := rows_at (by have := S6.row 0 rfl; rwa [List.length_set, HLK.out] at this) HG2
              have z1 := z_.2.1
              have z2 := z_.2.2.1
              have z3 := z_.2.2.2 (k * 3 + 2)
              simp only at z1 z2
              rw [← HSY.out] at z2
              have S7 := S6.setFile (j := 2) (u := .int .i64 M) (f' := ⟨f.name, .slice (some ⟨gv, 0, none⟩) M c5, L, M⟩) 0 rfl (by rw [List.length_set]; exact HLK.out.symm) HG2 (by decide) rfl
              simp only [List.eraseIdx_cons_zero, List.set_set] at S7
              have S8 := S7.pick [1, 3, 2, 0] (by decide)
              simp only [List.filterMap_cons, List.filterMap_nil, List.getElem?_cons_succ, List.getElem?_cons_zero] at S8
              have S9 := chFiles_row (l := L) (v := .slice (some ⟨gv, 0, none⟩) M c5) (fs' := fsK.set k ⟨f.name, .slice (some ⟨gv, 0, none⟩) M c5, L, M⟩) (by rw [HLM.out]; exact S8) (by rw [HLM.out]; omega) (fun f2 hf2 => by
                rcases List.mem_or_eq_of_mem_set hf2 with h | h
                · exact .inr h
                · exact .inl ⟨by rw [h], by rw [h], by rw [h, HLM.out]; exact Nat.le_refl _⟩)
              have S10 := S9.pick [1, 2, 0] (by decide)
              simp only [List.filterMap_cons, List.filterMap_nil, List.getElem?_cons_succ, List.getElem?_cons_zero] at S10
              have HS := Lib.hid S10
              clear S6 S7 S8 S9 S10 HG2 z_
              go_wp2_with fail
              go_roundw
              case rel => exact ⟨k + 1, fsK.set k ⟨f.name, .slice (some ⟨gv, 0, none⟩) M c5, L, M⟩, by omega, by go_num, by rw [List.length_set]; exact HLK.out, fun j f2 hj hf2 => by
                by_cases hjk : j = k
                · subst hjk
                  have e : f2 = f := by have := HF.out; rw [hf2] at this; exact Option.some.inj this
                  exact ⟨.slice (some ⟨gv, 0, none⟩) M c5, by rw [List.getElem?_set_self (by rw [HLK.out]; exact hkn), e, HTL.out, HLM.out]⟩
                · obtain ⟨v, hv⟩ := HDN.out j f2 (by omega) hf2
                  exact ⟨v, by rw [List.getElem?_set_ne (fun e => hjk e.symm)]; exact hv⟩, fun j hj => by
                rw [List.getElem?_set_ne (by omega)]
                exact HST.out j (by omega), HS.out⟩
              case measure => simp [intOf]; omega
            · have d8 : decide ((Bt : Int) < 8) = false := by simp; omega
              have hav := HAV.out
              have hMM := HMM.out
              have hnv := HNV.out
              obtain ⟨L, hL⟩ : ∃ L, L = f.bytes.take M := ⟨_, rfl⟩
              have hTL : tornT ts k f = L := by
                unfold tornT tornB
                rw [HGD.out, ← HBL.out, ← HSY.out, ← HAV.out]
                simp only
                rw [if_neg (by omega), hL, HMN.out]
              have hLM : L.length = M := by rw [hL, List.length_take, ← HBL.out]; omega
              have HTL := Lib.hid hTL
              have HLM := Lib.hid hLM
              rw [← hL] at S4
              have S6 := S4
              clear S4 hL hTL hLM hav hMM
              have HG2 : (fsK.set k { f with val := .slice A5 M c5 })[k]? = some { f with val := .slice A5 M c5 } := by rw [List.getElem?_set_self (by rw [HLK.out]; exact hkn)]
              have z_ := rows_at (by have := S6.row 0 rfl; rwa [List.length_set, HLK.out] at this) HG2
              have z1 := z_.2.1
              have z2 := z_.2.2.1
              have z3 := z_.2.2.2 (k * 3 + 2)
              simp only at z1 z2
              rw [← HSY.out] at z2
              have S7 := S6.setFile (j := 2) (u := .int .i64 M) (f' := ⟨f.name, .slice A5 M c5, L, M⟩) 0 rfl (by rw [List.length_set]; exact HLK.out.symm) HG2 (by decide) rfl
              simp only [List.eraseIdx_cons_zero, List.set_set] at S7
              have S8 := S7.pick [1, 3, 2, 0] (by decide)
              simp only [List.filterMap_cons, List.filterMap_nil, List.getElem?_cons_succ, List.getElem?_cons_zero] at S8
              have S9 := chFiles_row (l := L) (v := .slice A5 M c5) (fs' := fsK.set k ⟨f.name, .slice A5 M c5, L, M⟩) (by rw [HLM.out]; exact S8) (by rw [HLM.out]; omega) (fun f2 hf2 => by
                rcases List.mem_or_eq_of_mem_set hf2 with h | h
                · exact .inr h
                · exact .inl ⟨by rw [h], by rw [h], by rw [h, HLM.out]; exact Nat.le_refl _⟩)
              have S10 := S9.pick [1, 2, 0] (by decide)
              simp only [List.filterMap_cons, List.filterMap_nil, List.getElem?_cons_succ, List.getElem?_cons_zero] at S10
              have HS := Lib.hid S10
              clear S6 S7 S8 S9 S10 HG2 z_
              go_wp2_with fail
              go_roundw
              case rel => exact ⟨k + 1, fsK.set k ⟨f.name, .slice A5 M c5, L, M⟩, by omega, by go_num, by rw [List.length_set]; exact HLK.out, fun j f2 hj hf2 => by
                by_cases hjk : j = k
                · subst hjk
                  have e : f2 = f := by have := HF.out; rw [hf2] at this; exact Option.some.inj this
                  exact ⟨.slice A5 M c5, by rw [List.getElem?_set_self (by rw [HLK.out]; exact hkn), e, HTL.out, HLM.out]⟩
                · obtain ⟨v, hv⟩ := HDN.out j f2 (by omega) hf2
                  exact ⟨v, by rw [List.getElem?_set_ne (fun e => hjk e.symm)]; exact hv⟩, fun j hj => by
                rw [List.getElem?_set_ne (by omega)]
                exact HST.out j (by omega), HS.out⟩
              case measure => simp [intOf]; omega
          · have d0 : decide ((0 : Int) < (N : Int)) = false := by simpa using h0
            have hav := HAV.out
            have hMM := HMM.out
            have hnv := HNV.out
            obtain ⟨L, hL⟩ : ∃ L, L = f.bytes.take M := ⟨_, rfl⟩
            have hTL : tornT ts k f = L := by
              unfold tornT tornB
              rw [HGD.out, ← HBL.out, ← HSY.out, ← HAV.out]
              simp only
              rw [if_neg (by omega), hL, HMN.out]
            have hLM : L.length = M := by rw [hL, List.length_take, ← HBL.out]; omega
            have HTL := Lib.hid hTL
            have HLM := Lib.hid hLM
            rw [← hL] at S4
            have S6 := S4
            clear S4 hL hTL hLM hav hMM
            have HG2 : (fsK.set k { f with val := .slice A5 M c5 })[k]? = some { f with val := .slice A5 M c5 } := by rw [List.getElem?_set_self (by rw [HLK.out]; exact hkn)]
            have z_ := rows_at (by have := S6.row 0 rfl; rwa [List.length_set, HLK.out] at this) HG2
            have z1 := z_.2.1
            have z2 := z_.2.2.1
            have z3 := z_.2.2.2 (k * 3 + 2)
            simp only at z1 z2
            rw [← HSY.out] at z2
            have S7 := S6.setFile (j := 2) (u := .int .i64 M) (f' := ⟨f.name, .slice A5 M c5, L, M⟩) 0 rfl (by rw [List.length_set]; exact HLK.out.symm) HG2 (by decide) rfl
            simp only [List.eraseIdx_cons_zero, List.set_set] at S7
            have S8 := S7.pick [1, 3, 2, 0] (by decide)
            simp only [List.filterMap_cons, List.filterMap_nil, List.getElem?_cons_succ, List.getElem?_cons_zero] at S8
            have S9 := chFiles_row (l := L) (v := .slice A5 M c5) (fs' := fsK.set k ⟨f.name, .slice A5 M c5, L, M⟩) (by rw [HLM.out]; exact S8) (by rw [HLM.out]; omega) (fun f2 hf2 => by
              rcases List.mem_or_eq_of_mem_set hf2 with h | h
              · exact .inr h
              · exact .inl ⟨by rw [h], by rw [h], by rw [h, HLM.out]; exact Nat.le_refl _⟩)
            have S10 := S9.pick [1, 2, 0] (by decide)
            simp only [List.filterMap_cons, List.filterMap_nil, List.getElem?_cons_succ, List.getElem?_cons_zero] at S10
            have HS := Lib.hid S10
            clear S6 S7 S8 S9 S10 HG2 z_
            go_wp2_with fail
            go_roundw
            case rel => exact ⟨k + 1, fsK.set k ⟨f.name, .slice A5 M c5, L, M⟩, by omega, by go_num, by rw [List.length_set]; exact HLK.out, fun j f2 hj hf2 => by
              by_cases hjk : j = k
              · subst hjk
                have e : f2 = f := by have := HF.out; rw [hf2] at this; exact Option.some.inj this
                exact ⟨.slice A5 M c5, by rw [List.getElem?_set_self (by rw [HLK.out]; exact hkn), e, HTL.out, HLM.out]⟩
              · obtain ⟨v, hv⟩ := HDN.out j f2 (by omega) hf2
                exact ⟨v, by rw [List.getElem?_set_ne (fun e => hjk e.symm)]; exact hv⟩, fun j hj => by
              rw [List.getElem?_set_ne (by omega)]
              exact HST.out j (by omega), HS.out⟩
            case measure => simp [intOf]; omega
        · have hgt : decide ((av : Int) < (K : Int)) = false := by simp; omega
          obtain ⟨M, hM⟩ : ∃ M, M = sy + K := ⟨_, rfl⟩
          have hav := HAV.out
          have wm : IntKind.i64.wrap ((sy : Int) + (K : Int)) = (M : Int) := by rw [IntKind.wrap_i64]; omega
          have hMN : sy + min K av = M := by rw [hM, Nat.min_eq_left (by omega)]
          have hMb : M ≤ bl := by omega
          have hMc : M ≤ cv := by omega
          have HMN := Lib.hid hMN
          have HMM := Lib.hid hM
          clear hM hav hMN
          have z_ := rows_at (by have := S1.row 1 rfl; rwa [HLK.out] at this) HFK.out
          rw [ev] at z_
          have F : ∀ w', Below w2.heap.size w2 w' → w'.cell? ⟨q, k * 3 + 1, none⟩ = some (.slice Av bl cv) ∧ w'.cell? ⟨q, k * 3 + 2, none⟩ = some (.int .i64 sy) := fun w' h => ⟨cell_later h z_.2.1, by rw [HSY.out]; exact cell_later h z_.2.2.1⟩
          clear z_
          go_wp2_with fail
          refine FreeTw.region_free (fun w' => Below w2.heap.size w2 w') (fun _ => True) [] [] [0, 1, 2, 3, 4, 5, 6, 7, 8, 9, 10, 11] (fun _ _ => trivial) (by kernel_rfl) (by kernel_rfl) (by kernel_rfl) ((Below.refl _ _).drew) ?_
          repeat (first
            | (refine FreeTw.RelSeq.pure_ (c := ?_) rfl rfl ?_ ?_; rotate_left; (focus (intro x w'; dsimp only; go_simp; (first | ((repeat' apply And.intro) <;> first | with_reducible rfl | assumption) | (split <;> (try (focus (exfalso; omega))); (try go_simp); (repeat' apply And.intro) <;> first | with_reducible rfl | assumption)))); simp only [Act.put, List.setIfInBounds_toArray, List.set_cons_zero, List.set_cons_succ])
            | (refine FreeTw.RelSeq.skip_ rfl (fun _ => rfl) ?_; simp only [Act.put, List.setIfInBounds_toArray, List.set_cons_zero, List.set_cons_succ])
            | (refine FreeTw.RelSeq.pureG_ (c := ?_) rfl (fun _ => rfl) rfl ?_ ?_; rotate_left; (focus (intro x w'; dsimp only; go_simp; (repeat' apply And.intro) <;> first | with_reducible rfl | assumption)); simp only [Act.put, List.setIfInBounds_toArray, List.set_cons_zero, List.set_cons_succ])
            | (refine FreeTw.RelSeq.steady_ (c := ?_) rfl rfl rfl ?_ ?_; rotate_left; (focus (intro x w' hw; dsimp only; obtain _ := hw; go_simp; (repeat' apply And.intro) <;> first | with_reducible rfl | assumption)); simp only [Act.put, List.setIfInBounds_toArray, List.set_cons_zero, List.set_cons_succ])
            | (refine FreeTw.RelSeq.grow_ (c := ?_) rfl rfl rfl ?_ ?_; rotate_left; (focus (intro x w' hw _; dsimp only; obtain ⟨d0, d1⟩ := F w' hw; have hbr := Below.refl w'.heap.size w'; go_simp; (repeat' apply And.intro) <;> first | with_reducible rfl | assumption)); simp only [Act.put, List.setIfInBounds_toArray, List.set_cons_zero, List.set_cons_succ])
            | (refine FreeTw.RelSeq.growG_ (c := ?_) rfl (fun _ => rfl) rfl rfl ?_ ?_; rotate_left; (focus (intro x w' hw _; dsimp only; obtain ⟨d0, d1⟩ := F w' hw; have hbr := Below.refl w'.heap.size w'; go_simp; (repeat' apply And.intro) <;> first | with_reducible rfl | assumption)); simp only [Act.put, List.setIfInBounds_toArray, List.set_cons_zero, List.set_cons_succ]))
          refine FreeTw.RelSeq.nil_ fun x3 w3 hw3 _ _ => FreeTw.TailSeq.nil_ ?_
          have S2 := S1.grow hw3
          clear S1 F
          have S1 := S2
          clear S2
          have z_ := rows_at (by have := S1.row 1 rfl; rwa [HLK.out] at this) HFK.out
          rw [ev] at z_
          have F : ∀ w', Below w3.heap.size w3 w' → w'.cell? ⟨q, k * 3 + 1, none⟩ = some (.slice Av bl cv) ∧ w'.cell? ⟨q, k * 3 + 2, none⟩ = some (.int .i64 sy) := fun w' h => ⟨cell_later h z_.2.1, by rw [HSY.out]; exact cell_later h z_.2.2.1⟩
          clear z_
          have hFR2 := (S1.files 2 rfl f (List.mem_of_getElem? HFK.out)).1
          rw [ev, ← HBL.out] at hFR2
          have hR := hFR2.preN (m := M) hMb
          rw [Nat.mul_one, show (u8L f.bytes).take M = u8L (f.bytes.take M) by simp [u8L]] at hR
          have HR := Lib.hid hR
          clear hFR2 hR
          go_wp2_with fail
          refine FreeTw.region_free (fun w' => Below w3.heap.size w3 w') (fun _ => True) [1, 13] [16] [0, 1, 2, 3, 4, 5, 6, 7, 8, 9, 10, 11, 12, 13, 14, 15] (fun _ _ => trivial) (by kernel_rfl) (by kernel_rfl) (by kernel_rfl) ((Below.refl _ _).drew) ?_
          repeat (first
            | (refine FreeTw.RelSeq.pure_ (c := ?_) rfl rfl ?_ ?_; rotate_left; (focus (intro x w'; dsimp only; go_simp; (first | ((repeat' apply And.intro) <;> first | with_reducible rfl | assumption) | (split <;> (try (focus (exfalso; omega))); (try go_simp); (repeat' apply And.intro) <;> first | with_reducible rfl | assumption)))); simp only [Act.put, List.setIfInBounds_toArray, List.set_cons_zero, List.set_cons_succ])
            | (refine FreeTw.RelSeq.skip_ rfl (fun _ => rfl) ?_; simp only [Act.put, List.setIfInBounds_toArray, List.set_cons_zero, List.set_cons_succ])
            | (refine FreeTw.RelSeq.pureG_ (c := ?_) rfl (fun _ => rfl) rfl ?_ ?_; rotate_left; (focus (intro x w'; dsimp only; go_simp; (repeat' apply And.intro) <;> first | with_reducible rfl | assumption)); simp only [Act.put, List.setIfInBounds_toArray, List.set_cons_zero, List.set_cons_succ])
            | (refine FreeTw.RelSeq.steady_ (c := ?_) rfl rfl rfl ?_ ?_; rotate_left; (focus (intro x w' hw; dsimp only; obtain _ := hw; go_simp; (repeat' apply And.intro) <;> first | with_reducible rfl | assumption)); simp only [Act.put, List.setIfInBounds_toArray, List.set_cons_zero, List.set_cons_succ])
            | (refine FreeTw.RelSeq.grow_ (c := ?_) rfl rfl rfl ?_ ?_; rotate_left; (focus (intro x w' hw _; dsimp only; obtain ⟨d0, d1⟩ := F w' hw; have hbr := Below.refl w'.heap.size w'; go_simp; (repeat' apply And.intro) <;> first | with_reducible rfl | assumption)); simp only [Act.put, List.setIfInBounds_toArray, List.set_cons_zero, List.set_cons_succ])
            | (refine FreeTw.RelSeq.growG_ (c := ?_) rfl (fun _ => rfl) rfl rfl ?_ ?_; rotate_left; (focus (intro x w' hw _; dsimp only; obtain ⟨d0, d1⟩ := F w' hw; have hbr := Below.refl w'.heap.size w'; go_simp; (repeat' apply And.intro) <;> first | with_reducible rfl | assumption)); simp only [Act.put, List.setIfInBounds_toArray, List.set_cons_zero, List.set_cons_succ]))
          refine FreeTw.RelSeq.rel_ (NewSl w3.heap.size 0 #[] 5) rfl rfl NewSl.stable ?_ ?_
          focus
            intro x w' hw _; dsimp only
            have hba : Below w'.heap.size w' (w'.alloc (.cells #[] 5)) := (Below.refl _ _).alloc (Nat.le_refl _) _
            have hI := hw.trans (hba.mono hw.size)
            have hsz := hw.size
            go_simp
            (repeat' apply And.intro) <;> first | assumption | exact ⟨_, rfl, hsz, Blk.new _ _ _⟩ | decide
          simp only [Act.put, List.setIfInBounds_toArray, List.set_cons_zero, List.set_cons_succ, List.nil_append]
          repeat (first
            | (refine FreeTw.RelSeq.pure_ (c := ?_) rfl rfl ?_ ?_; rotate_left; (focus (intro x w'; dsimp only; go_simp; (first | ((repeat' apply And.intro) <;> first | with_reducible rfl | assumption) | (split <;> (try (focus (exfalso; omega))); (try go_simp); (repeat' apply And.intro) <;> first | with_reducible rfl | assumption)))); simp only [Act.put, List.setIfInBounds_toArray, List.set_cons_zero, List.set_cons_succ])
            | (refine FreeTw.RelSeq.skip_ rfl (fun _ => rfl) ?_; simp only [Act.put, List.setIfInBounds_toArray, List.set_cons_zero, List.set_cons_succ])
            | (refine FreeTw.RelSeq.pureG_ (c := ?_) rfl (fun _ => rfl) rfl ?_ ?_; rotate_left; (focus (intro x w'; dsimp only; go_simp; (repeat' apply And.intro) <;> first | with_reducible rfl | assumption)); simp only [Act.put, List.setIfInBounds_toArray, List.set_cons_zero, List.set_cons_succ])
            | (refine FreeTw.RelSeq.steady_ (c := ?_) rfl rfl rfl ?_ ?_; rotate_left; (focus (intro x w' hw; dsimp only; obtain _ := hw; go_simp; (repeat' apply And.intro) <;> first | with_reducible rfl | assumption)); simp only [Act.put, List.setIfInBounds_toArray, List.set_cons_zero, List.set_cons_succ])
            | (refine FreeTw.RelSeq.grow_ (c := ?_) rfl rfl rfl ?_ ?_; rotate_left; (focus (intro x w' hw _; dsimp only; obtain ⟨d0, d1⟩ := F w' hw; have hbr := Below.refl w'.heap.size w'; go_simp; (repeat' apply And.intro) <;> first | with_reducible rfl | assumption)); simp only [Act.put, List.setIfInBounds_toArray, List.set_cons_zero, List.set_cons_succ])
            | (refine FreeTw.RelSeq.growG_ (c := ?_) rfl (fun _ => rfl) rfl rfl ?_ ?_; rotate_left; (focus (intro x w' hw _; dsimp only; obtain ⟨d0, d1⟩ := F w' hw; have hbr := Below.refl w'.heap.size w'; go_simp; (repeat' apply And.intro) <;> first | with_reducible rfl | assumption)); simp only [Act.put, List.setIfInBounds_toArray, List.set_cons_zero, List.set_cons_succ]))
          refine FreeTw.RelSeq.rel_ (fun v u => u.ownsRow w3.heap.size 5 1 v (M) (u8L (f.bytes.take M))) rfl rfl (fun v u u' h hb => owns_below h hb) ?_ ?_
          focus
            intro x w' hw hf; dsimp only
            obtain ⟨bq, eq, hbq, hBq⟩ := hf _ (.head _) (by kernel_rfl)
            have hrq := HR.out.below hw
            refine wp_append_copy (.tmp 60) (.tmp 71) 27 rfl w3.heap.size 5 i0 _ 1 1 Try.underlying27 hi0 hz0 hz1 hz2 rfl (by decide) bq hBq hbq (by simp only [Act.eval]; exact eq) _ _ _ rfl hrq (by unfold maxLen; omega) (by omega) fun v2 w2 h2 h3 => ?_
            exact ⟨rfl, ⟨by first | exact h2 | simpa using h2, fun h => absurd h (by decide)⟩, hw.trans (h3.mono hw.size), h3⟩
          simp only [Act.put, List.setIfInBounds_toArray, List.set_cons_zero, List.set_cons_succ, List.nil_append, List.cons_append]
          repeat (first
            | (refine FreeTw.RelSeq.pure_ (c := ?_) rfl rfl ?_ ?_; rotate_left; (focus (intro x w'; dsimp only; go_simp; (first | ((repeat' apply And.intro) <;> first | with_reducible rfl | assumption) | (split <;> (try (focus (exfalso; omega))); (try go_simp); (repeat' apply And.intro) <;> first | with_reducible rfl | assumption)))); simp only [Act.put, List.setIfInBounds_toArray, List.set_cons_zero, List.set_cons_succ])
            | (refine FreeTw.RelSeq.skip_ rfl (fun _ => rfl) ?_; simp only [Act.put, List.setIfInBounds_toArray, List.set_cons_zero, List.set_cons_succ])
            | (refine FreeTw.RelSeq.pureG_ (c := ?_) rfl (fun _ => rfl) rfl ?_ ?_; rotate_left; (focus (intro x w'; dsimp only; go_simp; (repeat' apply And.intro) <;> first | with_reducible rfl | assumption)); simp only [Act.put, List.setIfInBounds_toArray, List.set_cons_zero, List.set_cons_succ])
            | (refine FreeTw.RelSeq.steady_ (c := ?_) rfl rfl rfl ?_ ?_; rotate_left; (focus (intro x w' hw; dsimp only; obtain _ := hw; go_simp; (repeat' apply And.intro) <;> first | with_reducible rfl | assumption)); simp only [Act.put, List.setIfInBounds_toArray, List.set_cons_zero, List.set_cons_succ])
            | (refine FreeTw.RelSeq.grow_ (c := ?_) rfl rfl rfl ?_ ?_; rotate_left; (focus (intro x w' hw _; dsimp only; obtain ⟨d0, d1⟩ := F w' hw; have hbr := Below.refl w'.heap.size w'; go_simp; (repeat' apply And.intro) <;> first | with_reducible rfl | assumption)); simp only [Act.put, List.setIfInBounds_toArray, List.set_cons_zero, List.set_cons_succ])
            | (refine FreeTw.RelSeq.growG_ (c := ?_) rfl (fun _ => rfl) rfl rfl ?_ ?_; rotate_left; (focus (intro x w' hw _; dsimp only; obtain ⟨d0, d1⟩ := F w' hw; have hbr := Below.refl w'.heap.size w'; go_simp; (repeat' apply And.intro) <;> first | with_reducible rfl | assumption)); simp only [Act.put, List.setIfInBounds_toArray, List.set_cons_zero, List.set_cons_succ]))
          refine FreeTw.RelSeq.nil_ fun x5 w5 hw5 hf _ => ?_
          have hown := hf _ (.tail _ (.head _))
          dsimp only at hown
          obtain ⟨A5, c5, e5⟩ := owns_slice hown
          rw [e5] at hown ⊢
          have S3 := S1.addRow hw5 hown (Nat.le_refl _)
          have z_ := rows_at (by have := S3.row 2 rfl; rwa [HLK.out] at this) HFK.out
          rw [ev] at z_
          have z2 := z_.2.1
          have z0 := z_.2.2.2 (k * 3 + 1)
          clear F hf hown z_ S1
          refine FreeTw.TailSeq.cons_ rfl ?_
          go_simp
          refine FreeTw.TailSeq.nil_ ?_
          have S4 := S3.setFile (j := 1) (u := .slice A5 M c5) (f' := { f with val := .slice A5 M c5 }) 2 rfl HLK.out.symm HFK.out (by decide) rfl
          simp only [List.eraseIdx_cons_succ, List.eraseIdx_cons_zero] at S4
          clear S3 z2 z0
          by_cases h0 : 0 < K
          · have d0 : decide ((0 : Int) < (K : Int)) = true := by simpa using h0
            by_cases h8 : Bt < 8
            · have d8 : decide ((Bt : Int) < 8) = true := by simp; omega
              have hF0 : 0 < K ∧ Bt < 8 := ⟨h0, h8⟩
              obtain ⟨i9, hi9⟩ : ∃ i9, i9 = M - 1 := ⟨_, rfl⟩
              have hav0 := HAV.out
              have hmm0 := HMM.out
              have w9 : IntKind.i64.wrap ((M : Int) - 1) = (i9 : Int) := by rw [IntKind.wrap_i64]; omega
              obtain ⟨gv, rfl⟩ : ∃ gv, A5 = some ⟨gv, 0, none⟩ := by
                rcases (S4.row 1 rfl).2 with ⟨he, h9⟩ | ⟨g', cap, cur, he, _⟩
                · omega
                · cases he; exact ⟨_, rfl⟩
              have hrow := S4.row 1 rfl
              have hlt9 : (f.bytes.take M).length = M := by rw [List.length_take, ← HBL.out]; omega
              obtain ⟨y, hy⟩ : ∃ y, (f.bytes.take M)[i9]? = some y := ⟨_, List.getElem?_eq_getElem (by rw [hlt9]; omega)⟩
              obtain ⟨_, _, he9, _, _, _, h49⟩ := rd_of_owns hrow
              cases he9
              obtain ⟨_, _, he8, hat9⟩ := h49 (by omega)
              cases he8
              have c9 := hat9.nth0 (Below.refl _ _) i9 (.int .u8 y.toNat) (by rw [u8L, List.getElem?_map, hy]; rfl)
              rw [Nat.zero_add] at c9
              have HG3 : (fsK.set k { f with val := .slice (some ⟨gv, 0, none⟩) M c5 })[k]? = some { f with val := .slice (some ⟨gv, 0, none⟩) M c5 } := by rw [List.getElem?_set_self (by rw [HLK.out]; exact hkn)]
              have z_ := rows_at (by have := S4.row 0 rfl; rwa [List.length_set, HLK.out] at this) HG3
              have z1 := z_.2.1
              simp only at z1
              obtain ⟨wq, hwq⟩ : ∃ wq, wq = w5.setCell ⟨q, k * 3 + 1, none⟩ (.slice (some ⟨gv, 0, none⟩) M c5) := ⟨_, rfl⟩
              rw [← hwq] at S4 c9 z1 ⊢
              have F : ∀ w', Below wq.heap.size wq w' → w'.cell? ⟨q, k * 3 + 1, none⟩ = some (.slice (some ⟨gv, 0, none⟩) M c5) ∧ w'.cell? ⟨gv, i9, none⟩ = some (.int .u8 y.toNat) := fun w' h => ⟨cell_later h z1, cell_later h c9⟩
              have hx8 := y.toNat_lt
              obtain ⟨p2, hp2⟩ : ∃ p2, p2 = 2 ^ Bt := ⟨_, rfl⟩
              have lp2 : p2 < 256 := by rw [hp2]; calc 2 ^ Bt ≤ 2 ^ 7 := Nat.pow_le_pow_right (by decide) (by omega)
                                             _ < 256 := by decide
              have ep : IntKind.u8.wrap ((2 : Int) ^ Bt) = (p2 : Int) := by
                have q : ((2 : Int) ^ Bt) = (p2 : Int) := by rw [hp2]; simp
                rw [q]
                simp [IntKind.wrap, IntKind.signed, IntKind.bits]
                omega
              obtain ⟨yy, hyy⟩ : ∃ yy, yy = y.toNat ^^^ p2 := ⟨_, rfl⟩
              have ly : yy < 256 := by rw [hyy]; exact Nat.xor_lt_two_pow (n := 8) (by omega) (by omega)
              have ey : bits .xor .u8 (y.toNat : Int) (p2 : Int) = (yy : Int) := by rw [hyy]; exact u8_xor_nat y.toNat p2 (by omega) (by omega)
              have li0 : (0 : Int) ≤ (i9 : Int) := by omega
              have li : (i9 : Int) < (M : Int) := by omega
              have HY := Lib.hid hy
              have HYY := Lib.hid hyy
              have HP2 := Lib.hid hp2
              have HI9 := Lib.hid hi9
              clear hy hyy hp2 hi9 z1 z_ c9 hat9 h49 hrow hwq HG3 hav0 hmm0
              go_wp2_with fail
              refine FreeTw.region_free (fun w' => Below wq.heap.size wq w') (fun _ => True) [] [26] [0, 1, 2, 3, 4, 5, 6, 7, 8, 9, 10, 11, 12, 13, 14, 15, 16, 17, 18, 19, 20, 21, 22, 23, 24, 25] (fun _ _ => trivial) (by kernel_rfl) (by kernel_rfl) (by kernel_rfl) ((Below.refl _ _).drew) ?_
              repeat (first
                | (refine FreeTw.RelSeq.pure_ (c := ?_) rfl rfl ?_ ?_; rotate_left; (focus (intro x w'; dsimp only; go_simp; (first | ((repeat' apply And.intro) <;> first | with_reducible rfl | assumption) | (split <;> (try (focus (exfalso; omega))); (try go_simp); (repeat' apply And.intro) <;> first | with_reducible rfl | assumption)))); simp only [Act.put, List.setIfInBounds_toArray, List.set_cons_zero, List.set_cons_succ])
                | (refine FreeTw.RelSeq.skip_ rfl (fun _ => rfl) ?_; simp only [Act.put, List.setIfInBounds_toArray, List.set_cons_zero, List.set_cons_succ])
                | (refine FreeTw.RelSeq.pureG_ (c := ?_) rfl (fun _ => rfl) rfl ?_ ?_; rotate_left; (focus (intro x w'; dsimp only; go_simp; (repeat' apply And.intro) <;> first | with_reducible rfl | assumption)); simp only [Act.put, List.setIfInBounds_toArray, List.set_cons_zero, List.set_cons_succ])
                | (refine FreeTw.RelSeq.steady_ (c := ?_) rfl rfl rfl ?_ ?_; rotate_left; (focus (intro x w' hw; dsimp only; obtain _ := hw; go_simp; (repeat' apply And.intro) <;> first | with_reducible rfl | assumption)); simp only [Act.put, List.setIfInBounds_toArray, List.set_cons_zero, List.set_cons_succ])
                | (refine FreeTw.RelSeq.grow_ (c := ?_) rfl rfl rfl ?_ ?_; rotate_left; (focus (intro x w' hw _; dsimp only; obtain ⟨d0, d1⟩ := F w' hw; have hbr := Below.refl w'.heap.size w'; go_simp; (repeat' apply And.intro) <;> first | with_reducible rfl | assumption)); simp only [Act.put, List.setIfInBounds_toArray, List.set_cons_zero, List.set_cons_succ])
                | (refine FreeTw.RelSeq.growG_ (c := ?_) rfl (fun _ => rfl) rfl rfl ?_ ?_; rotate_left; (focus (intro x w' hw _; dsimp only; obtain ⟨d0, d1⟩ := F w' hw; have hbr := Below.refl w'.heap.size w'; go_simp; (repeat' apply And.intro) <;> first | with_reducible rfl | assumption)); simp only [Act.put, List.setIfInBounds_toArray, List.set_cons_zero, List.set_cons_succ]))
              refine FreeTw.RelSeq.nil_ fun x6 w6 hw6 _ _ => ?_
              have S5 := S4.grow hw6
              have c6 := (F w6 hw6).2
              have f6 : w6.frozen? ⟨gv, i9, none⟩ = false := by
                rcases (S5.row 1 rfl).2 with ⟨he, _⟩ | ⟨g', cap, cur, he, _, hh, _⟩
                · cases he
                · cases he
                  exact Lib.frozen_of_heap hh i9
              clear S4 F
              refine FreeTw.TailSeq.cons_ rfl ?_
              go_simp
              refine FreeTw.TailSeq.nil_ ?_
              obtain ⟨L, hL⟩ : ∃ L, L = (f.bytes.take M).set i9 (UInt8.ofNat yy) := ⟨_, rfl⟩
              have hset : (u8L (f.bytes.take M)).set i9 (.int .u8 yy) = u8L L := by
                rw [hL]
                unfold u8L
                rw [List.map_set, UInt8.toNat_ofNat', Nat.mod_eq_of_lt (by omega)]
              have S6a := S5.putRow 1 rfl i9 (.int .u8 yy)
              rw [hset] at S6a
              have hav := HAV.out
              have hMM := HMM.out
              have h99 := HI9.out
              have hTL : tornT ts k f = L := by
                unfold tornT tornB
                rw [HGD.out, ← HBL.out, ← HSY.out, ← HAV.out]
                simp only
                rw [if_pos (by omega), hL, HMN.out, ← HI9.out, HYY.out, HP2.out]
                have e : f.bytes.getD i9 0 = y := by
                  have := HY.out
                  rw [List.getElem?_take] at this
                  split at this
                  · rw [List.getD_eq_getElem?_getD, this]; rfl
                  · cases this
                rw [e]
              have hLM : L.length = M := by rw [hL, List.length_set, List.length_take, ← HBL.out]; omega
              have HTL := Lib.hid hTL
              have HLM := Lib.hid hLM
              have S6 := S6a.pick [1, 0, 2, 3] (by decide)
              simp only [List.filterMap_cons, List.filterMap_nil, List.getElem?_cons_succ, List.getElem?_cons_zero, List.eraseIdx_cons_succ, List.eraseIdx_cons_zero] at S6
              clear S5 S6a hset hL hTL hLM hav hMM h99 c6 f6 d0 d8
              have HG2 : (fsK.set k { f with val := .slice (some ⟨gv, 0, none⟩) M c5 })[k]? = some { f with val := .slice (some ⟨gv, 0, none⟩) M c5 } := by rw [List.getElem?_set_self (by rw [HLK.out]; exact hkn)]
              have z_ := rows_at (by have := S6.row 0 rfl; rwa [List.length_set, HLK.out] at this) HG2
              have z1 := z_.2.1
              have z2 := z_.2.2.1
              have z3 := z_.2.2.2 (k * 3 + 2)
              simp only at z1 z2
              rw [← HSY.out] at z2
              have S7 := S6.setFile (j := 2) (u := .int .i64 M) (f' := ⟨f.name, .slice (some ⟨gv, 0, none⟩) M c5, L, M⟩) 0 rfl (by rw [List.length_set]; exact HLK.out.symm) HG2 (by decide) rfl
              simp only [List.eraseIdx_cons_zero, List.set_set] at S7
              have S8 := S7.pick [1, 3, 2, 0] (by decide)
              simp only [List.filterMap_cons, List.filterMap_nil, List.getElem?_cons_succ, List.getElem?_cons_zero] at S8
              have S9 := chFiles_row (l := L) (v := .slice (some ⟨gv, 0, none⟩) M c5) (fs' := fsK.set k ⟨f.name, .slice (some ⟨gv, 0, none⟩) M c5, L, M⟩) (by rw [HLM.out]; exact S8) (by rw [HLM.out]; omega) (fun f2 hf2 => by
                rcases List.mem_or_eq_of_mem_set hf2 with h | h
                · exact .inr h
                · exact .inl ⟨by rw [h], by rw [h], by rw [h, HLM.out]; exact Nat.le_refl _⟩)
              have S10 := S9.pick [1, 2, 0] (by decide)
              simp only [List.filterMap_cons, List.filterMap_nil, List.getElem?_cons_succ, List.getElem?_cons_zero] at S10
              have HS := Lib.hid S10
              clear S6 S7 S8 S9 S10 HG2 z_
              go_wp2_with fail
              go_roundw
              case rel => exact ⟨k + 1, fsK.set k ⟨f.name, .slice (some ⟨gv, 0, none⟩) M c5, L, M⟩, by omega, by go_num, by rw [List.length_set]; exact HLK.out, fun j f2 hj hf2 => by
                by_cases hjk : j = k
                · subst hjk
                  have e : f2 = f := by have := HF.out; rw [hf2] at this; exact Option.some.inj this
                  exact ⟨.slice (some ⟨gv, 0, none⟩) M c5, by rw [List.getElem?_set_self (by rw [HLK.out]; exact hkn), e, HTL.out, HLM.out]⟩
                · obtain ⟨v, hv⟩ := HDN.out j f2 (by omega) hf2
                  exact ⟨v, by rw [List.getElem?_set_ne (fun e => hjk e.symm)]; exact hv⟩, fun j hj => by
                rw [List.getElem?_set_ne (by omega)]
                exact HST.out j (by omega), HS.out⟩
              case measure => simp [intOf]; omega
            · have d8 : decide ((Bt : Int) < 8) = false := by simp; omega
              have hav := HAV.out
              have hMM := HMM.out
              obtain ⟨L, hL⟩ : ∃ L, L = f.bytes.take M := ⟨_, rfl⟩
              have hTL : tornT ts k f = L := by
                unfold tornT tornB
                rw [HGD.out, ← HBL.out, ← HSY.out, ← HAV.out]
                simp only
                rw [if_neg (by omega), hL, HMN.out]
              have hLM : L.length = M := by rw [hL, List.length_take, ← HBL.out]; omega
              have HTL := Lib.hid hTL
              have HLM := Lib.hid hLM
              rw [← hL] at S4
              have S6 := S4
              clear S4 hL hTL hLM hav hMM
              have HG2 : (fsK.set k { f with val := .slice A5 M c5 })[k]? = some { f with val := .slice A5 M c5 } := by rw [List.getElem?_set_self (by rw [HLK.out]; exact hkn)]
              have z_ := rows_at (by have := S6.row 0 rfl; rwa [List.length_set, HLK.out] at this) HG2
              have z1 := z_.2.1
              have z2 := z_.2.2.1
              have z3 := z_.2.2.2 (k * 3 + 2)
              simp only at z1 z2
              rw [← HSY.out] at z2
              have S7 := S6.setFile (j := 2) (u := .int .i64 M) (f' := ⟨f.name, .slice A5 M c5, L, M⟩) 0 rfl (by rw [List.length_set]; exact HLK.out.symm) HG2 (by decide) rfl
              simp only [List.eraseIdx_cons_zero, List.set_set] at S7
              have S8 := S7.pick [1, 3, 2, 0] (by decide)
              simp only [List.filterMap_cons, List.filterMap_nil, List.getElem?_cons_succ, List.getElem?_cons_zero] at S8
              have S9 := chFiles_row (l := L) (v := .slice A5 M c5) (fs' := fsK.set k ⟨f.name, .slice A5 M c5, L, M⟩) (by rw [HLM.out]; exact S8) (by rw [HLM.out]; omega) (fun f2 hf2 => by
                rcases List.mem_or_eq_of_mem_set hf2 with h | h
                · exact .inr h
                · exact .inl ⟨by rw [h], by rw [h], by rw [h, HLM.out]; exact Nat.le_refl _⟩)
              have S10 := S9.pick [1, 2, 0] (by decide)
              simp only [List.filterMap_cons, List.filterMap_nil, List.getElem?_cons_succ, List.getElem?_cons_zero] at S10
              have HS := Lib.hid S10
              clear S6 S7 S8 S9 S10 HG2 z_
              go_wp2_with fail
              go_roundw
              case rel => exact ⟨k + 1, fsK.set k ⟨f.name, .slice A5 M c5, L, M⟩, by omega, by go_num, by rw [List.length_set]; exact HLK.out, fun j f2 hj hf2 => by
                by_cases hjk : j = k
                · subst hjk
                  have e : f2 = f := by have := HF.out; rw [hf2] at this; exact Option.some.inj this
                  exact ⟨.slice A5 M c5, by rw [List.getElem?_set_self (by rw [HLK.out]; exact hkn), e, HTL.out, HLM.out]⟩
                · obtain ⟨v, hv⟩ := HDN.out j f2 (by omega) hf2
                  exact ⟨v, by rw [List.getElem?_set_ne (fun e => hjk e.symm)]; exact hv⟩, fun j hj => by
                rw [List.getElem?_set_ne (by omega)]
                exact HST.out j (by omega), HS.out⟩
              case measure => simp [intOf]; omega
          · have d0 : decide ((0 : Int) < (K : Int)) = false := by simpa using h0
            have hav := HAV.out
            have hMM := HMM.out
            obtain ⟨L, hL⟩ : ∃ L, L = f.bytes.take M := ⟨_, rfl⟩
            have hTL : tornT ts k f = L := by
              unfold tornT tornB
              rw [HGD.out, ← HBL.out, ← HSY.out, ← HAV.out]
              simp only
              rw [if_neg (by omega), hL, HMN.out]
            have hLM : L.length = M := by rw [hL, List.length_take, ← HBL.out]; omega
            have HTL := Lib.hid hTL
            have HLM := Lib.hid hLM
            rw [← hL] at S4
            have S6 := S4
            clear S4 hL hTL hLM hav hMM
            have HG2 : (fsK.set k { f with val := .slice A5 M c5 })[k]? = some { f with val := .slice A5 M c5 } := by rw [List.getElem?_set_self (by rw [HLK.out]; exact hkn)]
            have z_ := rows_at (by have := S6.row 0 rfl; rwa [List.length_set, HLK.out] at this) HG2
            have z1 := z_.2.1
            have z2 := z_.2.2.1
            have z3 := z_.2.2.2 (k * 3 + 2)
            simp only at z1 z2
            rw [← HSY.out] at z2
            have S7 := S6.setFile (j := 2) (u := .int .i64 M) (f' := ⟨f.name, .slice A5 M c5, L, M⟩) 0 rfl (by rw [List.length_set]; exact HLK.out.symm) HG2 (by decide) rfl
            simp only [List.eraseIdx_cons_zero, List.set_set] at S7
            have S8 := S7.pick [1, 3, 2, 0] (by decide)
            simp only [List.filterMap_cons, List.filterMap_nil, List.getElem?_cons_succ, List.getElem?_cons_zero] at S8
            have S9 := chFiles_row (l := L) (v := .slice A5 M c5) (fs' := fsK.set k ⟨f.name, .slice A5 M c5, L, M⟩) (by rw [HLM.out]; exact S8) (by rw [HLM.out]; omega) (fun f2 hf2 => by
              rcases List.mem_or_eq_of_mem_set hf2 with h | h
              · exact .inr h
              · exact .inl ⟨by rw [h], by rw [h], by rw [h, HLM.out]; exact Nat.le_refl _⟩)
            have S10 := S9.pick [1, 2, 0] (by decide)
            simp only [List.filterMap_cons, List.filterMap_nil, List.getElem?_cons_succ, List.getElem?_cons_zero] at S10
            have HS := Lib.hid S10
            clear S6 S7 S8 S9 S10 HG2 z_
            go_wp2_with fail
            go_roundw
            case rel => exact ⟨k + 1, fsK.set k ⟨f.name, .slice A5 M c5, L, M⟩, by omega, by go_num, by rw [List.length_set]; exact HLK.out, fun j f2 hj hf2 => by
              by_cases hjk : j = k
              · subst hjk
                have e : f2 = f := by have := HF.out; rw [hf2] at this; exact Option.some.inj this
                exact ⟨.slice A5 M c5, by rw [List.getElem?_set_self (by rw [HLK.out]; exact hkn), e, HTL.out, HLM.out]⟩
              · obtain ⟨v, hv⟩ := HDN.out j f2 (by omega) hf2
                exact ⟨v, by rw [List.getElem?_set_ne (fun e => hjk e.symm)]; exact hv⟩, fun j hj => by
              rw [List.getElem?_set_ne (by omega)]
              exact HST.out j (by omega), HS.out⟩
            case measure => simp [intOf]; omega
      · have hkt1 : decide ((k : Int) < (nt : Int)) = false := by simpa using hkt
        have hgt : decide ((av : Int) < 0) = false := by simp
        obtain ⟨M, hM⟩ : ∃ M, M = sy := ⟨_, rfl⟩
        have hav := HAV.out
        have wm : IntKind.i64.wrap (sy : Int) = (M : Int) := by rw [IntKind.wrap_i64]; omega
        have HGD := Lib.hid (show ts.getD k (0, 0) = (0, 0) by rw [List.getD_eq_getElem?_getD, List.getElem?_eq_none (by rw [← HNT.out]; omega)]; rfl)
        have hMN : sy + min 0 av = M := by rw [hM, Nat.zero_min]; rfl
        have hMb : M ≤ bl := by omega
        have hMc : M ≤ cv := by omega
        have HMN := Lib.hid hMN
        have HMM := Lib.hid hM
        clear hM hav hMN
        have z_ := rows_at (by have := S1.row 1 rfl; rwa [HLK.out] at this) HFK.out
        rw [ev] at z_
        have F : ∀ w', Below wr.heap.size wr w' → w'.cell? ⟨q, k * 3 + 1, none⟩ = some (.slice Av bl cv) ∧ w'.cell? ⟨q, k * 3 + 2, none⟩ = some (.int .i64 sy) := fun w' h => ⟨cell_later h z_.2.1, by rw [HSY.out]; exact cell_later h z_.2.2.1⟩
        clear z_
        go_wp2_with fail
        refine FreeTw.region_free (fun w' => Below wr.heap.size wr w') (fun _ => True) [] [] [0, 1, 2, 3, 4, 5, 6, 7, 8, 9, 10, 11] (fun _ _ => trivial) (by kernel_rfl) (by kernel_rfl) (by kernel_rfl) ((Below.refl _ _).drew) ?_
        repeat (first
          | (refine FreeTw.RelSeq.pure_ (c := ?_) rfl rfl ?_ ?_; rotate_left; (focus (intro x w'; dsimp only; go_simp; (first | ((repeat' apply And.intro) <;> first | with_reducible rfl | assumption) | (split <;> (try (focus (exfalso; omega))); (try go_simp); (repeat' apply And.intro) <;> first | with_reducible rfl | assumption)))); simp only [Act.put, List.setIfInBounds_toArray, List.set_cons_zero, List.set_cons_succ])
          | (refine FreeTw.RelSeq.skip_ rfl (fun _ => rfl) ?_; simp only [Act.put, List.setIfInBounds_toArray, List.set_cons_zero, List.set_cons_succ])
          | (refine FreeTw.RelSeq.pureG_ (c := ?_) rfl (fun _ => rfl) rfl ?_ ?_; rotate_left; (focus (intro x w'; dsimp only; go_simp; (repeat' apply And.intro) <;> first | with_reducible rfl | assumption)); simp only [Act.put, List.setIfInBounds_toArray, List.set_cons_zero, List.set_cons_succ])
          | (refine FreeTw.RelSeq.steady_ (c := ?_) rfl rfl rfl ?_ ?_; rotate_left; (focus (intro x w' hw; dsimp only; obtain _ := hw; go_simp; (repeat' apply And.intro) <;> first | with_reducible rfl | assumption)); simp only [Act.put, List.setIfInBounds_toArray, List.set_cons_zero, List.set_cons_succ])
          | (refine FreeTw.RelSeq.grow_ (c := ?_) rfl rfl rfl ?_ ?_; rotate_left; (focus (intro x w' hw _; dsimp only; obtain ⟨d0, d1⟩ := F w' hw; have hbr := Below.refl w'.heap.size w'; go_simp; (repeat' apply And.intro) <;> first | with_reducible rfl | assumption)); simp only [Act.put, List.setIfInBounds_toArray, List.set_cons_zero, List.set_cons_succ])
          | (refine FreeTw.RelSeq.growG_ (c := ?_) rfl (fun _ => rfl) rfl rfl ?_ ?_; rotate_left; (focus (intro x w' hw _; dsimp only; obtain ⟨d0, d1⟩ := F w' hw; have hbr := Below.refl w'.heap.size w'; go_simp; (repeat' apply And.intro) <;> first | with_reducible rfl | assumption)); simp only [Act.put, List.setIfInBounds_toArray, List.set_cons_zero, List.set_cons_succ]))
        refine FreeTw.RelSeq.nil_ fun x3 w3 hw3 _ _ => FreeTw.TailSeq.nil_ ?_
        have S2 := S1.grow hw3
        clear S1 F
        have S1 := S2
        clear S2
        have z_ := rows_at (by have := S1.row 1 rfl; rwa [HLK.out] at this) HFK.out
        rw [ev] at z_
        have F : ∀ w', Below w3.heap.size w3 w' → w'.cell? ⟨q, k * 3 + 1, none⟩ = some (.slice Av bl cv) ∧ w'.cell? ⟨q, k * 3 + 2, none⟩ = some (.int .i64 sy) := fun w' h => ⟨cell_later h z_.2.1, by rw [HSY.out]; exact cell_later h z_.2.2.1⟩
        clear z_
        have hFR2 := (S1.files 2 rfl f (List.mem_of_getElem? HFK.out)).1
        rw [ev, ← HBL.out] at hFR2
        have hR := hFR2.preN (m := M) hMb
        rw [Nat.mul_one, show (u8L f.bytes).take M = u8L (f.bytes.take M) by simp [u8L]] at hR
        have HR := Lib.hid hR
        clear hFR2 hR
        go_wp2_with fail
        refine FreeTw.region_free (fun w' => Below w3.heap.size w3 w') (fun _ => True) [1, 13] [16] [0, 1, 2, 3, 4, 5, 6, 7, 8, 9, 10, 11, 12, 13, 14, 15] (fun _ _ => trivial) (by kernel_rfl) (by kernel_rfl) (by kernel_rfl) ((Below.refl _ _).drew) ?_
        repeat (first
          | (refine FreeTw.RelSeq.pure_ (c := ?_) rfl rfl ?_ ?_; rotate_left; (focus (intro x w'; dsimp only; go_simp; (first | ((repeat' apply And.intro) <;> first | with_reducible rfl | assumption) | (split <;> (try (focus (exfalso; omega))); (try go_simp); (repeat' apply And.intro) <;> first | with_reducible rfl | assumption)))); simp only [Act.put, List.setIfInBounds_toArray, List.set_cons_zero, List.set_cons_succ])
          | (refine FreeTw.RelSeq.skip_ rfl (fun _ => rfl) ?_; simp only [Act.put, List.setIfInBounds_toArray, List.set_cons_zero, List.set_cons_succ])
          | (refine FreeTw.RelSeq.pureG_ (c := ?_) rfl (fun _ => rfl) rfl ?_ ?_; rotate_left; (focus (intro x w'; dsimp only; go_simp; (repeat' apply And.intro) <;> first | with_reducible rfl | assumption)); simp only [Act.put, List.setIfInBounds_toArray, List.set_cons_zero, List.set_cons_succ])
          | (refine FreeTw.RelSeq.steady_ (c := ?_) rfl rfl rfl ?_ ?_; rotate_left; (focus (intro x w' hw; dsimp only; obtain _ := hw; go_simp; (repeat' apply And.intro) <;> first | with_reducible rfl | assumption)); simp only [Act.put, List.setIfInBounds_toArray, List.set_cons_zero, List.set_cons_succ])
          | (refine FreeTw.RelSeq.grow_ (c := ?_) rfl rfl rfl ?_ ?_; rotate_left; (focus (intro x w' hw _; dsimp only; obtain ⟨d0, d1⟩ := F w' hw; have hbr := Below.refl w'.heap.size w'; go_simp; (repeat' apply And.intro) <;> first | with_reducible rfl | assumption)); simp only [Act.put, List.setIfInBounds_toArray, List.set_cons_zero, List.set_cons_succ])
          | (refine FreeTw.RelSeq.growG_ (c := ?_) rfl (fun _ => rfl) rfl rfl ?_ ?_; rotate_left; (focus (intro x w' hw _; dsimp only; obtain ⟨d0, d1⟩ := F w' hw; have hbr := Below.refl w'.heap.size w'; go_simp; (repeat' apply And.intro) <;> first | with_reducible rfl | assumption)); simp only [Act.put, List.setIfInBounds_toArray, List.set_cons_zero, List.set_cons_succ]))
        refine FreeTw.RelSeq.rel_ (NewSl w3.heap.size 0 #[] 5) rfl rfl NewSl.stable ?_ ?_
        focus
          intro x w' hw _; dsimp only
          have hba : Below w'.heap.size w' (w'.alloc (.cells #[] 5)) := (Below.refl _ _).alloc (Nat.le_refl _) _
          have hI := hw.trans (hba.mono hw.size)
          have hsz := hw.size
          go_simp
          (repeat' apply And.intro) <;> first | assumption | exact ⟨_, rfl, hsz, Blk.new _ _ _⟩ | decide
        simp only [Act.put, List.setIfInBounds_toArray, List.set_cons_zero, List.set_cons_succ, List.nil_append]
        repeat (first
          | (refine FreeTw.RelSeq.pure_ (c := ?_) rfl rfl ?_ ?_; rotate_left; (focus (intro x w'; dsimp only; go_simp; (first | ((repeat' apply And.intro) <;> first | with_reducible rfl | assumption) | (split <;> (try (focus (exfalso; omega))); (try go_simp); (repeat' apply And.intro) <;> first | with_reducible rfl | assumption)))); simp only [Act.put, List.setIfInBounds_toArray, List.set_cons_zero, List.set_cons_succ])
          | (refine FreeTw.RelSeq.skip_ rfl (fun _ => rfl) ?_; simp only [Act.put, List.setIfInBounds_toArray, List.set_cons_zero, List.set_cons_succ])
          | (refine FreeTw.RelSeq.pureG_ (c := ?_) rfl (fun _ => rfl) rfl ?_ ?_; rotate_left; (focus (intro x w'; dsimp only; go_simp; (repeat' apply And.intro) <;> first | with_reducible rfl | assumption)); simp only [Act.put, List.setIfInBounds_toArray, List.set_cons_zero, List.set_cons_succ])
          | (refine FreeTw.RelSeq.steady_ (c := ?_) rfl rfl rfl ?_ ?_; rotate_left; (focus (intro x w' hw; dsimp only; obtain _ := hw; go_simp; (repeat' apply And.intro) <;> first | with_reducible rfl | assumption)); simp only [Act.put, List.setIfInBounds_toArray, List.set_cons_zero, List.set_cons_succ])
          | (refine FreeTw.RelSeq.grow_ (c := ?_) rfl rfl rfl ?_ ?_; rotate_left; (focus (intro x w' hw _; dsimp only; obtain ⟨d0, d1⟩ := F w' hw; have hbr := Below.refl w'.heap.size w'; go_simp; (repeat' apply And.intro) <;> first | with_reducible rfl | assumption)); simp only [Act.put, List.setIfInBounds_toArray, List.set_cons_zero, List.set_cons_succ])
          | (refine FreeTw.RelSeq.growG_ (c := ?_) rfl (fun _ => rfl) rfl rfl ?_ ?_; rotate_left; (focus (intro x w' hw _; dsimp only; obtain ⟨d0, d1⟩ := F w' hw; have hbr := Below.refl w'.heap.size w'; go_simp; (repeat' apply And.intro) <;> first | with_reducible rfl | assumption)); simp only [Act.put, List.setIfInBounds_toArray, List.set_cons_zero, List.set_cons_succ]))
        refine FreeTw.RelSeq.rel_ (fun v u => u.ownsRow w3.heap.size 5 1 v (M) (u8L (f.bytes.take M))) rfl rfl (fun v u u' h hb => owns_below h hb) ?_ ?_
        focus
          intro x w' hw hf; dsimp only
          obtain ⟨bq, eq, hbq, hBq⟩ := hf _ (.head _) (by kernel_rfl)
          have hrq := HR.out.below hw
          refine wp_append_copy (.tmp 60) (.tmp 71) 27 rfl w3.heap.size 5 i0 _ 1 1 Try.underlying27 hi0 hz0 hz1 hz2 rfl (by decide) bq hBq hbq (by simp only [Act.eval]; exact eq) _ _ _ rfl hrq (by unfold maxLen; omega) (by omega) fun v2 w2 h2 h3 => ?_
          exact ⟨rfl, ⟨by first | exact h2 | simpa using h2, fun h => absurd h (by decide)⟩, hw.trans (h3.mono hw.size), h3⟩
        simp only [Act.put, List.setIfInBounds_toArray, List.set_cons_zero, List.set_cons_succ, List.nil_append, List.cons_append]
        repeat (first
          | (refine FreeTw.RelSeq.pure_ (c := ?_) rfl rfl ?_ ?_; rotate_left; (focus (intro x w'; dsimp only; go_simp; (first | ((repeat' apply And.intro) <;> first | with_reducible rfl | assumption) | (split <;> (try (focus (exfalso; omega))); (try go_simp); (repeat' apply And.intro) <;> first | with_reducible rfl | assumption)))); simp only [Act.put, List.setIfInBounds_toArray, List.set_cons_zero, List.set_cons_succ])
          | (refine FreeTw.RelSeq.skip_ rfl (fun _ => rfl) ?_; simp only [Act.put, List.setIfInBounds_toArray, List.set_cons_zero, List.set_cons_succ])
          | (refine FreeTw.RelSeq.pureG_ (c := ?_) rfl (fun _ => rfl) rfl ?_ ?_; rotate_left; (focus (intro x w'; dsimp only; go_simp; (repeat' apply And.intro) <;> first | with_reducible rfl | assumption)); simp only [Act.put, List.setIfInBounds_toArray, List.set_cons_zero, List.set_cons_succ])
          | (refine FreeTw.RelSeq.steady_ (c := ?_) rfl rfl rfl ?_ ?_; rotate_left; (focus (intro x w' hw; dsimp only; obtain _ := hw; go_simp; (repeat' apply And.intro) <;> first | with_reducible rfl | assumption)); simp only [Act.put, List.setIfInBounds_toArray, List.set_cons_zero, List.set_cons_succ])
          | (refine FreeTw.RelSeq.grow_ (c := ?_) rfl rfl rfl ?_ ?_; rotate_left; (focus (intro x w' hw _; dsimp only; obtain ⟨d0, d1⟩ := F w' hw; have hbr := Below.refl w'.heap.size w'; go_simp; (repeat' apply And.intro) <;> first | with_reducible rfl | assumption)); simp only [Act.put, List.setIfInBounds_toArray, List.set_cons_zero, List.set_cons_succ])
          | (refine FreeTw.RelSeq.growG_ (c := ?_) rfl (fun _ => rfl) rfl rfl ?_ ?_; rotate_left; (focus (intro x w' hw _; dsimp only; obtain ⟨d0, d1⟩ := F w' hw; have hbr := Below.refl w'.heap.size w'; go_simp; (repeat' apply And.intro) <;> first | with_reducible rfl | assumption)); simp only [Act.put, List.setIfInBounds_toArray, List.set_cons_zero, List.set_cons_succ]))
        refine FreeTw.RelSeq.nil_ fun x5 w5 hw5 hf _ => ?_
        have hown := hf _ (.tail _ (.head _))
        dsimp only at hown
        obtain ⟨A5, c5, e5⟩ := owns_slice hown
        rw [e5] at hown ⊢
        have S3 := S1.addRow hw5 hown (Nat.le_refl _)
        have z_ := rows_at (by have := S3.row 2 rfl; rwa [HLK.out] at this) HFK.out
        rw [ev] at z_
        have z2 := z_.2.1
        have z0 := z_.2.2.2 (k * 3 + 1)
        clear F hf hown z_ S1
        refine FreeTw.TailSeq.cons_ rfl ?_
        go_simp
        refine FreeTw.TailSeq.nil_ ?_
        have S4 := S3.setFile (j := 1) (u := .slice A5 M c5) (f' := { f with val := .slice A5 M c5 }) 2 rfl HLK.out.symm HFK.out (by decide) rfl
        simp only [List.eraseIdx_cons_succ, List.eraseIdx_cons_zero] at S4
        clear S3 z2 z0
        have hav := HAV.out
        have hMM := HMM.out
        obtain ⟨L, hL⟩ : ∃ L, L = f.bytes.take M := ⟨_, rfl⟩
        have hTL : tornT ts k f = L := by
          unfold tornT tornB
          rw [HGD.out, ← HBL.out, ← HSY.out, ← HAV.out]
          simp only
          rw [if_neg (by simp), hL, HMN.out]
        have hLM : L.length = M := by rw [hL, List.length_take, ← HBL.out]; omega
        have HTL := Lib.hid hTL
        have HLM := Lib.hid hLM
        rw [← hL] at S4
        have S6 := S4
        clear S4 hL hTL hLM hav hMM
        have HG2 : (fsK.set k { f with val := .slice A5 M c5 })[k]? = some { f with val := .slice A5 M c5 } := by rw [List.getElem?_set_self (by rw [HLK.out]; exact hkn)]
        have z_ := rows_at (by have := S6.row 0 rfl; rwa [List.length_set, HLK.out] at this) HG2
        have z1 := z_.2.1
        have z2 := z_.2.2.1
        have z3 := z_.2.2.2 (k * 3 + 2)
        simp only at z1 z2
        rw [← HSY.out] at z2
        have S7 := S6.setFile (j := 2) (u := .int .i64 M) (f' := ⟨f.name, .slice A5 M c5, L, M⟩) 0 rfl (by rw [List.length_set]; exact HLK.out.symm) HG2 (by decide) rfl
        simp only [List.eraseIdx_cons_zero, List.set_set] at S7
        have S8 := S7.pick [1, 3, 2, 0] (by decide)
        simp only [List.filterMap_cons, List.filterMap_nil, List.getElem?_cons_succ, List.getElem?_cons_zero] at S8
        have S9 := chFiles_row (l := L) (v := .slice A5 M c5) (fs' := fsK.set k ⟨f.name, .slice A5 M c5, L, M⟩) (by rw [HLM.out]; exact S8) (by rw [HLM.out]; omega) (fun f2 hf2 => by
          rcases List.mem_or_eq_of_mem_set hf2 with h | h
          · exact .inr h
          · exact .inl ⟨by rw [h], by rw [h], by rw [h, HLM.out]; exact Nat.le_refl _⟩)
        have S10 := S9.pick [1, 2, 0] (by decide)
        simp only [List.filterMap_cons, List.filterMap_nil, List.getElem?_cons_succ, List.getElem?_cons_zero] at S10
        have HS := Lib.hid S10
        clear S6 S7 S8 S9 S10 HG2 z_
        go_wp2_with fail
        go_roundw
        case rel => exact ⟨k + 1, fsK.set k ⟨f.name, .slice A5 M c5, L, M⟩, by omega, by go_num, by rw [List.length_set]; exact HLK.out, fun j f2 hj hf2 => by
          by_cases hjk : j = k
          · subst hjk
            have e : f2 = f := by have := HF.out; rw [hf2] at this; exact Option.some.inj this
            exact ⟨.slice A5 M c5, by rw [List.getElem?_set_self (by rw [HLK.out]; exact hkn), e, HTL.out, HLM.out]⟩
          · obtain ⟨v, hv⟩ := HDN.out j f2 (by omega) hf2
            exact ⟨v, by rw [List.getElem?_set_ne (fun e => hjk e.symm)]; exact hv⟩, fun j hj => by
          rw [List.getElem?_set_ne (by omega)]
          exact HST.out j (by omega), HS.out⟩
        case measure => simp [intOf]; omega
    · obtain rfl : k = n := by omega
      have hkk : decide ((k : Int) < (k : Int)) = false := by simp
      have S2 := S1.close
      have hmap : fsK.map rdatF = (fs.map rdatF).mapIdx (tornR ts) := by
        refine List.ext_getElem? fun j => ?_
        rw [List.getElem?_map, List.getElem?_mapIdx, List.getElem?_map]
        by_cases hj : j < k
        · obtain ⟨f, hf⟩ : ∃ f, fs[j]? = some f := ⟨_, List.getElem?_eq_getElem (by rw [← HN.out]; exact hj)⟩
          obtain ⟨v, hv⟩ := HDN.out j f hj hf
          rw [hv, hf]
          rfl
        · rw [HST.out j (by omega), List.getElem?_eq_none (by rw [← HN.out]; omega)]
          rfl
      have HM := Lib.hid hmap
      have HS := Lib.hid S2
      clear S1 S2 hmap
      go_wp2_with fail
      go_end0
      exact ⟨rfl, fsK, by rw [← HN.out]; exact HS.out, HM.out⟩
end Go.Proofs.Ytdjdhakmigofmaa
