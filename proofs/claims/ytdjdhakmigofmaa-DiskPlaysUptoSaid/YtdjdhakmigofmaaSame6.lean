/-
  Whether a disk has what the document's disk has: it says so where they are related.
-/
import Derived.Test.YtdjdhakmigofmaaDiskD
import Derived.Test.YtdjdhakmigofmaaRD4
import Derived.Test.YtdjdhakmigofmaaConv
import Derived.Test.YtdjdhakmigofmaaAct
namespace Go.Proofs.Ytdjdhakmigofmaa
open Go.RowKit
set_option maxRecDepth 100000
attribute [local go_sem] FreeTw.out

theorem DiskC.below {w w' : World} {d m : Nat} {a b : Int} {fs : List FileV} (h : DiskC w d m a b fs) (hb : Below w.heap.size w w') : DiskC w' d m a b fs := ⟨h.1.below hb, h.2.below hb h.2.lt⟩
set_option maxHeartbeats 8000000 in
theorem lawSame (d m g : Nat) (lv : Value) (a b : Int) (fs L : List FileV) (w : World) (hDC : DiskC w d m a b fs) (hP : (chM g lv a b L).P w) (hrel : RelF fs (L.map rdatF)) (hfs : fs.length ≤ 1000) :
    Calls Try.prog 29 #[.pointer (some ⟨d, 0, none⟩), .pointer (some ⟨g, 0, none⟩)] w fun e w' => e = .returned (.bool true) ∧ Below w.heap.size w w' := by
  have hND := hDC.1.nodup
  have hNm := diskNames d m fs w hDC.1 (by omega)
  have hNL := relF_namesL hrel hND
  have hlen := relF_len hrel hND
  rw [List.length_map] at hlen
  have S0 := Upd.open_ hP
  obtain ⟨A, c, rfl⟩ := owns_slice (S0.row 1 rfl)
  have h3 : L.length ≤ c ∧ c ≤ maxLen := by
    obtain ⟨_, _, he, _, h2, h3, _⟩ := rd_of_owns (S0.row 1 rfl)
    cases he
    exact ⟨h2, h3⟩
  unfold maxLen at h3
  have hnl : (namesF fs).length = L.length := by rw [namesF_len, hlen]
  rw [hnl, hNL] at hNm
  obtain ⟨n, hn⟩ : ∃ n, n = L.length := ⟨_, rfl⟩
  rw [← hn] at hNm h3 S0 hlen
  have HN := Lib.hid hn
  have hB := S0.blk 0 rfl
  have hrow := S0.row 1 rfl
  have hfiles := S0.files 2 rfl
  have x0 := hB.cell (j := 0) (v := .slice A n c) rfl
  have x1 := hB.cell (j := 1) (v := .int .i64 a) rfl
  have x2 := hB.cell (j := 2) (v := .int .i64 b) rfl
  have HB := Lib.hid hB
  have HROW := Lib.hid hrow
  have HFI := Lib.hid hfiles
  have HDC := Lib.hid hDC
  have HREL := Lib.hid hrel
  have HND := Lib.hid hND
  have kC := fun w' (h : Below w.heap.size w w') => diskCounts d (.map (some m)) a b w' (hDC.2.below h hDC.2.lt)
  have KC := Lib.hid kC
  clear hB hrow hfiles S0 hP hDC hrel hNL hnl hn hND kC
  go_enter Try.func29, Try.ntmps29
  go_wp2_with fail
  (with_reducible refine hNm.mono ?_)
  rintro e w1 ⟨v1, rfl, hv1, hb1⟩
  obtain ⟨An, cn, rfl⟩ := owns_slice hv1
  have S1 := (Upd.nil [] w).addRow hb1 hv1 (Nat.le_refl _)
  clear hNm hv1 x0 x1 x2
  go_wp2_with fail
  (with_reducible refine (KC.out w1 S1.below).mono ?_)
  rintro e w2 ⟨rfl, hb2⟩
  have S2 := S1.grow hb2
  clear S1 hb1 hb2 KC
  have x0 := (HB.out.below S2.below HB.out.lt).cell (j := 0) (v := .slice A n c) rfl
  have x1 := (HB.out.below S2.below HB.out.lt).cell (j := 1) (v := .int .i64 a) rfl
  have x2 := (HB.out.below S2.below HB.out.lt).cell (j := 2) (v := .int .i64 b) rfl
  go_wp2_with fail
  go_loopw [48] (fun i wr => ∃ k, k ≤ n ∧ i = .int .i64 k ∧ Upd [] w [chRow 9 1 (.slice An n cn) n ((L.map fun f => nameL f.name).map encStr)] wr) (fun i _ => n - (intOf i).toNat)
  case atStart => exact ⟨0, Nat.zero_le _, rfl, by simpa [rdatF, List.map_map, Function.comp_def] using S2⟩
  case round =>
    obtain ⟨k, hk, rfl, S1⟩ := hrel
    clear S2 x0 x1 x2
    by_cases hkn : k < n
    · obtain ⟨f, hf⟩ : ∃ f, L[k]? = some f := ⟨_, List.getElem?_eq_getElem (by rw [← HN.out]; exact hkn)⟩
      have hcn : n ≤ cn := by
        obtain ⟨_, _, he, _, h2, _⟩ := rd_of_owns (S1.row 0 rfl)
        cases he
        exact h2
      obtain ⟨bn, on, rfl, cnk⟩ : ∃ b o, An = some ⟨b, o, none⟩ ∧ wr.cell? ⟨b, o + k, none⟩ = some (.string f.name) := by
        obtain ⟨_, _, he, _, _, _, h4⟩ := rd_of_owns (S1.row 0 rfl)
        cases he
        obtain ⟨b, o, hA, hat⟩ := h4 (by omega)
        exact ⟨b, o, hA, hat k _ (by rw [List.getElem?_map, List.getElem?_map, hf]; rfl)⟩
      obtain ⟨q, rfl⟩ : ∃ q, A = some ⟨q, 0, none⟩ := by
        rcases HROW.out.2 with ⟨he, h0⟩ | ⟨g', cap, cur, he, _⟩
        · have := HN.out; omega
        · cases he; exact ⟨_, rfl⟩
      have hq := rows_at (by have := HROW.out; rwa [← HN.out] at this) hf
      have hFV := HFI.out f (List.mem_of_getElem? hf)
      have hFR := (hFV.1).below S1.below
      obtain ⟨⟨Av, cv, ev, _, hv2, hv3, _⟩, hsy, hby⟩ := hFV
      obtain ⟨fm, hfm, ed⟩ : ∃ fm, findF fs f.name = some fm ∧ dat fm = (f.bytes, f.synced) := by
        have h1 := HREL.out.1 f.name
        have h2 := lookR_of_mem (sortR_nodup HREL.out.2) (List.mem_map.2 ⟨f, List.mem_of_getElem? hf, rfl⟩)
        rw [show (rdatF f).1 = f.name from rfl] at h2
        rw [h2] at h1
        cases h4 : findF fs f.name with
        | none => rw [h4] at h1; cases h1
        | some fm => rw [h4] at h1; exact ⟨fm, rfl, Option.some.inj h1⟩
      have ed1 : fm.bytes = f.bytes := congrArg Prod.fst ed
      have ed2 : fm.synced = f.synced := congrArg Prod.snd ed
      obtain ⟨bl, hbl⟩ : ∃ bl, bl = f.bytes.length := ⟨_, rfl⟩
      obtain ⟨sy, hsye⟩ : ∃ sy, sy = f.synced := ⟨_, rfl⟩
      obtain ⟨av, hav⟩ : ∃ av, av = bl - sy := ⟨_, rfl⟩
      rw [← hbl] at ev hby hv2 hsy
      rw [← hsye] at hsy
      rw [ev, ← hbl] at hFR
      rw [ev, ← hsye] at hq
      have wav : IntKind.i64.wrap ((bl : Int) - (sy : Int)) = (av : Int) := by rw [IntKind.wrap_i64]; omega
      have kR := fun w' (h : Below w.heap.size w w') => diskReadSome d m fs f.name fm w' (HDC.out.below h).1 hfm
      have kL := fun w' (h : Below w.heap.size w w') => diskLooseSome d m fs f.name fm w' (HDC.out.below h).1 hfm
      rw [ed1, ← hbl] at kR
      rw [ed1, ed2, ← hbl, ← hsye, ← hav] at kL
      have KR := Lib.hid kR
      have KL := Lib.hid kL
      have y0 := cell_later S1.below hq.1
      have y1 := cell_later S1.below hq.2.1
      have y2 := cell_later S1.below hq.2.2.1
      have HFR := Lib.hid hFR
      obtain ⟨fn, hfn⟩ : ∃ fn, fn = f.name := ⟨_, rfl⟩
      obtain ⟨fb, hfb⟩ : ∃ fb, fb = f.bytes := ⟨_, rfl⟩
      rw [← hfn] at cnk y0 KR KL
      rw [← hfb] at HFR KR
      unfold maxLen at hv3
      clear hq hFR hf hfm ed ed1 ed2 hbl hsye hav kR kL ev hfn hfb
      have cnkA : (wr.alloc (.cells #[.string fn, .slice Av bl cv, .int .i64 sy] 90)).cell? ⟨bn, on + k, none⟩ = some (.string fn) := cell_later ((Below.refl _ _).alloc (Nat.le_refl _) _) cnk
      go_wp2_with fail
      refine calls_gen fun W hW => ?_
      clear cnkA
      have S2 := (S1.alloc #[.string fn, .slice Av bl cv, .int .i64 sy] 90).same hW
      have hBx := S2.blk 0 rfl
      have cnk2 := cell_later (show Below wr.heap.size wr W by rw [hW]; exact (Below.refl _ _).alloc (Nat.le_refl _) _) cnk
      have hFR2 := HFR.out.below (show Below wr.heap.size wr W by rw [hW]; exact (Below.refl _ _).alloc (Nat.le_refl _) _)
      clear hW S1 y0 y1 y2 cnk HFR
      (with_reducible refine (KR.out W S2.below).mono ?_)
      rintro e w3 ⟨v3, rfl, hv3', hb3⟩
      obtain ⟨A3, c3, rfl⟩ := owns_slice hv3'
      have S3 := S2.addRow hb3 hv3' (Nat.le_refl _)
      have hbx := S3.blk 1 rfl
      have cn3 := cell_later hb3 cnk2
      have hF3 := hFR2.below hb3
      have hR3 := rd_of_owns (S3.row 0 rfl)
      have hS3b := S3.below
      have HKL := Lib.hid (fun w' (h : Below w3.heap.size w3 w') => KL.out w' (hS3b.trans (h.mono hS3b.size)))
      have F : ∀ w', Below w3.heap.size w3 w' → w'.cell? ⟨bn, on + k, none⟩ = some (.string fn) ∧ w'.cell? ⟨wr.heap.size, 0, none⟩ = some (.string fn) ∧ w'.cell? ⟨wr.heap.size, 1, none⟩ = some (.slice Av bl cv) ∧ w'.cell? ⟨wr.heap.size, 2, none⟩ = some (.int .i64 sy) ∧ (convert 27 9 (.slice Av bl cv)).run Try.prog w' = .ok (.string ⟨fb.toArray⟩) w' ∧ (convert 27 9 (.slice A3 bl c3)).run Try.prog w' = .ok (.string ⟨fb.toArray⟩) w' := fun w' h =>
        have p := hbx.below h hbx.lt
        ⟨cell_later h cn3, p.cell rfl, p.cell rfl, p.cell rfl, conv8 (hF3.below h), conv8 (hR3.below h)⟩
      clear hv3' hb3 S2 hBx cnk2 hFR2 hbx cn3 hF3 hR3 KR KL
      go_wp2_with fail
      refine FreeTw.region_free (fun w' => Below w3.heap.size w3 w') (fun _ => True) [] [] [0, 1, 2, 3, 4, 5, 6, 7, 8, 9, 10, 11, 12, 13, 14, 15, 16, 17, 18, 19, 20, 21, 22, 23, 24, 25, 26, 27, 28, 29, 30, 31, 32, 33] (fun _ _ => trivial) (by kernel_rfl) (by kernel_rfl) (by kernel_rfl) ((Below.refl _ _).drew) ?_
      repeat (first
        | (refine FreeTw.RelSeq.pure_ (c := ?_) rfl rfl ?_ ?_; rotate_left; (focus (intro x w'; dsimp only; go_simp; (first | ((repeat' apply And.intro) <;> first | with_reducible rfl | assumption) | (split <;> (try (focus (exfalso; omega))); (try go_simp); (repeat' apply And.intro) <;> first | with_reducible rfl | assumption)))); simp only [Act.put, List.setIfInBounds_toArray, List.set_cons_zero, List.set_cons_succ])
        | (refine FreeTw.RelSeq.skip_ rfl (fun _ => rfl) ?_; simp only [Act.put, List.setIfInBounds_toArray, List.set_cons_zero, List.set_cons_succ])
        | (refine FreeTw.RelSeq.pureG_ (c := ?_) rfl (fun _ => rfl) rfl ?_ ?_; rotate_left; (focus (intro x w'; dsimp only; go_simp; (repeat' apply And.intro) <;> first | with_reducible rfl | assumption)); simp only [Act.put, List.setIfInBounds_toArray, List.set_cons_zero, List.set_cons_succ])
        | (refine FreeTw.RelSeq.steady_ (c := ?_) rfl rfl rfl ?_ ?_; rotate_left; (focus (intro x w' hw; dsimp only; obtain _ := hw; go_simp; (repeat' apply And.intro) <;> first | with_reducible rfl | assumption)); simp only [Act.put, List.setIfInBounds_toArray, List.set_cons_zero, List.set_cons_succ])
        | (refine FreeTw.RelSeq.grow_ (c := ?_) rfl rfl rfl ?_ ?_; rotate_left; (focus (intro x w' hw _; dsimp only; obtain ⟨d0, d1, d2, d3, d4, d5⟩ := F w' hw; have hbr := Below.refl w'.heap.size w'; go_simp; (repeat' apply And.intro) <;> first | with_reducible rfl | assumption)); simp only [Act.put, List.setIfInBounds_toArray, List.set_cons_zero, List.set_cons_succ])
        | (refine FreeTw.RelSeq.growG_ (c := ?_) rfl (fun _ => rfl) rfl rfl ?_ ?_; rotate_left; (focus (intro x w' hw _; dsimp only; obtain ⟨d0, d1, d2, d3, d4, d5⟩ := F w' hw; have hbr := Below.refl w'.heap.size w'; go_simp; (repeat' apply And.intro) <;> first | with_reducible rfl | assumption)); simp only [Act.put, List.setIfInBounds_toArray, List.set_cons_zero, List.set_cons_succ])
        | (refine FreeTw.RelSeq.grow_ (c := ?_) rfl rfl rfl ?_ ?_; rotate_left; (focus (intro x w' hw _; dsimp only; have hbr := Below.refl w'.heap.size w'; go_simp; (go_at_call 14; (with_reducible refine (HKL.out _ hw).mono ?_); rintro e w1 ⟨rfl, hb1⟩; have hI1 := hw.trans (hb1.mono hw.size); go_simp; (repeat' apply And.intro) <;> first | with_reducible rfl | assumption))); simp only [Act.put, List.setIfInBounds_toArray, List.set_cons_zero, List.set_cons_succ])
        | (refine FreeTw.RelSeq.growG_ (c := ?_) rfl (fun _ => rfl) rfl rfl ?_ ?_; rotate_left; (focus (intro x w' hw _; dsimp only; have hbr := Below.refl w'.heap.size w'; go_simp; (go_at_call 14; (with_reducible refine (HKL.out _ hw).mono ?_); rintro e w1 ⟨rfl, hb1⟩; have hI1 := hw.trans (hb1.mono hw.size); go_simp; (repeat' apply And.intro) <;> first | with_reducible rfl | assumption))); simp only [Act.put, List.setIfInBounds_toArray, List.set_cons_zero, List.set_cons_succ]))
      refine FreeTw.RelSeq.nil_ fun x w4 hw4 _ _ => FreeTw.TailSeq.nil_ ?_
      have S4 := (S3.grow hw4).pick [2] (by decide)
      simp only [List.filterMap_cons, List.filterMap_nil, List.getElem?_cons_succ, List.getElem?_cons_zero] at S4
      clear S3 F
      go_wp2_with fail
      go_roundw
      case rel => exact ⟨k + 1, by omega, by go_num, S4⟩
      case measure => simp [intOf]; omega
    · obtain rfl : k = n := by omega
      have hkk : decide ((k : Int) < (k : Int)) = false := by simp
      have hb := S1.below
      clear S1
      go_wp2_with fail
      go_ret
      exact ⟨rfl, hb⟩
end Go.Proofs.Ytdjdhakmigofmaa
