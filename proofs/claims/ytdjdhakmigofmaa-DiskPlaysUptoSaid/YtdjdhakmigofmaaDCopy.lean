/-
  A disk's copy; its counts.
-/
import Derived.Test.YtdjdhakmigofmaaDSt
import Derived.Test.YtdjdhakmigofmaaNames
namespace Go.Proofs.Ytdjdhakmigofmaa
open Go.RowKit FreeNew
set_option maxRecDepth 100000
attribute [local go_sem] out

theorem diskNewC (w : World) : Calls Try.prog 9 #[] w fun e w' => ∃ d m, e = .returned (.pointer (some ⟨d, 0, none⟩)) ∧ Upd [] w [chDiskC d m 0 0 []] w' := by
  have hmm := @run_makeMap Try.prog
  go_enter Try.func9, Try.ntmps9
  go_wp2_with fail
  refine bodyPost_gen fun w1 hw1 => ?_
  have e1 : (w.alloc (Obj.map #[] 0)).heap.size = w.heap.size + 1 := by simp
  have hB : Blk w1 (w.heap.size + 1) #[.map (some w.heap.size), .int .i64 0, .int .i64 0] 81 := by rw [hw1, ← e1]; exact Blk.new _ _ _
  have hm : w1.heap[w.heap.size]? = some (.map #[] 0) := by rw [hw1]; exact (Below.heap_alloc _ _ _ (by rw [e1]; omega)).trans (heap_alloc_new w _)
  have hb : Below w.heap.size w w1 := by rw [hw1]; exact ((Below.refl _ _).alloc (Nat.le_refl _) _).alloc (by rw [e1]; omega) _
  clear hw1 e1
  have S1 : Upd [] w [chDiskC (w.heap.size + 1) w.heap.size 0 0 []] w1 := (Upd.nil [] w).add hb (chDiskC (w.heap.size + 1) w.heap.size 0 0 []) ⟨⟨⟨0, 0, hB⟩, ⟨#[], 0, hm, rfl⟩, (fun f hf => by cases hf), ⟨#[], 0, hm, MapKept.stamped_empty 0⟩⟩, hB⟩ (fun b hb => by
    rcases List.mem_cons.1 hb with rfl | hb
    · omega
    · rw [List.mem_singleton.1 hb]; exact Nat.le_refl _)
  go_ret
  exact ⟨_, _, rfl, S1⟩
/-- What a file is without where it lies. -/
def bs2 (f : FileV) : List UInt8 × Nat := (f.bytes, f.synced)
set_option maxHeartbeats 2000000 in
theorem diskCopy (d m : Nat) (fs : List FileV) (w : World) (hD : DiskAt w d m fs) :
    Calls Try.prog 16 #[.pointer (some ⟨d, 0, none⟩)] w fun e w' => ∃ c mc fs', e = .returned (.pointer (some ⟨c, 0, none⟩)) ∧ Upd [] w [chDiskC c mc 0 0 fs'] w' ∧ (∀ s, (findF fs' s).map bs2 = (findF fs s).map bs2) ∧ fs'.length = fs.length := by
  have hnod := hD.nodup
  go_enter Try.func16, Try.ntmps16
  go_wp2_with fail
  (with_reducible refine (diskNewC _).mono ?_)
  rintro e w1 ⟨c, mc, rfl, S1⟩
  have hb1 := S1.below
  have c0 := (hD.below hb1).cell0
  have hstamp := hD.stamp
  obtain ⟨_, ⟨es, clock, h2, h3⟩, hg⟩ := hD
  obtain ⟨es2, clock2, h5, h6⟩ := hstamp
  rw [h2] at h5
  injection h5 with h5
  injection h5 with e1 e2
  subst e1 e2
  obtain ⟨hborn, hnd, hnk⟩ := h6
  have hml : m < w.heap.size := (Array.getElem?_eq_some_iff.1 h2).1
  have hrg := run_range_map (P := Try.prog) w1 74 9 84 m es clock Try.underlying74 ((hb1.block m hml).trans h2)
  have hlen : es.toList.length = fs.length := by have := congrArg List.length h3; simpa using this
  have hwl := hb1.size
  clear hb1
  go_wp2_with fail
  have SI : Upd [] w [chObj w1.heap.size (.mapIter (some m) clock #[] clock), chDiskC c mc 0 0 []] (w1.alloc (.mapIter (some m) clock #[] clock)) := S1.add ((Below.refl _ _).alloc (Nat.le_refl _) _) (chObj w1.heap.size (.mapIter (some m) clock #[] clock)) (heap_alloc_new w1 _) (fun b hb => by rw [List.mem_singleton.1 hb]; exact Nat.le_refl _)
  go_loopw [4] (fun _ wr => ∃ (seen : Array Nat) (done : List MapEntry) (fsK : List FileV), Upd [] w [chObj w1.heap.size (.mapIter (some m) clock seen clock), chDiskC c mc 0 0 fsK] wr ∧ seen.toList = done.map (·.born) ∧ (∀ e ∈ done, e ∈ es.toList) ∧ (done.map (·.born)).Nodup ∧
    (∀ s, (Value.string s ∈ done.map (·.key) → (findF fsK s).map bs2 = (findF fs s).map bs2) ∧ (Value.string s ∉ done.map (·.key) → findF fsK s = none)) ∧ fsK.length = done.length) (fun _ wr => leftN es w1.heap.size wr)
  case atStart => exact ⟨#[], [], [], SI, rfl, (fun _ h => nomatch h), List.nodup_nil, (fun _ => ⟨(fun h => nomatch h), fun _ => rfl⟩), rfl⟩
  case round =>
    obtain ⟨seen, done, fsK, hS, hsd, hdm, hdn, hfk, hlk⟩ := hrel
    have hr : wr.heap[w1.heap.size]? = some (.mapIter (some m) clock seen clock) := hS.obj 0 rfl
    have hB := hS.below
    have hbm : wr.heap[m]? = some (.map es clock) := (hB.block m hml).trans h2
    clear SI S1
    rcases run_next_at (P := Try.prog) wr 0 w1.heap.size m clock clock seen es clock hr hbm hborn (Nat.le_refl _) with ⟨h0, hrun⟩ | ⟨e, hel, w2, hw2, hrun⟩
    · have hnx : ∀ ty, (Instr.next (.pointer (some ⟨w1.heap.size, 0, none⟩)) false ty).run Try.prog wr = .ok (.tuple #[.bool false]) wr := fun _ => hrun
      have hperm := perm_of_left hsd hdm hdn hnd h0
      have hkeys : es.toList.map (·.key) = fs.map fun f => Value.string f.name := by
        have := congrArg (List.map Prod.fst) h3
        simpa [List.map_map, Function.comp_def, kvOf] using this
      have hkp := hperm.map (·.key)
      rw [hkeys] at hkp
      have hfin : ∀ s, (findF fsK s).map bs2 = (findF fs s).map bs2 := by
        intro s
        by_cases hno : Value.string s ∈ done.map (·.key)
        · exact (hfk s).1 hno
        · rw [(hfk s).2 hno]
          have : findF fs s = none := find_none.2 fun hm => hno (hkp.mem_iff.2 (by
            obtain ⟨f, hf, e⟩ := List.mem_map.1 hm
            exact List.mem_map.2 ⟨f, hf, by rw [e]⟩))
          rw [this]
      have hfl : fsK.length = fs.length := by rw [hlk, ← hlen]; exact hperm.length_eq
      have hS2 := hS.drop 0
      simp only [List.eraseIdx_cons_zero] at hS2
      have HF := Lib.hid hfin
      have HL := Lib.hid hfl
      clear hperm hkeys hkp hfin hfl hrun hr hbm h2 h3 hnd hdn hnk hborn hrg hsd hdm h0 c0 hS hfk hlk hlen hg
      go_wp2_with fail
      go_ret
      exact ⟨_, _, fsK, rfl, hS2, HF.out, HL.out⟩
    · obtain ⟨hemem, hns⟩ := mem_left hel
      obtain ⟨f, hfm, hkey, hval⟩ : ∃ f ∈ fs, e.key = .string f.name ∧ e.val = .agg #[f.val, .int .i64 f.synced] := by
        have : (e.key, e.val) ∈ fs.map kvOf := by rw [← h3]; exact List.mem_map.2 ⟨e, hemem, rfl⟩
        obtain ⟨f, hf, hf2⟩ := List.mem_map.1 this
        exact ⟨f, hf, (congrArg Prod.fst hf2).symm, (congrArg Prod.snd hf2).symm⟩
      have hff : findF fs f.name = some f := find_of_mem hnod hfm
      have hnew : Value.string f.name ∉ done.map (·.key) := by
        intro hm
        obtain ⟨e', he', hk'⟩ := List.mem_map.1 hm
        have : e' = e := List.inj_on_of_nodup_map' hnk (hdm e' he') hemem (by rw [hk', hkey])
        subst this
        have h1 : e'.born ∈ seen.toList := by rw [hsd]; exact List.mem_map.2 ⟨e', he', rfl⟩
        have h2 : seen.contains e'.born = true := by simpa using h1
        rw [hns] at h2; cases h2
      have hnone : findF fsK f.name = none := (hfk f.name).2 hnew
      have hr1 : w2.heap[w1.heap.size]? = some (.mapIter (some m) clock seen clock) := by rcases hw2 with rfl | rfl <;> exact hr
      have hg1 : Upd [w1.heap.size] wr [chObj w1.heap.size (.mapIter (some m) clock (seen.push e.born) clock)] (ChangeMaps.setBlock w2 w1.heap.size (.mapIter (some m) clock (seen.push e.born) clock)) := by
        have q := setBlock_at (o := Obj.mapIter (some m) clock (seen.push e.born) clock) hr1
        have e0 : w2.heap = wr.heap := by rcases hw2 with rfl | rfl <;> rfl
        refine ⟨?_, ?_, ?_, ?_, fun k _ hk => ?_, fun c hc => by rw [List.mem_singleton.1 hc]; exact q, fun c hc b hb => ?_, by simp⟩
        · rcases hw2 with rfl | rfl <;> rfl
        · rcases hw2 with rfl | rfl <;> rfl
        · rcases hw2 with rfl | rfl <;> rfl
        · simp [ChangeMaps.setBlock, e0]
        · rw [setBlock_ne (by simpa using hk), e0]
        · rw [List.mem_singleton.1 hc] at hb
          exact .inl hb
      have hS2 := hS.turn 0 rfl hg1
      simp only [List.eraseIdx_cons_zero, List.cons_append, List.nil_append] at hS2
      have hnx : ∀ ty, (Instr.next (.pointer (some ⟨w1.heap.size, 0, none⟩)) false ty).run Try.prog wr = .ok (.tuple #[.bool true, .string f.name, e.val]) (ChangeMaps.setBlock w2 w1.heap.size (.mapIter (some m) clock (seen.push e.born) clock)) := fun _ => by rw [← hkey]; exact hrun
      obtain ⟨W2, hW2⟩ : ∃ W2, W2 = ChangeMaps.setBlock w2 w1.heap.size (.mapIter (some m) clock (seen.push e.born) clock) := ⟨_, rfl⟩
      rw [← hW2] at hS2 hnx
      have hB2 := hS2.below
      have hent : (Instr.entry (.pointer (some ⟨w1.heap.size, 0, none⟩))).run Try.prog W2 = .ok (.tuple #[.string f.name, e.val]) W2 := by
        rw [← hkey]
        exact run_entry_at W2 w1.heap.size m clock seen es clock e (hS2.obj 0 rfl) ((hB2.block m hml).trans h2) hemem hnd
      have hsh := left_shrinks es seen e hel
      obtain ⟨hrd, hsy, hfl⟩ := hg f hfm
      have hrd2 : Rd W2 1 f.val f.bytes.length (u8L f.bytes) := hrd.below hB2
      obtain ⟨fB, hfB⟩ : ∃ l, l = f.bytes := ⟨_, rfl⟩
      obtain ⟨sy, hsyn⟩ : ∃ l, l = f.synced := ⟨_, rfl⟩
      rw [← hfB] at hrd2 hfl hsy
      rw [← hsyn] at hval hsy
      obtain ⟨nB, hnB⟩ : ∃ n, n = fB.length := ⟨_, rfl⟩
      have hrd3 := hrd2
      obtain ⟨A, ca, hfv, _⟩ := hrd2
      rw [hfv] at hval hrd3
      rw [hval] at hnx hent
      rw [← hnB] at hnx hent
      have HSH := Lib.hid hsh
      have HSD := Lib.hid hsd
      have HDN := Lib.hid hdn
      have HRR := Lib.hid hr
      have HNS := Lib.hid hns
      have HFK := Lib.hid hfk
      have HLK := Lib.hid hlk
      have HNO := Lib.hid hnone
      have HNB := Lib.hid hnB
      have HFB := Lib.hid hfB
      have HSY := Lib.hid hsyn
      have HKY := Lib.hid hkey
      have HFF := Lib.hid hff
      have hln : fB.length ≤ 1099511627776 := by omega
      have HLN := Lib.hid hln
      have HFL := Lib.hid hfl
      have HS1 := Lib.hid hsy
      have HL0 := Lib.hid hlen
      have HH3 := Lib.hid h3
      clear hrun hW2 hr1 hg1 hbm hrg c0 hB hw2 hel hsh hsd hdn hr hns hfk hlk hnone hnB hfB hsyn hkey hff hS hln hfl hsy hval hfv hlen hrd hnod h3
      go_wp2_with fail
      refine wp_gen fun W hW => ?_
      have hbW : Below W2.heap.size W2 W := by rw [hW]; exact (Below.refl _ _).alloc (Nat.le_refl _) _
      have hBW : Blk W W2.heap.size #[.slice A nB ca, .int .i64 sy] 84 := by rw [hW]; exact Blk.new _ _ _
      have hSW := hS2.grow hbW
      have hrW := hrd3.below hbW
      have HR0 := Lib.hid hrW
      obtain ⟨hDW, hBK⟩ := hSW.diskC 1 rfl
      clear hW hnx hent hS2 hbW hrd3 hB2 hrW
      have F : ∀ w', Below W.heap.size W w' → w'.cell? ⟨c, 0, none⟩ = some (.map (some mc)) ∧ w'.cell? ⟨W2.heap.size, 0, none⟩ = some (.slice A nB ca) ∧ w'.cell? ⟨W2.heap.size, 1, none⟩ = some (.int .i64 sy) := fun w' h =>
        ⟨(hDW.below h).cell0, (hBW.below h hBW.lt).cell rfl, (hBW.below h hBW.lt).cell rfl⟩
      refine region_free (fun w' => Below W.heap.size W w') [7, 10] [11] [0, 1, 2, 3, 4, 5, 6, 7, 8, 9, 10] (by kernel_rfl) (by kernel_rfl) (by kernel_rfl) ((Below.refl _ _).drew) ?_
      repeat (first
        | (refine RelSeq.pure_ (c := ?_) rfl rfl ?_ ?_; rotate_left; (focus (intro x w'; dsimp only; go_simp; (repeat' apply And.intro) <;> first | with_reducible rfl | assumption)); simp only [Act.put, List.setIfInBounds_toArray, List.set_cons_zero, List.set_cons_succ])
        | (refine RelSeq.skip_ rfl (fun _ => rfl) ?_; simp only [Act.put, List.setIfInBounds_toArray, List.set_cons_zero, List.set_cons_succ])
        | (refine RelSeq.pureG_ (c := ?_) rfl (fun _ => rfl) rfl ?_ ?_; rotate_left; (focus (intro x w'; dsimp only; go_simp; (repeat' apply And.intro) <;> first | with_reducible rfl | assumption)); simp only [Act.put, List.setIfInBounds_toArray, List.set_cons_zero, List.set_cons_succ])
        | (refine RelSeq.grow_ (c := ?_) rfl rfl ?_ ?_; rotate_left; (focus (intro x w' hw _; dsimp only; obtain ⟨d0, d1, d2⟩ := F w' hw; have hbr := Below.refl w'.heap.size w'; go_simp; (repeat' apply And.intro) <;> first | with_reducible rfl | assumption)); simp only [Act.put, List.setIfInBounds_toArray, List.set_cons_zero, List.set_cons_succ])
        | (refine RelSeq.growG_ (c := ?_) rfl (fun _ => rfl) rfl ?_ ?_; rotate_left; (focus (intro x w' hw _; dsimp only; obtain ⟨d0, d1, d2⟩ := F w' hw; have hbr := Below.refl w'.heap.size w'; go_simp; (repeat' apply And.intro) <;> first | with_reducible rfl | assumption)); simp only [Act.put, List.setIfInBounds_toArray, List.set_cons_zero, List.set_cons_succ]))
      refine RelSeq.rel_ (fun v u => ∃ A c, v = .slice A nB c ∧ Rd u 1 v nB (u8L fB) ∧ ∀ b ∈ rdFp v nB, W.heap.size ≤ b) rfl rfl (fun v u u' h hb => let ⟨A, c, h1, h2, h3⟩ := h; ⟨A, c, h1, h2.below hb, h3⟩) ?_ ?_
      focus
        intro x w' hw _; dsimp only
        have hC := clone8 _ _ w' (HR0.out.below hw) HLN.out
        rw [← HNB.out] at hC
        have hwz := hw.size
        clear F
        go_simp
        (with_reducible refine hC.mono ?_)
        rintro e w9 ⟨v9, rfl, hv9, hb9⟩
        have hr9 := rd_of_owns hv9
        have hf9 : ∀ b ∈ rdFp v9 nB, W.heap.size ≤ b := fun b hb => Nat.le_trans hwz (fresh_val (owns_ge hv9) b hb)
        obtain ⟨A9, c9', rfl⟩ := owns_slice hv9
        have hw9 := hw.trans (hb9.mono hw.size)
        clear hv9 hC
        go_simp
        all_goals ((repeat' apply And.intro) <;> first | assumption | exact ⟨_, _, rfl, hr9, hf9⟩ | with_reducible rfl | decide)
      simp only [Act.put, List.setIfInBounds_toArray, List.set_cons_zero, List.set_cons_succ, List.nil_append]
      repeat (first
        | (refine RelSeq.pure_ (c := ?_) rfl rfl ?_ ?_; rotate_left; (focus (intro x w'; dsimp only; go_simp; (repeat' apply And.intro) <;> first | with_reducible rfl | assumption)); simp only [Act.put, List.setIfInBounds_toArray, List.set_cons_zero, List.set_cons_succ])
        | (refine RelSeq.skip_ rfl (fun _ => rfl) ?_; simp only [Act.put, List.setIfInBounds_toArray, List.set_cons_zero, List.set_cons_succ])
        | (refine RelSeq.pureG_ (c := ?_) rfl (fun _ => rfl) rfl ?_ ?_; rotate_left; (focus (intro x w'; dsimp only; go_simp; (repeat' apply And.intro) <;> first | with_reducible rfl | assumption)); simp only [Act.put, List.setIfInBounds_toArray, List.set_cons_zero, List.set_cons_succ])
        | (refine RelSeq.grow_ (c := ?_) rfl rfl ?_ ?_; rotate_left; (focus (intro x w' hw _; dsimp only; obtain ⟨d0, d1, d2⟩ := F w' hw; have hbr := Below.refl w'.heap.size w'; go_simp; (repeat' apply And.intro) <;> first | with_reducible rfl | assumption)); simp only [Act.put, List.setIfInBounds_toArray, List.set_cons_zero, List.set_cons_succ])
        | (refine RelSeq.growG_ (c := ?_) rfl (fun _ => rfl) rfl ?_ ?_; rotate_left; (focus (intro x w' hw _; dsimp only; obtain ⟨d0, d1, d2⟩ := F w' hw; have hbr := Below.refl w'.heap.size w'; go_simp; (repeat' apply And.intro) <;> first | with_reducible rfl | assumption)); simp only [Act.put, List.setIfInBounds_toArray, List.set_cons_zero, List.set_cons_succ]))
      refine RelSeq.rel_ (fun v u => ∃ A c, v = .agg #[.slice A nB c, .int .i64 sy] ∧ Rd u 1 (.slice A nB c) nB (u8L fB) ∧ ∀ b ∈ rdFp (.slice A nB c) nB, W.heap.size ≤ b) rfl rfl (fun v u u' h hb => let ⟨A, c, h1, h2, h3⟩ := h; ⟨A, c, h1, h2.below hb, h3⟩) ?_ ?_
      focus
        intro x w' hw hfa; dsimp only
        obtain ⟨A9, c9', e9, h9, k9⟩ := hfa _ (.head _) (by kernel_rfl)
        rw [e9] at h9 k9
        have hbr := Below.refl w'.heap.size w'
        clear F
        go_simp
        all_goals ((repeat' apply And.intro) <;> first | assumption | exact ⟨_, _, rfl, h9, k9⟩ | exact ⟨_, _, ⟨rfl, rfl⟩, h9, k9⟩ | with_reducible rfl | decide)
      simp only [Act.put, List.setIfInBounds_toArray, List.set_cons_zero, List.set_cons_succ, List.nil_append, List.cons_append]
      refine RelSeq.nil_ fun x w3 hw3 hfa _ => ?_
      obtain ⟨A9, c9', e9, h9, k9⟩ := hfa _ (.tail _ (.head _))
      have hD3 := hDW.below hw3
      have hD3' := hD3
      obtain ⟨⟨ca9, cb9, hblk⟩, ⟨es9, c99, h29, h39⟩, hg9⟩ := hD3
      obtain ⟨es', clock', hup, he'⟩ := upd_run h29 h39 hD3'.stamp ⟨f.name, .slice A9 nB c9', fB, sy⟩
      simp only at hup
      have hmd := setMap_mod w3 mc (.map es' clock')
      have hat := setMap_at (o := .map es' clock') h29
      clear F hfa hBW HR0
      refine TailSeq.cons_ rfl ?_
      go_simp
      generalize setMap w3 mc (.map es' clock') = w4 at hmd hat ⊢
      refine TailSeq.nil_ ?_
      have hdm' := hD3'.ne
      have hblk4 := hmd.blk hblk (by simpa using hdm')
      have hM34 : Mod [c, mc] w3 w4 := hmd.mono (by simp)
      have hR3 : Rd w3 1 (.slice A9 nB c9') fB.length (u8L fB) := by rw [← HNB.out]; exact h9
      have hD4 := hD3'.put (g := ⟨f.name, .slice A9 nB c9', fB, sy⟩) hM34 ⟨_, _, hblk4⟩ ⟨_, _, hat, he'⟩ ⟨hD3'.rd hM34 hR3, HS1.out, HFL.out⟩
      have hBK4 := hmd.blk (hBK.below hw3 hBK.lt) (by simpa using hdm')
      have hU := Upd.ofModC (fs := fsK) ((Mod.of_below (S := [c, mc]) hw3).trans hM34) ⟨hD4, hBK4⟩ (fun g hg => by
        rcases putF_mem hg with rfl | hg
        · refine .inl fun b hb => k9 b ?_
          simp only at hb
          rwa [← HNB.out] at hb
        · exact .inr ⟨g, hg, rfl, rfl⟩)
      have hS4 := hSW.turn 1 rfl hU
      simp only [List.eraseIdx_cons_succ, List.eraseIdx_cons_zero, List.cons_append, List.nil_append] at hS4
      have hS5 := hS4.perm (List.Perm.swap _ _ _)
      have hfk5 : ∀ s, (Value.string s ∈ (done ++ [e]).map (·.key) → (findF (putF fsK ⟨f.name, .slice A9 nB c9', fB, sy⟩) s).map bs2 = (findF fs s).map bs2) ∧ (Value.string s ∉ (done ++ [e]).map (·.key) → findF (putF fsK ⟨f.name, .slice A9 nB c9', fB, sy⟩) s = none) := by
        intro s
        rw [find_putF]
        by_cases hs : s = f.name
        · subst hs
          rw [if_pos rfl, HFF.out]
          exact ⟨fun _ => by simp [bs2, HFB.out, HSY.out], fun h => absurd (by simp [HKY.out]) h⟩
        · have e1 : (Value.string s ∈ (done ++ [e]).map (·.key)) ↔ Value.string s ∈ done.map (·.key) := by simp [HKY.out, hs]
          rw [if_neg hs, e1]
          exact HFK.out s
      have hlk5 : (putF fsK ⟨f.name, .slice A9 nB c9', fB, sy⟩).length = (done ++ [e]).length := by
        rw [putF_len]
        simp only [HNO.out, HLK.out, List.length_append, List.length_cons, List.length_nil]
        rfl
      have hsd5 : (seen.push e.born).toList = (done ++ [e]).map (·.born) := by rw [List.map_append, ← HSD.out]; simp
      have hdm5 : ∀ x ∈ done ++ [e], x ∈ es.toList := by
        intro x hx
        rcases List.mem_append.1 hx with h | h
        · exact hdm x h
        · rw [List.mem_singleton] at h; rw [h]; exact hemem
      have hdn5 : ((done ++ [e]).map (·.born)).Nodup := by
        rw [List.map_append, List.nodup_append]
        refine ⟨HDN.out, by simp, fun a ha b hb hab => ?_⟩
        simp only [List.map_cons, List.map_nil, List.mem_singleton] at hb
        rw [← HSD.out] at ha
        have h1 := HNS.out
        have h2 : seen.contains e.born = true := by rw [← hb, ← hab]; simpa using ha
        rw [h1] at h2; cases h2
      have hmeas : leftN es w1.heap.size w4 < leftN es w1.heap.size wr := by
        unfold leftN
        rw [hS5.obj 0 rfl, HRR.out]
        exact HSH.out
      generalize putF fsK ⟨f.name, .slice A9 nB c9', fB, sy⟩ = fsN at hS5 hfk5 hlk5
      have H1 := Lib.hid hfk5
      have H2 := Lib.hid hlk5
      have H3 := Lib.hid hsd5
      have H4 := Lib.hid hdn5
      clear hup h29 h39 hg9 hblk hmd hblk4 hBK hBK4 hat hM34 hD3' hD4 hU hS4 hR3 h9 k9 hw3 hfk5 hlk5 hsd5 hdn5 hSW hDW
      go_wp2_with fail
      go_roundw
      case rel => exact ⟨seen.push e.born, done ++ [e], fsN, hS5, H3.out, hdm5, H4.out, H1.out, H2.out⟩
      case measure => exact hmeas
end Go.Proofs.Ytdjdhakmigofmaa
