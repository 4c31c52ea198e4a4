/-
  The document's disk: where a file stands; a file less; a file more, at its place.
-/
import Derived.Test.YtdjdhakmigofmaaRD
import Derived.Test.YtdjdhakmigofmaaApp2
import Derived.Test.YtdjdhakmigofmaaFreeT
namespace Go.Proofs.Ytdjdhakmigofmaa
open Go.RowKit
set_option maxRecDepth 100000
attribute [local go_sem] FreeTw.out

theorem infoFile : (Try.prog.info? 90).map (fun i => (i.zero, i.size, i.bytes)) = some (some (.agg #[.string ⟨#[]⟩, .slice none 0 0, .int .i64 0]), 3, 48) := by kernel_rfl
def findI (fs : List FileV) (s : ByteArray) : Int := match idxR (fs.map rdatF) s with | none => -1 | some i => i
theorem idxR_first {L : List RF} {s : ByteArray} : ∀ {k : Nat} {f : RF}, (∀ j g, j < k → L[j]? = some g → g.1 ≠ s) → L[k]? = some f → f.1 = s → idxR L s = some k := by
  induction L with
  | nil => intro k f _ h; simp at h
  | cons a r ih =>
    intro k f h1 h2 h3
    cases k with
    | zero =>
      simp only [List.getElem?_cons_zero, Option.some.injEq] at h2
      subst h2
      simp only [idxR, if_pos h3]
    | succ k =>
      have h4 := h1 0 a (by omega) rfl
      simp only [idxR, if_neg h4]
      rw [ih (k := k) (fun j g hj hg => h1 (j + 1) g (by omega) hg) h2 h3]
      rfl
theorem idxR_not {L : List RF} {s : ByteArray} (h : ∀ g ∈ L, g.1 ≠ s) : idxR L s = none := by
  induction L with
  | nil => rfl
  | cons a r ih => simp only [idxR, if_neg (h a (.head _)), ih fun g hg => h g (.tail _ hg)]; rfl
theorem findI_at {fs : List FileV} {s : ByteArray} {k : Nat} {f : FileV} (h1 : ∀ j g, j < k → fs[j]? = some g → g.name ≠ s) (h2 : fs[k]? = some f) (h3 : f.name = s) : findI fs s = k := by
  unfold findI
  rw [idxR_first (k := k) (f := rdatF f) (fun j g hj hg => by
    rw [List.getElem?_map] at hg
    cases hq : fs[j]? with
    | none => rw [hq] at hg; cases hg
    | some q => rw [hq] at hg; cases hg; exact h1 j q hj hq) (by rw [List.getElem?_map, h2]; rfl) h3]
theorem findI_not {fs : List FileV} {s : ByteArray} (h : ∀ j g, j < fs.length → fs[j]? = some g → g.name ≠ s) : findI fs s = -1 := by
  unfold findI
  rw [idxR_not fun g hg => by
    obtain ⟨f, hf, rfl⟩ := List.mem_map.1 hg
    obtain ⟨j, hj⟩ := List.getElem?_of_mem hf
    exact h j f (List.getElem?_eq_some_iff.1 hj).1 hj]
theorem rd_one {w : World} {g n : Nat} {cs : Array Value} {t : TypeId} (h : Blk w g cs t) (hn : cs.size = n) : Rd w n (.slice (some ⟨g, 0, none⟩) 1 1) 1 cs.toList :=
  ⟨_, _, rfl, by simp [hn], Nat.le_refl _, by unfold maxLen; omega, fun _ => ⟨_, _, rfl, fun j u hj => by rw [Nat.zero_add]; exact h.cell (by simpa using hj)⟩⟩
theorem rd_nil (w : World) (size : Nat) (_h : 0 < size) : Rd w size (.slice none 0 0) 0 [] := ⟨none, 0, rfl, by simp, Nat.le_refl _, by simp [maxLen], fun hn => by omega⟩
theorem Rd.sufI {w : World} {q o n c m size : Nat} {xs : List Value} (h : Rd w size (.slice (some ⟨q, o, none⟩) n c) n xs) (hm : m ≤ n) :
    Rd w size (.slice (if c = m then some ⟨q, o, none⟩ else some ⟨q, o + m * size, none⟩) (n - m) (c - m)) (n - m) (xs.drop (m * size)) := by
  split
  · rename_i hc
    have h0 := h
    obtain ⟨A', c', he, h1, h2, h3, h4⟩ := h0
    cases he
    have e : n - m = 0 := by omega
    rw [e]
    refine ⟨_, _, rfl, ?_, by omega, by omega, fun hn => by omega⟩
    rw [List.length_drop, h1, show n = m by omega, Nat.zero_mul, Nat.sub_self]
  · exact h.sufN hm
theorem rcell_one {l : List FileV} (h : ∀ f ∈ l, f.val.oneCell' = true) : ∀ u ∈ l.flatMap rcell, u.oneCell' = true := by
  intro u hu
  obtain ⟨f, hf, hu⟩ := List.mem_flatMap.1 hu
  simp only [rcell, List.mem_cons, List.not_mem_nil, or_false] at hu
  rcases hu with rfl | rfl | rfl
  · rfl
  · exact h f hf
  · rfl
theorem goodF.one {w : World} {f : FileV} (h : goodF w f) : f.val.oneCell' = true := by
  obtain ⟨⟨A, c, e, _⟩, _⟩ := h
  rw [e]; rfl
theorem lss_name (a b : ByteArray) : Op.bytesLess a.toList b.toList = decide (nameL a < nameL b) := by
  rw [bytesLess_eq, ByteArray.toList_eq, ByteArray.toList_eq]; rfl
set_option maxHeartbeats 2000000 in
theorem refFind (g : Nat) (lv : Value) (a b : Int) (fs : List FileV) (s : ByteArray) (w : World) (hB : Blk w g #[lv, .int .i64 a, .int .i64 b] 48) (hr : Rd w 3 lv fs.length (fs.flatMap rcell)) (hlen : fs.length ≤ 1000) :
    Calls Try.prog 26 #[.pointer (some ⟨g, 0, none⟩), .string s] w fun e w' => e = .returned (.int .i64 (findI fs s)) ∧ w' = w := by
  obtain ⟨A, c, rfl, h1, h2, h3, h4⟩ := hr
  have x0 := hB.cell (j := 0) (v := .slice A fs.length c) rfl
  clear hB
  obtain ⟨n, hn⟩ : ∃ n, n = fs.length := ⟨_, rfl⟩
  have HN := Lib.hid hn
  rw [← hn] at h1 h2 h4 x0 hlen
  clear hn
  unfold maxLen at h3
  go_enter Try.func26, Try.ntmps26
  go_wp2_with fail
  go_loopw [5] (fun i wr => ∃ k, k ≤ n ∧ i = .int .i64 k ∧ wr = w ∧ ∀ j f, j < k → fs[j]? = some f → f.name ≠ s) (fun i _ => n - (intOf i).toNat)
  case atStart => exact ⟨0, Nat.zero_le _, rfl, rfl, fun j f hj => by omega⟩
  case round =>
    obtain ⟨k, hk, rfl, rfl, hno⟩ := hrel
    have HNO := Lib.hid hno
    clear hno
    by_cases hkn : k < n
    · obtain ⟨f, hf⟩ : ∃ f, fs[k]? = some f := ⟨_, List.getElem?_eq_getElem (by rw [← HN.out]; exact hkn)⟩
      obtain ⟨q, o, rfl, hat⟩ := h4 (by omega)
      have e0 := fun j hj => flat_at rcell 3 (fun _ => rfl) fs k f hf j hj
      have y0 := hat.nth0 (Below.refl _ _) (k * 3) (.string f.name) (e0 0 (by omega))
      have HF := Lib.hid hf
      clear e0 hat h4 hf
      by_cases hs : f.name = s
      · have hs1 : (f.name.toList == s.toList) = true := by simp [hs]
        have HS := Lib.hid hs
        clear hs
        go_wp2_with fail
        go_ret
        exact ⟨by rw [findI_at HNO.out HF.out HS.out]; rfl, rfl⟩
      · have hs1 : (f.name.toList == s.toList) = false := by rw [← beq_toListBytes, ba_dec]; simp [hs]
        have HS := Lib.hid hs
        clear hs
        go_wp2_with fail
        go_roundw
        case rel => exact ⟨k + 1, by omega, by go_num, trivial, fun j f' hj hf' => by
          by_cases hjk : j = k
          · subst hjk
            rw [HF.out] at hf'
            cases hf'
            exact HS.out
          · exact HNO.out j f' (by omega) hf'⟩
        case measure => simp [intOf]; omega
    · obtain rfl : k = n := by omega
      have hkk : decide ((k : Int) < (k : Int)) = false := by simp
      go_wp2_with fail
      go_ret
      exact ⟨by rw [findI_not fun j f hj hf => HNO.out j f (by rw [HN.out]; exact hj) hf]; rfl, rfl⟩

set_option maxHeartbeats 4000000 in
theorem refDrop (g : Nat) (lv : Value) (a b : Int) (fs : List FileV) (i : Nat) (w : World) (hP : (chL g lv a b fs).P w) (hi0 : i < fs.length) (hlen : fs.length ≤ 1000) (hsh : ∀ f ∈ fs, f.val.oneCell' = true) :
    Calls Try.prog 45 #[.pointer (some ⟨g, 0, none⟩), .int .i64 i] w fun e w' => e = .returned (.tuple #[]) ∧ ∃ lv', Upd (chL g lv a b fs).fp w [chL g lv' a b (fs.eraseIdx i)] w' := by
  obtain ⟨i0, hi, hz0, hz1, hz2⟩ := info_parts infoFile
  have S0 := Upd.open_ hP
  have hr := rd_of_owns (S0.row 1 rfl)
  have hB := S0.blk 0 rfl
  obtain ⟨A, c, rfl⟩ := owns_slice (S0.row 1 rfl)
  obtain ⟨n, hn⟩ : ∃ n, n = fs.length := ⟨_, rfl⟩
  have HN := Lib.hid hn
  have hrA : Rd w 3 (.slice A i c) i ((fs.take i).flatMap rcell) := by
    have := hr.preN (Nat.le_of_lt hi0)
    rwa [flat_take rcell 3 (fun _ => rfl)] at this
  obtain ⟨A', c', he, h1, h2, h3, h4⟩ := hr
  cases he
  obtain ⟨q, o, rfl, hat⟩ := h4 (by omega)
  rw [← hn] at h1 h2 hi0 hlen
  have x0 := hB.cell (j := 0) (v := .slice (some ⟨q, o, none⟩) fs.length c) rfl
  rw [← hn] at x0
  have hgl := hB.lt
  have F : ∀ w', Below w.heap.size w w' → w'.cell? ⟨g, 0, none⟩ = some (.slice (some ⟨q, o, none⟩) n c) := fun w' h => by rw [h.cell hgl]; exact x0
  unfold maxLen at h3
  obtain ⟨j, hj⟩ : ∃ j, j = i + 1 := ⟨_, rfl⟩
  have wk : IntKind.i64.wrap ((i : Int) + 1) = (j : Int) := by rw [IntKind.wrap_i64]; omega
  have hjn : j ≤ n := by omega
  have HJ := Lib.hid hj
  clear h4 hB hn hj
  go_enter Try.func45, Try.ntmps45
  go_wp2_with fail
  refine FreeTw.region_free (fun w' => Below w.heap.size w w') (fun w' => w'.cell? ⟨g, 0, none⟩ = some (.slice (some ⟨q, o, none⟩) n c)) [1, 8, 2000017] [16, 19] [0, 1, 2, 3, 4, 5, 6, 7, 8, 9, 10, 11, 12, 13, 14, 15, 17, 18] (F) (by kernel_rfl) (by kernel_rfl) (by kernel_rfl) ((Below.refl _ _).drew) ?_
  repeat (first
    | (refine FreeTw.RelSeq.pure_ (c := ?_) rfl rfl ?_ ?_; rotate_left; (focus (intro x w'; dsimp only; go_simp; (first | ((repeat' apply And.intro) <;> first | with_reducible rfl | assumption) | (split <;> (try (focus (exfalso; omega))); (try go_simp); (repeat' apply And.intro) <;> first | with_reducible rfl | assumption)))); simp only [Act.put, List.setIfInBounds_toArray, List.set_cons_zero, List.set_cons_succ])
    | (refine FreeTw.RelSeq.skip_ rfl (fun _ => rfl) ?_; simp only [Act.put, List.setIfInBounds_toArray, List.set_cons_zero, List.set_cons_succ])
    | (refine FreeTw.RelSeq.pureG_ (c := ?_) rfl (fun _ => rfl) rfl ?_ ?_; rotate_left; (focus (intro x w'; dsimp only; go_simp; (repeat' apply And.intro) <;> first | with_reducible rfl | assumption)); simp only [Act.put, List.setIfInBounds_toArray, List.set_cons_zero, List.set_cons_succ])
    | (refine FreeTw.RelSeq.steady_ (c := ?_) rfl rfl rfl ?_ ?_; rotate_left; (focus (intro x w' hw; dsimp only; obtain d0 := hw; go_simp; (repeat' apply And.intro) <;> first | with_reducible rfl | assumption)); simp only [Act.put, List.setIfInBounds_toArray, List.set_cons_zero, List.set_cons_succ])
    | (refine FreeTw.RelSeq.grow_ (c := ?_) rfl rfl rfl ?_ ?_; rotate_left; (focus (intro x w' hw _; dsimp only; obtain d0 := F w' hw; have hbr := Below.refl w'.heap.size w'; go_simp; (repeat' apply And.intro) <;> first | with_reducible rfl | assumption)); simp only [Act.put, List.setIfInBounds_toArray, List.set_cons_zero, List.set_cons_succ])
    | (refine FreeTw.RelSeq.growG_ (c := ?_) rfl (fun _ => rfl) rfl rfl ?_ ?_; rotate_left; (focus (intro x w' hw _; dsimp only; obtain d0 := F w' hw; have hbr := Below.refl w'.heap.size w'; go_simp; (repeat' apply And.intro) <;> first | with_reducible rfl | assumption)); simp only [Act.put, List.setIfInBounds_toArray, List.set_cons_zero, List.set_cons_succ]))
  refine FreeTw.RelSeq.rel_ (NewSl w.heap.size 0 #[] 90) rfl rfl NewSl.stable ?_ ?_
  focus
    intro x w' hw _; dsimp only
    have hba : Below w'.heap.size w' (w'.alloc (.cells #[] 90)) := (Below.refl _ _).alloc (Nat.le_refl _) _
    have hI := hw.trans (hba.mono hw.size)
    have hsz := hw.size
    go_simp
    (repeat' apply And.intro) <;> first | assumption | exact ⟨_, rfl, hsz, Blk.new _ _ _⟩ | decide
  simp only [Act.put, List.setIfInBounds_toArray, List.set_cons_zero, List.set_cons_succ, List.nil_append]
  repeat (first
    | (refine FreeTw.RelSeq.pure_ (c := ?_) rfl rfl ?_ ?_; rotate_left; (focus (intro x w'; dsimp only; go_simp; (first | ((repeat' apply And.intro) <;> first | with_reducible rfl | assumption) | (split <;> (try (focus (exfalso; omega))); (try go_simp); (repeat' apply And.intro) <;> first | with_reducible rfl | assumption)))); simp only [Act.put, List.setIfInBounds_toArray, List.set_cons_zero, List.set_cons_succ])
    | (refine FreeTw.RelSeq.skip_ rfl (fun _ => rfl) ?_; simp only [Act.put, List.setIfInBounds_toArray, List.set_cons_zero, List.set_cons_succ])
    | (refine FreeTw.RelSeq.pureG_ (c := ?_) rfl (fun _ => rfl) rfl ?_ ?_; rotate_left; (focus (intro x w'; dsimp only; go_simp; (repeat' apply And.intro) <;> first | with_reducible rfl | assumption)); simp only [Act.put, List.setIfInBounds_toArray, List.set_cons_zero, List.set_cons_succ])
    | (refine FreeTw.RelSeq.steady_ (c := ?_) rfl rfl rfl ?_ ?_; rotate_left; (focus (intro x w' hw; dsimp only; obtain d0 := hw; go_simp; (repeat' apply And.intro) <;> first | with_reducible rfl | assumption)); simp only [Act.put, List.setIfInBounds_toArray, List.set_cons_zero, List.set_cons_succ])
    | (refine FreeTw.RelSeq.grow_ (c := ?_) rfl rfl rfl ?_ ?_; rotate_left; (focus (intro x w' hw _; dsimp only; obtain d0 := F w' hw; have hbr := Below.refl w'.heap.size w'; go_simp; (repeat' apply And.intro) <;> first | with_reducible rfl | assumption)); simp only [Act.put, List.setIfInBounds_toArray, List.set_cons_zero, List.set_cons_succ])
    | (refine FreeTw.RelSeq.growG_ (c := ?_) rfl (fun _ => rfl) rfl rfl ?_ ?_; rotate_left; (focus (intro x w' hw _; dsimp only; obtain d0 := F w' hw; have hbr := Below.refl w'.heap.size w'; go_simp; (repeat' apply And.intro) <;> first | with_reducible rfl | assumption)); simp only [Act.put, List.setIfInBounds_toArray, List.set_cons_zero, List.set_cons_succ]))
  refine FreeTw.RelSeq.rel_ (fun v u => u.ownsRow w.heap.size 90 3 v (i) ((fs.take i).flatMap rcell)) rfl rfl (fun v u u' h hb => owns_below h hb) ?_ ?_
  focus
    intro x w' hw hf; dsimp only
    obtain ⟨bq, eq, hbq, hBq⟩ := hf _ (.head _) (by kernel_rfl)
    have hrq := hrA.below hw
    refine wp_append_copy (.tmp 5) (.tmp 11) 46 rfl w.heap.size 90 i0 _ 3 48 Try.underlying46 hi hz0 hz1 hz2 rfl (by decide) bq hBq hbq (by simp only [Act.eval]; exact eq) _ _ _ rfl hrq (by unfold maxLen; omega) (by omega) fun v2 w2 h2 h3 => ?_
    exact ⟨rfl, ⟨by first | exact h2 | simpa using h2, fun h => absurd h (by decide)⟩, hw.trans (h3.mono hw.size), h3⟩
  simp only [Act.put, List.setIfInBounds_toArray, List.set_cons_zero, List.set_cons_succ, List.nil_append, List.cons_append]
  repeat (first
    | (refine FreeTw.RelSeq.pure_ (c := ?_) rfl rfl ?_ ?_; rotate_left; (focus (intro x w'; dsimp only; go_simp; (first | ((repeat' apply And.intro) <;> first | with_reducible rfl | assumption) | (split <;> (try (focus (exfalso; omega))); (try go_simp); (repeat' apply And.intro) <;> first | with_reducible rfl | assumption)))); simp only [Act.put, List.setIfInBounds_toArray, List.set_cons_zero, List.set_cons_succ])
    | (refine FreeTw.RelSeq.skip_ rfl (fun _ => rfl) ?_; simp only [Act.put, List.setIfInBounds_toArray, List.set_cons_zero, List.set_cons_succ])
    | (refine FreeTw.RelSeq.pureG_ (c := ?_) rfl (fun _ => rfl) rfl ?_ ?_; rotate_left; (focus (intro x w'; dsimp only; go_simp; (repeat' apply And.intro) <;> first | with_reducible rfl | assumption)); simp only [Act.put, List.setIfInBounds_toArray, List.set_cons_zero, List.set_cons_succ])
    | (refine FreeTw.RelSeq.steady_ (c := ?_) rfl rfl rfl ?_ ?_; rotate_left; (focus (intro x w' hw; dsimp only; obtain d0 := hw; go_simp; (repeat' apply And.intro) <;> first | with_reducible rfl | assumption)); simp only [Act.put, List.setIfInBounds_toArray, List.set_cons_zero, List.set_cons_succ])
    | (refine FreeTw.RelSeq.grow_ (c := ?_) rfl rfl rfl ?_ ?_; rotate_left; (focus (intro x w' hw _; dsimp only; obtain d0 := F w' hw; have hbr := Below.refl w'.heap.size w'; go_simp; (repeat' apply And.intro) <;> first | with_reducible rfl | assumption)); simp only [Act.put, List.setIfInBounds_toArray, List.set_cons_zero, List.set_cons_succ])
    | (refine FreeTw.RelSeq.growG_ (c := ?_) rfl (fun _ => rfl) rfl rfl ?_ ?_; rotate_left; (focus (intro x w' hw _; dsimp only; obtain d0 := F w' hw; have hbr := Below.refl w'.heap.size w'; go_simp; (repeat' apply And.intro) <;> first | with_reducible rfl | assumption)); simp only [Act.put, List.setIfInBounds_toArray, List.set_cons_zero, List.set_cons_succ]))
  refine FreeTw.RelSeq.nil_ fun x w1 hw1 hf _ => ?_
  have hown := hf _ (.tail _ (.head _))
  dsimp only at hown
  have S1 := S0.addRow hw1 hown (Nat.le_refl _)
  have hrB := (rd_of_owns (S1.row 2 rfl)).sufI (m := j) (by rw [← HN.out]; exact hjn)
  rw [flat_drop rcell 3 (fun _ => rfl), ← HN.out] at hrB
  have hgl1 := hw1.size
  clear hf hrA
  refine FreeTw.TailSeq.cons_ rfl ?_
  refine wp_append_rd (.tmp 12) (.tmp 19) 46 rfl 0 90 i0 _ 3 48 Try.underlying46 hi hz0 hz1 hz2 rfl (by decide) _ i _ rfl (S1.row 0 rfl) _ (n - j) _ rfl hrB (rcell_one fun f hf => hsh f (List.drop_subset _ _ hf)) (by unfold maxLen; omega) (by omega) (Nat.zero_le _) fun v4 w4 hown4 hgr4 hv4 => ?_
  have S2 := S1.app 0 rfl hown4 hgr4 hv4
  simp only [List.eraseIdx_cons_zero] at S2
  have x0 := (S2.blk 1 rfl).cell (j := 0) (v := .slice (some ⟨q, o, none⟩) fs.length c) rfl
  have z0 := (S2.blk 1 rfl).frozen 0
  rw [← HN.out] at x0
  obtain ⟨A4, c4, rfl⟩ := owns_slice hown4
  refine ⟨rfl, .inr x0, ?_⟩
  simp only [Act.put, List.setIfInBounds_toArray, List.set_cons_zero, List.set_cons_succ]
  clear hown4 hgr4 hv4 hrB S1 hown
  refine FreeTw.TailSeq.cons_ rfl ?_
  go_simp
  refine FreeTw.TailSeq.nil_ ?_
  have S3 := (S2.put 1 rfl 0 (.slice A4 (i + (n - j)) c4))
  simp only [List.eraseIdx_cons_succ, List.eraseIdx_cons_zero, List.setIfInBounds_toArray, List.set_cons_zero] at S3
  have he : fs.take i ++ fs.drop j = fs.eraseIdx i := by rw [HJ.out, List.eraseIdx_eq_take_drop_succ]
  have hel : i + (n - j) = (fs.eraseIdx i).length := by rw [List.length_eraseIdx, if_pos (by rw [← HN.out]; exact hi0), ← HN.out, HJ.out]; have := HJ.out; omega
  have S4 := (S3.drop 2).close
  simp only [List.eraseIdx_cons_succ, List.eraseIdx_cons_zero] at S4
  rw [← List.flatMap_append, he, hel] at S4
  have HS := Lib.hid S4
  clear S2 S3 S4 F x0 z0
  go_wp2_with fail
  all_goals
    go_end0
    exact ⟨rfl, _, HS.out⟩

set_option maxHeartbeats 8000000 in
theorem refAdd (g : Nat) (lv : Value) (a b : Int) (fs : List FileV) (f : FileV) (w : World) (hP : (chL g lv a b fs).P w) (hlen : fs.length ≤ 1000) (hsh : ∀ f ∈ fs, f.val.oneCell' = true) (hfv : ∃ A n c, f.val = .slice A n c) :
    Calls Try.prog 46 #[.pointer (some ⟨g, 0, none⟩), .agg #[.string f.name, f.val, .int .i64 f.synced]] w fun e w' => e = .returned (.tuple #[]) ∧ ∃ lv', Upd (chL g lv a b fs).fp w [chL g lv' a b (addV fs f)] w' := by
  obtain ⟨i0, hi, hz0, hz1, hz2⟩ := info_parts infoFile
  obtain ⟨Af, nf, cf, hfv⟩ := hfv
  obtain ⟨fn, fv, fb, fy⟩ := f
  simp only at hfv
  subst hfv
  have S0 := Upd.open_ hP
  obtain ⟨A, c, rfl⟩ := owns_slice (S0.row 1 rfl)
  have h3 : fs.length ≤ c ∧ c ≤ maxLen := by
    obtain ⟨_, _, he, _, h2, h3, _⟩ := rd_of_owns (S0.row 1 rfl)
    cases he
    exact ⟨h2, h3⟩
  unfold maxLen at h3
  obtain ⟨n, hn⟩ : ∃ n, n = fs.length := ⟨_, rfl⟩
  rw [← hn] at h3 hlen
  have HN := Lib.hid hn
  clear hn
  dsimp only
  go_enter Try.func46, Try.ntmps46
  go_wp2_with fail
  have S1 := S0.alloc #[.string fn, .slice Af nf cf, .int .i64 fy] 90
  go_loopw [4] (fun i wr => ∃ k, k ≤ n ∧ i = .int .i64 k ∧ (∀ j q, j < k → fs[j]? = some q → nameL q.name < nameL fn) ∧ Upd (chL g (.slice A fs.length c) a b fs).fp w [chBlk w.heap.size #[.string fn, .slice Af nf cf, .int .i64 fy] 90, chDk g (.slice A fs.length c) a b, chFr (.slice A fs.length c) fs] wr) (fun i _ => n - (intOf i).toNat)
  case atStart => exact ⟨0, Nat.zero_le _, rfl, fun j q hj => by omega, S1⟩
  case round =>
    obtain ⟨k, hk, rfl, hlt, S2⟩ := hrel
    have HLT := Lib.hid hlt
    clear hlt S1 hP S0
    have x0 := (S2.blk 1 rfl).cell (j := 0) (v := .slice A fs.length c) rfl
    have y0 := (S2.blk 0 rfl).cell (j := 0) (v := .string fn) rfl
    rw [← HN.out] at x0
    by_cases hkn : k < n
    · have hkn1 : decide ((k : Int) < (n : Int)) = true := by simpa using hkn
      obtain ⟨q, hq⟩ : ∃ q, fs[k]? = some q := ⟨_, List.getElem?_eq_getElem (by rw [← HN.out]; exact hkn)⟩
      obtain ⟨bq, oq, rfl, hat⟩ : ∃ b o, A = some ⟨b, o, none⟩ ∧ RdAt wr b o (fs.flatMap rcell) := by
        obtain ⟨_, _, he, _, _, _, h4⟩ := rd_of_owns (S2.row 2 rfl)
        cases he
        exact h4 (by rw [← HN.out]; omega)
      have q0 := hat.nth0 (Below.refl _ _) (k * 3) (.string q.name) (flat_at rcell 3 (fun _ => rfl) fs k q hq 0 (by omega))
      have l1 := World.block_lt_of_cell? _ _ x0
      have l2 := World.block_lt_of_cell? _ _ y0
      have l3 := World.block_lt_of_cell? _ _ q0
      have F : ∀ w', Below wr.heap.size wr w' → w'.cell? ⟨g, 0, none⟩ = some (.slice (some ⟨bq, oq, none⟩) n c) ∧ w'.cell? ⟨w.heap.size, 0, none⟩ = some (.string fn) ∧ w'.cell? ⟨bq, oq + k * 3, none⟩ = some (.string q.name) := fun w' h => ⟨by rw [h.cell l1]; exact x0, by rw [h.cell l2]; exact y0, by rw [h.cell l3]; exact q0⟩
      by_cases hs : nameL q.name < nameL fn
      · have hs1 : Op.bytesLess q.name.toList fn.toList = true := by rw [lss_name]; exact decide_eq_true hs
        have HS := Lib.hid hs
        have HQ := Lib.hid hq
        clear hq hat l1 l2 l3 q0 hs
        go_wp2_with fail
        refine FreeTw.region_free (fun w' => Below wr.heap.size wr w') (fun _ => True) [] [] [0, 1, 2, 3, 4, 5, 6, 7, 8, 9, 10, 11, 12, 13, 14, 15, 16, 17, 18, 19] (fun _ _ => trivial) (by kernel_rfl) (by kernel_rfl) (by kernel_rfl) ((Below.refl _ _).drew) ?_
        repeat (first
          | (refine FreeTw.RelSeq.pure_ (c := ?_) rfl rfl ?_ ?_; rotate_left; (focus (intro x w'; dsimp only; go_simp; (first | ((repeat' apply And.intro) <;> first | with_reducible rfl | assumption) | (split <;> (try (focus (exfalso; omega))); (try go_simp); (repeat' apply And.intro) <;> first | with_reducible rfl | assumption)))); simp only [Act.put, List.setIfInBounds_toArray, List.set_cons_zero, List.set_cons_succ])
          | (refine FreeTw.RelSeq.skip_ rfl (fun _ => rfl) ?_; simp only [Act.put, List.setIfInBounds_toArray, List.set_cons_zero, List.set_cons_succ])
          | (refine FreeTw.RelSeq.pureG_ (c := ?_) rfl (fun _ => rfl) rfl ?_ ?_; rotate_left; (focus (intro x w'; dsimp only; go_simp; (repeat' apply And.intro) <;> first | with_reducible rfl | assumption)); simp only [Act.put, List.setIfInBounds_toArray, List.set_cons_zero, List.set_cons_succ])
          | (refine FreeTw.RelSeq.steady_ (c := ?_) rfl rfl rfl ?_ ?_; rotate_left; (focus (intro x w' hw; dsimp only; obtain _ := hw; go_simp; (repeat' apply And.intro) <;> first | with_reducible rfl | assumption)); simp only [Act.put, List.setIfInBounds_toArray, List.set_cons_zero, List.set_cons_succ])
          | (refine FreeTw.RelSeq.grow_ (c := ?_) rfl rfl rfl ?_ ?_; rotate_left; (focus (intro x w' hw _; dsimp only; obtain ⟨d0, d1, d2⟩ := F w' hw; have hbr := Below.refl w'.heap.size w'; go_simp; (repeat' apply And.intro) <;> first | with_reducible rfl | assumption)); simp only [Act.put, List.setIfInBounds_toArray, List.set_cons_zero, List.set_cons_succ])
          | (refine FreeTw.RelSeq.growG_ (c := ?_) rfl (fun _ => rfl) rfl rfl ?_ ?_; rotate_left; (focus (intro x w' hw _; dsimp only; obtain ⟨d0, d1, d2⟩ := F w' hw; have hbr := Below.refl w'.heap.size w'; go_simp; (repeat' apply And.intro) <;> first | with_reducible rfl | assumption)); simp only [Act.put, List.setIfInBounds_toArray, List.set_cons_zero, List.set_cons_succ]))
        refine FreeTw.RelSeq.nil_ fun x w3 hw3 _ _ => FreeTw.TailSeq.nil_ ?_
        have S3 := S2.grow hw3
        clear S2 x0 y0 F
        go_wp2_with fail
        go_roundw
        case rel => exact ⟨k + 1, by omega, by go_num, fun j q' hj hq' => by
          by_cases hjk : j = k
          · subst hjk
            rw [HQ.out] at hq'
            cases hq'
            exact HS.out
          · exact HLT.out j q' (by omega) hq', S3⟩
        case measure => simp [intOf]; omega
      · have hs1 : Op.bytesLess q.name.toList fn.toList = false := by rw [lss_name]; exact decide_eq_false hs
        have HS := Lib.hid hs
        have HQ := Lib.hid hq
        clear hq hat l1 l2 l3 q0 hs
        go_wp2_with fail
        refine FreeTw.region_free (fun w' => Below wr.heap.size wr w') (fun _ => True) [] [] [0, 1, 2, 3, 4, 5, 6, 7, 8, 9, 10, 11, 12, 13, 14, 15, 16, 17, 18, 19] (fun _ _ => trivial) (by kernel_rfl) (by kernel_rfl) (by kernel_rfl) ((Below.refl _ _).drew) ?_
        repeat (first
          | (refine FreeTw.RelSeq.pure_ (c := ?_) rfl rfl ?_ ?_; rotate_left; (focus (intro x w'; dsimp only; go_simp; (first | ((repeat' apply And.intro) <;> first | with_reducible rfl | assumption) | (split <;> (try (focus (exfalso; omega))); (try go_simp); (repeat' apply And.intro) <;> first | with_reducible rfl | assumption)))); simp only [Act.put, List.setIfInBounds_toArray, List.set_cons_zero, List.set_cons_succ])
          | (refine FreeTw.RelSeq.skip_ rfl (fun _ => rfl) ?_; simp only [Act.put, List.setIfInBounds_toArray, List.set_cons_zero, List.set_cons_succ])
          | (refine FreeTw.RelSeq.pureG_ (c := ?_) rfl (fun _ => rfl) rfl ?_ ?_; rotate_left; (focus (intro x w'; dsimp only; go_simp; (repeat' apply And.intro) <;> first | with_reducible rfl | assumption)); simp only [Act.put, List.setIfInBounds_toArray, List.set_cons_zero, List.set_cons_succ])
          | (refine FreeTw.RelSeq.steady_ (c := ?_) rfl rfl rfl ?_ ?_; rotate_left; (focus (intro x w' hw; dsimp only; obtain _ := hw; go_simp; (repeat' apply And.intro) <;> first | with_reducible rfl | assumption)); simp only [Act.put, List.setIfInBounds_toArray, List.set_cons_zero, List.set_cons_succ])
          | (refine FreeTw.RelSeq.grow_ (c := ?_) rfl rfl rfl ?_ ?_; rotate_left; (focus (intro x w' hw _; dsimp only; obtain ⟨d0, d1, d2⟩ := F w' hw; have hbr := Below.refl w'.heap.size w'; go_simp; (repeat' apply And.intro) <;> first | with_reducible rfl | assumption)); simp only [Act.put, List.setIfInBounds_toArray, List.set_cons_zero, List.set_cons_succ])
          | (refine FreeTw.RelSeq.growG_ (c := ?_) rfl (fun _ => rfl) rfl rfl ?_ ?_; rotate_left; (focus (intro x w' hw _; dsimp only; obtain ⟨d0, d1, d2⟩ := F w' hw; have hbr := Below.refl w'.heap.size w'; go_simp; (repeat' apply And.intro) <;> first | with_reducible rfl | assumption)); simp only [Act.put, List.setIfInBounds_toArray, List.set_cons_zero, List.set_cons_succ]))
        refine FreeTw.RelSeq.nil_ fun x w3 hw3 _ _ => FreeTw.TailSeq.nil_ ?_
        have S3 := S2.grow hw3
        have hadd : addV fs ⟨fn, .slice Af nf cf, fb, fy⟩ = fs.take k ++ ⟨fn, .slice Af nf cf, fb, fy⟩ :: fs.drop k := addV_split (by rw [← HN.out]; exact hk) HLT.out (fun f hf => by rw [HQ.out] at hf; cases hf; exact HS.out)
        have HADD := Lib.hid hadd
        clear S2 x0 y0 F hadd
        go_wp2_with fail
        have x0 := (S3.blk 1 rfl).cell (j := 0) (v := .slice (some ⟨bq, oq, none⟩) fs.length c) rfl
        rw [← HN.out] at x0
        have yb := S3.blk 0 rfl
        have l1 := (S3.blk 1 rfl).lt
        have F : ∀ w', Below w3.heap.size w3 w' → w'.cell? ⟨g, 0, none⟩ = some (.slice (some ⟨bq, oq, none⟩) n c) ∧ w'.cell? ⟨w.heap.size, 0, none⟩ = some (.string fn) ∧ w'.cell? ⟨w.heap.size, 1, none⟩ = some (.slice Af nf cf) ∧ w'.cell? ⟨w.heap.size, 2, none⟩ = some (.int .i64 fy) := fun w' h =>
          have q := yb.below h yb.lt
          ⟨by rw [h.cell l1]; exact x0, q.cell rfl, q.cell rfl, q.cell rfl⟩
        have hrA : Rd w3 3 (.slice (some ⟨bq, oq, none⟩) k c) k ((fs.take k).flatMap rcell) := by
          have h := rd_of_owns (S3.row 2 rfl)
          rw [← HN.out] at h
          have := h.preN (m := k) (by omega)
          rwa [flat_take rcell 3 (fun _ => rfl)] at this
        clear yb l1
        refine FreeTw.region_free (fun w' => Below w3.heap.size w3 w') (fun w' => w'.cell? ⟨g, 0, none⟩ = some (.slice (some ⟨bq, oq, none⟩) n c)) [1, 8, 10, 2000013, 2000015, 2000019] [11, 18, 21] [0, 1, 2, 3, 4, 5, 6, 7, 8, 9, 10, 12, 13, 14, 15, 16, 17, 19, 20] (fun w' h => (F w' h).1) (by kernel_rfl) (by kernel_rfl) (by kernel_rfl) ((Below.refl _ _).drew) ?_
        repeat (first
          | (refine FreeTw.RelSeq.pure_ (c := ?_) rfl rfl ?_ ?_; rotate_left; (focus (intro x w'; dsimp only; go_simp; (first | ((repeat' apply And.intro) <;> first | with_reducible rfl | assumption) | (split <;> (try (focus (exfalso; omega))); (try go_simp); (repeat' apply And.intro) <;> first | with_reducible rfl | assumption)))); simp only [Act.put, List.setIfInBounds_toArray, List.set_cons_zero, List.set_cons_succ])
          | (refine FreeTw.RelSeq.skip_ rfl (fun _ => rfl) ?_; simp only [Act.put, List.setIfInBounds_toArray, List.set_cons_zero, List.set_cons_succ])
          | (refine FreeTw.RelSeq.pureG_ (c := ?_) rfl (fun _ => rfl) rfl ?_ ?_; rotate_left; (focus (intro x w'; dsimp only; go_simp; (repeat' apply And.intro) <;> first | with_reducible rfl | assumption)); simp only [Act.put, List.setIfInBounds_toArray, List.set_cons_zero, List.set_cons_succ])
          | (refine FreeTw.RelSeq.steady_ (c := ?_) rfl rfl rfl ?_ ?_; rotate_left; (focus (intro x w' hw; dsimp only; obtain d0 := hw; go_simp; (repeat' apply And.intro) <;> first | with_reducible rfl | assumption)); simp only [Act.put, List.setIfInBounds_toArray, List.set_cons_zero, List.set_cons_succ])
          | (refine FreeTw.RelSeq.grow_ (c := ?_) rfl rfl rfl ?_ ?_; rotate_left; (focus (intro x w' hw _; dsimp only; obtain ⟨d0, y0, y1, y2⟩ := F w' hw; have hbr := Below.refl w'.heap.size w'; go_simp; (repeat' apply And.intro) <;> first | with_reducible rfl | assumption)); simp only [Act.put, List.setIfInBounds_toArray, List.set_cons_zero, List.set_cons_succ])
          | (refine FreeTw.RelSeq.growG_ (c := ?_) rfl (fun _ => rfl) rfl rfl ?_ ?_; rotate_left; (focus (intro x w' hw _; dsimp only; obtain ⟨d0, y0, y1, y2⟩ := F w' hw; have hbr := Below.refl w'.heap.size w'; go_simp; (repeat' apply And.intro) <;> first | with_reducible rfl | assumption)); simp only [Act.put, List.setIfInBounds_toArray, List.set_cons_zero, List.set_cons_succ]))
        refine FreeTw.RelSeq.rel_ (NewSl w3.heap.size 0 #[] 90) rfl rfl NewSl.stable ?_ ?_
        focus
          intro x w' hw _; dsimp only
          have hba : Below w'.heap.size w' (w'.alloc (.cells #[] 90)) := (Below.refl _ _).alloc (Nat.le_refl _) _
          have hI := hw.trans (hba.mono hw.size)
          have hsz := hw.size
          go_simp
          (repeat' apply And.intro) <;> first | assumption | exact ⟨_, rfl, hsz, Blk.new _ _ _⟩ | decide
        simp only [Act.put, List.setIfInBounds_toArray, List.set_cons_zero, List.set_cons_succ, List.nil_append]
        repeat (first
          | (refine FreeTw.RelSeq.pure_ (c := ?_) rfl rfl ?_ ?_; rotate_left; (focus (intro x w'; dsimp only; go_simp; (first | ((repeat' apply And.intro) <;> first | with_reducible rfl | assumption) | (split <;> (try (focus (exfalso; omega))); (try go_simp); (repeat' apply And.intro) <;> first | with_reducible rfl | assumption)))); simp only [Act.put, List.setIfInBounds_toArray, List.set_cons_zero, List.set_cons_succ])
          | (refine FreeTw.RelSeq.skip_ rfl (fun _ => rfl) ?_; simp only [Act.put, List.setIfInBounds_toArray, List.set_cons_zero, List.set_cons_succ])
          | (refine FreeTw.RelSeq.pureG_ (c := ?_) rfl (fun _ => rfl) rfl ?_ ?_; rotate_left; (focus (intro x w'; dsimp only; go_simp; (repeat' apply And.intro) <;> first | with_reducible rfl | assumption)); simp only [Act.put, List.setIfInBounds_toArray, List.set_cons_zero, List.set_cons_succ])
          | (refine FreeTw.RelSeq.steady_ (c := ?_) rfl rfl rfl ?_ ?_; rotate_left; (focus (intro x w' hw; dsimp only; obtain d0 := hw; go_simp; (repeat' apply And.intro) <;> first | with_reducible rfl | assumption)); simp only [Act.put, List.setIfInBounds_toArray, List.set_cons_zero, List.set_cons_succ])
          | (refine FreeTw.RelSeq.grow_ (c := ?_) rfl rfl rfl ?_ ?_; rotate_left; (focus (intro x w' hw _; dsimp only; obtain ⟨d0, y0, y1, y2⟩ := F w' hw; have hbr := Below.refl w'.heap.size w'; go_simp; (repeat' apply And.intro) <;> first | with_reducible rfl | assumption)); simp only [Act.put, List.setIfInBounds_toArray, List.set_cons_zero, List.set_cons_succ])
          | (refine FreeTw.RelSeq.growG_ (c := ?_) rfl (fun _ => rfl) rfl rfl ?_ ?_; rotate_left; (focus (intro x w' hw _; dsimp only; obtain ⟨d0, y0, y1, y2⟩ := F w' hw; have hbr := Below.refl w'.heap.size w'; go_simp; (repeat' apply And.intro) <;> first | with_reducible rfl | assumption)); simp only [Act.put, List.setIfInBounds_toArray, List.set_cons_zero, List.set_cons_succ]))
        refine FreeTw.RelSeq.rel_ (fun v u => u.ownsRow w3.heap.size 90 3 v (k) ((fs.take k).flatMap rcell)) rfl rfl (fun v u u' h hb => owns_below h hb) ?_ ?_
        focus
          intro x w' hw hf; dsimp only
          obtain ⟨bq, eq, hbq, hBq⟩ := hf _ (.head _) (by kernel_rfl)
          have hrq := hrA.below hw
          refine wp_append_copy (.tmp 28) (.tmp 34) 46 rfl w3.heap.size 90 i0 _ 3 48 Try.underlying46 hi hz0 hz1 hz2 rfl (by decide) bq hBq hbq (by simp only [Act.eval]; exact eq) _ _ _ rfl hrq (by unfold maxLen; omega) (by omega) fun v2 w2 h2 h3 => ?_
          exact ⟨rfl, ⟨by first | exact h2 | simpa using h2, fun h => absurd h (by decide)⟩, hw.trans (h3.mono hw.size), h3⟩
        simp only [Act.put, List.setIfInBounds_toArray, List.set_cons_zero, List.set_cons_succ, List.nil_append, List.cons_append]
        repeat (first
          | (refine FreeTw.RelSeq.pure_ (c := ?_) rfl rfl ?_ ?_; rotate_left; (focus (intro x w'; dsimp only; go_simp; (first | ((repeat' apply And.intro) <;> first | with_reducible rfl | assumption) | (split <;> (try (focus (exfalso; omega))); (try go_simp); (repeat' apply And.intro) <;> first | with_reducible rfl | assumption)))); simp only [Act.put, List.setIfInBounds_toArray, List.set_cons_zero, List.set_cons_succ])
          | (refine FreeTw.RelSeq.skip_ rfl (fun _ => rfl) ?_; simp only [Act.put, List.setIfInBounds_toArray, List.set_cons_zero, List.set_cons_succ])
          | (refine FreeTw.RelSeq.pureG_ (c := ?_) rfl (fun _ => rfl) rfl ?_ ?_; rotate_left; (focus (intro x w'; dsimp only; go_simp; (repeat' apply And.intro) <;> first | with_reducible rfl | assumption)); simp only [Act.put, List.setIfInBounds_toArray, List.set_cons_zero, List.set_cons_succ])
          | (refine FreeTw.RelSeq.steady_ (c := ?_) rfl rfl rfl ?_ ?_; rotate_left; (focus (intro x w' hw; dsimp only; obtain d0 := hw; go_simp; (repeat' apply And.intro) <;> first | with_reducible rfl | assumption)); simp only [Act.put, List.setIfInBounds_toArray, List.set_cons_zero, List.set_cons_succ])
          | (refine FreeTw.RelSeq.grow_ (c := ?_) rfl rfl rfl ?_ ?_; rotate_left; (focus (intro x w' hw _; dsimp only; obtain ⟨d0, y0, y1, y2⟩ := F w' hw; have hbr := Below.refl w'.heap.size w'; go_simp; (repeat' apply And.intro) <;> first | with_reducible rfl | assumption)); simp only [Act.put, List.setIfInBounds_toArray, List.set_cons_zero, List.set_cons_succ])
          | (refine FreeTw.RelSeq.growG_ (c := ?_) rfl (fun _ => rfl) rfl rfl ?_ ?_; rotate_left; (focus (intro x w' hw _; dsimp only; obtain ⟨d0, y0, y1, y2⟩ := F w' hw; have hbr := Below.refl w'.heap.size w'; go_simp; (repeat' apply And.intro) <;> first | with_reducible rfl | assumption)); simp only [Act.put, List.setIfInBounds_toArray, List.set_cons_zero, List.set_cons_succ]))
        refine FreeTw.RelSeq.rel_ (NewSl w3.heap.size 1 #[.string fn, .slice Af nf cf, .int .i64 fy] 90) rfl rfl NewSl.stable ?_ ?_
        focus
          intro x w' hw _; dsimp only
          have hba : Below w'.heap.size w' (w'.alloc (.cells #[.string fn, .slice Af nf cf, .int .i64 fy] 90)) := (Below.refl _ _).alloc (Nat.le_refl _) _
          have hI := hw.trans (hba.mono hw.size)
          have hsz := hw.size
          go_simp
          (repeat' apply And.intro) <;> first | assumption | exact ⟨_, rfl, hsz, Blk.new _ _ _⟩ | decide
        simp only [Act.put, List.setIfInBounds_toArray, List.set_cons_zero, List.set_cons_succ, List.nil_append, List.cons_append]
        repeat (first
          | (refine FreeTw.RelSeq.pure_ (c := ?_) rfl rfl ?_ ?_; rotate_left; (focus (intro x w'; dsimp only; go_simp; (first | ((repeat' apply And.intro) <;> first | with_reducible rfl | assumption) | (split <;> (try (focus (exfalso; omega))); (try go_simp); (repeat' apply And.intro) <;> first | with_reducible rfl | assumption)))); simp only [Act.put, List.setIfInBounds_toArray, List.set_cons_zero, List.set_cons_succ])
          | (refine FreeTw.RelSeq.skip_ rfl (fun _ => rfl) ?_; simp only [Act.put, List.setIfInBounds_toArray, List.set_cons_zero, List.set_cons_succ])
          | (refine FreeTw.RelSeq.pureG_ (c := ?_) rfl (fun _ => rfl) rfl ?_ ?_; rotate_left; (focus (intro x w'; dsimp only; go_simp; (repeat' apply And.intro) <;> first | with_reducible rfl | assumption)); simp only [Act.put, List.setIfInBounds_toArray, List.set_cons_zero, List.set_cons_succ])
          | (refine FreeTw.RelSeq.steady_ (c := ?_) rfl rfl rfl ?_ ?_; rotate_left; (focus (intro x w' hw; dsimp only; obtain d0 := hw; go_simp; (repeat' apply And.intro) <;> first | with_reducible rfl | assumption)); simp only [Act.put, List.setIfInBounds_toArray, List.set_cons_zero, List.set_cons_succ])
          | (refine FreeTw.RelSeq.grow_ (c := ?_) rfl rfl rfl ?_ ?_; rotate_left; (focus (intro x w' hw _; dsimp only; obtain ⟨d0, y0, y1, y2⟩ := F w' hw; have hbr := Below.refl w'.heap.size w'; go_simp; (repeat' apply And.intro) <;> first | with_reducible rfl | assumption)); simp only [Act.put, List.setIfInBounds_toArray, List.set_cons_zero, List.set_cons_succ])
          | (refine FreeTw.RelSeq.growG_ (c := ?_) rfl (fun _ => rfl) rfl rfl ?_ ?_; rotate_left; (focus (intro x w' hw _; dsimp only; obtain ⟨d0, y0, y1, y2⟩ := F w' hw; have hbr := Below.refl w'.heap.size w'; go_simp; (repeat' apply And.intro) <;> first | with_reducible rfl | assumption)); simp only [Act.put, List.setIfInBounds_toArray, List.set_cons_zero, List.set_cons_succ]))
        refine FreeTw.RelSeq.nil_ fun x w4 hw4 hf _ => ?_
        have hown := hf _ (.tail _ (.head _))
        dsimp only at hown
        obtain ⟨bn, en, hbn, hBn⟩ := hf _ (.tail _ (.tail _ (.head _)))
        have S4 := S3.addRow hw4 hown (Nat.le_refl _)
        clear hf hrA F x0
        refine FreeTw.TailSeq.cons_ rfl ?_
        refine wp_append_rd (.tmp 35) (.tmp 37) 46 rfl 0 90 i0 _ 3 48 Try.underlying46 hi hz0 hz1 hz2 rfl (by decide) _ k _ rfl (S4.row 0 rfl) _ 1 _ rfl (by simp only [Act.eval]; exact en ▸ rd_one hBn (n := 3) rfl) (by intro u hu; simp at hu; rcases hu with rfl | rfl | rfl <;> rfl) (by unfold maxLen; omega) (by omega) (Nat.zero_le _) fun v5 w5 hown5 hgr5 hv5 => ?_
        have S5 := S4.app 0 rfl hown5 hgr5 hv5
        simp only [List.eraseIdx_cons_zero] at S5
        have x0 := (S5.blk 2 rfl).cell (j := 0) (v := .slice (some ⟨bq, oq, none⟩) fs.length c) rfl
        rw [← HN.out] at x0
        obtain ⟨A5, c5, rfl⟩ := owns_slice hown5
        have hrB := (rd_of_owns (S5.row 3 rfl)).sufI (m := k) (by rw [← HN.out]; omega)
        rw [flat_drop rcell 3 (fun _ => rfl), ← HN.out] at hrB
        refine ⟨rfl, .inr x0, ?_⟩
        simp only [Act.put, List.setIfInBounds_toArray, List.set_cons_zero, List.set_cons_succ]
        clear hown5 hgr5 hv5 S4 hown x0
        refine FreeTw.TailSeq.cons_ rfl ?_
        refine wp_append_rd (.tmp 38) (.tmp 44) 46 rfl 0 90 i0 _ 3 48 Try.underlying46 hi hz0 hz1 hz2 rfl (by decide) _ (k + 1) _ rfl (S5.row 0 rfl) _ (n - k) _ rfl hrB (rcell_one fun f hf => hsh f (List.drop_subset _ _ hf)) (by unfold maxLen; omega) (by omega) (Nat.zero_le _) fun v6 w6 hown6 hgr6 hv6 => ?_
        have S6 := S5.app 0 rfl hown6 hgr6 hv6
        simp only [List.eraseIdx_cons_zero] at S6
        have x0 := (S6.blk 2 rfl).cell (j := 0) (v := .slice (some ⟨bq, oq, none⟩) fs.length c) rfl
        have z0 := (S6.blk 2 rfl).frozen 0
        rw [← HN.out] at x0
        obtain ⟨A6, c6, rfl⟩ := owns_slice hown6
        refine ⟨rfl, .inr x0, ?_⟩
        simp only [Act.put, List.setIfInBounds_toArray, List.set_cons_zero, List.set_cons_succ]
        clear hown6 hgr6 hv6 S5 hrB
        refine FreeTw.TailSeq.cons_ rfl ?_
        go_simp
        refine FreeTw.TailSeq.nil_ ?_
        have S7 := (S6.put 2 rfl 0 (.slice A6 (k + 1 + (n - k)) c6))
        simp only [List.eraseIdx_cons_succ, List.eraseIdx_cons_zero, List.setIfInBounds_toArray, List.set_cons_zero] at S7
        have S8 := (S7.pick [0, 1] (by decide))
        simp only [List.filterMap_cons, List.filterMap_nil, List.getElem?_cons_succ, List.getElem?_cons_zero] at S8
        have hel : k + 1 + (n - k) = (addV fs ⟨fn, .slice Af nf cf, fb, fy⟩).length := by rw [HADD.out, List.length_append, List.length_cons, List.length_take, List.length_drop, ← HN.out]; omega
        have S9 : Upd (chL g (.slice (some ⟨bq, oq, none⟩) fs.length c) a b fs).fp w [chL g (.slice A6 (addV fs ⟨fn, .slice Af nf cf, fb, fy⟩).length c6) a b (addV fs ⟨fn, .slice Af nf cf, fb, fy⟩)] (w6.setCell ⟨g, 0, none⟩ (.slice A6 (k + 1 + (n - k)) c6)) := by
          refine Upd.close ?_
          rw [← hel]
          have e2 : (fs.take k).flatMap rcell ++ [.string fn, .slice Af nf cf, .int .i64 fy] ++ (fs.drop k).flatMap rcell = (addV fs ⟨fn, .slice Af nf cf, fb, fy⟩).flatMap rcell := by rw [HADD.out, List.flatMap_append, List.flatMap_cons, List.append_assoc]; rfl
          unfold chFr
          rw [← e2, ← hel]
          exact S8
        have HS9 := Lib.hid S9
        clear S6 S7 S8 S9 x0 z0 hel
        go_wp2_with fail
        all_goals
          go_end0
          exact ⟨rfl, _, HS9.out⟩
    · obtain rfl : k = n := by omega
      have hkk : decide ((k : Int) < (k : Int)) = false := by simp
      have hadd : addV fs ⟨fn, .slice Af nf cf, fb, fy⟩ = fs.take k ++ ⟨fn, .slice Af nf cf, fb, fy⟩ :: fs.drop k := addV_split (by rw [← HN.out]; exact Nat.le_refl _) HLT.out (fun f hf => by rw [List.getElem?_eq_none (by rw [← HN.out]; exact Nat.le_refl _)] at hf; cases hf)
      have HADD := Lib.hid hadd
      have l1 := World.block_lt_of_cell? _ _ x0
      have F : ∀ w', Below wr.heap.size wr w' → w'.cell? ⟨g, 0, none⟩ = some (.slice A k c) := fun w' h => by rw [h.cell l1]; exact x0
      clear hadd l1
      go_wp2_with fail
      refine FreeTw.region_free (fun w' => Below wr.heap.size wr w') (fun _ => True) [] [] [0, 1, 2, 3, 4, 5, 6, 7, 8, 9, 10, 11, 12, 13, 14, 15, 16, 17, 18, 19] (fun _ _ => trivial) (by kernel_rfl) (by kernel_rfl) (by kernel_rfl) ((Below.refl _ _).drew) ?_
      repeat (first
        | (refine FreeTw.RelSeq.pure_ (c := ?_) rfl rfl ?_ ?_; rotate_left; (focus (intro x w'; dsimp only; go_simp; (first | ((repeat' apply And.intro) <;> first | with_reducible rfl | assumption) | (split <;> (try (focus (exfalso; omega))); (try go_simp); (repeat' apply And.intro) <;> first | with_reducible rfl | assumption)))); simp only [Act.put, List.setIfInBounds_toArray, List.set_cons_zero, List.set_cons_succ])
        | (refine FreeTw.RelSeq.skip_ rfl (fun _ => rfl) ?_; simp only [Act.put, List.setIfInBounds_toArray, List.set_cons_zero, List.set_cons_succ])
        | (refine FreeTw.RelSeq.pureG_ (c := ?_) rfl (fun _ => rfl) rfl ?_ ?_; rotate_left; (focus (intro x w'; dsimp only; go_simp; (repeat' apply And.intro) <;> first | with_reducible rfl | assumption)); simp only [Act.put, List.setIfInBounds_toArray, List.set_cons_zero, List.set_cons_succ])
        | (refine FreeTw.RelSeq.steady_ (c := ?_) rfl rfl rfl ?_ ?_; rotate_left; (focus (intro x w' hw; dsimp only; obtain _ := hw; go_simp; (repeat' apply And.intro) <;> first | with_reducible rfl | assumption)); simp only [Act.put, List.setIfInBounds_toArray, List.set_cons_zero, List.set_cons_succ])
        | (refine FreeTw.RelSeq.grow_ (c := ?_) rfl rfl rfl ?_ ?_; rotate_left; (focus (intro x w' hw _; dsimp only; obtain d0 := F w' hw; have hbr := Below.refl w'.heap.size w'; go_simp; (repeat' apply And.intro) <;> first | with_reducible rfl | assumption)); simp only [Act.put, List.setIfInBounds_toArray, List.set_cons_zero, List.set_cons_succ])
        | (refine FreeTw.RelSeq.growG_ (c := ?_) rfl (fun _ => rfl) rfl rfl ?_ ?_; rotate_left; (focus (intro x w' hw _; dsimp only; obtain d0 := F w' hw; have hbr := Below.refl w'.heap.size w'; go_simp; (repeat' apply And.intro) <;> first | with_reducible rfl | assumption)); simp only [Act.put, List.setIfInBounds_toArray, List.set_cons_zero, List.set_cons_succ]))
      refine FreeTw.RelSeq.nil_ fun x w3 hw3 _ _ => FreeTw.TailSeq.nil_ ?_
      have S3 := S2.grow hw3
      clear S2 x0 y0 F
      go_wp2_with fail
      cases A with
      | none =>
        obtain ⟨hk0, hc0⟩ : k = 0 ∧ c = 0 := by
          rcases (S3.row 2 rfl).2 with ⟨he, h0⟩ | ⟨g', cap, cur, he, _⟩
          · injection he with _ _ he2; exact ⟨by rw [HN.out]; exact h0, he2⟩
          · cases he
        subst hk0 hc0
        have x0 := (S3.blk 1 rfl).cell (j := 0) (v := .slice none fs.length 0) rfl
        rw [← HN.out] at x0
        have yb := S3.blk 0 rfl
        have l1 := (S3.blk 1 rfl).lt
        have F : ∀ w', Below w3.heap.size w3 w' → w'.cell? ⟨g, 0, none⟩ = some (.slice none 0 0) ∧ w'.cell? ⟨w.heap.size, 0, none⟩ = some (.string fn) ∧ w'.cell? ⟨w.heap.size, 1, none⟩ = some (.slice Af nf cf) ∧ w'.cell? ⟨w.heap.size, 2, none⟩ = some (.int .i64 fy) := fun w' h =>
          have q := yb.below h yb.lt
          ⟨by rw [h.cell l1]; exact x0, q.cell rfl, q.cell rfl, q.cell rfl⟩
        have hrA : Rd w3 3 (.slice none 0 0) 0 ((fs.take 0).flatMap rcell) := by
          have h := rd_of_owns (S3.row 2 rfl)
          rw [← HN.out] at h
          have := h.preN (m := 0) (by omega)
          rwa [flat_take rcell 3 (fun _ => rfl)] at this
        clear yb l1
        refine FreeTw.region_free (fun w' => Below w3.heap.size w3 w') (fun w' => w'.cell? ⟨g, 0, none⟩ = some (.slice none 0 0)) [1, 8, 10, 2000013, 2000015, 2000019] [11, 18, 21] [0, 1, 2, 3, 4, 5, 6, 7, 8, 9, 10, 12, 13, 14, 15, 16, 17, 19, 20] (fun w' h => (F w' h).1) (by kernel_rfl) (by kernel_rfl) (by kernel_rfl) ((Below.refl _ _).drew) ?_
        repeat (first
          | (refine FreeTw.RelSeq.pure_ (c := ?_) rfl rfl ?_ ?_; rotate_left; (focus (intro x w'; dsimp only; go_simp; (first | ((repeat' apply And.intro) <;> first | with_reducible rfl | assumption) | (split <;> (try (focus (exfalso; omega))); (try go_simp); (repeat' apply And.intro) <;> first | with_reducible rfl | assumption)))); simp only [Act.put, List.setIfInBounds_toArray, List.set_cons_zero, List.set_cons_succ])
          | (refine FreeTw.RelSeq.skip_ rfl (fun _ => rfl) ?_; simp only [Act.put, List.setIfInBounds_toArray, List.set_cons_zero, List.set_cons_succ])
          | (refine FreeTw.RelSeq.pureG_ (c := ?_) rfl (fun _ => rfl) rfl ?_ ?_; rotate_left; (focus (intro x w'; dsimp only; go_simp; (repeat' apply And.intro) <;> first | with_reducible rfl | assumption)); simp only [Act.put, List.setIfInBounds_toArray, List.set_cons_zero, List.set_cons_succ])
          | (refine FreeTw.RelSeq.steady_ (c := ?_) rfl rfl rfl ?_ ?_; rotate_left; (focus (intro x w' hw; dsimp only; obtain d0 := hw; go_simp; (repeat' apply And.intro) <;> first | with_reducible rfl | assumption)); simp only [Act.put, List.setIfInBounds_toArray, List.set_cons_zero, List.set_cons_succ])
          | (refine FreeTw.RelSeq.grow_ (c := ?_) rfl rfl rfl ?_ ?_; rotate_left; (focus (intro x w' hw _; dsimp only; obtain ⟨d0, y0, y1, y2⟩ := F w' hw; have hbr := Below.refl w'.heap.size w'; go_simp; (repeat' apply And.intro) <;> first | with_reducible rfl | assumption)); simp only [Act.put, List.setIfInBounds_toArray, List.set_cons_zero, List.set_cons_succ])
          | (refine FreeTw.RelSeq.growG_ (c := ?_) rfl (fun _ => rfl) rfl rfl ?_ ?_; rotate_left; (focus (intro x w' hw _; dsimp only; obtain ⟨d0, y0, y1, y2⟩ := F w' hw; have hbr := Below.refl w'.heap.size w'; go_simp; (repeat' apply And.intro) <;> first | with_reducible rfl | assumption)); simp only [Act.put, List.setIfInBounds_toArray, List.set_cons_zero, List.set_cons_succ]))
        refine FreeTw.RelSeq.rel_ (NewSl w3.heap.size 0 #[] 90) rfl rfl NewSl.stable ?_ ?_
        focus
          intro x w' hw _; dsimp only
          have hba : Below w'.heap.size w' (w'.alloc (.cells #[] 90)) := (Below.refl _ _).alloc (Nat.le_refl _) _
          have hI := hw.trans (hba.mono hw.size)
          have hsz := hw.size
          go_simp
          (repeat' apply And.intro) <;> first | assumption | exact ⟨_, rfl, hsz, Blk.new _ _ _⟩ | decide
        simp only [Act.put, List.setIfInBounds_toArray, List.set_cons_zero, List.set_cons_succ, List.nil_append]
        repeat (first
          | (refine FreeTw.RelSeq.pure_ (c := ?_) rfl rfl ?_ ?_; rotate_left; (focus (intro x w'; dsimp only; go_simp; (first | ((repeat' apply And.intro) <;> first | with_reducible rfl | assumption) | (split <;> (try (focus (exfalso; omega))); (try go_simp); (repeat' apply And.intro) <;> first | with_reducible rfl | assumption)))); simp only [Act.put, List.setIfInBounds_toArray, List.set_cons_zero, List.set_cons_succ])
          | (refine FreeTw.RelSeq.skip_ rfl (fun _ => rfl) ?_; simp only [Act.put, List.setIfInBounds_toArray, List.set_cons_zero, List.set_cons_succ])
          | (refine FreeTw.RelSeq.pureG_ (c := ?_) rfl (fun _ => rfl) rfl ?_ ?_; rotate_left; (focus (intro x w'; dsimp only; go_simp; (repeat' apply And.intro) <;> first | with_reducible rfl | assumption)); simp only [Act.put, List.setIfInBounds_toArray, List.set_cons_zero, List.set_cons_succ])
          | (refine FreeTw.RelSeq.steady_ (c := ?_) rfl rfl rfl ?_ ?_; rotate_left; (focus (intro x w' hw; dsimp only; obtain d0 := hw; go_simp; (repeat' apply And.intro) <;> first | with_reducible rfl | assumption)); simp only [Act.put, List.setIfInBounds_toArray, List.set_cons_zero, List.set_cons_succ])
          | (refine FreeTw.RelSeq.grow_ (c := ?_) rfl rfl rfl ?_ ?_; rotate_left; (focus (intro x w' hw _; dsimp only; obtain ⟨d0, y0, y1, y2⟩ := F w' hw; have hbr := Below.refl w'.heap.size w'; go_simp; (repeat' apply And.intro) <;> first | with_reducible rfl | assumption)); simp only [Act.put, List.setIfInBounds_toArray, List.set_cons_zero, List.set_cons_succ])
          | (refine FreeTw.RelSeq.growG_ (c := ?_) rfl (fun _ => rfl) rfl rfl ?_ ?_; rotate_left; (focus (intro x w' hw _; dsimp only; obtain ⟨d0, y0, y1, y2⟩ := F w' hw; have hbr := Below.refl w'.heap.size w'; go_simp; (repeat' apply And.intro) <;> first | with_reducible rfl | assumption)); simp only [Act.put, List.setIfInBounds_toArray, List.set_cons_zero, List.set_cons_succ]))
        refine FreeTw.RelSeq.rel_ (fun v u => u.ownsRow w3.heap.size 90 3 v (0) ((fs.take 0).flatMap rcell)) rfl rfl (fun v u u' h hb => owns_below h hb) ?_ ?_
        focus
          intro x w' hw hf; dsimp only
          obtain ⟨bq, eq, hbq, hBq⟩ := hf _ (.head _) (by kernel_rfl)
          have hrq := hrA.below hw
          refine wp_append_copy (.tmp 28) (.tmp 34) 46 rfl w3.heap.size 90 i0 _ 3 48 Try.underlying46 hi hz0 hz1 hz2 rfl (by decide) bq hBq hbq (by simp only [Act.eval]; exact eq) _ _ _ rfl hrq (by unfold maxLen; omega) (by omega) fun v2 w2 h2 h3 => ?_
          exact ⟨rfl, ⟨by first | exact h2 | simpa using h2, fun h => absurd h (by decide)⟩, hw.trans (h3.mono hw.size), h3⟩
        simp only [Act.put, List.setIfInBounds_toArray, List.set_cons_zero, List.set_cons_succ, List.nil_append, List.cons_append]
        repeat (first
          | (refine FreeTw.RelSeq.pure_ (c := ?_) rfl rfl ?_ ?_; rotate_left; (focus (intro x w'; dsimp only; go_simp; (first | ((repeat' apply And.intro) <;> first | with_reducible rfl | assumption) | (split <;> (try (focus (exfalso; omega))); (try go_simp); (repeat' apply And.intro) <;> first | with_reducible rfl | assumption)))); simp only [Act.put, List.setIfInBounds_toArray, List.set_cons_zero, List.set_cons_succ])
          | (refine FreeTw.RelSeq.skip_ rfl (fun _ => rfl) ?_; simp only [Act.put, List.setIfInBounds_toArray, List.set_cons_zero, List.set_cons_succ])
          | (refine FreeTw.RelSeq.pureG_ (c := ?_) rfl (fun _ => rfl) rfl ?_ ?_; rotate_left; (focus (intro x w'; dsimp only; go_simp; (repeat' apply And.intro) <;> first | with_reducible rfl | assumption)); simp only [Act.put, List.setIfInBounds_toArray, List.set_cons_zero, List.set_cons_succ])
          | (refine FreeTw.RelSeq.steady_ (c := ?_) rfl rfl rfl ?_ ?_; rotate_left; (focus (intro x w' hw; dsimp only; obtain d0 := hw; go_simp; (repeat' apply And.intro) <;> first | with_reducible rfl | assumption)); simp only [Act.put, List.setIfInBounds_toArray, List.set_cons_zero, List.set_cons_succ])
          | (refine FreeTw.RelSeq.grow_ (c := ?_) rfl rfl rfl ?_ ?_; rotate_left; (focus (intro x w' hw _; dsimp only; obtain ⟨d0, y0, y1, y2⟩ := F w' hw; have hbr := Below.refl w'.heap.size w'; go_simp; (repeat' apply And.intro) <;> first | with_reducible rfl | assumption)); simp only [Act.put, List.setIfInBounds_toArray, List.set_cons_zero, List.set_cons_succ])
          | (refine FreeTw.RelSeq.growG_ (c := ?_) rfl (fun _ => rfl) rfl rfl ?_ ?_; rotate_left; (focus (intro x w' hw _; dsimp only; obtain ⟨d0, y0, y1, y2⟩ := F w' hw; have hbr := Below.refl w'.heap.size w'; go_simp; (repeat' apply And.intro) <;> first | with_reducible rfl | assumption)); simp only [Act.put, List.setIfInBounds_toArray, List.set_cons_zero, List.set_cons_succ]))
        refine FreeTw.RelSeq.rel_ (NewSl w3.heap.size 1 #[.string fn, .slice Af nf cf, .int .i64 fy] 90) rfl rfl NewSl.stable ?_ ?_
        focus
          intro x w' hw _; dsimp only
          have hba : Below w'.heap.size w' (w'.alloc (.cells #[.string fn, .slice Af nf cf, .int .i64 fy] 90)) := (Below.refl _ _).alloc (Nat.le_refl _) _
          have hI := hw.trans (hba.mono hw.size)
          have hsz := hw.size
          go_simp
          (repeat' apply And.intro) <;> first | assumption | exact ⟨_, rfl, hsz, Blk.new _ _ _⟩ | decide
        simp only [Act.put, List.setIfInBounds_toArray, List.set_cons_zero, List.set_cons_succ, List.nil_append, List.cons_append]
        repeat (first
          | (refine FreeTw.RelSeq.pure_ (c := ?_) rfl rfl ?_ ?_; rotate_left; (focus (intro x w'; dsimp only; go_simp; (first | ((repeat' apply And.intro) <;> first | with_reducible rfl | assumption) | (split <;> (try (focus (exfalso; omega))); (try go_simp); (repeat' apply And.intro) <;> first | with_reducible rfl | assumption)))); simp only [Act.put, List.setIfInBounds_toArray, List.set_cons_zero, List.set_cons_succ])
          | (refine FreeTw.RelSeq.skip_ rfl (fun _ => rfl) ?_; simp only [Act.put, List.setIfInBounds_toArray, List.set_cons_zero, List.set_cons_succ])
          | (refine FreeTw.RelSeq.pureG_ (c := ?_) rfl (fun _ => rfl) rfl ?_ ?_; rotate_left; (focus (intro x w'; dsimp only; go_simp; (repeat' apply And.intro) <;> first | with_reducible rfl | assumption)); simp only [Act.put, List.setIfInBounds_toArray, List.set_cons_zero, List.set_cons_succ])
          | (refine FreeTw.RelSeq.steady_ (c := ?_) rfl rfl rfl ?_ ?_; rotate_left; (focus (intro x w' hw; dsimp only; obtain d0 := hw; go_simp; (repeat' apply And.intro) <;> first | with_reducible rfl | assumption)); simp only [Act.put, List.setIfInBounds_toArray, List.set_cons_zero, List.set_cons_succ])
          | (refine FreeTw.RelSeq.grow_ (c := ?_) rfl rfl rfl ?_ ?_; rotate_left; (focus (intro x w' hw _; dsimp only; obtain ⟨d0, y0, y1, y2⟩ := F w' hw; have hbr := Below.refl w'.heap.size w'; go_simp; (repeat' apply And.intro) <;> first | with_reducible rfl | assumption)); simp only [Act.put, List.setIfInBounds_toArray, List.set_cons_zero, List.set_cons_succ])
          | (refine FreeTw.RelSeq.growG_ (c := ?_) rfl (fun _ => rfl) rfl rfl ?_ ?_; rotate_left; (focus (intro x w' hw _; dsimp only; obtain ⟨d0, y0, y1, y2⟩ := F w' hw; have hbr := Below.refl w'.heap.size w'; go_simp; (repeat' apply And.intro) <;> first | with_reducible rfl | assumption)); simp only [Act.put, List.setIfInBounds_toArray, List.set_cons_zero, List.set_cons_succ]))
        refine FreeTw.RelSeq.nil_ fun x w4 hw4 hf _ => ?_
        have hown := hf _ (.tail _ (.head _))
        dsimp only at hown
        obtain ⟨bn, en, hbn, hBn⟩ := hf _ (.tail _ (.tail _ (.head _)))
        have S4 := S3.addRow hw4 hown (Nat.le_refl _)
        clear hf hrA F x0
        refine FreeTw.TailSeq.cons_ rfl ?_
        refine wp_append_rd (.tmp 35) (.tmp 37) 46 rfl 0 90 i0 _ 3 48 Try.underlying46 hi hz0 hz1 hz2 rfl (by decide) _ 0 _ rfl (S4.row 0 rfl) _ 1 _ rfl (by simp only [Act.eval]; exact en ▸ rd_one hBn (n := 3) rfl) (by intro u hu; simp at hu; rcases hu with rfl | rfl | rfl <;> rfl) (by unfold maxLen; omega) (by omega) (Nat.zero_le _) fun v5 w5 hown5 hgr5 hv5 => ?_
        have S5 := S4.app 0 rfl hown5 hgr5 hv5
        simp only [List.eraseIdx_cons_zero] at S5
        have x0 := (S5.blk 2 rfl).cell (j := 0) (v := .slice none fs.length 0) rfl
        rw [← HN.out] at x0
        obtain ⟨A5, c5, rfl⟩ := owns_slice hown5
        have hrB : Rd w5 3 (.slice none 0 0) 0 ((fs.drop 0).flatMap rcell) := by
          rw [List.drop_of_length_le (by rw [← HN.out]; exact Nat.le_refl _)]
          exact rd_nil _ _ (by decide)
        refine ⟨rfl, .inr x0, ?_⟩
        simp only [Act.put, List.setIfInBounds_toArray, List.set_cons_zero, List.set_cons_succ]
        clear hown5 hgr5 hv5 S4 hown x0
        refine FreeTw.TailSeq.cons_ rfl ?_
        refine wp_append_rd (.tmp 38) (.tmp 44) 46 rfl 0 90 i0 _ 3 48 Try.underlying46 hi hz0 hz1 hz2 rfl (by decide) _ (0 + 1) _ rfl (S5.row 0 rfl) _ 0 _ rfl hrB (rcell_one fun f hf => hsh f (List.drop_subset _ _ hf)) (by unfold maxLen; omega) (by omega) (Nat.zero_le _) fun v6 w6 hown6 hgr6 hv6 => ?_
        have S6 := S5.app 0 rfl hown6 hgr6 hv6
        simp only [List.eraseIdx_cons_zero] at S6
        have x0 := (S6.blk 2 rfl).cell (j := 0) (v := .slice none fs.length 0) rfl
        have z0 := (S6.blk 2 rfl).frozen 0
        rw [← HN.out] at x0
        obtain ⟨A6, c6, rfl⟩ := owns_slice hown6
        refine ⟨rfl, .inr x0, ?_⟩
        simp only [Act.put, List.setIfInBounds_toArray, List.set_cons_zero, List.set_cons_succ]
        clear hown6 hgr6 hv6 S5 hrB
        refine FreeTw.TailSeq.cons_ rfl ?_
        go_simp
        refine FreeTw.TailSeq.nil_ ?_
        have S7 := (S6.put 2 rfl 0 (.slice A6 (0 + 1 + 0) c6))
        simp only [List.eraseIdx_cons_succ, List.eraseIdx_cons_zero, List.setIfInBounds_toArray, List.set_cons_zero] at S7
        have S8 := (S7.pick [0, 1] (by decide))
        simp only [List.filterMap_cons, List.filterMap_nil, List.getElem?_cons_succ, List.getElem?_cons_zero] at S8
        have hel : 0 + 1 + 0 = (addV fs ⟨fn, .slice Af nf cf, fb, fy⟩).length := by rw [HADD.out, List.length_append, List.length_cons, List.length_take, List.length_drop, ← HN.out]; omega
        have S9 : Upd (chL g (.slice none fs.length 0) a b fs).fp w [chL g (.slice A6 (addV fs ⟨fn, .slice Af nf cf, fb, fy⟩).length c6) a b (addV fs ⟨fn, .slice Af nf cf, fb, fy⟩)] (w6.setCell ⟨g, 0, none⟩ (.slice A6 (0 + 1 + 0) c6)) := by
          refine Upd.close ?_
          rw [← hel]
          have e2 : (fs.take 0).flatMap rcell ++ [.string fn, .slice Af nf cf, .int .i64 fy] ++ (fs.drop 0).flatMap rcell = (addV fs ⟨fn, .slice Af nf cf, fb, fy⟩).flatMap rcell := by rw [HADD.out, List.flatMap_append, List.flatMap_cons, List.append_assoc]; rfl
          unfold chFr
          rw [← e2, ← hel]
          exact S8
        have HS9 := Lib.hid S9
        clear S6 S7 S8 S9 x0 z0 hel
        go_wp2_with fail
        all_goals
          go_end0
          exact ⟨rfl, _, HS9.out⟩
      | some aq =>
        obtain ⟨bq, oq, rfl⟩ : ∃ bq oq, aq = ⟨bq, oq, none⟩ := by
          rcases (S3.row 2 rfl).2 with ⟨he, _⟩ | ⟨g', cap, cur, he, _⟩
          · cases he
          · cases he; exact ⟨_, _, rfl⟩
        have x0 := (S3.blk 1 rfl).cell (j := 0) (v := .slice (some ⟨bq, oq, none⟩) fs.length c) rfl
        rw [← HN.out] at x0
        have yb := S3.blk 0 rfl
        have l1 := (S3.blk 1 rfl).lt
        have F : ∀ w', Below w3.heap.size w3 w' → w'.cell? ⟨g, 0, none⟩ = some (.slice (some ⟨bq, oq, none⟩) k c) ∧ w'.cell? ⟨w.heap.size, 0, none⟩ = some (.string fn) ∧ w'.cell? ⟨w.heap.size, 1, none⟩ = some (.slice Af nf cf) ∧ w'.cell? ⟨w.heap.size, 2, none⟩ = some (.int .i64 fy) := fun w' h =>
          have q := yb.below h yb.lt
          ⟨by rw [h.cell l1]; exact x0, q.cell rfl, q.cell rfl, q.cell rfl⟩
        have hrA : Rd w3 3 (.slice (some ⟨bq, oq, none⟩) k c) k ((fs.take k).flatMap rcell) := by
          have h := rd_of_owns (S3.row 2 rfl)
          rw [← HN.out] at h
          have := h.preN (m := k) (by omega)
          rwa [flat_take rcell 3 (fun _ => rfl)] at this
        clear yb l1
        refine FreeTw.region_free (fun w' => Below w3.heap.size w3 w') (fun w' => w'.cell? ⟨g, 0, none⟩ = some (.slice (some ⟨bq, oq, none⟩) k c)) [1, 8, 10, 2000013, 2000015, 2000019] [11, 18, 21] [0, 1, 2, 3, 4, 5, 6, 7, 8, 9, 10, 12, 13, 14, 15, 16, 17, 19, 20] (fun w' h => (F w' h).1) (by kernel_rfl) (by kernel_rfl) (by kernel_rfl) ((Below.refl _ _).drew) ?_
        repeat (first
          | (refine FreeTw.RelSeq.pure_ (c := ?_) rfl rfl ?_ ?_; rotate_left; (focus (intro x w'; dsimp only; go_simp; (first | ((repeat' apply And.intro) <;> first | with_reducible rfl | assumption) | (split <;> (try (focus (exfalso; omega))); (try go_simp); (repeat' apply And.intro) <;> first | with_reducible rfl | assumption)))); simp only [Act.put, List.setIfInBounds_toArray, List.set_cons_zero, List.set_cons_succ])
          | (refine FreeTw.RelSeq.skip_ rfl (fun _ => rfl) ?_; simp only [Act.put, List.setIfInBounds_toArray, List.set_cons_zero, List.set_cons_succ])
          | (refine FreeTw.RelSeq.pureG_ (c := ?_) rfl (fun _ => rfl) rfl ?_ ?_; rotate_left; (focus (intro x w'; dsimp only; go_simp; (repeat' apply And.intro) <;> first | with_reducible rfl | assumption)); simp only [Act.put, List.setIfInBounds_toArray, List.set_cons_zero, List.set_cons_succ])
          | (refine FreeTw.RelSeq.steady_ (c := ?_) rfl rfl rfl ?_ ?_; rotate_left; (focus (intro x w' hw; dsimp only; obtain d0 := hw; go_simp; (repeat' apply And.intro) <;> first | with_reducible rfl | assumption)); simp only [Act.put, List.setIfInBounds_toArray, List.set_cons_zero, List.set_cons_succ])
          | (refine FreeTw.RelSeq.grow_ (c := ?_) rfl rfl rfl ?_ ?_; rotate_left; (focus (intro x w' hw _; dsimp only; obtain ⟨d0, y0, y1, y2⟩ := F w' hw; have hbr := Below.refl w'.heap.size w'; go_simp; (repeat' apply And.intro) <;> first | with_reducible rfl | assumption)); simp only [Act.put, List.setIfInBounds_toArray, List.set_cons_zero, List.set_cons_succ])
          | (refine FreeTw.RelSeq.growG_ (c := ?_) rfl (fun _ => rfl) rfl rfl ?_ ?_; rotate_left; (focus (intro x w' hw _; dsimp only; obtain ⟨d0, y0, y1, y2⟩ := F w' hw; have hbr := Below.refl w'.heap.size w'; go_simp; (repeat' apply And.intro) <;> first | with_reducible rfl | assumption)); simp only [Act.put, List.setIfInBounds_toArray, List.set_cons_zero, List.set_cons_succ]))
        refine FreeTw.RelSeq.rel_ (NewSl w3.heap.size 0 #[] 90) rfl rfl NewSl.stable ?_ ?_
        focus
          intro x w' hw _; dsimp only
          have hba : Below w'.heap.size w' (w'.alloc (.cells #[] 90)) := (Below.refl _ _).alloc (Nat.le_refl _) _
          have hI := hw.trans (hba.mono hw.size)
          have hsz := hw.size
          go_simp
          (repeat' apply And.intro) <;> first | assumption | exact ⟨_, rfl, hsz, Blk.new _ _ _⟩ | decide
        simp only [Act.put, List.setIfInBounds_toArray, List.set_cons_zero, List.set_cons_succ, List.nil_append]
        repeat (first
          | (refine FreeTw.RelSeq.pure_ (c := ?_) rfl rfl ?_ ?_; rotate_left; (focus (intro x w'; dsimp only; go_simp; (first | ((repeat' apply And.intro) <;> first | with_reducible rfl | assumption) | (split <;> (try (focus (exfalso; omega))); (try go_simp); (repeat' apply And.intro) <;> first | with_reducible rfl | assumption)))); simp only [Act.put, List.setIfInBounds_toArray, List.set_cons_zero, List.set_cons_succ])
          | (refine FreeTw.RelSeq.skip_ rfl (fun _ => rfl) ?_; simp only [Act.put, List.setIfInBounds_toArray, List.set_cons_zero, List.set_cons_succ])
          | (refine FreeTw.RelSeq.pureG_ (c := ?_) rfl (fun _ => rfl) rfl ?_ ?_; rotate_left; (focus (intro x w'; dsimp only; go_simp; (repeat' apply And.intro) <;> first | with_reducible rfl | assumption)); simp only [Act.put, List.setIfInBounds_toArray, List.set_cons_zero, List.set_cons_succ])
          | (refine FreeTw.RelSeq.steady_ (c := ?_) rfl rfl rfl ?_ ?_; rotate_left; (focus (intro x w' hw; dsimp only; obtain d0 := hw; go_simp; (repeat' apply And.intro) <;> first | with_reducible rfl | assumption)); simp only [Act.put, List.setIfInBounds_toArray, List.set_cons_zero, List.set_cons_succ])
          | (refine FreeTw.RelSeq.grow_ (c := ?_) rfl rfl rfl ?_ ?_; rotate_left; (focus (intro x w' hw _; dsimp only; obtain ⟨d0, y0, y1, y2⟩ := F w' hw; have hbr := Below.refl w'.heap.size w'; go_simp; (repeat' apply And.intro) <;> first | with_reducible rfl | assumption)); simp only [Act.put, List.setIfInBounds_toArray, List.set_cons_zero, List.set_cons_succ])
          | (refine FreeTw.RelSeq.growG_ (c := ?_) rfl (fun _ => rfl) rfl rfl ?_ ?_; rotate_left; (focus (intro x w' hw _; dsimp only; obtain ⟨d0, y0, y1, y2⟩ := F w' hw; have hbr := Below.refl w'.heap.size w'; go_simp; (repeat' apply And.intro) <;> first | with_reducible rfl | assumption)); simp only [Act.put, List.setIfInBounds_toArray, List.set_cons_zero, List.set_cons_succ]))
        refine FreeTw.RelSeq.rel_ (fun v u => u.ownsRow w3.heap.size 90 3 v (k) ((fs.take k).flatMap rcell)) rfl rfl (fun v u u' h hb => owns_below h hb) ?_ ?_
        focus
          intro x w' hw hf; dsimp only
          obtain ⟨bq, eq, hbq, hBq⟩ := hf _ (.head _) (by kernel_rfl)
          have hrq := hrA.below hw
          refine wp_append_copy (.tmp 28) (.tmp 34) 46 rfl w3.heap.size 90 i0 _ 3 48 Try.underlying46 hi hz0 hz1 hz2 rfl (by decide) bq hBq hbq (by simp only [Act.eval]; exact eq) _ _ _ rfl hrq (by unfold maxLen; omega) (by omega) fun v2 w2 h2 h3 => ?_
          exact ⟨rfl, ⟨by first | exact h2 | simpa using h2, fun h => absurd h (by decide)⟩, hw.trans (h3.mono hw.size), h3⟩
        simp only [Act.put, List.setIfInBounds_toArray, List.set_cons_zero, List.set_cons_succ, List.nil_append, List.cons_append]
        repeat (first
          | (refine FreeTw.RelSeq.pure_ (c := ?_) rfl rfl ?_ ?_; rotate_left; (focus (intro x w'; dsimp only; go_simp; (first | ((repeat' apply And.intro) <;> first | with_reducible rfl | assumption) | (split <;> (try (focus (exfalso; omega))); (try go_simp); (repeat' apply And.intro) <;> first | with_reducible rfl | assumption)))); simp only [Act.put, List.setIfInBounds_toArray, List.set_cons_zero, List.set_cons_succ])
          | (refine FreeTw.RelSeq.skip_ rfl (fun _ => rfl) ?_; simp only [Act.put, List.setIfInBounds_toArray, List.set_cons_zero, List.set_cons_succ])
          | (refine FreeTw.RelSeq.pureG_ (c := ?_) rfl (fun _ => rfl) rfl ?_ ?_; rotate_left; (focus (intro x w'; dsimp only; go_simp; (repeat' apply And.intro) <;> first | with_reducible rfl | assumption)); simp only [Act.put, List.setIfInBounds_toArray, List.set_cons_zero, List.set_cons_succ])
          | (refine FreeTw.RelSeq.steady_ (c := ?_) rfl rfl rfl ?_ ?_; rotate_left; (focus (intro x w' hw; dsimp only; obtain d0 := hw; go_simp; (repeat' apply And.intro) <;> first | with_reducible rfl | assumption)); simp only [Act.put, List.setIfInBounds_toArray, List.set_cons_zero, List.set_cons_succ])
          | (refine FreeTw.RelSeq.grow_ (c := ?_) rfl rfl rfl ?_ ?_; rotate_left; (focus (intro x w' hw _; dsimp only; obtain ⟨d0, y0, y1, y2⟩ := F w' hw; have hbr := Below.refl w'.heap.size w'; go_simp; (repeat' apply And.intro) <;> first | with_reducible rfl | assumption)); simp only [Act.put, List.setIfInBounds_toArray, List.set_cons_zero, List.set_cons_succ])
          | (refine FreeTw.RelSeq.growG_ (c := ?_) rfl (fun _ => rfl) rfl rfl ?_ ?_; rotate_left; (focus (intro x w' hw _; dsimp only; obtain ⟨d0, y0, y1, y2⟩ := F w' hw; have hbr := Below.refl w'.heap.size w'; go_simp; (repeat' apply And.intro) <;> first | with_reducible rfl | assumption)); simp only [Act.put, List.setIfInBounds_toArray, List.set_cons_zero, List.set_cons_succ]))
        refine FreeTw.RelSeq.rel_ (NewSl w3.heap.size 1 #[.string fn, .slice Af nf cf, .int .i64 fy] 90) rfl rfl NewSl.stable ?_ ?_
        focus
          intro x w' hw _; dsimp only
          have hba : Below w'.heap.size w' (w'.alloc (.cells #[.string fn, .slice Af nf cf, .int .i64 fy] 90)) := (Below.refl _ _).alloc (Nat.le_refl _) _
          have hI := hw.trans (hba.mono hw.size)
          have hsz := hw.size
          go_simp
          (repeat' apply And.intro) <;> first | assumption | exact ⟨_, rfl, hsz, Blk.new _ _ _⟩ | decide
        simp only [Act.put, List.setIfInBounds_toArray, List.set_cons_zero, List.set_cons_succ, List.nil_append, List.cons_append]
        repeat (first
          | (refine FreeTw.RelSeq.pure_ (c := ?_) rfl rfl ?_ ?_; rotate_left; (focus (intro x w'; dsimp only; go_simp; (first | ((repeat' apply And.intro) <;> first | with_reducible rfl | assumption) | (split <;> (try (focus (exfalso; omega))); (try go_simp); (repeat' apply And.intro) <;> first | with_reducible rfl | assumption)))); simp only [Act.put, List.setIfInBounds_toArray, List.set_cons_zero, List.set_cons_succ])
          | (refine FreeTw.RelSeq.skip_ rfl (fun _ => rfl) ?_; simp only [Act.put, List.setIfInBounds_toArray, List.set_cons_zero, List.set_cons_succ])
          | (refine FreeTw.RelSeq.pureG_ (c := ?_) rfl (fun _ => rfl) rfl ?_ ?_; rotate_left; (focus (intro x w'; dsimp only; go_simp; (repeat' apply And.intro) <;> first | with_reducible rfl | assumption)); simp only [Act.put, List.setIfInBounds_toArray, List.set_cons_zero, List.set_cons_succ])
          | (refine FreeTw.RelSeq.steady_ (c := ?_) rfl rfl rfl ?_ ?_; rotate_left; (focus (intro x w' hw; dsimp only; obtain d0 := hw; go_simp; (repeat' apply And.intro) <;> first | with_reducible rfl | assumption)); simp only [Act.put, List.setIfInBounds_toArray, List.set_cons_zero, List.set_cons_succ])
          | (refine FreeTw.RelSeq.grow_ (c := ?_) rfl rfl rfl ?_ ?_; rotate_left; (focus (intro x w' hw _; dsimp only; obtain ⟨d0, y0, y1, y2⟩ := F w' hw; have hbr := Below.refl w'.heap.size w'; go_simp; (repeat' apply And.intro) <;> first | with_reducible rfl | assumption)); simp only [Act.put, List.setIfInBounds_toArray, List.set_cons_zero, List.set_cons_succ])
          | (refine FreeTw.RelSeq.growG_ (c := ?_) rfl (fun _ => rfl) rfl rfl ?_ ?_; rotate_left; (focus (intro x w' hw _; dsimp only; obtain ⟨d0, y0, y1, y2⟩ := F w' hw; have hbr := Below.refl w'.heap.size w'; go_simp; (repeat' apply And.intro) <;> first | with_reducible rfl | assumption)); simp only [Act.put, List.setIfInBounds_toArray, List.set_cons_zero, List.set_cons_succ]))
        refine FreeTw.RelSeq.nil_ fun x w4 hw4 hf _ => ?_
        have hown := hf _ (.tail _ (.head _))
        dsimp only at hown
        obtain ⟨bn, en, hbn, hBn⟩ := hf _ (.tail _ (.tail _ (.head _)))
        have S4 := S3.addRow hw4 hown (Nat.le_refl _)
        clear hf hrA F x0
        refine FreeTw.TailSeq.cons_ rfl ?_
        refine wp_append_rd (.tmp 35) (.tmp 37) 46 rfl 0 90 i0 _ 3 48 Try.underlying46 hi hz0 hz1 hz2 rfl (by decide) _ k _ rfl (S4.row 0 rfl) _ 1 _ rfl (by simp only [Act.eval]; exact en ▸ rd_one hBn (n := 3) rfl) (by intro u hu; simp at hu; rcases hu with rfl | rfl | rfl <;> rfl) (by unfold maxLen; omega) (by omega) (Nat.zero_le _) fun v5 w5 hown5 hgr5 hv5 => ?_
        have S5 := S4.app 0 rfl hown5 hgr5 hv5
        simp only [List.eraseIdx_cons_zero] at S5
        have x0 := (S5.blk 2 rfl).cell (j := 0) (v := .slice (some ⟨bq, oq, none⟩) fs.length c) rfl
        rw [← HN.out] at x0
        obtain ⟨A5, c5, rfl⟩ := owns_slice hown5
        have hrB := (rd_of_owns (S5.row 3 rfl)).sufI (m := k) (by rw [← HN.out]; omega)
        rw [flat_drop rcell 3 (fun _ => rfl), ← HN.out] at hrB
        rw [Nat.sub_self] at hrB
        refine ⟨rfl, .inr x0, ?_⟩
        simp only [Act.put, List.setIfInBounds_toArray, List.set_cons_zero, List.set_cons_succ]
        clear hown5 hgr5 hv5 S4 hown x0
        refine FreeTw.TailSeq.cons_ rfl ?_
        refine wp_append_rd (.tmp 38) (.tmp 44) 46 rfl 0 90 i0 _ 3 48 Try.underlying46 hi hz0 hz1 hz2 rfl (by decide) _ (k + 1) _ rfl (S5.row 0 rfl) _ 0 _ rfl hrB (rcell_one fun f hf => hsh f (List.drop_subset _ _ hf)) (by unfold maxLen; omega) (by omega) (Nat.zero_le _) fun v6 w6 hown6 hgr6 hv6 => ?_
        have S6 := S5.app 0 rfl hown6 hgr6 hv6
        simp only [List.eraseIdx_cons_zero] at S6
        have x0 := (S6.blk 2 rfl).cell (j := 0) (v := .slice (some ⟨bq, oq, none⟩) fs.length c) rfl
        have z0 := (S6.blk 2 rfl).frozen 0
        rw [← HN.out] at x0
        obtain ⟨A6, c6, rfl⟩ := owns_slice hown6
        refine ⟨rfl, .inr x0, ?_⟩
        simp only [Act.put, List.setIfInBounds_toArray, List.set_cons_zero, List.set_cons_succ]
        clear hown6 hgr6 hv6 S5 hrB
        refine FreeTw.TailSeq.cons_ rfl ?_
        go_simp
        refine FreeTw.TailSeq.nil_ ?_
        have S7 := (S6.put 2 rfl 0 (.slice A6 (k + 1 + 0) c6))
        simp only [List.eraseIdx_cons_succ, List.eraseIdx_cons_zero, List.setIfInBounds_toArray, List.set_cons_zero] at S7
        have S8 := (S7.pick [0, 1] (by decide))
        simp only [List.filterMap_cons, List.filterMap_nil, List.getElem?_cons_succ, List.getElem?_cons_zero] at S8
        have hel : k + 1 + 0 = (addV fs ⟨fn, .slice Af nf cf, fb, fy⟩).length := by rw [HADD.out, List.length_append, List.length_cons, List.length_take, List.length_drop, ← HN.out]; omega
        have S9 : Upd (chL g (.slice (some ⟨bq, oq, none⟩) fs.length c) a b fs).fp w [chL g (.slice A6 (addV fs ⟨fn, .slice Af nf cf, fb, fy⟩).length c6) a b (addV fs ⟨fn, .slice Af nf cf, fb, fy⟩)] (w6.setCell ⟨g, 0, none⟩ (.slice A6 (k + 1 + 0) c6)) := by
          refine Upd.close ?_
          rw [← hel]
          have e2 : (fs.take k).flatMap rcell ++ [.string fn, .slice Af nf cf, .int .i64 fy] ++ (fs.drop k).flatMap rcell = (addV fs ⟨fn, .slice Af nf cf, fb, fy⟩).flatMap rcell := by rw [HADD.out, List.flatMap_append, List.flatMap_cons, List.append_assoc]; rfl
          unfold chFr
          rw [← e2, ← hel]
          exact S8
        have HS9 := Lib.hid S9
        clear S6 S7 S8 S9 x0 z0 hel
        go_wp2_with fail
        all_goals
          go_end0
          exact ⟨rfl, _, HS9.out⟩
end Go.Proofs.Ytdjdhakmigofmaa
