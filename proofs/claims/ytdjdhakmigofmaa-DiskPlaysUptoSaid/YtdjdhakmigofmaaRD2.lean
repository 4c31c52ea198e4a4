/-
  The document's disk: Sync, Cut, Remove, Rename, Append.
-/
import Derived.Test.YtdjdhakmigofmaaRD1
import Derived.Test.YtdjdhakmigofmaaRVal
namespace Go.Proofs.Ytdjdhakmigofmaa
open Go.RowKit
set_option maxRecDepth 100000
attribute [local go_sem] FreeTw.out

theorem flat_set {α : Type} (f : α → List Value) (n : Nat) (hn : ∀ x, (f x).length = n) {j : Nat} {u : Value} {x x' : α} (hx : (f x).set j u = f x') (hj : j < n) : ∀ {l : List α} {k : Nat}, l[k]? = some x → (l.flatMap f).set (k * n + j) u = (l.set k x').flatMap f := by
  intro l
  induction l with
  | nil => intro k h; simp at h
  | cons a r ih =>
    intro k h
    cases k with
    | zero =>
      simp only [List.getElem?_cons_zero, Option.some.injEq] at h
      subst h
      rw [Nat.zero_mul, Nat.zero_add, List.set_cons_zero, List.flatMap_cons, List.flatMap_cons, List.set_append_left _ _ (by rw [hn]; exact hj), hx]
    | succ k =>
      simp only [List.getElem?_cons_succ] at h
      rw [List.set_cons_succ, List.flatMap_cons, List.flatMap_cons, ← ih h, List.set_append_right _ _ (by rw [hn, Nat.succ_mul]; omega), hn, show (k + 1) * n + j - n = k * n + j by rw [Nat.succ_mul]; omega]
/-- The cells of the i-th file. -/
theorem rows_at {w : World} {q n c i : Nat} {fs : List FileV} {f : FileV} (h : w.ownsRow 0 90 3 (.slice (some ⟨q, 0, none⟩) n c) n (fs.flatMap rcell)) (hf : fs[i]? = some f) :
    w.cell? ⟨q, i * 3, none⟩ = some (.string f.name) ∧ w.cell? ⟨q, i * 3 + 1, none⟩ = some f.val ∧ w.cell? ⟨q, i * 3 + 2, none⟩ = some (.int .i64 f.synced) ∧ ∀ j, w.frozen? ⟨q, j, none⟩ = false := by
  have hl := h.1
  have hil : i < fs.length := (List.getElem?_eq_some_iff.1 hf).1
  obtain ⟨A', c', he, _, _, _, h4⟩ := rd_of_owns h
  cases he
  have hn : 0 < n := by
    rw [flat_rcell] at hl
    omega
  obtain ⟨b, o, he, hat⟩ := h4 hn
  cases he
  have e0 := fun j hj => flat_at rcell 3 (fun _ => rfl) fs i f hf j hj
  have hb := Below.refl w.heap.size w
  refine ⟨?_, ?_, ?_, fun j => ?_⟩
  · have := hat.nth0 hb (i * 3) (.string f.name) (e0 0 (by omega))
    rwa [Nat.zero_add] at this
  · have := hat.nth hb (i * 3) 1 f.val (e0 1 (by omega))
    rwa [Nat.zero_add] at this
  · have := hat.nth hb (i * 3) 2 (.int .i64 f.synced) (e0 2 (by omega))
    rwa [Nat.zero_add] at this
  · rcases h.2 with ⟨he, _⟩ | ⟨g', cap, cur, he, _, hh, _⟩
    · cases he
    · cases he
      exact Lib.frozen_of_heap hh j

/-- A store into a file of the list. -/
theorem Upd.setFile {S : List Nat} {w0 w : World} {C : List Chunk} {q n c i j : Nat} {u : Value} {fs : List FileV} {f f' : FileV} (h : Upd S w0 C w) (k : Nat) (hk : C[k]? = some (chFr (.slice (some ⟨q, 0, none⟩) n c) fs)) (hn : n = fs.length) (hf : fs[i]? = some f) (hj : j < 3) (hu : (rcell f).set j u = rcell f') :
    Upd S w0 (chFr (.slice (some ⟨q, 0, none⟩) n c) (fs.set i f') :: C.eraseIdx k) (w.setCell ⟨q, i * 3 + j, none⟩ u) := by
  subst hn
  have := h.putRow k hk (i * 3 + j) u
  rw [flat_set rcell 3 (fun _ => rfl) hu hj hf] at this
  unfold chFr
  rw [List.length_set]
  exact this
theorem flat_setv {fs : List FileV} {i : Nat} {f1 f2 : FileV} (h : rcell f1 = rcell f2) : (fs.set i f1).flatMap rcell = (fs.set i f2).flatMap rcell := by
  rw [List.flatMap_def, List.flatMap_def, List.map_set, List.map_set, h]
theorem refFindAny (g : Nat) (lv : Value) (a b : Int) (fs : List FileV) (s : ByteArray) (w : World) (hP : (chM g lv a b fs).P w) (hlen : fs.length ≤ 1000) :
    Calls Try.prog 26 #[.pointer (some ⟨g, 0, none⟩), .string s] w fun e w' => e = .returned (.int .i64 (findI fs s)) ∧ w' = w :=
  have S := Upd.open_ hP
  refFind g lv a b fs s w (S.blk 0 rfl) (rd_of_owns (S.row 1 rfl)) hlen
theorem refSyncNone (g : Nat) (lv : Value) (a b : Int) (fs : List FileV) (s : ByteArray) (w : World) (hP : (chM g lv a b fs).P w) (hlen : fs.length ≤ 1000) (hno : findI fs s = -1) :
    Calls Try.prog 19 #[.pointer (some ⟨g, 0, none⟩), .string s] w fun e w' => e = .returned (.int .i64 14) ∧ w' = w := by
  have K := refFindAny g lv a b fs s w hP hlen
  rw [hno] at K
  have HK := Lib.hid K
  clear K hP
  go_enter Try.func19, Try.ntmps19
  go_wp2_with fail
  (with_reducible refine HK.out.mono ?_)
  rintro e w1 ⟨rfl, rfl⟩
  go_wp2_with fail
  go_ret
  exact ⟨rfl, rfl⟩

set_option maxHeartbeats 4000000 in
theorem refSyncOk (g : Nat) (lv : Value) (a b : Int) (fs : List FileV) (s : ByteArray) (i : Nat) (f : FileV) (w : World) (hP : (chM g lv a b fs).P w) (hlen : fs.length ≤ 1000) (hi : findI fs s = i) (hf : fs[i]? = some f) (hb : 0 ≤ b ∧ b ≤ 1000) :
    Calls Try.prog 19 #[.pointer (some ⟨g, 0, none⟩), .string s] w fun e w' => e = .returned (.int .i64 0) ∧ Upd (chM g lv a b fs).fp w [chM g lv a (b + 1) (fs.set i { f with synced := f.bytes.length })] w' := by
  have K := refFindAny g lv a b fs s w hP hlen
  rw [hi] at K
  have HK := Lib.hid K
  clear K
  obtain ⟨n, hn⟩ : ∃ n, n = fs.length := ⟨_, rfl⟩
  have HN := Lib.hid hn
  have hil := (List.getElem?_eq_some_iff.1 hf).1
  rw [← hn] at hil hlen
  have S0 := Upd.open_ hP
  obtain ⟨A, c, rfl⟩ := owns_slice (S0.row 1 rfl)
  have h3 : n ≤ c ∧ c ≤ maxLen := by
    obtain ⟨_, _, he, _, h2, h3, _⟩ := rd_of_owns (S0.row 1 rfl)
    cases he
    rw [hn]
    exact ⟨h2, h3⟩
  unfold maxLen at h3
  obtain ⟨q, rfl⟩ : ∃ q, A = some ⟨q, 0, none⟩ := by
    rcases (S0.row 1 rfl).2 with ⟨he, h0⟩ | ⟨g', cap, cur, he, _⟩
    · omega
    · cases he; exact ⟨_, rfl⟩
  have hq := rows_at (S0.row 1 rfl) hf
  have hB := S0.blk 0 rfl
  have hFV := S0.files 2 rfl f (List.mem_of_getElem? hf)
  obtain ⟨⟨Av, cv, ev, _, hv2, hv3, _⟩, hsy, hby⟩ := hFV
  obtain ⟨bl, hbl⟩ : ∃ bl, bl = f.bytes.length := ⟨_, rfl⟩
  rw [← hbl] at ev hby
  have HBL := Lib.hid hbl
  rw [ev] at hq
  have HF := Lib.hid hf
  obtain ⟨hq0, hq1, hq2, hq3⟩ := hq
  have x0 := hB.cell (j := 0) (v := .slice (some ⟨q, 0, none⟩) fs.length c) rfl
  rw [← HN.out] at x0
  have l1 := World.block_lt_of_cell? _ _ x0
  have l2 := World.block_lt_of_cell? _ _ hq1
  have F : ∀ w', Below w.heap.size w w' → w'.cell? ⟨g, 0, none⟩ = some (.slice (some ⟨q, 0, none⟩) n c) ∧ w'.cell? ⟨q, i * 3 + 1, none⟩ = some (.slice Av bl cv) := fun w' h => ⟨by rw [h.cell l1]; exact x0, by rw [h.cell l2]; exact hq1⟩
  have FZ := Lib.hid hq3
  clear hq0 hq2 hq3 hq1 hbl hf hB hn hP hv2 hv3 l1 l2
  go_enter Try.func19, Try.ntmps19
  go_wp2_with fail
  (with_reducible refine HK.out.mono ?_)
  rintro e w1 ⟨rfl, rfl⟩
  go_wp2_with fail
  refine FreeTw.region_free (fun w' => Below w1.heap.size w1 w') (fun _ => True) [] [16] [0, 1, 2, 3, 4, 5, 6, 7, 8, 9, 10, 11, 12, 13, 14, 15] (fun _ _ => trivial) (by kernel_rfl) (by kernel_rfl) (by kernel_rfl) ((Below.refl _ _).drew) ?_
  repeat (first
    | (refine FreeTw.RelSeq.pure_ (c := ?_) rfl rfl ?_ ?_; rotate_left; (focus (intro x w'; dsimp only; go_simp; (first | ((repeat' apply And.intro) <;> first | with_reducible rfl | assumption) | (split <;> (try (focus (exfalso; omega))); (try go_simp); (repeat' apply And.intro) <;> first | with_reducible rfl | assumption)))); simp only [Act.put, List.setIfInBounds_toArray, List.set_cons_zero, List.set_cons_succ])
    | (refine FreeTw.RelSeq.skip_ rfl (fun _ => rfl) ?_; simp only [Act.put, List.setIfInBounds_toArray, List.set_cons_zero, List.set_cons_succ])
    | (refine FreeTw.RelSeq.pureG_ (c := ?_) rfl (fun _ => rfl) rfl ?_ ?_; rotate_left; (focus (intro x w'; dsimp only; go_simp; (repeat' apply And.intro) <;> first | with_reducible rfl | assumption)); simp only [Act.put, List.setIfInBounds_toArray, List.set_cons_zero, List.set_cons_succ])
    | (refine FreeTw.RelSeq.steady_ (c := ?_) rfl rfl rfl ?_ ?_; rotate_left; (focus (intro x w' hw; dsimp only; obtain _ := hw; go_simp; (repeat' apply And.intro) <;> first | with_reducible rfl | assumption)); simp only [Act.put, List.setIfInBounds_toArray, List.set_cons_zero, List.set_cons_succ])
    | (refine FreeTw.RelSeq.grow_ (c := ?_) rfl rfl rfl ?_ ?_; rotate_left; (focus (intro x w' hw _; dsimp only; obtain ⟨d0, d1⟩ := F w' hw; have hbr := Below.refl w'.heap.size w'; go_simp; (repeat' apply And.intro) <;> first | with_reducible rfl | assumption)); simp only [Act.put, List.setIfInBounds_toArray, List.set_cons_zero, List.set_cons_succ])
    | (refine FreeTw.RelSeq.growG_ (c := ?_) rfl (fun _ => rfl) rfl rfl ?_ ?_; rotate_left; (focus (intro x w' hw _; dsimp only; obtain ⟨d0, d1⟩ := F w' hw; have hbr := Below.refl w'.heap.size w'; go_simp; (repeat' apply And.intro) <;> first | with_reducible rfl | assumption)); simp only [Act.put, List.setIfInBounds_toArray, List.set_cons_zero, List.set_cons_succ]))
  refine FreeTw.RelSeq.nil_ fun x w3 hw3 _ _ => ?_
  have S3 := S0.grow hw3
  have z1 := rows_at (by have := S3.row 1 rfl; rwa [← HN.out] at this) HF.out
  have z0 := z1.2.2.2 (i * 3 + 2)
  have z2 := z1.2.2.1
  clear S0 F FZ x0
  refine FreeTw.TailSeq.cons_ rfl ?_
  go_simp
  refine FreeTw.TailSeq.nil_ ?_
  have S4 := S3.setFile (j := 2) (u := .int .i64 bl) (f' := { f with synced := f.bytes.length }) 1 rfl rfl HF.out (by decide) (by rw [HBL.out]; rfl)
  simp only [List.eraseIdx_cons_succ, List.eraseIdx_cons_zero] at S4
  have y2 := (S4.blk 1 rfl).cell (j := 2) (v := .int .i64 b) rfl
  have zz := (S4.blk 1 rfl).frozen 2
  have wb : IntKind.i64.wrap (b + 1) = b + 1 := by rw [IntKind.wrap_i64]; omega
  have S5 := S4.put 1 rfl 2 (.int .i64 (b + 1))
  simp only [List.eraseIdx_cons_succ, List.eraseIdx_cons_zero, List.setIfInBounds_toArray, List.set_cons_succ, List.set_cons_zero] at S5
  have S6 := chFiles_re (fs' := fs.set i { f with synced := f.bytes.length }) (S5.front 2 rfl) (fun f2 hf2 => by
    rcases List.mem_or_eq_of_mem_set hf2 with h | h
    · exact ⟨f2, h, rfl, rfl, (S5.files 2 rfl f2 h).2.1⟩
    · exact ⟨f, List.mem_of_getElem? HF.out, by rw [h], by rw [h], by rw [h]; exact Nat.le_refl _⟩)
  simp only [List.eraseIdx_cons_succ, List.eraseIdx_cons_zero] at S6
  have S7 := ((S6.front 1 rfl).perm (C' := [_, _, _]) (by simp only [List.eraseIdx_cons_succ, List.eraseIdx_cons_zero]; exact List.Perm.cons _ (List.Perm.swap _ _ _))).close
  have HS := Lib.hid S7
  clear S3 S4 S5 S6 S7 z0 z1 z2
  go_wp2_with fail
  go_ret
  exact ⟨rfl, HS.out⟩

theorem refCutNone (g : Nat) (lv : Value) (a b : Int) (fs : List FileV) (s : ByteArray) (m : Int) (w : World) (hP : (chM g lv a b fs).P w) (hlen : fs.length ≤ 1000) (hno : findI fs s = -1) :
    Calls Try.prog 21 #[.pointer (some ⟨g, 0, none⟩), .string s, .int .i64 m] w fun e w' => e = .returned (.int .i64 14) ∧ w' = w := by
  have K := refFindAny g lv a b fs s w hP hlen
  rw [hno] at K
  have HK := Lib.hid K
  clear K hP
  go_enter Try.func21, Try.ntmps21
  go_wp2_with fail
  (with_reducible refine HK.out.mono ?_)
  rintro e w1 ⟨rfl, rfl⟩
  go_wp2_with fail
  go_ret
  exact ⟨rfl, rfl⟩

set_option maxHeartbeats 4000000 in
theorem refCutRange (g : Nat) (lv : Value) (a b : Int) (fs : List FileV) (s : ByteArray) (m : Int) (i : Nat) (f : FileV) (w : World) (hP : (chM g lv a b fs).P w) (hlen : fs.length ≤ 1000) (hi : findI fs s = i) (hf : fs[i]? = some f) (hm : m < 0 ∨ (f.bytes.length : Int) < m) :
    Calls Try.prog 21 #[.pointer (some ⟨g, 0, none⟩), .string s, .int .i64 m] w fun e w' => e = .returned (.int .i64 6) ∧ w' = w := by
  have K := refFindAny g lv a b fs s w hP hlen
  rw [hi] at K
  have HK := Lib.hid K
  clear K
  obtain ⟨n, hn⟩ : ∃ n, n = fs.length := ⟨_, rfl⟩
  have HN := Lib.hid hn
  have hil := (List.getElem?_eq_some_iff.1 hf).1
  rw [← hn] at hil hlen
  have S0 := Upd.open_ hP
  obtain ⟨A, c, rfl⟩ := owns_slice (S0.row 1 rfl)
  have h3 : n ≤ c ∧ c ≤ maxLen := by
    obtain ⟨_, _, he, _, h2, h3, _⟩ := rd_of_owns (S0.row 1 rfl)
    cases he
    rw [hn]
    exact ⟨h2, h3⟩
  unfold maxLen at h3
  obtain ⟨q, rfl⟩ : ∃ q, A = some ⟨q, 0, none⟩ := by
    rcases (S0.row 1 rfl).2 with ⟨he, h0⟩ | ⟨g', cap, cur, he, _⟩
    · omega
    · cases he; exact ⟨_, rfl⟩
  have hq := rows_at (S0.row 1 rfl) hf
  have hB := S0.blk 0 rfl
  have hFV := S0.files 2 rfl f (List.mem_of_getElem? hf)
  obtain ⟨⟨Av, cv, ev, _, hv2, hv3, _⟩, hsy, hby⟩ := hFV
  obtain ⟨bl, hbl⟩ : ∃ bl, bl = f.bytes.length := ⟨_, rfl⟩
  rw [← hbl] at ev hm
  rw [ev] at hq
  obtain ⟨hq0, hq1, hq2, hq3⟩ := hq
  have x0 := hB.cell (j := 0) (v := .slice (some ⟨q, 0, none⟩) fs.length c) rfl
  rw [← HN.out] at x0
  clear hq0 hq2 hq3 hbl hf hB hn hP hv2 hv3 S0 hsy hby
  by_cases hm0 : m < 0
  · have hm1 : decide (m < 0) = true := by simpa using hm0
    clear hm
    go_enter Try.func21, Try.ntmps21
    go_wp2_with fail
    (with_reducible refine HK.out.mono ?_)
    rintro e w1 ⟨rfl, rfl⟩
    go_wp2_with fail
    go_ret
    exact ⟨rfl, rfl⟩
  · have hm1 : decide (m < 0) = false := by simpa using hm0
    have hm2 : decide ((bl : Int) < m) = true := by simp; omega
    clear hm
    go_enter Try.func21, Try.ntmps21
    go_wp2_with fail
    (with_reducible refine HK.out.mono ?_)
    rintro e w1 ⟨rfl, rfl⟩
    go_wp2_with fail
    go_ret
    exact ⟨rfl, rfl⟩

set_option maxHeartbeats 8000000 in
theorem refCutOk (g : Nat) (lv : Value) (a b : Int) (fs : List FileV) (s : ByteArray) (m : Nat) (i : Nat) (f : FileV) (w : World) (hP : (chM g lv a b fs).P w) (hlen : fs.length ≤ 1000) (hi : findI fs s = i) (hf : fs[i]? = some f) (hm : m ≤ f.bytes.length) :
    Calls Try.prog 21 #[.pointer (some ⟨g, 0, none⟩), .string s, .int .i64 m] w fun e w' => e = .returned (.int .i64 0) ∧ ∃ v', Upd (chM g lv a b fs).fp w [chM g lv a b (fs.set i ⟨f.name, v', f.bytes.take m, min f.synced m⟩)] w' := by
  obtain ⟨i0, hi0, hz0, hz1, hz2⟩ := info_parts infoByte
  have K := refFindAny g lv a b fs s w hP hlen
  rw [hi] at K
  have HK := Lib.hid K
  clear K
  obtain ⟨n, hn⟩ : ∃ n, n = fs.length := ⟨_, rfl⟩
  have HN := Lib.hid hn
  have hil := (List.getElem?_eq_some_iff.1 hf).1
  rw [← hn] at hil hlen
  have S0 := Upd.open_ hP
  obtain ⟨A, c, rfl⟩ := owns_slice (S0.row 1 rfl)
  have h3 : n ≤ c ∧ c ≤ maxLen := by
    obtain ⟨_, _, he, _, h2, h3, _⟩ := rd_of_owns (S0.row 1 rfl)
    cases he
    rw [hn]
    exact ⟨h2, h3⟩
  unfold maxLen at h3
  obtain ⟨q, rfl⟩ : ∃ q, A = some ⟨q, 0, none⟩ := by
    rcases (S0.row 1 rfl).2 with ⟨he, h0⟩ | ⟨g', cap, cur, he, _⟩
    · omega
    · cases he; exact ⟨_, rfl⟩
  have hq := rows_at (S0.row 1 rfl) hf
  have hB := S0.blk 0 rfl
  have hFV := S0.files 2 rfl f (List.mem_of_getElem? hf)
  have hFR := hFV.1
  obtain ⟨⟨Av, cv, ev, _, hv2, hv3, _⟩, hsy, hby⟩ := hFV
  obtain ⟨bl, hbl⟩ : ∃ bl, bl = f.bytes.length := ⟨_, rfl⟩
  rw [← hbl] at ev hby hm hv2 hsy
  rw [ev, ← hbl] at hFR
  have hR := hFR.preN (m := m) hm
  rw [Nat.mul_one, show (u8L f.bytes).take m = u8L (f.bytes.take m) by simp [u8L]] at hR
  have HR := Lib.hid hR
  have HBL := Lib.hid hbl
  rw [ev] at hq
  have HF := Lib.hid hf
  obtain ⟨hq0, hq1, hq2, hq3⟩ := hq
  have x0 := hB.cell (j := 0) (v := .slice (some ⟨q, 0, none⟩) fs.length c) rfl
  rw [← HN.out] at x0
  have l1 := World.block_lt_of_cell? _ _ x0
  have l2 := World.block_lt_of_cell? _ _ hq1
  have F : ∀ w', Below w.heap.size w w' → w'.cell? ⟨g, 0, none⟩ = some (.slice (some ⟨q, 0, none⟩) n c) ∧ w'.cell? ⟨q, i * 3 + 1, none⟩ = some (.slice Av bl cv) := fun w' h => ⟨by rw [h.cell l1]; exact x0, by rw [h.cell l2]; exact hq1⟩
  have hm1 : decide ((m : Int) < 0) = false := by simp
  have hm2 : decide ((bl : Int) < (m : Int)) = false := by simp; omega
  unfold maxLen at hv3
  clear hq0 hq2 hq3 hbl hf hB hn hP l1 l2 hFR hR
  go_enter Try.func21, Try.ntmps21
  go_wp2_with fail
  (with_reducible refine HK.out.mono ?_)
  rintro e w1 ⟨rfl, rfl⟩
  go_wp2_with fail
  refine FreeTw.region_free (fun w' => Below w1.heap.size w1 w') (fun _ => True) [5, 16] [19] [0, 1, 2, 3, 4, 5, 6, 7, 8, 9, 10, 11, 12, 13, 14, 15, 16, 17, 18] (fun _ _ => trivial) (by kernel_rfl) (by kernel_rfl) (by kernel_rfl) ((Below.refl _ _).drew) ?_
  repeat (first
    | (refine FreeTw.RelSeq.pure_ (c := ?_) rfl rfl ?_ ?_; rotate_left; (focus (intro x w'; dsimp only; go_simp; (first | ((repeat' apply And.intro) <;> first | with_reducible rfl | assumption) | (split <;> (try (focus (exfalso; omega))); (try go_simp); (repeat' apply And.intro) <;> first | with_reducible rfl | assumption)))); simp only [Act.put, List.setIfInBounds_toArray, List.set_cons_zero, List.set_cons_succ])
    | (refine FreeTw.RelSeq.skip_ rfl (fun _ => rfl) ?_; simp only [Act.put, List.setIfInBounds_toArray, List.set_cons_zero, List.set_cons_succ])
    | (refine FreeTw.RelSeq.pureG_ (c := ?_) rfl (fun _ => rfl) rfl ?_ ?_; rotate_left; (focus (intro x w'; dsimp only; go_simp; (repeat' apply And.intro) <;> first | with_reducible rfl | assumption)); simp only [Act.put, List.setIfInBounds_toArray, List.set_cons_zero, List.set_cons_succ])
    | (refine FreeTw.RelSeq.steady_ (c := ?_) rfl rfl rfl ?_ ?_; rotate_left; (focus (intro x w' hw; dsimp only; obtain _ := hw; go_simp; (repeat' apply And.intro) <;> first | with_reducible rfl | assumption)); simp only [Act.put, List.setIfInBounds_toArray, List.set_cons_zero, List.set_cons_succ])
    | (refine FreeTw.RelSeq.grow_ (c := ?_) rfl rfl rfl ?_ ?_; rotate_left; (focus (intro x w' hw _; dsimp only; obtain ⟨d0, d1⟩ := F w' hw; have hbr := Below.refl w'.heap.size w'; go_simp; (repeat' apply And.intro) <;> first | with_reducible rfl | assumption)); simp only [Act.put, List.setIfInBounds_toArray, List.set_cons_zero, List.set_cons_succ])
    | (refine FreeTw.RelSeq.growG_ (c := ?_) rfl (fun _ => rfl) rfl rfl ?_ ?_; rotate_left; (focus (intro x w' hw _; dsimp only; obtain ⟨d0, d1⟩ := F w' hw; have hbr := Below.refl w'.heap.size w'; go_simp; (repeat' apply And.intro) <;> first | with_reducible rfl | assumption)); simp only [Act.put, List.setIfInBounds_toArray, List.set_cons_zero, List.set_cons_succ]))
  refine FreeTw.RelSeq.rel_ (NewSl w1.heap.size 0 #[] 5) rfl rfl NewSl.stable ?_ ?_
  focus
    intro x w' hw _; dsimp only
    have hba : Below w'.heap.size w' (w'.alloc (.cells #[] 5)) := (Below.refl _ _).alloc (Nat.le_refl _) _
    have hI := hw.trans (hba.mono hw.size)
    have hsz := hw.size
    go_simp
    (repeat' apply And.intro) <;> first | assumption | exact ⟨_, rfl, hsz, Blk.new _ _ _⟩ | decide
  simp only [Act.put, List.setIfInBounds_toArray, List.set_cons_zero, List.set_cons_succ, List.nil_append]
  repeat (first
    | (refine FreeTw.RelSeq.pure_ (c := ?_) rfl rfl ?_ ?_; rotate_left; (focus (intro x w'; dsimp only; go_simp; (first | ((repeat' apply And.intro) <;> first | with_reducible rfl | assumption) | (split <;> (try (focus (exfalso; omega))); (try go_simp); (repeat' apply And.intro) <;> first | with_reducible rfl | assumption)))); simp only [Act.put, List.setIfInBounds_toArray, List.set_cons_zero, List.set_cons_succ])
    | (refine FreeTw.RelSeq.skip_ rfl (fun _ => rfl) ?_; simp only [Act.put, List.setIfInBounds_toArray, List.set_cons_zero, List.set_cons_succ])
    | (refine FreeTw.RelSeq.pureG_ (c := ?_) rfl (fun _ => rfl) rfl ?_ ?_; rotate_left; (focus (intro x w'; dsimp only; go_simp; (repeat' apply And.intro) <;> first | with_reducible rfl | assumption)); simp only [Act.put, List.setIfInBounds_toArray, List.set_cons_zero, List.set_cons_succ])
    | (refine FreeTw.RelSeq.steady_ (c := ?_) rfl rfl rfl ?_ ?_; rotate_left; (focus (intro x w' hw; dsimp only; obtain _ := hw; go_simp; (repeat' apply And.intro) <;> first | with_reducible rfl | assumption)); simp only [Act.put, List.setIfInBounds_toArray, List.set_cons_zero, List.set_cons_succ])
    | (refine FreeTw.RelSeq.grow_ (c := ?_) rfl rfl rfl ?_ ?_; rotate_left; (focus (intro x w' hw _; dsimp only; obtain ⟨d0, d1⟩ := F w' hw; have hbr := Below.refl w'.heap.size w'; go_simp; (repeat' apply And.intro) <;> first | with_reducible rfl | assumption)); simp only [Act.put, List.setIfInBounds_toArray, List.set_cons_zero, List.set_cons_succ])
    | (refine FreeTw.RelSeq.growG_ (c := ?_) rfl (fun _ => rfl) rfl rfl ?_ ?_; rotate_left; (focus (intro x w' hw _; dsimp only; obtain ⟨d0, d1⟩ := F w' hw; have hbr := Below.refl w'.heap.size w'; go_simp; (repeat' apply And.intro) <;> first | with_reducible rfl | assumption)); simp only [Act.put, List.setIfInBounds_toArray, List.set_cons_zero, List.set_cons_succ]))
  refine FreeTw.RelSeq.rel_ (fun v u => u.ownsRow w1.heap.size 5 1 v (m) (u8L (f.bytes.take m))) rfl rfl (fun v u u' h hb => owns_below h hb) ?_ ?_
  focus
    intro x w' hw hf; dsimp only
    obtain ⟨bq, eq, hbq, hBq⟩ := hf _ (.head _) (by kernel_rfl)
    have hrq := HR.out.below hw
    refine wp_append_copy (.tmp 33) (.tmp 43) 27 rfl w1.heap.size 5 i0 _ 1 1 Try.underlying27 hi0 hz0 hz1 hz2 rfl (by decide) bq hBq hbq (by simp only [Act.eval]; exact eq) _ _ _ rfl hrq (by unfold maxLen; omega) (by omega) fun v2 w2 h2 h3 => ?_
    exact ⟨rfl, ⟨by first | exact h2 | simpa using h2, fun h => absurd h (by decide)⟩, hw.trans (h3.mono hw.size), h3⟩
  simp only [Act.put, List.setIfInBounds_toArray, List.set_cons_zero, List.set_cons_succ, List.nil_append, List.cons_append]
  repeat (first
    | (refine FreeTw.RelSeq.pure_ (c := ?_) rfl rfl ?_ ?_; rotate_left; (focus (intro x w'; dsimp only; go_simp; (first | ((repeat' apply And.intro) <;> first | with_reducible rfl | assumption) | (split <;> (try (focus (exfalso; omega))); (try go_simp); (repeat' apply And.intro) <;> first | with_reducible rfl | assumption)))); simp only [Act.put, List.setIfInBounds_toArray, List.set_cons_zero, List.set_cons_succ])
    | (refine FreeTw.RelSeq.skip_ rfl (fun _ => rfl) ?_; simp only [Act.put, List.setIfInBounds_toArray, List.set_cons_zero, List.set_cons_succ])
    | (refine FreeTw.RelSeq.pureG_ (c := ?_) rfl (fun _ => rfl) rfl ?_ ?_; rotate_left; (focus (intro x w'; dsimp only; go_simp; (repeat' apply And.intro) <;> first | with_reducible rfl | assumption)); simp only [Act.put, List.setIfInBounds_toArray, List.set_cons_zero, List.set_cons_succ])
    | (refine FreeTw.RelSeq.steady_ (c := ?_) rfl rfl rfl ?_ ?_; rotate_left; (focus (intro x w' hw; dsimp only; obtain _ := hw; go_simp; (repeat' apply And.intro) <;> first | with_reducible rfl | assumption)); simp only [Act.put, List.setIfInBounds_toArray, List.set_cons_zero, List.set_cons_succ])
    | (refine FreeTw.RelSeq.grow_ (c := ?_) rfl rfl rfl ?_ ?_; rotate_left; (focus (intro x w' hw _; dsimp only; obtain ⟨d0, d1⟩ := F w' hw; have hbr := Below.refl w'.heap.size w'; go_simp; (repeat' apply And.intro) <;> first | with_reducible rfl | assumption)); simp only [Act.put, List.setIfInBounds_toArray, List.set_cons_zero, List.set_cons_succ])
    | (refine FreeTw.RelSeq.growG_ (c := ?_) rfl (fun _ => rfl) rfl rfl ?_ ?_; rotate_left; (focus (intro x w' hw _; dsimp only; obtain ⟨d0, d1⟩ := F w' hw; have hbr := Below.refl w'.heap.size w'; go_simp; (repeat' apply And.intro) <;> first | with_reducible rfl | assumption)); simp only [Act.put, List.setIfInBounds_toArray, List.set_cons_zero, List.set_cons_succ]))
  refine FreeTw.RelSeq.nil_ fun x w3 hw3 hf _ => ?_
  have hown := hf _ (.tail _ (.head _))
  dsimp only at hown
  obtain ⟨A5, c5, e5⟩ := owns_slice hown
  rw [e5] at hown ⊢
  have S3 := S0.addRow hw3 hown (Nat.le_refl _)
  have z1 := rows_at (by have := S3.row 2 rfl; rwa [← HN.out] at this) HF.out
  rw [ev] at z1
  have z2 := z1.2.1
  have z0 := z1.2.2.2 (i * 3 + 1)
  clear S0 F x0 hq1 hf hown z1
  refine FreeTw.TailSeq.cons_ rfl ?_
  go_simp
  refine FreeTw.TailSeq.nil_ ?_
  have S4 := S3.setFile (j := 1) (u := .slice A5 m c5) (f' := { f with val := .slice A5 m c5 }) 2 rfl rfl HF.out (by decide) rfl
  simp only [List.eraseIdx_cons_succ, List.eraseIdx_cons_zero] at S4
  have HF4 : (fs.set i { f with val := .slice A5 m c5 })[i]? = some { f with val := .slice A5 m c5 } := by rw [List.getElem?_set_self (by rw [← HN.out]; exact hil)]
  have HG := Lib.hid HF4
  have z1 := rows_at (by have := S4.row 0 rfl; rwa [List.length_set, ← HN.out] at this) HF4
  have z3 := z1.2.2.1
  have z4 := z1.2.2.2 (i * 3 + 2)
  have x0 := (S4.blk 2 rfl).cell (j := 0) (v := .slice (some ⟨q, 0, none⟩) fs.length c) rfl
  rw [← HN.out] at x0
  have hlm : (f.bytes.take m).length = m := by rw [List.length_take, ← HBL.out]; omega
  have HLM := Lib.hid hlm
  clear S3 z1 z0 z2 HF4 hlm
  obtain ⟨sy, hsye⟩ : ∃ sy, sy = f.synced := ⟨_, rfl⟩
  simp only at z3
  rw [← hsye] at z3 hsy
  have HSY := Lib.hid hsye
  clear hsye
  by_cases hcs : m < sy
  · have hcs1 : decide ((m : Int) < (sy : Int)) = true := by simpa using hcs
    go_wp2_with fail
    have S5 := S4.setFile (j := 2) (u := .int .i64 m) (f' := ⟨f.name, .slice A5 m c5, f.bytes.take m, m⟩) 0 rfl (by rw [List.length_set]) HG.out (by decide) rfl
    simp only [List.eraseIdx_cons_zero, List.set_set] at S5
    have S6 := S5.pick [1, 3, 2, 0] (by decide)
    simp only [List.filterMap_cons, List.filterMap_nil, List.getElem?_cons_succ, List.getElem?_cons_zero] at S6
    have S7 := chFiles_row (l := f.bytes.take m) (fs' := fs.set i ⟨f.name, .slice A5 m c5, f.bytes.take m, m⟩) (by rw [HLM.out]; exact S6) (by rw [HLM.out]; omega) (fun f2 hf2 => by
      rcases List.mem_or_eq_of_mem_set hf2 with h | h
      · exact .inr h
      · exact .inl ⟨by rw [h], by rw [h], by rw [h, HLM.out]; simp only; omega⟩)
    have S8 := S7.pick [1, 2, 0] (by decide)
    simp only [List.filterMap_cons, List.filterMap_nil, List.getElem?_cons_succ, List.getElem?_cons_zero] at S8
    have HS := Lib.hid S8.close
    clear S5 S4 S6 S7 S8 x0 z3 z4
    go_wp2_with fail
    go_ret
    exact ⟨rfl, .slice A5 m c5, by rw [← HSY.out, Nat.min_eq_right (by omega)]; exact HS.out⟩
  · have hcs1 : decide ((m : Int) < (sy : Int)) = false := by simpa using hcs
    go_wp2_with fail
    have e : chFr (.slice (some ⟨q, 0, none⟩) fs.length c) (fs.set i ⟨f.name, .slice A5 m c5, f.bytes.take m, sy⟩) = chFr (.slice (some ⟨q, 0, none⟩) fs.length c) (fs.set i { f with val := .slice A5 m c5 }) := by
      have h := flat_setv (fs := fs) (i := i) (f1 := ⟨f.name, .slice A5 m c5, f.bytes.take m, sy⟩) (f2 := { f with val := .slice A5 m c5 }) (by rw [HSY.out]; rfl)
      unfold chFr
      rw [List.length_set, List.length_set, h]
    have S5 := S4
    rw [← e] at S5
    clear e
    have S6 := S5.pick [1, 3, 2, 0] (by decide)
    simp only [List.filterMap_cons, List.filterMap_nil, List.getElem?_cons_succ, List.getElem?_cons_zero] at S6
    have S7 := chFiles_row (l := f.bytes.take m) (fs' := fs.set i ⟨f.name, .slice A5 m c5, f.bytes.take m, sy⟩) (by rw [HLM.out]; exact S6) (by rw [HLM.out]; omega) (fun f2 hf2 => by
      rcases List.mem_or_eq_of_mem_set hf2 with h | h
      · exact .inr h
      · exact .inl ⟨by rw [h], by rw [h], by rw [h, HLM.out]; simp only; omega⟩)
    have S8 := S7.pick [1, 2, 0] (by decide)
    simp only [List.filterMap_cons, List.filterMap_nil, List.getElem?_cons_succ, List.getElem?_cons_zero] at S8
    have HS := Lib.hid S8.close
    clear S5 S4 S6 S7 S8 x0 z3 z4
    go_ret
    exact ⟨rfl, .slice A5 m c5, by rw [← HSY.out, Nat.min_eq_left (by omega)]; exact HS.out⟩
end Go.Proofs.Ytdjdhakmigofmaa
