/-
  The walk of LabOwn.
-/
import Derived.Test.YtfmehjdlpfijbaaDoorLMrg
import Derived.Test.YtfmehjdlpfijbaaDoorLAwk
namespace Go.Proofs.YtfmehjdlpfijbaaDoor
open Go.RowKit FreeSl
set_option maxRecDepth 100000
attribute [local go_sem] out

theorem pairEq (a b c d : ByteArray) (w : World) : (binOp .eql 41 (.agg #[.string a, .string b]) (.agg #[.string c, .string d])).run Tryd.prog w = .ok (.bool (decide ((a, b) = (c, d)))) w := by
  rw [run_eql_struct, run_equalIn_struct w 9999 41 _ _ pairSt pairHeld]
  have h := pairFs
  generalize (Tryd.prog.fieldsOf 41).toList = fs at h ⊢
  obtain ⟨f0, f1, rfl⟩ : ∃ f0 f1, fs = [f0, f1] := by
    rcases fs with _ | ⟨f0, _ | ⟨f1, _ | ⟨f2, r⟩⟩⟩
    · simp at h
    · simp at h
    · exact ⟨_, _, rfl⟩
    · simp at h
  simp only [List.map_cons, List.map_nil, List.cons.injEq, Prod.mk.injEq, and_true] at h
  obtain ⟨⟨n0, t0, o0⟩, ⟨n1, t1, o1⟩⟩ := h
  have n0' : f0.name ≠ "_" := by simpa using n0
  have n1' : f1.name ≠ "_" := by simpa using n1
  simp [Op.eqFields, n0', n1', t0, t1, o0, o1, part, Tryd.isAgg9, go_sem, ba_toList_inj]
  by_cases h1 : a = c <;> by_cases h2 : b = d <;> simp [h1, h2]

/-- A row of the call's own, whatever it holds. -/
def RowAny (base : Nat) (v : Value) (n : Nat) (w : World) : Prop := ∃ xs, w.ownsRow base 41 2 v n xs
theorem RowAny.below {base n : Nat} {v : Value} {w w' : World} (h : RowAny base v n w) (hb : Below w.heap.size w w') : RowAny base v n w' := let ⟨xs, h⟩ := h; ⟨xs, owns_below h hb⟩
theorem RowAny.set {base n : Nat} {v : Value} {w : World} (h : RowAny base v n w) (g i : Nat) (u : Value) : RowAny base v n (w.setCell ⟨g, i, none⟩ u) := by
  obtain ⟨xs, hl, h⟩ := h
  rcases h with ⟨rfl, h0⟩ | ⟨g', cap, cur, rfl, hb, hg, hn, hc, hs, ht⟩
  · exact ⟨xs, hl, .inl ⟨rfl, h0⟩⟩
  · by_cases e : g' = g
    · subst e
      refine ⟨(cur.setIfInBounds i u).toList.take (n * 2), ?_, .inr ⟨g', cap, cur.setIfInBounds i u, rfl, hb, ?_, hn, hc, by simpa using hs, rfl⟩⟩
      · rw [List.length_take, Array.length_toList, Array.size_setIfInBounds, hs]; omega
      · simp [World.setCell, Array.getElem?_modify, hg]
    · exact ⟨xs, hl, .inr ⟨g', cap, cur, rfl, hb, (Below.heap_setCell w _ u g' e).trans hg, hn, hc, hs, ht⟩⟩
/-- Its cells can be written. -/
theorem RowAny.at_ {base n : Nat} {A : Option Addr} {c : Nat} {w : World} (h : RowAny base (.slice A n c) n w) {j : Nat} (hj : j < n) : ∃ g u0 u1, A = some ⟨g, 0, none⟩ ∧ base ≤ g ∧ w.cell? ⟨g, j * 2, none⟩ = some u0 ∧ w.cell? ⟨g, j * 2 + 1, none⟩ = some u1 ∧ w.frozen? ⟨g, j * 2, none⟩ = false ∧ w.frozen? ⟨g, j * 2 + 1, none⟩ = false ∧ ∀ g' cs t, Blk w g' cs t → 41 ≠ t → g' ≠ g := by
  obtain ⟨xs, hl, h⟩ := h
  rcases h with ⟨h, h0⟩ | ⟨g', cap, cur, h, hb, hg, hn, hc, hs, ht⟩
  · omega
  · cases h
    have h1 : j * 2 < cur.size := by rw [hs]; omega
    have h2 : j * 2 + 1 < cur.size := by rw [hs]; omega
    refine ⟨g', cur[j * 2], cur[j * 2 + 1], rfl, hb, ?_, ?_, Lib.frozen_of_heap hg _, Lib.frozen_of_heap hg _, fun g2 cs t h2 hne e => ?_⟩
    · rw [Lib.cell_of_heap hg]; exact Array.getElem?_eq_getElem h1
    · rw [Lib.cell_of_heap hg]; exact Array.getElem?_eq_getElem h2
    · subst e
      unfold Blk at h2
      rw [hg] at h2
      injection h2 with h2
      injection h2 with _ h3
      exact hne h3

set_option maxHeartbeats 4000000 in
theorem labOwnWalk (v : Value) (l : List Pr) (x : Pr) (mx : Int) (w : World) (hr : Rd w 2 v l.length (pairCells l)) (hs : ∀ p ∈ l, p.1.size ≤ maxLen ∧ p.2.size ≤ maxLen) (hm : w.cell? ⟨0, 0, none⟩ = some (.int .i64 mx)) :
    Calls Tryd.prog 6 #[v, .agg #[.string x.1, .string x.2]] w fun e w' => e = .returned (.bool true) ∧ Below w.heap.size w w' := by
  have hr0 := hr
  obtain ⟨A, c, rfl, h1, h2, h3, h4⟩ := hr
  unfold maxLen at h3
  obtain ⟨x1, x2⟩ := x
  simp only
  obtain ⟨i0, hi, hz0, hz1, hz2⟩ := info_parts infoPair
  have hm0 : ∀ w', Below w.heap.size w w' → w'.cell? ⟨0, 0, none⟩ = some (.int .i64 mx) := fun w' hb => by
    rw [hb.cell (World.block_lt_of_cell? w _ hm)]; exact hm
  clear hm
  go_enter Tryd.func6, Tryd.ntmps6
  go_wp2_with fail
  refine calls_genP fun w1 hw1 => ?_
  have hb1 : Below w.heap.size w w1 := by rw [hw1]; exact (Below.refl _ _).alloc (Nat.le_refl _) _
  have hX1 : Blk w1 w.heap.size #[.string x1, .string x2] 41 := by rw [hw1]; exact Blk.new _ _ _
  clear hw1
  have hA := lAwake mx w1 (hm0 w1 hb1)
  (with_reducible refine hA.mono ?_)
  rintro e w2 ⟨rfl, hb2⟩
  have hX2 := hX1.below hb2 hX1.lt
  have hB2 := hb1.trans (hb2.mono hb1.size)
  clear hA hb1 hb2 hX1 hm0
  by_cases h12 : 12 < l.length
  · go_wp2_with fail
    go_ret
    exact ⟨rfl, hB2⟩
  go_wp2_with fail
  have G : ∀ w', Below w2.heap.size w2 w' → w'.cell? ⟨w.heap.size, 0, none⟩ = some (.string x1) ∧ w'.cell? ⟨w.heap.size, 1, none⟩ = some (.string x2) := fun w' h => ⟨(hX2.below h hX2.lt).cell rfl, (hX2.below h hX2.lt).cell rfl⟩
  have hl0 : ∀ w', Below w2.heap.size w2 w' → Rd w' 2 (.slice A l.length c) l.length (pairCells l) := fun w' h => hr0.below (hB2.trans (h.mono hB2.size))
  refine region_free (fun w' => Below w2.heap.size w2 w') [0, 2, 4] [5, 8, 9] [0, 1, 2, 3, 4, 6, 7] (by kernel_rfl) (by kernel_rfl) (by kernel_rfl) (Below.refl _ _).drew ?_
  refine RelSeq.rel_ (fun v u => ∃ g : Nat, v = .slice (some ⟨g, 0, none⟩) 0 0 ∧ w2.heap.size ≤ g ∧ Blk u g #[] 41) rfl rfl (fun v u u' h hb => let ⟨g, h1, h2, h3⟩ := h; ⟨g, h1, h2, h3.below hb h3.lt⟩) ?_ ?_
  focus
    intro x w' hw _; dsimp only
    have hba : Below w'.heap.size w' (w'.alloc (.cells #[] 41)) := (Below.refl _ _).alloc (Nat.le_refl _) _
    have hI := hw.trans (hba.mono hw.size)
    have hsz := hw.size
    go_simp
    (repeat' apply And.intro) <;> first | assumption | exact ⟨_, rfl, hsz, Blk.new _ _ _⟩ | exact Blk.new _ _ _ | (with_unfolding_all rfl)
  simp only [Act.put, List.setIfInBounds_toArray, List.set_cons_zero, List.set_cons_succ, List.nil_append]
  repeat (first
    | (refine RelSeq.pure_ (c := ?_) rfl rfl ?_ ?_; rotate_left; (focus (intro x w'; dsimp only; go_simp; (repeat' apply And.intro) <;> first | with_reducible rfl | assumption)); simp only [Act.put, List.setIfInBounds_toArray, List.set_cons_zero, List.set_cons_succ]))
  refine RelSeq.rel_ (fun v u => u.ownsRow w2.heap.size 41 2 v l.length (pairCells l)) rfl rfl (fun v u u' h hb => owns_below h hb) ?_ ?_
  focus
    intro x w' hw hf; dsimp only
    obtain ⟨g, e0, hg, hBg⟩ := hf _ (.head _) (by kernel_rfl)
    refine wp_append_empty (.tmp 19) (.tmp 20) 24 rfl w2.heap.size 41 i0 _ 2 32 Tryd.underlying24 hi hz0 hz1 hz2 rfl (by decide) g e0 hg hBg _ l.length (pairCells l) rfl (hl0 w' hw) (by unfold maxLen; omega) (by omega) hw.size fun v6 w6 hown6 hb6 => ?_
    exact ⟨rfl, ⟨hown6, fun h => absurd h (by decide)⟩, hw.trans (hb6.mono hw.size), hb6⟩
  simp only [Act.put, List.setIfInBounds_toArray, List.set_cons_zero, List.set_cons_succ, List.nil_append, List.cons_append]
  repeat (first
    | (refine RelSeq.pure_ (c := ?_) rfl rfl ?_ ?_; rotate_left; (focus (intro x w'; dsimp only; go_simp; (repeat' apply And.intro) <;> first | with_reducible rfl | assumption)); simp only [Act.put, List.setIfInBounds_toArray, List.set_cons_zero, List.set_cons_succ])
    | (refine RelSeq.grow_ (c := ?_) rfl rfl ?_ ?_; rotate_left; (focus (intro x w' hw _; dsimp only; obtain ⟨d0, d1⟩ := G w' hw; have hbr := Below.refl w'.heap.size w'; go_simp; (repeat' apply And.intro) <;> first | with_reducible rfl | assumption)); simp only [Act.put, List.setIfInBounds_toArray, List.set_cons_zero, List.set_cons_succ]))
  refine RelSeq.rel_ (fun v u => Rd u 2 v 1 (pairCells [(x1, x2)])) rfl rfl (fun v u u' h hb => h.below hb) ?_ ?_
  focus
    intro x w' hw _; dsimp only
    have hba : Below w'.heap.size w' (w'.alloc (.cells #[.string x1, .string x2] 41)) := (Below.refl _ _).alloc (Nat.le_refl _) _
    have hI := hw.trans (hba.mono hw.size)
    have hBn : Blk (w'.alloc (.cells #[.string x1, .string x2] 41)) w'.heap.size #[.string x1, .string x2] 41 := Blk.new _ _ _
    have hnx : Rd (w'.alloc (.cells #[.string x1, .string x2] 41)) 2 (.slice (some ⟨w'.heap.size, 0, none⟩) 1 1) 1 (pairCells [(x1, x2)]) := ⟨_, _, rfl, rfl, Nat.le_refl _, by unfold maxLen; omega, fun _ => ⟨_, _, rfl, fun j u hj => by
      match j, hj with
      | 0, hj => simp [pairCells] at hj; subst hj; exact hBn.cell rfl
      | 1, hj => simp [pairCells] at hj; subst hj; exact hBn.cell rfl
      | j + 2, hj => simp [pairCells] at hj⟩⟩
    go_simp
    (repeat' apply And.intro) <;> first | assumption | exact hnx | (with_unfolding_all rfl)
  simp only [Act.put, List.setIfInBounds_toArray, List.set_cons_zero, List.set_cons_succ, List.nil_append, List.cons_append]
  repeat (first
    | (refine RelSeq.pure_ (c := ?_) rfl rfl ?_ ?_; rotate_left; (focus (intro x w'; dsimp only; go_simp; (repeat' apply And.intro) <;> first | with_reducible rfl | assumption)); simp only [Act.put, List.setIfInBounds_toArray, List.set_cons_zero, List.set_cons_succ]))
  refine RelSeq.nil_ fun x w6 hw6 hf _ => ?_
  have hown4 : w6.ownsRow w2.heap.size 41 2 (x 2) l.length (pairCells l) := hf _ (.tail _ (.head _))
  have hrd9 : Rd w6 2 (x 4) 1 (pairCells [(x1, x2)]) := hf _ (.tail _ (.tail _ (.head _)))
  clear hf
  refine TailSeq.cons_ rfl ?_
  refine wp_append_rd (.tmp 21) (.tmp 23) 24 rfl w2.heap.size 41 i0 _ 2 32 Tryd.underlying24 hi hz0 hz1 hz2 rfl (by decide) (x 2) l.length _ rfl hown4 (x 4) 1 _ rfl hrd9 (pairCells_one _) (by unfold maxLen; omega) (by omega) hw6.size fun v7 w7 hown7 hgr7 _ => ?_
  have hb7 : Below w2.heap.size w2 w7 := hw6.grown hgr7 hw6.size (fun gg hg => (hown4.lt gg hg).1)
  rw [← pairCells_append] at hown7
  have hX7 := hX2.below hb7 hX2.lt
  have hB7 := hB2.trans (hb7.mono hB2.size)
  obtain ⟨AI, cI, rfl⟩ := owns_slice hown7
  have hrI : Rd w7 2 (.slice AI (l.length + 1) cI) (l.length + 1) (pairCells (l ++ [(x1, x2)])) := rd_of_owns hown7
  obtain ⟨_, _, hE9, _, hcI, hcIm, hI4⟩ := hrI
  cases hE9
  unfold maxLen at hcIm
  obtain ⟨bi, oi, rfl, hIat⟩ := hI4 (by omega)
  clear hI4 hown4 hrd9 hgr7 hw6 hb7 hown7 G hl0 hX2 hB2
  have hi2 : (l.length : Int) ≤ (cI : Int) := by omega
  have hi4 : l.length ≤ cI := by omega
  refine ⟨rfl, ?_⟩
  refine TailSeq.cons_ rfl ?_
  go_simp
  refine TailSeq.cons_ rfl ?_
  go_simp
  refine TailSeq.nil_ ?_
  have hIn : Rd w7 2 (.slice (some ⟨bi, oi, none⟩) l.length cI) l.length (pairCells l) := ⟨_, _, rfl, by rw [pairCells_length], hi4, by unfold maxLen; omega, fun _ => ⟨bi, oi, rfl, fun j u hj => hIat j u (by rw [pairCells_append, List.getElem?_append_left (List.getElem?_eq_some_iff.1 hj).1]; exact hj)⟩⟩
  have hxp := pairCells_at (l ++ [(x1, x2)]) l.length (x1, x2) (by simp)
  have hex : ∀ w', Below w7.heap.size w7 w' → w'.cell? ⟨bi, oi + l.length * 2, none⟩ = some (.string x1) ∧ w'.cell? ⟨bi, oi + l.length * 2 + 1, none⟩ = some (.string x2) := fun w' h => ⟨hIat.nth0 h (l.length * 2) _ hxp.1, hIat.nth h (l.length * 2) 1 _ hxp.2⟩
  clear hxp hIat
  have hMk := lMake (.slice (some ⟨bi, oi, none⟩) l.length cI) l w7 hIn hs (by omega)
  have hbb7 : Below w7.heap.size w7 w7 := Below.refl _ _
  go_wp2_with fail
  (with_reducible refine hMk.mono ?_)
  rintro e w8 ⟨vx, rfl, hvx, hb8⟩
  obtain ⟨nx, hnx⟩ : ∃ nx, nx = (makeL l).length := ⟨_, rfl⟩
  rw [← hnx] at hvx
  obtain ⟨Ax, cx, rfl⟩ := owns_slice hvx
  have hrx8 : RowAny w7.heap.size (.slice Ax nx cx) nx w8 := ⟨_, hvx⟩
  have hnil : ∀ w', Rd w' 2 (.slice none 0 0) ([] : List Pr).length (pairCells []) := fun w' => ⟨_, _, rfl, rfl, Nat.le_refl _, by unfold maxLen; show 0 ≤ _; omega, fun h => absurd h (by decide)⟩
  have hMg := lMerge (.slice (some ⟨bi, oi, none⟩) l.length cI) (.slice none 0 0) l [] w8 (hIn.below hb8) (hnil _) hs (by simp) (by show 0 + _ ≤ _; omega)
  clear hMk hvx hnx hnil
  go_wp2_with fail
  (with_reducible refine hMg.mono ?_)
  rintro e w9 ⟨vy, rfl, hvy, hb9⟩
  obtain ⟨ny, hny⟩ : ∃ ny, ny = (makeL (mergeIn l [])).length := ⟨_, rfl⟩
  rw [← hny] at hvy
  obtain ⟨Ay, cy, rfl⟩ := owns_slice hvy
  have hry9 : RowAny w7.heap.size (.slice Ay ny cy) ny w9 := ⟨_, owns_mono hvy hb8.size⟩
  have hrx9 := hrx8.below hb9
  have hb79 := hb8.trans (hb9.mono hb8.size)
  clear hMg hvy hny hrx8 hb8 hb9
  go_wp2_with fail
  refine calls_genP fun w10 hw10 => ?_
  have hb10 : Below w9.heap.size w9 w10 := by rw [hw10]; exact (Below.refl _ _).alloc (Nat.le_refl _) _
  have hBk : Blk w10 w9.heap.size #[.string ⟨#[97]⟩, .string ⟨#[98]⟩] 9 := by rw [hw10]; exact Blk.new _ _ _
  clear hw10
  have hb710 := hb79.trans (hb10.mono hb79.size)
  have hk2 : Rd w10 1 (.slice (some ⟨w9.heap.size, 0, none⟩) 2 2) ([⟨#[97]⟩, ⟨#[98]⟩] : List ByteArray).length (([⟨#[97]⟩, ⟨#[98]⟩] : List ByteArray).map Value.string) := ⟨_, _, rfl, rfl, Nat.le_refl _, by unfold maxLen; show 2 ≤ _; omega, fun _ => ⟨_, _, rfl, fun j u hj => by
    match j, hj with
    | 0, hj => simp at hj; subst hj; exact hBk.cell rfl
    | 1, hj => simp at hj; subst hj; exact hBk.cell rfl
    | j + 2, hj => simp at hj⟩⟩
  have hO := lOnly (.slice (some ⟨bi, oi, none⟩) l.length cI) (.slice (some ⟨w9.heap.size, 0, none⟩) 2 2) l [⟨#[97]⟩, ⟨#[98]⟩] w10 (hIn.below hb710) hk2 (by omega)
  have hrx10 := hrx9.below hb10
  have hry10 := hry9.below hb10
  clear hBk hk2 hrx9 hry9 hb79 hb10
  (with_reducible refine hO.mono ?_)
  rintro e w11 ⟨vz, rfl, hvz, hb11⟩
  obtain ⟨nz, hnz⟩ : ∃ nz, nz = (onlyL l [⟨#[97]⟩, ⟨#[98]⟩] true).length := ⟨_, rfl⟩
  rw [← hnz] at hvz
  obtain ⟨Az, cz, rfl⟩ := owns_slice hvz
  have hrz11 : RowAny w7.heap.size (.slice Az nz cz) nz w11 := ⟨_, owns_mono hvz hb710.size⟩
  have hrx11 := hrx10.below hb11
  have hry11 := hry10.below hb11
  have hb711 := hb710.trans (hb11.mono hb710.size)
  clear hO hvz hnz hrx10 hry10 hb710 hb11
  go_wp2_with fail
  refine calls_genP fun w12 hw12 => ?_
  have hb12 : Below w11.heap.size w11 w12 := by rw [hw12]; exact (Below.refl _ _).alloc (Nat.le_refl _) _
  have hBk : Blk w12 w11.heap.size #[.string ⟨#[97]⟩] 9 := by rw [hw12]; exact Blk.new _ _ _
  clear hw12
  have hb712 := hb711.trans (hb12.mono hb711.size)
  have hk1 : Rd w12 1 (.slice (some ⟨w11.heap.size, 0, none⟩) 1 1) ([⟨#[97]⟩] : List ByteArray).length (([⟨#[97]⟩] : List ByteArray).map Value.string) := ⟨_, _, rfl, rfl, Nat.le_refl _, by unfold maxLen; show 1 ≤ _; omega, fun _ => ⟨_, _, rfl, fun j u hj => by
    match j, hj with
    | 0, hj => simp at hj; subst hj; exact hBk.cell rfl
    | j + 1, hj => simp at hj⟩⟩
  have hWo := lWithout (.slice (some ⟨bi, oi, none⟩) l.length cI) (.slice (some ⟨w11.heap.size, 0, none⟩) 1 1) l [⟨#[97]⟩] w12 (hIn.below hb712) hk1 (by omega)
  have hrx12 := hrx11.below hb12
  have hry12 := hry11.below hb12
  have hrz12 := hrz11.below hb12
  clear hBk hk1 hrx11 hry11 hrz11 hb711 hb12
  (with_reducible refine hWo.mono ?_)
  rintro e w13 ⟨vo, rfl, hvo, hb13⟩
  obtain ⟨Ao, co, rfl⟩ := owns_slice hvo
  have hrx13 := hrx12.below hb13
  have hry13 := hry12.below hb13
  have hrz13 := hrz12.below hb13
  have hb713 := hb712.trans (hb13.mono hb712.size)
  clear hWo hvo hrx12 hry12 hrz12 hb712 hb13
  go_wp2_with fail
  refine wp_gen fun w14 hw14 => ?_
  have hb14 : Below w13.heap.size w13 w14 := by rw [hw14]; exact (Below.refl _ _).alloc (Nat.le_refl _) _
  have hBg : Blk w14 w13.heap.size #[.slice Ax nx cx, .slice Ay ny cy, .slice Az nz cz] 24 := by rw [hw14]; exact Blk.new _ _ _
  clear hw14
  have hrx14 := hrx13.below hb14
  have hry14 := hry13.below hb14
  have hrz14 := hrz13.below hb14
  have hb714 := hb713.trans (hb14.mono hb713.size)
  have hsz7 : w7.heap.size ≤ w13.heap.size := hb713.size
  generalize w13.heap.size = g at hBg hsz7 hb14 ⊢
  clear hrx13 hry13 hrz13 hb713 hb14
  go_loopw [49] (fun i wr => ∃ k : Nat, k ≤ 3 ∧ i = .int .i64 k ∧ RowAny w7.heap.size (.slice Ax nx cx) nx wr ∧ RowAny w7.heap.size (.slice Ay ny cy) ny wr ∧ RowAny w7.heap.size (.slice Az nz cz) nz wr ∧ Blk wr g #[.slice Ax nx cx, .slice Ay ny cy, .slice Az nz cz] 24 ∧ Below w7.heap.size w7 wr) (fun i _ => 3 - (intOf i).toNat)
  case atStart => exact ⟨0, by decide, rfl, hrx14, hry14, hrz14, hBg, hb714⟩
  case round =>
    clear hrx14 hry14 hrz14 hBg hb714
    obtain ⟨k, hk, rfl, hrx, hry, hrz, hBg, hbr⟩ := hrel
    by_cases hlt : k < 3
    · obtain ⟨Am, nm, cm, hcm, hrm⟩ : ∃ Am nm cm, wr.cell? ⟨g, k, none⟩ = some (.slice Am nm cm) ∧ RowAny w7.heap.size (.slice Am nm cm) nm wr := by
        match k, hlt with
        | 0, _ => exact ⟨_, _, _, hBg.cell rfl, hrx⟩
        | 1, _ => exact ⟨_, _, _, hBg.cell rfl, hry⟩
        | 2, _ => exact ⟨_, _, _, hBg.cell rfl, hrz⟩
      have hnm : nm ≤ 9223372036854775807 := by
        obtain ⟨xs, h⟩ := hrm
        obtain ⟨_, _, e, _, q1, q2, _⟩ := rd_of_owns h
        cases e
        unfold maxLen at q2
        omega
      go_wp2_with fail
      go_loopw [55] (fun i wr => ∃ j : Nat, j ≤ nm ∧ i = .int .i64 j ∧ RowAny w7.heap.size (.slice Am nm cm) nm wr ∧ RowAny w7.heap.size (.slice Ax nx cx) nx wr ∧ RowAny w7.heap.size (.slice Ay ny cy) ny wr ∧ RowAny w7.heap.size (.slice Az nz cz) nz wr ∧ Blk wr g #[.slice Ax nx cx, .slice Ay ny cy, .slice Az nz cz] 24 ∧ Below w7.heap.size w7 wr) (fun i _ => nm - (intOf i).toNat)
      case atStart => exact ⟨0, Nat.zero_le _, rfl, hrm, hrx, hry, hrz, hBg, hbr⟩
      case round =>
        clear hrm hrx hry hrz hBg hbr hcm
        obtain ⟨j, hj, rfl, hrm, hrx, hry, hrz, hBg, hbr⟩ := hrel
        by_cases hjl : j < nm
        · obtain ⟨gm, u0, u1, rfl, hgm, e0, e1, f0, f1, hne⟩ := hrm.at_ hjl
          have hgg := hne _ _ _ hBg (by decide)
          clear hne
          go_wp2_with fail
          go_roundw
          case rel => exact ⟨j + 1, by omega, by go_num, (hrm.set _ _ _).set _ _ _, (hrx.set _ _ _).set _ _ _, (hry.set _ _ _).set _ _ _, (hrz.set _ _ _).set _ _ _, (hBg.far hgg _).far hgg _, (hbr.setCell hgm _).setCell hgm _⟩
          case measure => simp [intOf]; omega
        · obtain rfl : j = nm := by omega
          go_wp2_with fail
          go_roundw
          case rel => exact ⟨k + 1, by omega, by go_num, hrx, hry, hrz, hBg, hbr⟩
          case measure => simp [intOf]; omega
    · obtain rfl : k = 3 := by omega
      clear hrx hry hrz hBg
      have hfinal := hB7.trans (hbr.mono hB7.size)
      have F : ∀ w', Below wr.heap.size wr w' → w'.cell? ⟨bi, oi + l.length * 2, none⟩ = some (.string x1) ∧ w'.cell? ⟨bi, oi + l.length * 2 + 1, none⟩ = some (.string x2) ∧ w'.cell? ⟨w.heap.size, 0, none⟩ = some (.string x1) ∧ w'.cell? ⟨w.heap.size, 1, none⟩ = some (.string x2) := fun w' h => by
        have hh := hbr.trans (h.mono hbr.size)
        exact ⟨(hex w' hh).1, (hex w' hh).2, (hX7.below hh hX7.lt).cell rfl, (hX7.below hh hX7.lt).cell rfl⟩
      have hS := fun w' (h : Below wr.heap.size wr w') => refSame (.slice (some ⟨bi, oi, none⟩) l.length cI) (.slice A l.length c) l l w' (hIn.below (hbr.trans (h.mono hbr.size))) (hr0.below (hfinal.trans (h.mono hfinal.size)))
      rw [show sameB l l = true from decide_eq_true rfl] at hS
      have hq := fun w' => (pairEq x1 x2 x1 x2 w').trans (show _ = Result.ok (Value.bool true) w' by simp)
      have hwl : IntKind.i64.wrap ((l.length : Int) + 1) = (l.length : Int) + 1 := by simp only [IntKind.wrap, IntKind.bits, IntKind.signed]; simp; omega
      have hi5 : (l.length : Int) + 1 ≤ (cI : Int) := by omega
      have hi6 : 0 ≤ (l.length : Int) + 1 := by omega
      have hi7 : ((l.length : Int) + 1).toNat = l.length + 1 := by omega
      have hi8 : (l.length : Int) < (l.length : Int) + 1 := by omega
      clear hex hbr hX7 hIn hr0 hB7
      go_wp2_with fail
      refine region_free (fun w' => Below wr.heap.size wr w') [] [] (List.range 17) (by kernel_rfl) (by kernel_rfl) (by kernel_rfl) (Below.refl _ _).drew ?_
      simp only [List.range, List.range.loop]
      repeat (first
        | (refine RelSeq.pure_ (c := ?_) rfl rfl ?_ ?_; rotate_left; (focus (intro x w'; dsimp only; go_simp; (repeat' apply And.intro) <;> first | with_reducible rfl | assumption)); simp only [Act.put, List.setIfInBounds_toArray, List.set_cons_zero, List.set_cons_succ])
        | (refine RelSeq.skip_ rfl (fun _ => rfl) ?_; simp only [Act.put, List.setIfInBounds_toArray, List.set_cons_zero, List.set_cons_succ])
        | (refine RelSeq.pureG_ (c := ?_) rfl (fun _ => rfl) rfl ?_ ?_; rotate_left; (focus (intro x w'; dsimp only; go_simp; (repeat' apply And.intro) <;> first | with_reducible rfl | assumption)); simp only [Act.put, List.setIfInBounds_toArray, List.set_cons_zero, List.set_cons_succ])
        | (refine RelSeq.grow_ (c := ?_) rfl rfl ?_ ?_; rotate_left; (focus (intro x w' hw _; dsimp only; obtain ⟨d0, d1, d2, d3⟩ := F w' hw; have hbr := Below.refl w'.heap.size w'; go_simp; (repeat' apply And.intro) <;> first | with_reducible rfl | assumption)); simp only [Act.put, List.setIfInBounds_toArray, List.set_cons_zero, List.set_cons_succ])
        | (refine RelSeq.growG_ (c := ?_) rfl (fun _ => rfl) rfl ?_ ?_; rotate_left; (focus (intro x w' hw _; dsimp only; obtain ⟨d0, d1, d2, d3⟩ := F w' hw; have hbr := Below.refl w'.heap.size w'; go_simp; (repeat' apply And.intro) <;> first | with_reducible rfl | assumption)); simp only [Act.put, List.setIfInBounds_toArray, List.set_cons_zero, List.set_cons_succ])
        | (refine RelSeq.grow_ (c := .bool true) rfl rfl ?_ ?_; (focus (intro x w' hw _; dsimp only; go_simp; (with_reducible refine (hS w' hw).mono ?_); rintro e w2 ⟨rfl, hb2⟩; exact ⟨rfl, hw.trans (hb2.mono hw.size), hb2⟩)); simp only [Act.put, List.setIfInBounds_toArray, List.set_cons_zero, List.set_cons_succ]))
      refine RelSeq.nil_ fun x w' hw _ _ => ?_
      refine TailSeq.nil_ ?_
      go_wp2_with fail
      go_ret
      exact ⟨rfl, hfinal.trans (hw.mono hfinal.size)⟩
end Go.Proofs.YtfmehjdlpfijbaaDoor
