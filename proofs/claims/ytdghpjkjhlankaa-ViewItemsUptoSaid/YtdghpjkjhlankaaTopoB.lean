/-
  A topology of small numbers without rules, routes, curbs, edges and quotas: what watchfirelaw24.Size's method Topo returns of its nodes' names.
-/
import Derived.Test.YtdghpjkjhlankaaTopo
namespace Go.Proofs.Ytdghpjkjhlankaa
open Go.RowKit FreeOrd
set_option maxRecDepth 100000
attribute [local go_sem] out

set_option maxHeartbeats 4000000 in
theorem topoNil (hv : Value) (hs : List Nat) (w : World) (hh : Rd w 1 hv hs.length (u8s hs)) (hlen : hs.length ≤ 140737488355328) :
    Calls Try.prog 7 #[.agg #[hv, .slice none 0 0, .slice none 0 0, .slice none 0 0, .int .u8 0, .int .u8 0, .int .u8 0, .int .u8 0, .int .u8 0, .slice none 0 0, .slice none 0 0]] w fun e w' =>
      ∃ A0 n0 c0 RA rn rc, e = .returned (.agg #[.slice A0 n0 c0, .int .i64 1, .int .u64 1, .int .u64 1, .int .u64 1, .int .u64 2, .slice RA rn rc, .slice none 0 0]) ∧ Named w' (.slice A0 n0 c0) (mainB :: ((List.range (min (1 + hs.length) 3)).map hubB ++ [edgeB 0])) ∧ Below w.heap.size w w' := by
  obtain ⟨i0, hi, hz0, hz1, hz2⟩ := info_parts infoNode
  obtain ⟨A, c, rfl, hl, hn, hc, hr⟩ := hh
  unfold maxLen at hc
  go_enter Try.func7, Try.ntmps7
  go_wp2_with (at_builtin; refine wpl_stop fun W0 hW0 => ?_)
  refine Stopped.mk ?_
  have hH : Holds w [(w.heap.size + 3, #[.string mainB, .int .u8 1, .int .i64 (-1), .int .i64 0, .slice none 0 0], 85), (w.heap.size + 2, #[.slice none 0 0, .int .i64 1, .int .u64 1, .int .u64 1, .int .u64 1, .int .u64 2, .slice none 0 0, .slice none 0 0], 33),
      (w.heap.size + 1, #[.slice none 0 0, .int .i64 0, .int .u64 0, .int .u64 0, .int .u64 0, .int .u64 0, .slice none 0 0, .slice none 0 0], 33),
      (w.heap.size, #[.slice A hs.length c, .slice none 0 0, .slice none 0 0, .slice none 0 0, .int .u8 0, .int .u8 0, .int .u8 0, .int .u8 0, .int .u8 0, .slice none 0 0, .slice none 0 0], 40)] W0 := by
    rw [hW0]
    exact ((((Holds.nil w).new w.heap.size _ _ rfl).new (w.heap.size + 1) _ _ (by simp)).new (w.heap.size + 2) _ _ (by simp)).new (w.heap.size + 3) _ _ (by simp)
  have hb0 := hH.1
  have hBn : Blk W0 (w.heap.size + 3) #[.string mainB, .int .u8 1, .int .i64 (-1), .int .i64 0, .slice none 0 0] 85 := hH.2 _ (.head _)
  have hBt : Blk W0 (w.heap.size + 2) #[.slice none 0 0, .int .i64 1, .int .u64 1, .int .u64 1, .int .u64 1, .int .u64 2, .slice none 0 0, .slice none 0 0] 33 := hH.2 _ (.tail _ (.head _))
  have hBr : Blk W0 (w.heap.size + 1) #[.slice none 0 0, .int .i64 0, .int .u64 0, .int .u64 0, .int .u64 0, .int .u64 0, .slice none 0 0, .slice none 0 0] 33 := hH.2 _ (.tail _ (.tail _ (.head _)))
  have hBs : Blk W0 w.heap.size #[.slice A hs.length c, .slice none 0 0, .slice none 0 0, .slice none 0 0, .int .u8 0, .int .u8 0, .int .u8 0, .int .u8 0, .int .u8 0, .slice none 0 0, .slice none 0 0] 40 := hH.2 _ (.tail _ (.tail _ (.tail _ (.head _))))
  clear hW0 hH
  refine wpl_append_new rfl (.tmp 54) (.tmp 56) 26 rfl w.heap.size 85 i0 _ 5 64 Try.underlying26 hi hz0 hz1 hz2 rfl (by decide) (.slice none 0 0) 0 [] rfl (World.ownsRow_nil _ _ _ _) (w.heap.size + 3) 1 1 mainCells rfl rfl ?_ ?_ ?_ ?_ ?_ ?_
  · intro j u hj
    match j, hj with
    | 0, hj => simp [mainCells] at hj; subst hj; exact hBn.cell rfl
    | 1, hj => simp [mainCells] at hj; subst hj; exact hBn.cell rfl
    | 2, hj => simp [mainCells] at hj; subst hj; exact hBn.cell rfl
    | 3, hj => simp [mainCells] at hj; subst hj; exact hBn.cell rfl
    | 4, hj => simp [mainCells] at hj; subst hj; exact hBn.cell rfl
    | j + 5, hj => simp [mainCells] at hj
  · intro u hu; simp [mainCells] at hu; rcases hu with rfl | rfl | rfl | rfl | rfl <;> rfl
  · unfold maxLen; omega
  · omega
  · exact hb0.size
  intro v1 w1 hown1 hg1 _
  have hBt1 := hBt.grown hg1 (by simp [Value.ownBlock])
  have hBr1 := hBr.grown hg1 (by simp [Value.ownBlock])
  have hBs1 := hBs.grown hg1 (by simp [Value.ownBlock])
  have hb1 : Below w.heap.size w w1 := hb0.grown hg1 hb0.size (by simp [Value.ownBlock])
  obtain ⟨A1, cap1, rfl⟩ := owns_slice hown1
  clear hg1 hBt hBr hBs hBn hb0
  have t0 := hBt1.cell (j := 0) (v := .slice none 0 0) rfl
  have ft := hBt1.frozen
  have s0 := hBs1.cell (j := 0) (v := .slice A hs.length c) rfl
  obtain ⟨m, hm⟩ : ∃ m, m = min (1 + hs.length) 3 := ⟨_, rfl⟩
  have tm : min (1 + (hs.length : Int)) 3 = (m : Int) := by rw [hm]; omega
  have tm2 : min ((hs.length : Int) + 1) 3 = (m : Int) := by rw [hm]; omega
  have hm1 : 1 ≤ m ∧ m ≤ 3 := by omega
  have HM := Lib.hid hm; clear hm
  go_wp2_with fail
  refine wp_gen fun w2 hw2 => ?_
  have hBt2 : Blk w2 (w.heap.size + 1 + 1) #[.slice A1 1 cap1, .int .i64 1, .int .u64 1, .int .u64 1, .int .u64 1, .int .u64 2, .slice none 0 0, .slice none 0 0] 33 := by
    rw [hw2]; have := hBt1.set_ 0 (.slice A1 1 cap1); simpa using this
  have hBr2 : Blk w2 (w.heap.size + 1) #[.slice none 0 0, .int .i64 0, .int .u64 0, .int .u64 0, .int .u64 0, .int .u64 0, .slice none 0 0, .slice none 0 0] 33 := by rw [hw2]; exact hBr1.far (p := ⟨w.heap.size + 1 + 1, 0, none⟩) (by simp) _
  have hBs2 : Blk w2 w.heap.size #[.slice A hs.length c, .slice none 0 0, .slice none 0 0, .slice none 0 0, .int .u8 0, .int .u8 0, .int .u8 0, .int .u8 0, .int .u8 0, .slice none 0 0, .slice none 0 0] 40 := by rw [hw2]; exact hBs1.far (p := ⟨w.heap.size + 1 + 1, 0, none⟩) (by simp; omega) _
  have hb2 : Below w.heap.size w w2 := by rw [hw2]; exact hb1.setCell (p := ⟨w.heap.size + 1 + 1, 0, none⟩) (by simp; omega) _
  have hown2 : w2.ownsRow w.heap.size 85 5 (.slice A1 1 cap1) 1 mainCells := by rw [hw2]; simpa using owns_set hown1 hBt1 (by decide) 0 (.slice A1 1 cap1)
  clear hw2 hBt1 hBr1 hBs1 hb1 hown1 t0 ft s0
  go_loopw [5, 65] (fun h i wr => ∃ (k j : Nat) (A2 : Option Addr) (cap2 : Nat) (xs : List Value), k ≤ m ∧ i = .int .i64 k ∧ h = .int .i64 j ∧ 1 ≤ j ∧ j ≤ 3 ∧ wr.ownsRow w.heap.size 85 5 (.slice A2 (1 + k) cap2) (1 + k) xs ∧
      NamesOf xs (mainB :: (List.range k).map hubB) ∧ Blk wr (w.heap.size + 1 + 1) #[.slice A2 (1 + k) cap2, .int .i64 1, .int .u64 1, .int .u64 1, .int .u64 1, .int .u64 2, .slice none 0 0, .slice none 0 0] 33 ∧ Blk wr (w.heap.size + 1) #[.slice none 0 0, .int .i64 0, .int .u64 0, .int .u64 0, .int .u64 0, .int .u64 0, .slice none 0 0, .slice none 0 0] 33 ∧ Blk wr w.heap.size #[.slice A hs.length c, .slice none 0 0, .slice none 0 0, .slice none 0 0, .int .u8 0, .int .u8 0, .int .u8 0, .int .u8 0, .int .u8 0, .slice none 0 0, .slice none 0 0] 40 ∧ Below w.heap.size w wr)
    (fun _ i _ => m - (intOf i).toNat)
  case atStart =>
    exact ⟨0, 1, A1, cap1, mainCells, Nat.zero_le _, rfl, rfl, by omega, by omega, hown2, ⟨rfl, fun i t h => by cases i with | zero => simpa [mainCells] using h | succ i => simp at h⟩, hBt2, hBr2, hBs2, hb2⟩
  case round =>
    obtain ⟨k, j, A2, cap2, xs, hk, rfl, rfl, hj1, hj3, hown, hnames, hBt, hBr, hBs, hb⟩ := hrel
    by_cases hlt : k < m
    · have F : ∀ w', Below wr.heap.size wr w' → w'.cell? ⟨w.heap.size + 1 + 1, 0, none⟩ = some (.slice A2 (1 + k) cap2) := fun w' h => (hBt.below h hBt.lt).cell rfl
      have S : ∀ w' w'', Below wr.heap.size wr w' → Below w'.heap.size w' w'' → Below wr.heap.size wr w'' := fun w' w'' h h2 => h.trans (h2.mono h.size)
      have HN := Lib.hid hnames; clear hnames
      have t0 := hBt.cell (j := 0) (v := .slice A2 (1 + k) cap2) rfl
      have s0 := hBs.cell (j := 0) (v := .slice A hs.length c) rfl
      have hdec := decB_size k (by omega)
      have wk : IntKind.u64.wrap (k : Int) = (k : Int) := by rw [IntKind.wrap_u64]; omega
      have hkm : k ≤ hs.length := by have := HM.out; omega
      have hsplit : 0 < k ∨ ¬ 0 < k := by omega
      rcases hsplit with hk0 | hk0
      · obtain ⟨b, of, rfl, hat⟩ := hr (by omega)
        obtain ⟨xq, hx⟩ : ∃ xq, hs[k - 1]? = some xq := ⟨_, List.getElem?_eq_getElem (by omega)⟩
        have cx : wr.cell? ⟨b, of + (k - 1), none⟩ = some (.int .u8 (xq : Nat)) := (hat.below hb) _ _ (by simp [u8s, hx])
        have HX := Lib.hid hx; clear hx hr
        go_wp2_with fail
        refine region_free (fun w' => Below wr.heap.size wr w') [11] [12, 14] [0, 1, 2, 3, 4, 5, 6, 7, 8, 9, 10, 11, 13] (by kernel_rfl) (by kernel_rfl) (by kernel_rfl) (Below.refl _ _).drew ?_
        repeat (first
          | (refine RelSeq.pure_ (c := ?_) rfl rfl ?_ ?_; rotate_left; (focus (intro x w'; dsimp only; go_simp; (repeat' apply And.intro) <;> first | with_reducible rfl | assumption)); simp only [Act.put, List.setIfInBounds_toArray, List.set_cons_zero, List.set_cons_succ])
          | (refine RelSeq.grow_ (c := ?_) rfl rfl ?_ ?_; rotate_left; (focus (intro x w' hw _; dsimp only; obtain c0 := F w' hw; have hbr := Below.refl w'.heap.size w'; go_simp; (repeat' apply And.intro) <;> first | with_reducible rfl | assumption)); simp only [Act.put, List.setIfInBounds_toArray, List.set_cons_zero, List.set_cons_succ]))
        refine RelSeq.grow_ (c := ?_) rfl rfl ?_ ?_; rotate_left
        focus
          intro x w' hw _; dsimp only
          have hbr := Below.refl w'.heap.size w'
          go_simp
          (with_reducible refine (refItoa k w' (by omega)).mono ?_)
          rintro e w3 ⟨rfl, hb3⟩
          have hI := S w' w3 hw hb3
          go_simp
          (repeat' apply And.intro) <;> first | with_reducible rfl | assumption
        simp only [Act.put, List.setIfInBounds_toArray, List.set_cons_zero, List.set_cons_succ]
        repeat (first
          | (refine RelSeq.pure_ (c := ?_) rfl rfl ?_ ?_; rotate_left; (focus (intro x w'; dsimp only; go_simp; (try (split; (focus (exfalso; omega)); go_simp)); (repeat' apply And.intro) <;> first | with_reducible rfl | assumption)); simp only [Act.put, List.setIfInBounds_toArray, List.set_cons_zero, List.set_cons_succ])
          | (refine RelSeq.grow_ (c := ?_) rfl rfl ?_ ?_; rotate_left; (focus (intro x w' hw _; dsimp only; obtain c0 := F w' hw; have hbr := Below.refl w'.heap.size w'; go_simp; (repeat' apply And.intro) <;> first | with_reducible rfl | assumption)); simp only [Act.put, List.setIfInBounds_toArray, List.set_cons_zero, List.set_cons_succ]))
        refine RelSeq.grow_ (c := ?_) rfl rfl ?_ ?_; rotate_left
        focus
          intro x w' hw _; dsimp only
          have hbr := Below.refl w'.heap.size w'
          go_simp
          (with_reducible refine (quotaNil _ _ _ _ _ _ _ _ _ _ w.heap.size k w' (hBs.below hw hBs.lt)).mono ?_)
          rintro e w3 ⟨rfl, rfl⟩
          go_simp
          (repeat' apply And.intro) <;> first | with_reducible rfl | assumption
        simp only [Act.put, List.setIfInBounds_toArray, List.set_cons_zero, List.set_cons_succ]
        repeat (first
          | (refine RelSeq.pure_ (c := ?_) rfl rfl ?_ ?_; rotate_left; (focus (intro x w'; dsimp only; go_simp; (try (split; (focus (exfalso; omega)); go_simp)); (repeat' apply And.intro) <;> first | with_reducible rfl | assumption)); simp only [Act.put, List.setIfInBounds_toArray, List.set_cons_zero, List.set_cons_succ])
          | (refine RelSeq.grow_ (c := ?_) rfl rfl ?_ ?_; rotate_left; (focus (intro x w' hw _; dsimp only; obtain c0 := F w' hw; have hbr := Below.refl w'.heap.size w'; go_simp; (repeat' apply And.intro) <;> first | with_reducible rfl | assumption)); simp only [Act.put, List.setIfInBounds_toArray, List.set_cons_zero, List.set_cons_succ]))
        refine RelSeq.rel_ (NewSl w.heap.size 1 #[.string (hubB k), .int .u8 2, .int .i64 ((wrap64 (xq : Int)).tmod ((k : Int) + 1)), .int .i64 1000, .slice none 0 0] 85) rfl rfl NewSl.stable ?_ ?_
        focus
          intro x w' hw _; dsimp only
          have hba : Below w'.heap.size w' (w'.alloc (.cells #[.string (hubB k), .int .u8 2, .int .i64 ((wrap64 (xq : Int)).tmod ((k : Int) + 1)), .int .i64 1000, .slice none 0 0] 85)) := (Below.refl _ _).alloc (Nat.le_refl _) _
          have hI := S w' _ hw hba
          have hsz : w.heap.size ≤ w'.heap.size := Nat.le_trans hb.size hw.size
          unfold hubB at *
          go_simp
          (repeat' apply And.intro) <;> first | assumption | exact ⟨_, rfl, hsz, Blk.new _ _ _⟩
        simp only [Act.put, List.setIfInBounds_toArray, List.set_cons_zero, List.set_cons_succ, List.nil_append]
        repeat (first
          | (refine RelSeq.pure_ (c := ?_) rfl rfl ?_ ?_; rotate_left; (focus (intro x w'; dsimp only; go_simp; (try (split; (focus (exfalso; omega)); go_simp)); (repeat' apply And.intro) <;> first | with_reducible rfl | assumption)); simp only [Act.put, List.setIfInBounds_toArray, List.set_cons_zero, List.set_cons_succ])
          | (refine RelSeq.grow_ (c := ?_) rfl rfl ?_ ?_; rotate_left; (focus (intro x w' hw _; dsimp only; obtain c0 := F w' hw; have hbr := Below.refl w'.heap.size w'; go_simp; (repeat' apply And.intro) <;> first | with_reducible rfl | assumption)); simp only [Act.put, List.setIfInBounds_toArray, List.set_cons_zero, List.set_cons_succ]))
        refine RelSeq.nil_ fun y w3 hw hf => ?_
        obtain ⟨b57, e57, hb57, hB57⟩ := hf _ (.head _)
        clear hf F S
        refine TailSeq.cons_ rfl ?_
        have hown3 := owns_below hown hw
        have hBt3 := hBt.below hw hBt.lt
        have hBr3 := hBr.below hw hBr.lt
        have hBs3 := hBs.below hw hBs.lt
        have hb3 : Below w.heap.size w w3 := hb.trans (hw.mono hb.size)
        refine wp_append_new (.tmp 81) (.tmp 91) 26 rfl w.heap.size 85 i0 _ 5 64 Try.underlying26 hi hz0 hz1 hz2 rfl (by decide) (.slice A2 (1 + k) cap2) _ _ rfl hown3 b57 1 1 [.string (hubB k), .int .u8 2, .int .i64 ((wrap64 (xq : Int)).tmod ((k : Int) + 1)), .int .i64 1000, .slice none 0 0] (by exact e57) rfl ?_ ?_ ?_ ?_ ?_ ?_
        · intro j u hj
          match j, hj with
          | 0, hj => simp at hj; subst hj; exact hB57.cell rfl
          | 1, hj => simp at hj; subst hj; exact hB57.cell rfl
          | 2, hj => simp at hj; subst hj; exact hB57.cell rfl
          | 3, hj => simp at hj; subst hj; exact hB57.cell rfl
          | 4, hj => simp at hj; subst hj; exact hB57.cell rfl
          | j + 5, hj => simp at hj
        · intro u hu; simp at hu; rcases hu with rfl | rfl | rfl | rfl | rfl <;> rfl
        · unfold maxLen; omega
        · omega
        · exact hb3.size
        intro v4 w4 hown4 hgrow hat4
        refine ⟨rfl, ?_⟩
        have hBt4 := hBt3.grown hgrow (owns_ne hown3 hBt3 (by decide))
        have hBr4 := hBr3.grown hgrow (owns_ne hown3 hBr3 (by decide))
        have hBs4 := hBs3.grown hgrow (owns_ne hown3 hBs3 (by decide))
        have hb4 : Below w.heap.size w w4 := hb3.grown hgrow hb3.size (fun q hq => (hown3.lt q hq).1)
        clear hBt3 hBr3 hBs3 hb3 hgrow hat4 hB57 e57 hown3 hw hown hBt hBr hBs hb t0 s0
        simp only [out, Act.put, List.setIfInBounds_toArray, List.set_cons_zero, List.set_cons_succ]
        refine TailSeq.cons_ rfl ?_
        have d2 := hBt4.cell (j := 0) (v := .slice A2 (1 + k) cap2) rfl
        have f2 := hBt4.frozen 0
        obtain ⟨A4, cap4, rfl⟩ := owns_slice hown4
        go_simp
        refine TailSeq.nil_gen fun w5 hw5 => ?_
        have hBt5 : Blk w5 (w.heap.size + 1 + 1) #[.slice A4 (1 + (k + 1)) cap4, .int .i64 1, .int .u64 1, .int .u64 1, .int .u64 1, .int .u64 2, .slice none 0 0, .slice none 0 0] 33 := by
          rw [hw5]; have := hBt4.set_ 0 (.slice A4 (1 + (k + 1)) cap4); simpa [Nat.add_assoc] using this
        have hown5 : w5.ownsRow w.heap.size 85 5 (.slice A4 (1 + (k + 1)) cap4) (1 + (k + 1)) (xs ++ [.string (hubB k), .int .u8 2, .int .i64 ((wrap64 (xq : Int)).tmod ((k : Int) + 1)), .int .i64 1000, .slice none 0 0]) := by
          rw [hw5]; simpa [Nat.add_assoc] using owns_set hown4 hBt4 (by decide) 0 (.slice A4 (1 + (k + 1)) cap4)
        have hBr5 : Blk w5 (w.heap.size + 1) #[.slice none 0 0, .int .i64 0, .int .u64 0, .int .u64 0, .int .u64 0, .int .u64 0, .slice none 0 0, .slice none 0 0] 33 := by rw [hw5]; exact hBr4.far (p := ⟨w.heap.size + 1 + 1, 0, none⟩) (by simp) _
        have hBs5 : Blk w5 w.heap.size #[.slice (some ⟨b, of, none⟩) hs.length c, .slice none 0 0, .slice none 0 0, .slice none 0 0, .int .u8 0, .int .u8 0, .int .u8 0, .int .u8 0, .int .u8 0, .slice none 0 0, .slice none 0 0] 40 := by rw [hw5]; exact hBs4.far (p := ⟨w.heap.size + 1 + 1, 0, none⟩) (by simp; omega) _
        have hb5 : Below w.heap.size w w5 := by rw [hw5]; exact hb4.setCell (p := ⟨w.heap.size + 1 + 1, 0, none⟩) (by simp; omega) _
        clear hw5 hBt4 hBr4 hBs4 hb4 hown4 d2 f2
        go_wp2_with fail
        go_roundw
        case rel =>
          refine ⟨k + 1, k + 1, A4, cap4, _, by omega, by go_num, by go_num, by omega, by omega, hown5, ?_, hBt5, hBr5, hBs5, hb5⟩
          rw [List.range_succ, List.map_append, ← List.cons_append]
          exact HN.out.snoc _ _ _ _ _
        case measure => simp [intOf]; omega
      · clear hr
        go_wp2_with fail
        refine region_free (fun w' => Below wr.heap.size wr w') [11] [12, 14] [0, 1, 2, 3, 4, 5, 6, 7, 8, 9, 10, 11, 13] (by kernel_rfl) (by kernel_rfl) (by kernel_rfl) (Below.refl _ _).drew ?_
        repeat (first
          | (refine RelSeq.pure_ (c := ?_) rfl rfl ?_ ?_; rotate_left; (focus (intro x w'; dsimp only; go_simp; (repeat' apply And.intro) <;> first | with_reducible rfl | assumption)); simp only [Act.put, List.setIfInBounds_toArray, List.set_cons_zero, List.set_cons_succ])
          | (refine RelSeq.grow_ (c := ?_) rfl rfl ?_ ?_; rotate_left; (focus (intro x w' hw _; dsimp only; obtain c0 := F w' hw; have hbr := Below.refl w'.heap.size w'; go_simp; (repeat' apply And.intro) <;> first | with_reducible rfl | assumption)); simp only [Act.put, List.setIfInBounds_toArray, List.set_cons_zero, List.set_cons_succ]))
        refine RelSeq.grow_ (c := ?_) rfl rfl ?_ ?_; rotate_left
        focus
          intro x w' hw _; dsimp only
          have hbr := Below.refl w'.heap.size w'
          go_simp
          (with_reducible refine (refItoa k w' (by omega)).mono ?_)
          rintro e w3 ⟨rfl, hb3⟩
          have hI := S w' w3 hw hb3
          go_simp
          (repeat' apply And.intro) <;> first | with_reducible rfl | assumption
        simp only [Act.put, List.setIfInBounds_toArray, List.set_cons_zero, List.set_cons_succ]
        repeat (first
          | (refine RelSeq.pure_ (c := ?_) rfl rfl ?_ ?_; rotate_left; (focus (intro x w'; dsimp only; go_simp; (try (split; (focus (exfalso; omega)); go_simp)); (repeat' apply And.intro) <;> first | with_reducible rfl | assumption)); simp only [Act.put, List.setIfInBounds_toArray, List.set_cons_zero, List.set_cons_succ])
          | (refine RelSeq.grow_ (c := ?_) rfl rfl ?_ ?_; rotate_left; (focus (intro x w' hw _; dsimp only; obtain c0 := F w' hw; have hbr := Below.refl w'.heap.size w'; go_simp; (repeat' apply And.intro) <;> first | with_reducible rfl | assumption)); simp only [Act.put, List.setIfInBounds_toArray, List.set_cons_zero, List.set_cons_succ]))
        refine RelSeq.grow_ (c := ?_) rfl rfl ?_ ?_; rotate_left
        focus
          intro x w' hw _; dsimp only
          have hbr := Below.refl w'.heap.size w'
          go_simp
          (with_reducible refine (quotaNil _ _ _ _ _ _ _ _ _ _ w.heap.size k w' (hBs.below hw hBs.lt)).mono ?_)
          rintro e w3 ⟨rfl, rfl⟩
          go_simp
          (repeat' apply And.intro) <;> first | with_reducible rfl | assumption
        simp only [Act.put, List.setIfInBounds_toArray, List.set_cons_zero, List.set_cons_succ]
        repeat (first
          | (refine RelSeq.pure_ (c := ?_) rfl rfl ?_ ?_; rotate_left; (focus (intro x w'; dsimp only; go_simp; (try (split; (focus (exfalso; omega)); go_simp)); (repeat' apply And.intro) <;> first | with_reducible rfl | assumption)); simp only [Act.put, List.setIfInBounds_toArray, List.set_cons_zero, List.set_cons_succ])
          | (refine RelSeq.grow_ (c := ?_) rfl rfl ?_ ?_; rotate_left; (focus (intro x w' hw _; dsimp only; obtain c0 := F w' hw; have hbr := Below.refl w'.heap.size w'; go_simp; (repeat' apply And.intro) <;> first | with_reducible rfl | assumption)); simp only [Act.put, List.setIfInBounds_toArray, List.set_cons_zero, List.set_cons_succ]))
        refine RelSeq.rel_ (NewSl w.heap.size 1 #[.string (hubB k), .int .u8 2, .int .i64 0, .int .i64 1000, .slice none 0 0] 85) rfl rfl NewSl.stable ?_ ?_
        focus
          intro x w' hw _; dsimp only
          have hba : Below w'.heap.size w' (w'.alloc (.cells #[.string (hubB k), .int .u8 2, .int .i64 0, .int .i64 1000, .slice none 0 0] 85)) := (Below.refl _ _).alloc (Nat.le_refl _) _
          have hI := S w' _ hw hba
          have hsz : w.heap.size ≤ w'.heap.size := Nat.le_trans hb.size hw.size
          unfold hubB at *
          go_simp
          (repeat' apply And.intro) <;> first | assumption | exact ⟨_, rfl, hsz, Blk.new _ _ _⟩
        simp only [Act.put, List.setIfInBounds_toArray, List.set_cons_zero, List.set_cons_succ, List.nil_append]
        repeat (first
          | (refine RelSeq.pure_ (c := ?_) rfl rfl ?_ ?_; rotate_left; (focus (intro x w'; dsimp only; go_simp; (try (split; (focus (exfalso; omega)); go_simp)); (repeat' apply And.intro) <;> first | with_reducible rfl | assumption)); simp only [Act.put, List.setIfInBounds_toArray, List.set_cons_zero, List.set_cons_succ])
          | (refine RelSeq.grow_ (c := ?_) rfl rfl ?_ ?_; rotate_left; (focus (intro x w' hw _; dsimp only; obtain c0 := F w' hw; have hbr := Below.refl w'.heap.size w'; go_simp; (repeat' apply And.intro) <;> first | with_reducible rfl | assumption)); simp only [Act.put, List.setIfInBounds_toArray, List.set_cons_zero, List.set_cons_succ]))
        refine RelSeq.nil_ fun y w3 hw hf => ?_
        obtain ⟨b57, e57, hb57, hB57⟩ := hf _ (.head _)
        clear hf F S
        refine TailSeq.cons_ rfl ?_
        have hown3 := owns_below hown hw
        have hBt3 := hBt.below hw hBt.lt
        have hBr3 := hBr.below hw hBr.lt
        have hBs3 := hBs.below hw hBs.lt
        have hb3 : Below w.heap.size w w3 := hb.trans (hw.mono hb.size)
        refine wp_append_new (.tmp 81) (.tmp 91) 26 rfl w.heap.size 85 i0 _ 5 64 Try.underlying26 hi hz0 hz1 hz2 rfl (by decide) (.slice A2 (1 + k) cap2) _ _ rfl hown3 b57 1 1 [.string (hubB k), .int .u8 2, .int .i64 0, .int .i64 1000, .slice none 0 0] (by exact e57) rfl ?_ ?_ ?_ ?_ ?_ ?_
        · intro j u hj
          match j, hj with
          | 0, hj => simp at hj; subst hj; exact hB57.cell rfl
          | 1, hj => simp at hj; subst hj; exact hB57.cell rfl
          | 2, hj => simp at hj; subst hj; exact hB57.cell rfl
          | 3, hj => simp at hj; subst hj; exact hB57.cell rfl
          | 4, hj => simp at hj; subst hj; exact hB57.cell rfl
          | j + 5, hj => simp at hj
        · intro u hu; simp at hu; rcases hu with rfl | rfl | rfl | rfl | rfl <;> rfl
        · unfold maxLen; omega
        · omega
        · exact hb3.size
        intro v4 w4 hown4 hgrow hat4
        refine ⟨rfl, ?_⟩
        have hBt4 := hBt3.grown hgrow (owns_ne hown3 hBt3 (by decide))
        have hBr4 := hBr3.grown hgrow (owns_ne hown3 hBr3 (by decide))
        have hBs4 := hBs3.grown hgrow (owns_ne hown3 hBs3 (by decide))
        have hb4 : Below w.heap.size w w4 := hb3.grown hgrow hb3.size (fun q hq => (hown3.lt q hq).1)
        clear hBt3 hBr3 hBs3 hb3 hgrow hat4 hB57 e57 hown3 hw hown hBt hBr hBs hb t0 s0
        simp only [out, Act.put, List.setIfInBounds_toArray, List.set_cons_zero, List.set_cons_succ]
        refine TailSeq.cons_ rfl ?_
        have d2 := hBt4.cell (j := 0) (v := .slice A2 (1 + k) cap2) rfl
        have f2 := hBt4.frozen 0
        obtain ⟨A4, cap4, rfl⟩ := owns_slice hown4
        go_simp
        refine TailSeq.nil_gen fun w5 hw5 => ?_
        have hBt5 : Blk w5 (w.heap.size + 1 + 1) #[.slice A4 (1 + (k + 1)) cap4, .int .i64 1, .int .u64 1, .int .u64 1, .int .u64 1, .int .u64 2, .slice none 0 0, .slice none 0 0] 33 := by
          rw [hw5]; have := hBt4.set_ 0 (.slice A4 (1 + (k + 1)) cap4); simpa [Nat.add_assoc] using this
        have hown5 : w5.ownsRow w.heap.size 85 5 (.slice A4 (1 + (k + 1)) cap4) (1 + (k + 1)) (xs ++ [.string (hubB k), .int .u8 2, .int .i64 0, .int .i64 1000, .slice none 0 0]) := by
          rw [hw5]; simpa [Nat.add_assoc] using owns_set hown4 hBt4 (by decide) 0 (.slice A4 (1 + (k + 1)) cap4)
        have hBr5 : Blk w5 (w.heap.size + 1) #[.slice none 0 0, .int .i64 0, .int .u64 0, .int .u64 0, .int .u64 0, .int .u64 0, .slice none 0 0, .slice none 0 0] 33 := by rw [hw5]; exact hBr4.far (p := ⟨w.heap.size + 1 + 1, 0, none⟩) (by simp) _
        have hBs5 : Blk w5 w.heap.size #[.slice A hs.length c, .slice none 0 0, .slice none 0 0, .slice none 0 0, .int .u8 0, .int .u8 0, .int .u8 0, .int .u8 0, .int .u8 0, .slice none 0 0, .slice none 0 0] 40 := by rw [hw5]; exact hBs4.far (p := ⟨w.heap.size + 1 + 1, 0, none⟩) (by simp; omega) _
        have hb5 : Below w.heap.size w w5 := by rw [hw5]; exact hb4.setCell (p := ⟨w.heap.size + 1 + 1, 0, none⟩) (by simp; omega) _
        clear hw5 hBt4 hBr4 hBs4 hb4 hown4 d2 f2
        go_wp2_with fail
        go_roundw
        case rel =>
          refine ⟨k + 1, k + 1, A4, cap4, _, by omega, by go_num, by go_num, by omega, by omega, hown5, ?_, hBt5, hBr5, hBs5, hb5⟩
          rw [List.range_succ, List.map_append, ← List.cons_append]
          exact HN.out.snoc _ _ _ _ _
        case measure => simp [intOf]; omega
    · have hkm2 : (m : Int) ≤ k := by omega
      have HN := Lib.hid hnames; clear hr hnames
      have t0 := hBt.cell (j := 0) (v := .slice A2 (1 + k) cap2) rfl
      have s1 := hBs.cell (j := 1) (v := .slice none 0 0) rfl
      have s3 := hBs.cell (j := 3) (v := .slice none 0 0) rfl
      go_wp2_with fail
      (with_reducible refine (listNil _).mono ?_)
      rintro e w3 ⟨rfl, hb3⟩
      have hBt3 := hBt.below hb3 hBt.lt
      have hBr3 := hBr.below hb3 hBr.lt
      have hBs3 := hBs.below hb3 hBs.lt
      have hown3 := owns_below hown hb3
      have hbe3 : Below w.heap.size w w3 := hb.trans (hb3.mono hb.size)
      clear hBt hBr hBs hown hb hb3 t0 s1 s3
      have s1 := hBs3.cell (j := 1) (v := .slice none 0 0) rfl
      go_wp2_with fail
      refine wp_loop_rounds 2 ?_
      rw [rounds_succ]
      go_wp2_with fail
      have hI0 : ∀ W : World, Calls Try.prog 11 #[.int .u64 0] W fun e w' => e = .returned (.string (decB 0)) ∧ Below W.heap.size W w' := fun W => refItoa 0 W (by decide)
      (with_reducible refine (hI0 _).mono ?_)
      rintro e w4 ⟨rfl, hb4⟩
      have hBt4 := hBt3.below hb4 hBt3.lt
      have hBr4 := hBr3.below hb4 hBr3.lt
      have hBs4 := hBs3.below hb4 hBs3.lt
      have hown4 := owns_below hown3 hb4
      have hbe4 : Below w.heap.size w w4 := hbe3.trans (hb4.mono hbe3.size)
      clear hBt3 hBr3 hBs3 hown3 hbe3 hb4 s1
      have hdec := decB_size 0 (by decide)
      go_wp2_with fail
      have hQ3 : Calls Try.prog 25 #[.int .i64 3, .pointer (some ⟨w.heap.size, 0, none⟩)] w4 fun e w' => e = .returned (.int .i64 1000) ∧ w4 = w' := quotaNil _ _ _ _ _ _ _ _ _ _ _ 3 _ hBs4
      (with_reducible refine hQ3.mono ?_)
      rintro e w5 ⟨rfl, rfl⟩
      have t0 := hBt4.cell (j := 0) (v := .slice A2 (1 + k) cap2) rfl
      go_wp2_with fail
      have hlt4 : w.heap.size + 1 + 1 < w4.heap.size := hBt4.lt
      refine wp_loop_rounds 1 ?_
      rw [rounds_succ]
      go_wp2_with (at_builtin; refine wpl_stop fun W5 hW5 => ?_)
      refine Stopped.mk ?_
      have hH5 : Holds w4 [(w4.heap.size + 1, #[.string (edgeB 0), .int .u8 3, .int .i64 1, .int .i64 1000, .slice none 0 0], 85), (w4.heap.size, #[.string (edgeB 0), .int .u8 3, .int .i64 1, .int .i64 1000, .slice none 0 0], 85)] W5 := by
        rw [hW5]
        exact ((Holds.nil w4).new w4.heap.size _ _ rfl).new (w4.heap.size + 1) _ _ (by simp)
      have hb5 := hH5.1
      have hBn5 : Blk W5 (w4.heap.size + 1) #[.string (edgeB 0), .int .u8 3, .int .i64 1, .int .i64 1000, .slice none 0 0] 85 := hH5.2 _ (.head _)
      have hBt5 := hBt4.below hb5 hBt4.lt
      have hBr5 := hBr4.below hb5 hBr4.lt
      have hBs5 := hBs4.below hb5 hBs4.lt
      have hown5 := owns_below hown4 hb5
      have hbe5 : Below w.heap.size w W5 := hbe4.trans (hb5.mono hbe4.size)
      have e0 : ({ data := #[101, 100, 103, 101] } : ByteArray) ++ decB 0 = edgeB 0 := rfl
      clear hW5 hH5 hBt4 hBr4 hBs4 hown4 hbe4 t0
      refine wpl_append_new rfl (.tmp 154) (.tmp 156) 26 rfl w.heap.size 85 i0 _ 5 64 Try.underlying26 hi hz0 hz1 hz2 rfl (by decide) (.slice A2 (1 + k) cap2) (1 + k) xs rfl hown5 (w4.heap.size + 1) 1 1 [.string (edgeB 0), .int .u8 3, .int .i64 1, .int .i64 1000, .slice none 0 0] rfl rfl ?_ ?_ ?_ ?_ ?_ ?_
      · intro j u hj
        match j, hj with
        | 0, hj => simp at hj; subst hj; exact hBn5.cell rfl
        | 1, hj => simp at hj; subst hj; exact hBn5.cell rfl
        | 2, hj => simp at hj; subst hj; exact hBn5.cell rfl
        | 3, hj => simp at hj; subst hj; exact hBn5.cell rfl
        | 4, hj => simp at hj; subst hj; exact hBn5.cell rfl
        | j + 5, hj => simp at hj
      · intro u hu; simp at hu; rcases hu with rfl | rfl | rfl | rfl | rfl <;> rfl
      · unfold maxLen; omega
      · omega
      · exact hbe5.size
      intro v6 w6 hown6 hgrow _
      have hBt6 := hBt5.grown hgrow (owns_ne hown5 hBt5 (by decide))
      have hBr6 := hBr5.grown hgrow (owns_ne hown5 hBr5 (by decide))
      have hBs6 := hBs5.grown hgrow (owns_ne hown5 hBs5 (by decide))
      have hbe6 : Below w.heap.size w w6 := hbe5.grown hgrow hbe5.size (fun q hq => (hown5.lt q hq).1)
      obtain ⟨A6, cap6, rfl⟩ := owns_slice hown6
      clear hgrow hown5 hBt5 hBr5 hBs5 hbe5 hBn5
      have t0 := hBt6.cell (j := 0) (v := .slice A2 (1 + k) cap2) rfl
      have ft := hBt6.frozen
      go_wp2_with fail
      rw [rounds_succ]
      have s9 := hBs6.cell (j := 9) (v := .slice none 0 0) rfl
      go_wp2_with fail
      (with_reducible refine (nodesNil _).mono ?_)
      generalize hw7 : w6.setCell ⟨w.heap.size + 1 + 1, 0, none⟩ (.slice A6 (1 + k + 1) cap6) = w7
      have hBt7 : Blk w7 (w.heap.size + 1 + 1) #[.slice A6 (1 + k + 1) cap6, .int .i64 1, .int .u64 1, .int .u64 1, .int .u64 1, .int .u64 2, .slice none 0 0, .slice none 0 0] 33 := by
        rw [← hw7]; have := hBt6.set_ 0 (.slice A6 (1 + k + 1) cap6); simpa using this
      have hown7 : w7.ownsRow w.heap.size 85 5 (.slice A6 (1 + k + 1) cap6) (1 + k + 1) (xs ++ [.string (edgeB 0), .int .u8 3, .int .i64 1, .int .i64 1000, .slice none 0 0]) := by
        rw [← hw7]; exact owns_set hown6 hBt6 (by decide) 0 (.slice A6 (1 + k + 1) cap6)
      have hBr7 : Blk w7 (w.heap.size + 1) #[.slice none 0 0, .int .i64 0, .int .u64 0, .int .u64 0, .int .u64 0, .int .u64 0, .slice none 0 0, .slice none 0 0] 33 := by rw [← hw7]; exact hBr6.far (p := ⟨w.heap.size + 1 + 1, 0, none⟩) (by simp) _
      have hBs7 : Blk w7 w.heap.size #[.slice A hs.length c, .slice none 0 0, .slice none 0 0, .slice none 0 0, .int .u8 0, .int .u8 0, .int .u8 0, .int .u8 0, .int .u8 0, .slice none 0 0, .slice none 0 0] 40 := by rw [← hw7]; exact hBs6.far (p := ⟨w.heap.size + 1 + 1, 0, none⟩) (by simp; omega) _
      have hbe7 : Below w.heap.size w w7 := by rw [← hw7]; exact hbe6.setCell (p := ⟨w.heap.size + 1 + 1, 0, none⟩) (by simp; omega) _
      clear hw7 hBt6 hBr6 hBs6 hbe6 hown6 t0 ft s9
      rintro e w8 ⟨RA, rn, rc, rfl, hb8⟩
      have hBt8 := hBt7.below hb8 hBt7.lt
      have hBr8 := hBr7.below hb8 hBr7.lt
      have hBs8 := hBs7.below hb8 hBs7.lt
      have hown8 := owns_below hown7 hb8
      have hbe8 : Below w.heap.size w w8 := hbe7.trans (hb8.mono hbe7.size)
      clear hBt7 hBr7 hBs7 hown7 hbe7 hb8
      have s10 := hBs8.cell (j := 10) (v := .slice none 0 0) rfl
      have t6 := hBt8.cell (j := 6) (v := .slice none 0 0) rfl
      have ft := hBt8.frozen
      go_wp2_with fail
      refine wp_loop_rounds 1 ?_
      rw [rounds_succ]
      generalize hw9 : w8.setCell ⟨w.heap.size + 1 + 1, 6, none⟩ (.slice RA rn rc) = w9
      have hBt9 : Blk w9 (w.heap.size + 1 + 1) #[.slice A6 (1 + k + 1) cap6, .int .i64 1, .int .u64 1, .int .u64 1, .int .u64 1, .int .u64 2, .slice RA rn rc, .slice none 0 0] 33 := by
        rw [← hw9]; have := hBt8.set_ 6 (.slice RA rn rc); simpa using this
      have hown9 : w9.ownsRow w.heap.size 85 5 (.slice A6 (1 + k + 1) cap6) (1 + k + 1) (xs ++ [.string (edgeB 0), .int .u8 3, .int .i64 1, .int .i64 1000, .slice none 0 0]) := by
        rw [← hw9]; exact owns_set hown8 hBt8 (by decide) 6 (.slice RA rn rc)
      have hBr9 : Blk w9 (w.heap.size + 1) #[.slice none 0 0, .int .i64 0, .int .u64 0, .int .u64 0, .int .u64 0, .int .u64 0, .slice none 0 0, .slice none 0 0] 33 := by rw [← hw9]; exact hBr8.far (p := ⟨w.heap.size + 1 + 1, 6, none⟩) (by simp) _
      have hbe9 : Below w.heap.size w w9 := by rw [← hw9]; exact hbe8.setCell (p := ⟨w.heap.size + 1 + 1, 6, none⟩) (by simp; omega) _
      clear hw9 hBt8 hBr8 hBs8 hbe8 hown8 s10 t6 ft
      have t0 := hBt9.cell (j := 0) (v := .slice A6 (1 + k + 1) cap6) rfl
      have t1 := hBt9.cell (j := 1) (v := .int .i64 1) rfl
      have t2 := hBt9.cell (j := 2) (v := .int .u64 1) rfl
      have t3 := hBt9.cell (j := 3) (v := .int .u64 1) rfl
      have t4 := hBt9.cell (j := 4) (v := .int .u64 1) rfl
      have t5 := hBt9.cell (j := 5) (v := .int .u64 2) rfl
      have t6 := hBt9.cell (j := 6) (v := .slice RA rn rc) rfl
      have t7 := hBt9.cell (j := 7) (v := .slice none 0 0) rfl
      have r0 := hBr9.cell (j := 0) (v := .slice none 0 0) rfl
      have r1 := hBr9.cell (j := 1) (v := .int .i64 0) rfl
      have r2 := hBr9.cell (j := 2) (v := .int .u64 0) rfl
      have r3 := hBr9.cell (j := 3) (v := .int .u64 0) rfl
      have r4 := hBr9.cell (j := 4) (v := .int .u64 0) rfl
      have r5 := hBr9.cell (j := 5) (v := .int .u64 0) rfl
      have r6 := hBr9.cell (j := 6) (v := .slice none 0 0) rfl
      have r7 := hBr9.cell (j := 7) (v := .slice none 0 0) rfl
      have fr := hBr9.frozen
      go_wp2_with fail
      refine bodyPost_gen fun w10 hw10 => ?_
      have hBo : Blk w10 (w.heap.size + 1) #[.slice A6 (1 + k + 1) cap6, .int .i64 1, .int .u64 1, .int .u64 1, .int .u64 1, .int .u64 2, .slice RA rn rc, .slice none 0 0] 33 := by
        rw [hw10]; have := ((((((((hBr9.set_ 0 (.slice A6 (1 + k + 1) cap6)).set_ 1 (.int .i64 1)).set_ 2 (.int .u64 1)).set_ 3 (.int .u64 1)).set_ 4 (.int .u64 1)).set_ 5 (.int .u64 2)).set_ 6 (.slice RA rn rc)).set_ 7 (.slice none 0 0)); simpa using this
      have hbe10 : Below w.heap.size w w10 := by
        rw [hw10]; exact ((((((((hbe9.setCell (p := ⟨w.heap.size + 1, 0, none⟩) (Nat.le_succ _) _).setCell (p := ⟨w.heap.size + 1, 1, none⟩) (Nat.le_succ _) _).setCell (p := ⟨w.heap.size + 1, 2, none⟩) (Nat.le_succ _) _).setCell (p := ⟨w.heap.size + 1, 3, none⟩) (Nat.le_succ _) _).setCell (p := ⟨w.heap.size + 1, 4, none⟩) (Nat.le_succ _) _).setCell (p := ⟨w.heap.size + 1, 5, none⟩) (Nat.le_succ _) _).setCell (p := ⟨w.heap.size + 1, 6, none⟩) (Nat.le_succ _) _).setCell (p := ⟨w.heap.size + 1, 7, none⟩) (Nat.le_succ _) _)
      have hrd : Rd w10 5 (.slice A6 (1 + k + 1) cap6) (1 + k + 1) (xs ++ [.string (edgeB 0), .int .u8 3, .int .i64 1, .int .i64 1000, .slice none 0 0]) := by
        rw [hw10]
        have e1 := owns_set hown9 hBr9 (by decide) 0 (.slice A6 (1 + k + 1) cap6)
        have b1 := hBr9.set_ 0 (.slice A6 (1 + k + 1) cap6)
        have e2 := owns_set e1 b1 (by decide) 1 (.int .i64 1)
        have b2 := b1.set_ 1 (.int .i64 1)
        have e3 := owns_set e2 b2 (by decide) 2 (.int .u64 1)
        have b3 := b2.set_ 2 (.int .u64 1)
        have e4 := owns_set e3 b3 (by decide) 3 (.int .u64 1)
        have b4 := b3.set_ 3 (.int .u64 1)
        have e5 := owns_set e4 b4 (by decide) 4 (.int .u64 1)
        have b5 := b4.set_ 4 (.int .u64 1)
        have e6 := owns_set e5 b5 (by decide) 5 (.int .u64 2)
        have b6 := b5.set_ 5 (.int .u64 2)
        have e7 := owns_set e6 b6 (by decide) 6 (.slice RA rn rc)
        have b7 := b6.set_ 6 (.slice RA rn rc)
        exact rd_of_owns (owns_set e7 b7 (by decide) 7 (.slice none 0 0))
      clear hw10 t0 r0 t1 r1 t2 r2 t3 r3 t4 r4 t5 r5 t6 r6 t7 r7 fr hBt9 hBr9 hbe9 hown9
      have t0 := hBo.cell (j := 0) (v := .slice A6 (1 + k + 1) cap6) rfl
      have t1 := hBo.cell (j := 1) (v := .int .i64 1) rfl
      have t2 := hBo.cell (j := 2) (v := .int .u64 1) rfl
      have t3 := hBo.cell (j := 3) (v := .int .u64 1) rfl
      have t4 := hBo.cell (j := 4) (v := .int .u64 1) rfl
      have t5 := hBo.cell (j := 5) (v := .int .u64 2) rfl
      have t6 := hBo.cell (j := 6) (v := .slice RA rn rc) rfl
      have t7 := hBo.cell (j := 7) (v := .slice none 0 0) rfl
      have hk9 : k = m := by omega
      have hnm : Named w10 (.slice A6 (1 + k + 1) cap6) (mainB :: ((List.range (min (1 + hs.length) 3)).map hubB ++ [edgeB 0])) := by
        have hm := HM.out
        have := HN.out.snoc (edgeB 0) (.int .u8 3) (.int .i64 1) (.int .i64 1000) (.slice none 0 0)
        rw [← hm, ← hk9]
        have hl : (mainB :: ((List.range k).map hubB ++ [edgeB 0])).length = 1 + k + 1 := by simp; omega
        exact ⟨_, by rw [hl]; exact hrd, this.2⟩
      refine bodyPost_ret (v := .agg #[.slice A6 (1 + k + 1) cap6, .int .i64 1, .int .u64 1, .int .u64 1, .int .u64 1, .int .u64 2, .slice RA rn rc, .slice none 0 0]) ?_ rfl ⟨_, _, _, _, _, _, rfl, hnm, hbe10⟩
      simp [results, Try.results7, go_sem, t0, t1, t2, t3, t4, t5, t6, t7]
end Go.Proofs.Ytdghpjkjhlankaa
