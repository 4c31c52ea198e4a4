/-
  A curb of small numbers (watchfirelaw19.Small.Curb).
-/
import Derived.Test.YtdghpjkjhlankaaCurb
import Derived.Test.YtdghpjkjhlankaaList
namespace Go.Proofs.Ytdghpjkjhlankaa
open Go.RowKit FreeOrd
set_option maxRecDepth 100000
attribute [local go_sem] out

def eqAll : List ByteArray := [⟨#[110, 111, 100, 101]⟩, ⟨#[97]⟩, ⟨#[114, 117, 108, 101]⟩]
def eqF (n k : Nat) : List ByteArray := match eqAll[k]? with
  | some p => if labBit n k = true then [p] else []
  | none => []
def eqTo (n k : Nat) : List ByteArray := (List.range k).flatMap (eqF n)
theorem eqTo_succ (n k : Nat) : eqTo n (k + 1) = eqTo n k ++ eqF n k := by simp [eqTo, List.range_succ]
theorem eq28len (n k : Nat) : (eqF n k).length ≤ 1 := by
  unfold eqF
  split
  · split <;> simp
  · simp
theorem eqTo_len (n : Nat) : ∀ k, (eqTo n k).length ≤ k := by
  intro k
  induction k with
  | zero => simp [eqTo]
  | succ k ih => rw [eqTo_succ, List.length_append]; have := eq28len n k; omega
theorem eqAll_at (k : Nat) (h : k < 3) : ∃ p, eqAll[k]? = some p ∧ (#[Value.string ⟨#[110, 111, 100, 101]⟩, .string ⟨#[97]⟩, .string ⟨#[114, 117, 108, 101]⟩] : Array Value)[k]? = some (.string p) := by
  have h : k = 0 ∨ k = 1 ∨ k = 2 := by omega
  rcases h with rfl | rfl | rfl <;> exact ⟨_, rfl, rfl⟩
theorem eqTo_size (n k : Nat) : ∀ x ∈ eqTo n k, x.size ≤ maxLen := by
  intro x hx
  obtain ⟨i, _, hi⟩ := List.mem_flatMap.1 hx
  have hm : x ∈ eqAll := by
    unfold eqF at hi
    split at hi
    · rename_i p hp
      split at hi
      · rw [List.mem_singleton.1 hi]; exact List.mem_of_getElem? hp
      · cases hi
    · cases hi
  simp only [eqAll, List.mem_cons, List.mem_nil_iff, or_false] at hm
  rcases hm with rfl | rfl | rfl <;> simp [maxLen, ByteArray.size]
theorem infoStrV : (Try.prog.info? 9).map (fun i => (i.zero, i.size, i.bytes)) = some (some (.string ⟨#[]⟩), 1, 16) := by kernel_rfl

set_option maxHeartbeats 4000000 in
theorem smallCurb (v1 v2 : Value) (l1 l2 : List (Nat × Nat × Nat)) (q : Nat) (w : World) (h1 : Rd w 3 v1 l1.length (smallCells l1)) (h2 : Rd w 3 v2 l2.length (smallCells l2)) :
    Calls Try.prog 28 #[.agg #[v1, v2, .int .u8 q]] w fun e w' => ∃ u1 u2 u3, e = .returned (.agg #[u1, u2, u3]) ∧ w'.ownsRow w.heap.size 145 3 u1 (l1.take 2).length (askCells (l1.take 2)) ∧ w'.ownsRow w.heap.size 145 3 u2 (l2.take 2).length (askCells (l2.take 2)) ∧
      w'.ownsRow w.heap.size 9 1 u3 (eqTo q 3).length ((eqTo q 3).map Value.string) ∧ Below w.heap.size w w' := by
  have k1 := fun w' (h : Below w.heap.size w w') => smallAsks v1 l1 2 w' (h1.below h) (by omega)
  have k2 := fun w' (h : Below w.heap.size w w') => smallAsks v2 l2 2 w' (h2.below h) (by omega)
  obtain ⟨A1, c1, rfl, _⟩ := h1
  obtain ⟨A2, c2, rfl, _⟩ := h2
  obtain ⟨i0, hi, hz0, hz1, hz2⟩ := info_parts infoStrV
  generalize l1.take 2 = L1 at k1 ⊢
  generalize l2.take 2 = L2 at k2 ⊢
  go_enter Try.func28, Try.ntmps28
  go_wp2_with fail
  obtain ⟨Inv, I0, F, S, Z, HH, K1, K2⟩ : ∃ Inv : World → Prop, Inv ((w.alloc (Obj.cells #[.slice A1 l1.length c1, .slice A2 l2.length c2, .int .u8 q] 98)).alloc (Obj.cells #[.slice none 0 0, .slice none 0 0, .slice none 0 0] 103)).drew ∧
      (∀ w', Inv w' → w'.cell? ⟨w.heap.size, 0, none⟩ = some (.slice A1 l1.length c1) ∧ w'.cell? ⟨w.heap.size, 1, none⟩ = some (.slice A2 l2.length c2) ∧ w'.cell? ⟨w.heap.size, 2, none⟩ = some (.int .u8 q)) ∧
      (∀ w' w'', Inv w' → Below w'.heap.size w' w'' → Inv w'') ∧ (∀ w', Inv w' → w.heap.size + 2 ≤ w'.heap.size) ∧ (∀ w', Inv w' → Holds w [(w.heap.size + 1, #[.slice none 0 0, .slice none 0 0, .slice none 0 0], 103), (w.heap.size, #[.slice A1 l1.length c1, .slice A2 l2.length c2, .int .u8 q], 98)] w') ∧
      (∀ w', Inv w' → Calls Try.prog 41 #[.slice A1 l1.length c1, .int .i64 2] w' fun e w'' => ∃ v', e = .returned v' ∧ w''.ownsRow w'.heap.size 145 3 v' L1.length (askCells L1) ∧ Below w'.heap.size w' w'') ∧
      (∀ w', Inv w' → Calls Try.prog 41 #[.slice A2 l2.length c2, .int .i64 2] w' fun e w'' => ∃ v', e = .returned v' ∧ w''.ownsRow w'.heap.size 145 3 v' L2.length (askCells L2) ∧ Below w'.heap.size w' w'') := by
    refine ⟨Holds w [(w.heap.size + 1, #[.slice none 0 0, .slice none 0 0, .slice none 0 0], 103), (w.heap.size, #[.slice A1 l1.length c1, .slice A2 l2.length c2, .int .u8 q], 98)], ((Holds.nil w).new _ _ _ rfl).new (w.heap.size + 1) _ _ (by simp) |>.drew, fun w' h => ?_, fun w' w'' h hb => h.grow hb, fun w' h => (h.2 _ (.head _)).lt, fun w' h => h, fun w' h => k1 w' h.1, fun w' h => k2 w' h.1⟩
    refine ⟨?_, ?_, ?_⟩
    all_goals first | exact h.cell (.head _) rfl | exact h.cell (.tail _ (.head _)) rfl
  clear k1 k2
  refine region_free (Inv) [2, 5, 6, 7] [8] [0, 1, 2, 3, 4, 5, 6, 7] (by kernel_rfl) (by kernel_rfl) (by kernel_rfl) (I0) ?_
  repeat (first
    | (refine RelSeq.pure_ (c := ?_) rfl rfl ?_ ?_; rotate_left; (focus (intro x w'; dsimp only; go_simp; (repeat' apply And.intro) <;> first | with_reducible rfl | assumption)); simp only [Act.put, List.setIfInBounds_toArray, List.set_cons_zero, List.set_cons_succ])
    | (refine RelSeq.grow_ (c := ?_) rfl rfl ?_ ?_; rotate_left; (focus (intro x w' hw _; dsimp only; obtain ⟨e0, e1, e2⟩ := F w' hw; have hbr := Below.refl w'.heap.size w'; go_simp; (repeat' apply And.intro) <;> first | with_reducible rfl | assumption)); simp only [Act.put, List.setIfInBounds_toArray, List.set_cons_zero, List.set_cons_succ]))
  refine RelSeq.rel_ (fun v u => u.ownsRow w.heap.size 145 3 v L1.length (askCells L1)) rfl rfl (fun v u u' h hb => owns_below h hb) ?_ ?_
  focus
    intro x w' hw _; dsimp only
    have hsz0 := Z w' hw
    have hsz := Nat.le_trans (Nat.le_add_right w.heap.size 2) hsz0
    go_simp
    (with_reducible refine (K1 w' hw).mono ?_)
    rintro e w2 ⟨v2, rfl, hv2, hb2⟩
    have hI := S w' w2 hw hb2
    have hv3 := owns_mono hv2 hsz
    go_simp
    (repeat' apply And.intro) <;> first | rfl | assumption
  simp only [Act.put, List.setIfInBounds_toArray, List.set_cons_zero, List.set_cons_succ, List.nil_append]
  repeat (first
    | (refine RelSeq.pure_ (c := ?_) rfl rfl ?_ ?_; rotate_left; (focus (intro x w'; dsimp only; go_simp; (repeat' apply And.intro) <;> first | with_reducible rfl | assumption)); simp only [Act.put, List.setIfInBounds_toArray, List.set_cons_zero, List.set_cons_succ])
    | (refine RelSeq.grow_ (c := ?_) rfl rfl ?_ ?_; rotate_left; (focus (intro x w' hw _; dsimp only; obtain ⟨e0, e1, e2⟩ := F w' hw; have hbr := Below.refl w'.heap.size w'; go_simp; (repeat' apply And.intro) <;> first | with_reducible rfl | assumption)); simp only [Act.put, List.setIfInBounds_toArray, List.set_cons_zero, List.set_cons_succ]))
  refine RelSeq.rel_ (fun v u => u.ownsRow w.heap.size 145 3 v L2.length (askCells L2)) rfl rfl (fun v u u' h hb => owns_below h hb) ?_ ?_
  focus
    intro x w' hw _; dsimp only
    have hsz0 := Z w' hw
    have hsz := Nat.le_trans (Nat.le_add_right w.heap.size 2) hsz0
    go_simp
    (with_reducible refine (K2 w' hw).mono ?_)
    rintro e w2 ⟨v2, rfl, hv2, hb2⟩
    have hI := S w' w2 hw hb2
    have hv3 := owns_mono hv2 hsz
    go_simp
    (repeat' apply And.intro) <;> first | rfl | assumption
  simp only [Act.put, List.setIfInBounds_toArray, List.set_cons_zero, List.set_cons_succ, List.nil_append, List.cons_append]
  repeat (first
    | (refine RelSeq.pure_ (c := ?_) rfl rfl ?_ ?_; rotate_left; (focus (intro x w'; dsimp only; go_simp; (repeat' apply And.intro) <;> first | with_reducible rfl | assumption)); simp only [Act.put, List.setIfInBounds_toArray, List.set_cons_zero, List.set_cons_succ])
    | (refine RelSeq.grow_ (c := ?_) rfl rfl ?_ ?_; rotate_left; (focus (intro x w' hw _; dsimp only; obtain ⟨e0, e1, e2⟩ := F w' hw; have hbr := Below.refl w'.heap.size w'; go_simp; (repeat' apply And.intro) <;> first | with_reducible rfl | assumption)); simp only [Act.put, List.setIfInBounds_toArray, List.set_cons_zero, List.set_cons_succ]))
  refine RelSeq.rel_ (fun v u => ∃ B1 d1 B2 d2, v = .agg #[.slice B1 L1.length d1, .slice B2 L2.length d2, .slice none 0 0] ∧ u.ownsRow w.heap.size 145 3 (.slice B1 L1.length d1) L1.length (askCells L1) ∧ u.ownsRow w.heap.size 145 3 (.slice B2 L2.length d2) L2.length (askCells L2)) rfl rfl (fun v u u' ⟨B1, d1, B2, d2, h1, h2, h3⟩ hb => ⟨B1, d1, B2, d2, h1, owns_below h2 hb, owns_below h3 hb⟩) ?_ ?_
  focus
    intro x w' hw hf; dsimp only
    have g1 : w'.ownsRow w.heap.size 145 3 (x 2) L1.length (askCells L1) := hf _ (.head _) (by kernel_rfl)
    have g2 : w'.ownsRow w.heap.size 145 3 (x 5) L2.length (askCells L2) := hf _ (.tail _ (.head _)) (by kernel_rfl)
    obtain ⟨B1, d1, e1⟩ := owns_slice g1
    obtain ⟨B2, d2, e2⟩ := owns_slice g2
    rw [e1] at g1
    rw [e2] at g2
    have hbr := Below.refl w'.heap.size w'
    go_simp
    (repeat' apply And.intro) <;> first | assumption | exact ⟨B1, d1, B2, d2, ⟨⟨rfl, rfl⟩, rfl, rfl⟩, g1, g2⟩ | exact ⟨B1, d1, B2, d2, rfl, g1, g2⟩
  simp only [Act.put, List.setIfInBounds_toArray, List.set_cons_zero, List.set_cons_succ, List.nil_append, List.cons_append]
  refine RelSeq.rel_ (NewPt (w.heap.size + 2) 0 #[.slice none 0 0, .slice none 0 0, .slice none 0 0] 103) rfl rfl NewPt.stable ?_ ?_
  focus
    intro x w' hw _; dsimp only
    have hba : Below w'.heap.size w' (w'.alloc (.cells #[.slice none 0 0, .slice none 0 0, .slice none 0 0] 103)) := (Below.refl _ _).alloc (Nat.le_refl _) _
    have hI := S w' _ hw hba
    have hsz := Z w' hw
    go_simp
    (repeat' apply And.intro) <;> first | assumption | exact ⟨_, rfl, hsz, Blk.new _ _ _⟩
  simp only [Act.put, List.setIfInBounds_toArray, List.set_cons_zero, List.set_cons_succ, List.nil_append, List.cons_append]
  refine RelSeq.nil_ fun x w1 hw hf => ?_
  obtain ⟨B1, d1, B2, d2, e6, g1, g2⟩ := hf _ (.tail _ (.tail _ (.head _)))
  obtain ⟨b, e7, hb0, hB⟩ := hf _ (.tail _ (.tail _ (.tail _ (.head _))))
  have hH := HH w1 hw
  have hb1 : w.heap.size ≤ b := by omega
  have hbw : w.heap.size ≠ b := by omega
  have hbw1 : w.heap.size + 1 ≠ b := by omega
  have hBr := hH.2 _ (.head _)
  have hBs := hH.2 _ (.tail _ (.head _))
  have hbl := hH.1
  clear hf F S Z HH hw hH K1 K2
  refine TailSeq.cons_ rfl ?_
  have p0 := hB.cell (j := 0) rfl
  have p1 := hB.cell (j := 1) rfl
  have p2 := hB.cell (j := 2) rfl
  have f0 := hB.frozen
  dsimp only at hBr hBs ⊢
  go_simp
  refine TailSeq.nil_gen fun w2 hw2 => ?_
  have hB2 : Blk w2 b #[.slice B1 L1.length d1, .slice B2 L2.length d2, .slice none 0 0] 103 := by
    rw [hw2]
    have := (((hB.set_ 0 (.slice B1 L1.length d1)).set_ 1 (.slice B2 L2.length d2)).set_ 2 (.slice none 0 0))
    simpa using this
  have hbut : But b w1 w2 := by rw [hw2]; exact (((But.refl b w1).put 0 _).put 1 _).put 2 _
  have hb2 := hbut.below hbl (Nat.le_refl _) hb1
  have g1' := owns_but g1 hB hbut (by decide)
  have g2' := owns_but g2 hB hbut (by decide)
  have hBr2 := hBr.but hbut hbw1
  have hBs2 := hBs.but hbut hbw
  clear hw2 hB hbut hbl g1 g2 hBr hBs f0 p0 p1 p2
  have hba : Below w2.heap.size w2 (w2.alloc (.cells #[.string ⟨#[110, 111, 100, 101]⟩, .string ⟨#[97]⟩, .string ⟨#[114, 117, 108, 101]⟩] 9)) := (Below.refl _ _).alloc (Nat.le_refl _) _
  go_wp2_with fail
  go_loopw [15] (fun i wr => ∃ (k : Nat) (ev : Value), k ≤ 3 ∧ i = .int .i64 k ∧ wr.ownsRow (w2.heap.size + 1) 9 1 ev (eqTo q k).length ((eqTo q k).map Value.string) ∧ Blk wr b #[.slice B1 L1.length d1, .slice B2 L2.length d2, ev] 103 ∧ Blk wr w2.heap.size #[.string ⟨#[110, 111, 100, 101]⟩, .string ⟨#[97]⟩, .string ⟨#[114, 117, 108, 101]⟩] 9 ∧ Blk wr (w.heap.size + 1) #[.slice none 0 0, .slice none 0 0, .slice none 0 0] 103 ∧ Blk wr w.heap.size #[.slice A1 l1.length c1, .slice A2 l2.length c2, .int .u8 q] 98 ∧
    wr.ownsRow w.heap.size 145 3 (.slice B1 L1.length d1) L1.length (askCells L1) ∧ wr.ownsRow w.heap.size 145 3 (.slice B2 L2.length d2) L2.length (askCells L2) ∧ Below w.heap.size w wr) (fun i _ => 3 - (intOf i).toNat)
  case atStart => exact ⟨0, _, Nat.zero_le _, rfl, World.ownsRow_nil _ _ _ _, hB2.below hba hB2.lt, Blk.new _ _ _, hBr2.below hba hBr2.lt, hBs2.below hba hBs2.lt, owns_below g1' hba, owns_below g2' hba, hb2.trans (hba.mono hb2.size)⟩
  case round =>
    obtain ⟨k, ev, hk, rfl, hev, hB, hL, hR, hS, g1, g2, hbe⟩ := hrel
    clear hba
    have hlb := hb2.size
    have hbb := hB2.lt
    clear hB2 hBr2 hBs2 g1' g2'
    obtain ⟨Ae, ce, rfl⟩ := owns_slice hev
    by_cases hlt : k < 3
    · obtain ⟨p, hp, hpc⟩ := eqAll_at k hlt
      have c0 := hL.cell hpc
      have s2 := hS.cell (j := 2) rfl
      have hlen := eqTo_len q k
      have hs0 := eqTo_succ q k
      have hf0 : eqF q k = if labBit q k = true then [p] else [] := by unfold eqF; rw [hp]
      rw [hf0] at hs0
      generalize eqTo q k = L at hev hB hlen hs0 ⊢
      clear hp hpc hf0
      cases hbit : labBit q k with
      | true =>
        rw [hbit, if_pos rfl] at hs0
        have hbit' : (bits BinOp.and IntKind.u8 ((q : Int) / 2 ^ k) 1 == 1) = true := hbit
        have p2 := hB.cell (j := 2) rfl
        have HE := Lib.hid hs0
        clear hbit hs0
        go_wp2_with (at_builtin; refine wpl_stop fun W hW => ?_)
        refine Stopped.mk ?_
        (try rw [← hW])
        have hbW : Below wr.heap.size wr W := by rw [hW]; exact (Below.refl _ _).alloc (Nat.le_refl _) _
        have hBW : Blk W wr.heap.size #[.string p] 9 := by rw [hW]; exact Blk.new _ _ _
        clear hW
        have hnx := rd_one hBW (n := 1) rfl
        have hvW := owns_below hev hbW
        have hBB := hB.below hbW hB.lt
        have hLW := hL.below hbW hL.lt
        have hRW := hR.below hbW hR.lt
        have hSW := hS.below hbW hS.lt
        have g1W := owns_below g1 hbW
        have g2W := owns_below g2 hbW
        refine wpl_append_rd rfl (.tmp 27) (.tmp 29) 101 rfl (w2.heap.size + 1) 9 i0 _ 1 16 Try.underlying101 hi hz0 hz1 hz2 rfl (by decide) _ L.length _ rfl hvW _ 1 _ rfl hnx (by intro u hu; simp at hu; subst hu; rfl) (by unfold maxLen; omega) (by omega) (Nat.le_trans hL.lt hbW.size) fun v4 w4 hown4 hgr4 _ => ?_
        have hne : ∀ gg, gg ≤ w2.heap.size → ¬ some gg = Value.ownBlock (.slice Ae L.length ce) := fun gg hg e => by have := (hvW.lt gg e.symm).1; omega
        have hB4 := hBB.grown hgr4 (hne b (by omega))
        have hL4 := hLW.grown hgr4 (hne _ (Nat.le_refl _))
        have hR4 := hRW.grown hgr4 (hne _ (by omega))
        have hS4 := hSW.grown hgr4 (hne _ (by omega))
        have g14 := owns_grown g1W hvW (by decide) hgr4
        have g24 := owns_grown g2W hvW (by decide) hgr4
        have hb4 := (hbe.trans (hbW.mono hbe.size)).grown hgr4 (Nat.le_trans hbe.size hbW.size) (fun gg hg => by have := (hvW.lt gg hg).1; omega)
        obtain ⟨A4, c4, rfl⟩ := owns_slice hown4
        clear hev hB hL hR hS g1 g2 hbe hnx hBW hbW hgr4 hvW hBB hLW hRW hSW g1W g2W hne c0 s2 p2
        have p2 := hB4.cell (j := 2) rfl
        have f0 := hB4.frozen
        have hbut := But.set b 2 (.slice A4 (L.length + 1) c4) w4
        have hB5 : Blk (w4.setCell ⟨b, 2, none⟩ (.slice A4 (L.length + 1) c4)) b #[.slice B1 L1.length d1, .slice B2 L2.length d2, .slice A4 (L.length + 1) c4] 103 := by simpa using hB4.set_ 2 (.slice A4 (L.length + 1) c4)
        have hL5 := hL4.but hbut (by omega)
        have hR5 := hR4.but hbut hbw1
        have hS5 := hS4.but hbut hbw
        have g15 := owns_but g14 hB4 hbut (by decide)
        have g25 := owns_but g24 hB4 hbut (by decide)
        have hown5 := owns_but hown4 hB4 hbut (by decide)
        have hb5 := hbut.below hb4 (Nat.le_refl _) hb1
        clear hbut hB4 hL4 hR4 hS4 g14 g24 hown4 hb4
        go_wp2_with fail
        go_roundw
        case rel => exact ⟨k + 1, _, by omega, by go_num, by rw [HE.out, List.length_append, List.map_append]; exact hown5, hB5, hL5, hR5, hS5, g15, g25, hb5⟩
        case measure => simp [intOf]; omega
      | false =>
        rw [hbit, if_neg (by decide), List.append_nil] at hs0
        have hbit' : (bits BinOp.and IntKind.u8 ((q : Int) / 2 ^ k) 1 == 1) = false := hbit
        have HE := Lib.hid hs0
        clear hbit hs0
        go_wp2_with fail
        go_roundw
        case rel => exact ⟨k + 1, _, by omega, by go_num, by rw [HE.out]; exact hev, hB, hL, hR, hS, g1, g2, hbe⟩
        case measure => simp [intOf]; omega
    · obtain rfl : k = 3 := by omega
      have a0 := hB.cell (j := 0) rfl
      have a1 := hB.cell (j := 1) rfl
      have a2 := hB.cell (j := 2) rfl
      have r0 := hR.cell (j := 0) rfl
      have r1 := hR.cell (j := 1) rfl
      have r2 := hR.cell (j := 2) rfl
      have fr := hR.frozen
      go_wp2_with fail
      refine bodyPost_gen fun w6 hw6 => ?_
      have hBo : Blk w6 (w.heap.size + 1) #[.slice B1 L1.length d1, .slice B2 L2.length d2, .slice Ae (eqTo q 3).length ce] 103 := by
        rw [hw6]
        have := (((hR.set_ 0 (.slice B1 L1.length d1)).set_ 1 (.slice B2 L2.length d2)).set_ 2 (.slice Ae (eqTo q 3).length ce))
        simpa using this
      have hb6 : Below w.heap.size w w6 := by
        rw [hw6]
        exact (((hbe.setCell (p := ⟨w.heap.size + 1, 0, none⟩) (Nat.le_succ _) _).setCell (p := ⟨w.heap.size + 1, 1, none⟩) (Nat.le_succ _) _).setCell (p := ⟨w.heap.size + 1, 2, none⟩) (Nat.le_succ _) _)
      have hbut6 : But (w.heap.size + 1) wr w6 := by rw [hw6]; exact (((But.refl (w.heap.size + 1) wr).put 0 _).put 1 _).put 2 _
      have H1 := owns_but g1 hR hbut6 (by decide)
      have H2 := owns_but g2 hR hbut6 (by decide)
      have H3 := owns_but hev hR hbut6 (by decide)
      clear hw6 a0 a1 a2
      have a0 := hBo.cell (j := 0) (v := .slice B1 L1.length d1) rfl
      have a1 := hBo.cell (j := 1) (v := .slice B2 L2.length d2) rfl
      have a2 := hBo.cell (j := 2) (v := .slice Ae (eqTo q 3).length ce) rfl
      refine bodyPost_ret (v := .agg #[.slice B1 L1.length d1, .slice B2 L2.length d2, .slice Ae (eqTo q 3).length ce]) ?_ rfl ⟨_, _, _, rfl, H1, H2, owns_mono H3 (by omega), hb6⟩
      simp [results, Try.results28, go_sem, a0, a1, a2]
end Go.Proofs.Ytdghpjkjhlankaa
