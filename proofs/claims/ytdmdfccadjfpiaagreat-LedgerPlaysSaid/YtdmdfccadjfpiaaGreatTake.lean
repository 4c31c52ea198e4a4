/-
  journal.Take: the record with which bytes begin.
-/
import Derived.Test.YtdmdfccadjfpiaaGreatLay
import Derived.Test.YtdmdfccadjfpiaaGreatFreeE
import Derived.Laws.Cover3
import Derived.Test.YtdmdfccadjfpiaaGreatCopy
namespace Go.Proofs.YtdmdfccadjfpiaaGreat
open Go.RowKit FreeBy
set_option maxRecDepth 100000
attribute [local go_sem] out

theorem jTakeShort (b : Nat) (v : Value) (l : List UInt8) (w : World) (hl : Rd w 1 v l.length (u8L l)) (h8 : l.length < 8) :
    Calls Tryz.prog 92 #[.pointer (some ⟨b, 0, none⟩), v] w fun e w' => e = .returned (.tuple #[.slice none 0 0, .int .i64 0, .bool false]) ∧ w' = w := by
  obtain ⟨A, c, rfl, h1, h2, h3, h4⟩ := hl
  unfold maxLen at h3
  go_enter Tryz.func92, Tryz.ntmps92
  go_wp2_with fail
  go_ret3
  exact ⟨rfl, rfl⟩

/-- The eight bytes ahead of a record. -/
def head8 (x0 x1 x2 x3 x4 x5 x6 x7 : UInt8) (r : List UInt8) : List UInt8 := x0 :: x1 :: x2 :: x3 :: x4 :: x5 :: x6 :: x7 :: r

theorem unfour_lt (a b c d : UInt8) : unfour a.toNat b.toNat c.toNat d.toNat < 4294967296 := by
  have := a.toNat_lt
  have := b.toNat_lt
  have := c.toNat_lt
  have := d.toNat_lt
  unfold unfour
  omega
/-- The record with which bytes begin. -/
def takeL : List UInt8 → Option (List UInt8)
  | x0 :: x1 :: x2 :: x3 :: x4 :: x5 :: x6 :: x7 :: r =>
    let n := unfour x0.toNat x1.toNat x2.toNat x3.toNat
    if 524288 < n ∨ r.length < n then none
    else if crcSum ([x0, x1, x2, x3] ++ r.take n) = unfour x4.toNat x5.toNat x6.toNat x7.toNat then some (r.take n) else none
  | _ => none

theorem jTakeLen (b q o c n : Nat) (x0 x1 x2 x3 x4 x5 x6 x7 : UInt8) (r : List UInt8) (w : World) (hl : Rd w 1 (.slice (some ⟨q, o, none⟩) (r.length + 8) c) (r.length + 8) (u8L (head8 x0 x1 x2 x3 x4 x5 x6 x7 r)))
    (hn : n = unfour x0.toNat x1.toNat x2.toNat x3.toNat) (hbad : 524288 < n ∨ r.length < n) :
    Calls Tryz.prog 92 #[.pointer (some ⟨b, 0, none⟩), .slice (some ⟨q, o, none⟩) (r.length + 8) c] w fun e w' => e = .returned (.tuple #[.slice none 0 0, .int .i64 0, .bool false]) ∧ Below w.heap.size w w' := by
  obtain ⟨A, c', he, h1, h2, h3, h4⟩ := hl
  cases he
  unfold maxLen at h3
  obtain ⟨q', o', he, hr⟩ := h4 (by omega)
  cases he
  have hlt := unfour_lt x0 x1 x2 x3
  have hat : ∀ (k c : Nat) (W : World), (Instr.arrayAt 168 (.slice (some ⟨q, k, none⟩) 4 c)).run Tryz.prog W = .ok (.pointer (some ⟨q, k, none⟩)) W := fun k c W => run_arrayAt W 168 5 4 _ 4 _ Tryz.underlying168 (Nat.le_refl 4)
  have c0 : w.cell? ⟨q, o, none⟩ = some (.int .u8 x0.toNat) := hr 0 _ rfl
  have c1 : w.cell? ⟨q, o + 1, none⟩ = some (.int .u8 x1.toNat) := hr 1 _ rfl
  have c2 : w.cell? ⟨q, o + 2, none⟩ = some (.int .u8 x2.toNat) := hr 2 _ rfl
  have c3 : w.cell? ⟨q, o + 3, none⟩ = some (.int .u8 x3.toNat) := hr 3 _ rfl
  have hC := crcTake x0.toNat x1.toNat x2.toNat x3.toNat x0.toNat_lt x1.toNat_lt x2.toNat_lt x3.toNat_lt
  rw [← hn] at hC hlt
  have HN := Lib.hid hn
  clear hn h4 hr h1
  go_enter Tryz.func92, Tryz.ntmps92
  go_wp2_with fail
  (with_reducible refine (hC _).mono ?_)
  rintro e w1 ⟨rfl, hb1⟩
  by_cases hb : 524288 < n
  · go_wp2_with fail
    go_ret3
    exact ⟨rfl, hb1⟩
  · have hb2 : r.length < n := by omega
    go_wp2_with fail
    go_ret3
    exact ⟨rfl, hb1⟩

theorem infoByteSz : (Tryz.prog.info? 5).map (·.size) = some 1 := by kernel_rfl
def butReach (b : Nat) : FreeBy.Reach := ⟨But b, But.refl b, fun _ _ h => h.size⟩

theorem jTakeBad (b q o c n : Nat) (x0 x1 x2 x3 x4 x5 x6 x7 : UInt8) (r : List UInt8) (w : World) (hT : TabOk w b) (hl : Rd w 1 (.slice (some ⟨q, o, none⟩) (r.length + 8) c) (r.length + 8) (u8L (head8 x0 x1 x2 x3 x4 x5 x6 x7 r)))
    (hn : n = unfour x0.toNat x1.toNat x2.toNat x3.toNat) (hn1 : n ≤ 524288) (hn2 : n ≤ r.length) (hsum : ¬ crcSum ([x0, x1, x2, x3] ++ r.take n) = unfour x4.toNat x5.toNat x6.toNat x7.toNat) :
    Calls Tryz.prog 92 #[.pointer (some ⟨b, 0, none⟩), .slice (some ⟨q, o, none⟩) (r.length + 8) c] w fun e w' => e = .returned (.tuple #[.slice none 0 0, .int .i64 0, .bool false]) ∧ TabOk w' b ∧ But b w w' := by
  obtain ⟨A, c', he, h1, h2, h3, h4⟩ := hl
  cases he
  unfold maxLen at h3
  obtain ⟨q', o', he, hr⟩ := h4 (by omega)
  cases he
  have hlt := unfour_lt x0 x1 x2 x3
  have hlt2 := unfour_lt x4 x5 x6 x7
  have hat : ∀ (k c : Nat) (W : World), (Instr.arrayAt 168 (.slice (some ⟨q, k, none⟩) 4 c)).run Tryz.prog W = .ok (.pointer (some ⟨q, k, none⟩)) W := fun k c W => run_arrayAt W 168 5 4 _ 4 _ Tryz.underlying168 (Nat.le_refl 4)
  have c0 : w.cell? ⟨q, o, none⟩ = some (.int .u8 x0.toNat) := hr 0 _ rfl
  have c1 : w.cell? ⟨q, o + 1, none⟩ = some (.int .u8 x1.toNat) := hr 1 _ rfl
  have c2 : w.cell? ⟨q, o + 2, none⟩ = some (.int .u8 x2.toNat) := hr 2 _ rfl
  have c3 : w.cell? ⟨q, o + 3, none⟩ = some (.int .u8 x3.toNat) := hr 3 _ rfl
  have c4 : w.cell? ⟨q, o + 4, none⟩ = some (.int .u8 x4.toNat) := hr 4 _ rfl
  have c5 : w.cell? ⟨q, o + 5, none⟩ = some (.int .u8 x5.toNat) := hr 5 _ rfl
  have c6 : w.cell? ⟨q, o + 6, none⟩ = some (.int .u8 x6.toNat) := hr 6 _ rfl
  have c7 : w.cell? ⟨q, o + 7, none⟩ = some (.int .u8 x7.toNat) := hr 7 _ rfl
  have hC := crcTake x0.toNat x1.toNat x2.toNat x3.toNat x0.toNat_lt x1.toNat_lt x2.toNat_lt x3.toNat_lt
  have hC2 := crcTake x4.toNat x5.toNat x6.toNat x7.toNat x4.toNat_lt x5.toNat_lt x6.toNat_lt x7.toNat_lt
  rw [← hn] at hC hlt
  generalize unfour x4.toNat x5.toNat x6.toNat x7.toNat = m at hC2 hlt2 hsum
  have HN := Lib.hid hn
  have HS := Lib.hid hsum
  have hq : q ≠ b := hT.far c0 (fun n => by simp)
  have hlq := World.block_lt_of_cell? w _ c0
  have hr8 : ∀ j u, (u8L (r.take n))[j]? = some u → w.cell? ⟨q, o + 8 + j, none⟩ = some u := by
    intro j u hj
    rw [Nat.add_assoc]
    refine hr (8 + j) u ?_
    simp only [u8L, head8, List.map_cons] at hj ⊢
    rw [Nat.add_comm 8 j]
    simp only [List.getElem?_cons_succ]
    rw [List.map_take] at hj
    rw [List.getElem?_take] at hj
    split at hj
    · exact hj
    · cases hj
  have e8 : 8 + n - 8 = n := by omega
  have hls := crcSum_lt ([x0, x1, x2, x3] ++ r.take n)
  have hnn : (r.take n).length = n := by simp; omega
  clear hn h4 hr h1 hsum
  by_cases hc8 : c = 8
  · obtain rfl := hc8
    go_enter Tryz.func92, Tryz.ntmps92
    go_wp2_with fail
    (with_reducible refine (hC _).mono ?_)
    rintro e w1 ⟨rfl, hb1⟩
    have hT1 := hT.below hb1
    have hr1 : Rd w1 1 (.slice (some ⟨q, o, none⟩) n 0) n (u8L (r.take n)) := by
      have hn0 : n = 0 := by omega
      exact ⟨_, _, rfl, by simp [u8L, hn0], by omega, by unfold maxLen; omega, fun h => by omega⟩
    have hh1 : Rd w1 1 (.slice (some ⟨q, o, none⟩) 4 8) 4 (u8L [x0, x1, x2, x3]) := by
      refine ⟨_, _, rfl, rfl, by omega, by unfold maxLen; omega, fun _ => ⟨_, _, rfl, fun j u hj => ?_⟩⟩
      match j, hj with
      | 0, hj => simp [u8L] at hj; subst hj; rw [hb1.cell hlq]; exact c0
      | 1, hj => simp [u8L] at hj; subst hj; rw [hb1.cell hlq]; exact c1
      | 2, hj => simp [u8L] at hj; subst hj; rw [hb1.cell hlq]; exact c2
      | 3, hj => simp [u8L] at hj; subst hj; rw [hb1.cell hlq]; exact c3
      | j + 4, hj => simp [u8L] at hj
    go_wp2_with fail
    try simp only [show 8 + n - 8 = n by omega]
    have F : ∀ w', TabOk w' b ∧ But b w1 w' → w'.cell? ⟨q, o + 4, none⟩ = some (.int .u8 x4.toNat) ∧ w'.cell? ⟨q, o + 4 + 1, none⟩ = some (.int .u8 x5.toNat) ∧ w'.cell? ⟨q, o + 4 + 2, none⟩ = some (.int .u8 x6.toNat) ∧ w'.cell? ⟨q, o + 4 + 3, none⟩ = some (.int .u8 x7.toNat) := by
      intro w' h
      have k : ∀ j u, w.cell? ⟨q, j, none⟩ = some u → w'.cell? ⟨q, j, none⟩ = some u := fun j u hu => by
        rw [World.cell?_of_block (w := w1) (h.2.block q (Nat.lt_of_lt_of_le hlq hb1.size) hq), hb1.cell hlq]; exact hu
      exact ⟨k _ _ c4, k _ _ c5, k _ _ c6, k _ _ c7⟩
    have S : ∀ w' w'', TabOk w' b ∧ But b w1 w' → TabOk w'' b → But b w' w'' → TabOk w'' b ∧ But b w1 w'' := fun w' w'' h h2 h3 => ⟨h2, h.2.trans h3⟩
    have hER : ∀ u u', (butReach b).rel u u' = But b u u' := fun _ _ => rfl
    refine region_free (E := butReach b) (fun w' => TabOk w' b ∧ But b w1 w') [4] [] (List.range 12) (by kernel_rfl) (by kernel_rfl) (by kernel_rfl) ⟨hT1, (But.refl b w1).drew⟩ ?_
    simp only [List.range, List.range.loop]
    repeat (first
      | (refine RelSeq.pure_ (c := ?_) rfl rfl ?_ ?_; rotate_left; (focus (intro x w'; dsimp only; go_simp; (repeat' apply And.intro) <;> first | with_reducible rfl | assumption)); simp only [Act.put, List.setIfInBounds_toArray, List.set_cons_zero, List.set_cons_succ])
      | (refine RelSeq.grow_ (c := ?_) rfl rfl ?_ ?_; rotate_left; (focus (intro x w' hw _; dsimp only; obtain ⟨d0, d1, d2, d3⟩ := F w' hw; have hbr := But.refl b w'; go_simp; (try (rw [if_pos (by omega)])); (try go_simp); (repeat' apply And.intro) <;> first | with_reducible rfl | assumption)); simp only [Act.put, List.setIfInBounds_toArray, List.set_cons_zero, List.set_cons_succ]))
    refine RelSeq.rel_ (fun v u => ∃ g : Nat, v = .slice (some ⟨g, 0, none⟩) 2 2 ∧ g ≠ b ∧ Blk u g #[.slice (some ⟨q, o, none⟩) 4 8, .slice (some ⟨q, o, none⟩) n 0] 58) rfl rfl (fun v u u' h hb => let ⟨g, h1, h2, h3⟩ := h; ⟨g, h1, h2, h3.but hb h2⟩) ?_ ?_
    focus
      intro x w' hw _; dsimp only
      have hba : Below w'.heap.size w' (w'.alloc (.cells #[.slice (some ⟨q, o, none⟩) 4 8, .slice (some ⟨q, o, none⟩) n 0] 58)) := (Below.refl _ _).alloc (Nat.le_refl _) _
      have hI := S w' _ hw (hw.1.below hba) (But.of_below hba)
      have hI1 := hI.1
      have hI2 := hI.2
      have hE := But.of_below (b := b) hba
      have hg : w'.heap.size ≠ b := by have := hw.1.lt; omega
      go_simp
      (repeat' apply And.intro) <;> first | assumption | exact ⟨_, rfl, hg, Blk.new _ _ _⟩ | exact Blk.new _ _ _ | (with_unfolding_all rfl)
    simp only [Act.put, List.setIfInBounds_toArray, List.set_cons_zero, List.set_cons_succ, List.nil_append]
    refine RelSeq.grow_ (c := .int .u32 (crcSum ([x0, x1, x2, x3] ++ r.take n) : Nat)) rfl rfl ?_ ?_
    focus
      intro x w' hw hf; dsimp only
      obtain ⟨g, e, hg, hB⟩ := hf _ (.head _) (by kernel_rfl)
      have hps : Rd w' 1 (.slice (some ⟨g, 0, none⟩) 2 2) [((Value.slice (some ⟨q, o, none⟩) 4 8), [x0, x1, x2, x3]), (.slice (some ⟨q, o, none⟩) n 0, r.take n)].length ([((Value.slice (some ⟨q, o, none⟩) 4 8), [x0, x1, x2, x3]), (.slice (some ⟨q, o, none⟩) n 0, r.take n)].map (·.1)) := by
        refine ⟨_, _, rfl, rfl, Nat.le_refl _, by unfold maxLen; show 2 ≤ _; omega, fun _ => ⟨_, _, rfl, fun j u hj => ?_⟩⟩
        match j, hj with
        | 0, hj => simp at hj; subst hj; exact hB.cell rfl
        | 1, hj => simp at hj; subst hj; exact hB.cell rfl
        | j + 2, hj => simp at hj
      have hS := tabSum b (.slice (some ⟨g, 0, none⟩) 2 2) _ w' hw.1 hps (by
        intro p hp
        simp at hp
        rcases hp with rfl | rfl
        · exact hh1.but8 hT1 hw.2
        · rw [hnn]
          exact Rd.but hr1 hT1 hw.2 (u8L_no _))
      simp only [List.flatMap_cons, List.flatMap_nil, List.append_nil] at hS
      clear hps hB
      have hW := hw.2
      clear hh1 hr1 F
      go_simp
      (with_reducible refine hS.mono ?_)
      rintro e w3 ⟨rfl, hT3, hB3⟩
      have hW3 := hW.trans hB3
      go_simp
      all_goals ((repeat' apply And.intro) <;> first | assumption | with_reducible rfl)
    simp only [Act.put, List.setIfInBounds_toArray, List.set_cons_zero, List.set_cons_succ]
    repeat (first
      | (refine RelSeq.pure_ (c := ?_) rfl rfl ?_ ?_; rotate_left; (focus (intro x w'; dsimp only; go_simp; (repeat' apply And.intro) <;> first | with_reducible rfl | assumption)); simp only [Act.put, List.setIfInBounds_toArray, List.set_cons_zero, List.set_cons_succ])
      | (refine RelSeq.grow_ (c := ?_) rfl rfl ?_ ?_; rotate_left; (focus (intro x w' hw _; dsimp only; obtain ⟨d0, d1, d2, d3⟩ := F w' hw; have hbr := But.refl b w'; go_simp; (try (rw [if_pos (by omega)])); (try go_simp); (repeat' apply And.intro) <;> first | with_reducible rfl | assumption)); simp only [Act.put, List.setIfInBounds_toArray, List.set_cons_zero, List.set_cons_succ]))
    refine RelSeq.grow_ (c := .int .u32 (m : Nat)) rfl rfl ?_ ?_
    focus
      intro x w' hw _; dsimp only
      have hW := hw.2
      have hTw := hw.1
      clear hh1 hr1 F
      go_simp
      (with_reducible refine (hC2 _).mono ?_)
      rintro e w3 ⟨rfl, hb3⟩
      have hT3 := hTw.below hb3
      have hB3 := But.of_below (b := b) hb3
      have hW3 := hW.trans hB3
      go_simp
      all_goals ((repeat' apply And.intro) <;> first | assumption | with_reducible rfl)
    simp only [Act.put, List.setIfInBounds_toArray, List.set_cons_zero, List.set_cons_succ]
    refine RelSeq.pure_ (c := .bool true) rfl rfl ?_ ?_
    focus
      intro x w'; dsimp only
      have hs := HS.out
      clear hC hC2 hh1 hr1 F
      go_simp
      (repeat' apply And.intro) <;> first | with_reducible rfl | assumption | exact fun e => hs (Int.ofNat.inj e) | exact congrArg Int.ofNat hs
    simp only [Act.put, List.setIfInBounds_toArray, List.set_cons_zero, List.set_cons_succ]
    refine RelSeq.nil_ fun x wz hz _ _ => TailSeq.nil_ ?_
    obtain ⟨hTz, hBz⟩ := hz
    have hBe : But b w wz := (But.of_below hb1).trans hBz
    clear F S hER hC hC2
    go_wp2_with fail
    go_ret3
    exact ⟨rfl, hTz, hBe⟩
  · have hc4 : ¬ c = 4 := by omega
    go_enter Tryz.func92, Tryz.ntmps92
    go_wp2_with fail
    (with_reducible refine (hC _).mono ?_)
    rintro e w1 ⟨rfl, hb1⟩
    have hT1 := hT.below hb1
    have hr1 : Rd w1 1 (.slice (some ⟨q, o + 8, none⟩) n (c - 8)) n (u8L (r.take n)) := by
      refine ⟨_, _, rfl, by simp [u8L]; omega, by omega, by unfold maxLen; omega, fun _ => ⟨_, _, rfl, fun j u hj => ?_⟩⟩
      rw [hb1.cell hlq]
      exact hr8 j u hj
    have hh1 : Rd w1 1 (.slice (some ⟨q, o, none⟩) 4 c) 4 (u8L [x0, x1, x2, x3]) := by
      refine ⟨_, _, rfl, rfl, by omega, by unfold maxLen; omega, fun _ => ⟨_, _, rfl, fun j u hj => ?_⟩⟩
      match j, hj with
      | 0, hj => simp [u8L] at hj; subst hj; rw [hb1.cell hlq]; exact c0
      | 1, hj => simp [u8L] at hj; subst hj; rw [hb1.cell hlq]; exact c1
      | 2, hj => simp [u8L] at hj; subst hj; rw [hb1.cell hlq]; exact c2
      | 3, hj => simp [u8L] at hj; subst hj; rw [hb1.cell hlq]; exact c3
      | j + 4, hj => simp [u8L] at hj
    go_wp2_with fail
    try simp only [show 8 + n - 8 = n by omega]
    have F : ∀ w', TabOk w' b ∧ But b w1 w' → w'.cell? ⟨q, o + 4, none⟩ = some (.int .u8 x4.toNat) ∧ w'.cell? ⟨q, o + 4 + 1, none⟩ = some (.int .u8 x5.toNat) ∧ w'.cell? ⟨q, o + 4 + 2, none⟩ = some (.int .u8 x6.toNat) ∧ w'.cell? ⟨q, o + 4 + 3, none⟩ = some (.int .u8 x7.toNat) := by
      intro w' h
      have k : ∀ j u, w.cell? ⟨q, j, none⟩ = some u → w'.cell? ⟨q, j, none⟩ = some u := fun j u hu => by
        rw [World.cell?_of_block (w := w1) (h.2.block q (Nat.lt_of_lt_of_le hlq hb1.size) hq), hb1.cell hlq]; exact hu
      exact ⟨k _ _ c4, k _ _ c5, k _ _ c6, k _ _ c7⟩
    have S : ∀ w' w'', TabOk w' b ∧ But b w1 w' → TabOk w'' b → But b w' w'' → TabOk w'' b ∧ But b w1 w'' := fun w' w'' h h2 h3 => ⟨h2, h.2.trans h3⟩
    have hER : ∀ u u', (butReach b).rel u u' = But b u u' := fun _ _ => rfl
    refine region_free (E := butReach b) (fun w' => TabOk w' b ∧ But b w1 w') [4] [] (List.range 12) (by kernel_rfl) (by kernel_rfl) (by kernel_rfl) ⟨hT1, (But.refl b w1).drew⟩ ?_
    simp only [List.range, List.range.loop]
    repeat (first
      | (refine RelSeq.pure_ (c := ?_) rfl rfl ?_ ?_; rotate_left; (focus (intro x w'; dsimp only; go_simp; (repeat' apply And.intro) <;> first | with_reducible rfl | assumption)); simp only [Act.put, List.setIfInBounds_toArray, List.set_cons_zero, List.set_cons_succ])
      | (refine RelSeq.grow_ (c := ?_) rfl rfl ?_ ?_; rotate_left; (focus (intro x w' hw _; dsimp only; obtain ⟨d0, d1, d2, d3⟩ := F w' hw; have hbr := But.refl b w'; go_simp; (try (rw [if_pos (by omega)])); (try go_simp); (repeat' apply And.intro) <;> first | with_reducible rfl | assumption)); simp only [Act.put, List.setIfInBounds_toArray, List.set_cons_zero, List.set_cons_succ]))
    refine RelSeq.rel_ (fun v u => ∃ g : Nat, v = .slice (some ⟨g, 0, none⟩) 2 2 ∧ g ≠ b ∧ Blk u g #[.slice (some ⟨q, o, none⟩) 4 c, .slice (some ⟨q, o + 8, none⟩) n (c - 8)] 58) rfl rfl (fun v u u' h hb => let ⟨g, h1, h2, h3⟩ := h; ⟨g, h1, h2, h3.but hb h2⟩) ?_ ?_
    focus
      intro x w' hw _; dsimp only
      have hba : Below w'.heap.size w' (w'.alloc (.cells #[.slice (some ⟨q, o, none⟩) 4 c, .slice (some ⟨q, o + 8, none⟩) n (c - 8)] 58)) := (Below.refl _ _).alloc (Nat.le_refl _) _
      have hI := S w' _ hw (hw.1.below hba) (But.of_below hba)
      have hI1 := hI.1
      have hI2 := hI.2
      have hE := But.of_below (b := b) hba
      have hg : w'.heap.size ≠ b := by have := hw.1.lt; omega
      go_simp
      (repeat' apply And.intro) <;> first | assumption | exact ⟨_, rfl, hg, Blk.new _ _ _⟩ | exact Blk.new _ _ _ | (with_unfolding_all rfl)
    simp only [Act.put, List.setIfInBounds_toArray, List.set_cons_zero, List.set_cons_succ, List.nil_append]
    refine RelSeq.grow_ (c := .int .u32 (crcSum ([x0, x1, x2, x3] ++ r.take n) : Nat)) rfl rfl ?_ ?_
    focus
      intro x w' hw hf; dsimp only
      obtain ⟨g, e, hg, hB⟩ := hf _ (.head _) (by kernel_rfl)
      have hps : Rd w' 1 (.slice (some ⟨g, 0, none⟩) 2 2) [((Value.slice (some ⟨q, o, none⟩) 4 c), [x0, x1, x2, x3]), (.slice (some ⟨q, o + 8, none⟩) n (c - 8), r.take n)].length ([((Value.slice (some ⟨q, o, none⟩) 4 c), [x0, x1, x2, x3]), (.slice (some ⟨q, o + 8, none⟩) n (c - 8), r.take n)].map (·.1)) := by
        refine ⟨_, _, rfl, rfl, Nat.le_refl _, by unfold maxLen; show 2 ≤ _; omega, fun _ => ⟨_, _, rfl, fun j u hj => ?_⟩⟩
        match j, hj with
        | 0, hj => simp at hj; subst hj; exact hB.cell rfl
        | 1, hj => simp at hj; subst hj; exact hB.cell rfl
        | j + 2, hj => simp at hj
      have hS := tabSum b (.slice (some ⟨g, 0, none⟩) 2 2) _ w' hw.1 hps (by
        intro p hp
        simp at hp
        rcases hp with rfl | rfl
        · exact hh1.but8 hT1 hw.2
        · rw [hnn]
          exact Rd.but hr1 hT1 hw.2 (u8L_no _))
      simp only [List.flatMap_cons, List.flatMap_nil, List.append_nil] at hS
      clear hps hB
      have hW := hw.2
      clear hh1 hr1 F
      go_simp
      (with_reducible refine hS.mono ?_)
      rintro e w3 ⟨rfl, hT3, hB3⟩
      have hW3 := hW.trans hB3
      go_simp
      all_goals ((repeat' apply And.intro) <;> first | assumption | with_reducible rfl)
    simp only [Act.put, List.setIfInBounds_toArray, List.set_cons_zero, List.set_cons_succ]
    repeat (first
      | (refine RelSeq.pure_ (c := ?_) rfl rfl ?_ ?_; rotate_left; (focus (intro x w'; dsimp only; go_simp; (repeat' apply And.intro) <;> first | with_reducible rfl | assumption)); simp only [Act.put, List.setIfInBounds_toArray, List.set_cons_zero, List.set_cons_succ])
      | (refine RelSeq.grow_ (c := ?_) rfl rfl ?_ ?_; rotate_left; (focus (intro x w' hw _; dsimp only; obtain ⟨d0, d1, d2, d3⟩ := F w' hw; have hbr := But.refl b w'; go_simp; (try (rw [if_pos (by omega)])); (try go_simp); (repeat' apply And.intro) <;> first | with_reducible rfl | assumption)); simp only [Act.put, List.setIfInBounds_toArray, List.set_cons_zero, List.set_cons_succ]))
    refine RelSeq.grow_ (c := .int .u32 (m : Nat)) rfl rfl ?_ ?_
    focus
      intro x w' hw _; dsimp only
      have hW := hw.2
      have hTw := hw.1
      clear hh1 hr1 F
      go_simp
      (with_reducible refine (hC2 _).mono ?_)
      rintro e w3 ⟨rfl, hb3⟩
      have hT3 := hTw.below hb3
      have hB3 := But.of_below (b := b) hb3
      have hW3 := hW.trans hB3
      go_simp
      all_goals ((repeat' apply And.intro) <;> first | assumption | with_reducible rfl)
    simp only [Act.put, List.setIfInBounds_toArray, List.set_cons_zero, List.set_cons_succ]
    refine RelSeq.pure_ (c := .bool true) rfl rfl ?_ ?_
    focus
      intro x w'; dsimp only
      have hs := HS.out
      clear hC hC2 hh1 hr1 F
      go_simp
      (repeat' apply And.intro) <;> first | with_reducible rfl | assumption | exact fun e => hs (Int.ofNat.inj e) | exact congrArg Int.ofNat hs
    simp only [Act.put, List.setIfInBounds_toArray, List.set_cons_zero, List.set_cons_succ]
    refine RelSeq.nil_ fun x wz hz _ _ => TailSeq.nil_ ?_
    obtain ⟨hTz, hBz⟩ := hz
    have hBe : But b w wz := (But.of_below hb1).trans hBz
    clear F S hER hC hC2
    go_wp2_with fail
    go_ret3
    exact ⟨rfl, hTz, hBe⟩

theorem jTakeOk (b q o c n : Nat) (x0 x1 x2 x3 x4 x5 x6 x7 : UInt8) (r : List UInt8) (w : World) (hT : TabOk w b) (hl : Rd w 1 (.slice (some ⟨q, o, none⟩) (r.length + 8) c) (r.length + 8) (u8L (head8 x0 x1 x2 x3 x4 x5 x6 x7 r)))
    (hn : n = unfour x0.toNat x1.toNat x2.toNat x3.toNat) (hn1 : n ≤ 524288) (hn2 : n ≤ r.length) (hsum : crcSum ([x0, x1, x2, x3] ++ r.take n) = unfour x4.toNat x5.toNat x6.toNat x7.toNat) :
    Calls Tryz.prog 92 #[.pointer (some ⟨b, 0, none⟩), .slice (some ⟨q, o, none⟩) (r.length + 8) c] w fun e w' => ∃ v, e = .returned (.tuple #[v, .int .i64 (n + 8 : Nat), .bool true]) ∧ w'.ownsRow w.heap.size 5 1 v n (u8L (r.take n)) ∧ TabOk w' b ∧ But b w w' := by
  obtain ⟨A, c', he, h1, h2, h3, h4⟩ := hl
  cases he
  unfold maxLen at h3
  obtain ⟨q', o', he, hr⟩ := h4 (by omega)
  cases he
  have hlt := unfour_lt x0 x1 x2 x3
  have hlt2 := unfour_lt x4 x5 x6 x7
  have hat : ∀ (k c : Nat) (W : World), (Instr.arrayAt 168 (.slice (some ⟨q, k, none⟩) 4 c)).run Tryz.prog W = .ok (.pointer (some ⟨q, k, none⟩)) W := fun k c W => run_arrayAt W 168 5 4 _ 4 _ Tryz.underlying168 (Nat.le_refl 4)
  have c0 : w.cell? ⟨q, o, none⟩ = some (.int .u8 x0.toNat) := hr 0 _ rfl
  have c1 : w.cell? ⟨q, o + 1, none⟩ = some (.int .u8 x1.toNat) := hr 1 _ rfl
  have c2 : w.cell? ⟨q, o + 2, none⟩ = some (.int .u8 x2.toNat) := hr 2 _ rfl
  have c3 : w.cell? ⟨q, o + 3, none⟩ = some (.int .u8 x3.toNat) := hr 3 _ rfl
  have c4 : w.cell? ⟨q, o + 4, none⟩ = some (.int .u8 x4.toNat) := hr 4 _ rfl
  have c5 : w.cell? ⟨q, o + 5, none⟩ = some (.int .u8 x5.toNat) := hr 5 _ rfl
  have c6 : w.cell? ⟨q, o + 6, none⟩ = some (.int .u8 x6.toNat) := hr 6 _ rfl
  have c7 : w.cell? ⟨q, o + 7, none⟩ = some (.int .u8 x7.toNat) := hr 7 _ rfl
  have hC := crcTake x0.toNat x1.toNat x2.toNat x3.toNat x0.toNat_lt x1.toNat_lt x2.toNat_lt x3.toNat_lt
  have hC2 := crcTake x4.toNat x5.toNat x6.toNat x7.toNat x4.toNat_lt x5.toNat_lt x6.toNat_lt x7.toNat_lt
  rw [← hn] at hC hlt
  generalize unfour x4.toNat x5.toNat x6.toNat x7.toNat = m at hC2 hlt2 hsum
  have HN := Lib.hid hn
  have HS := Lib.hid hsum
  have hq : q ≠ b := hT.far c0 (fun n => by simp)
  have hlq := World.block_lt_of_cell? w _ c0
  have hr8 : ∀ j u, (u8L (r.take n))[j]? = some u → w.cell? ⟨q, o + 8 + j, none⟩ = some u := by
    intro j u hj
    rw [Nat.add_assoc]
    refine hr (8 + j) u ?_
    simp only [u8L, head8, List.map_cons] at hj ⊢
    rw [Nat.add_comm 8 j]
    simp only [List.getElem?_cons_succ]
    rw [List.map_take] at hj
    rw [List.getElem?_take] at hj
    split at hj
    · exact hj
    · cases hj
  have e8 : 8 + n - 8 = n := by omega
  have hls := crcSum_lt ([x0, x1, x2, x3] ++ r.take n)
  have hnn : (r.take n).length = n := by simp; omega
  clear hn h4 hr h1 hsum
  by_cases hc8 : c = 8
  · obtain rfl := hc8
    go_enter Tryz.func92, Tryz.ntmps92
    go_wp2_with fail
    (with_reducible refine (hC _).mono ?_)
    rintro e w1 ⟨rfl, hb1⟩
    have hT1 := hT.below hb1
    have hr1 : Rd w1 1 (.slice (some ⟨q, o, none⟩) n 0) n (u8L (r.take n)) := by
      have hn0 : n = 0 := by omega
      exact ⟨_, _, rfl, by simp [u8L, hn0], by omega, by unfold maxLen; omega, fun h => by omega⟩
    have hh1 : Rd w1 1 (.slice (some ⟨q, o, none⟩) 4 8) 4 (u8L [x0, x1, x2, x3]) := by
      refine ⟨_, _, rfl, rfl, by omega, by unfold maxLen; omega, fun _ => ⟨_, _, rfl, fun j u hj => ?_⟩⟩
      match j, hj with
      | 0, hj => simp [u8L] at hj; subst hj; rw [hb1.cell hlq]; exact c0
      | 1, hj => simp [u8L] at hj; subst hj; rw [hb1.cell hlq]; exact c1
      | 2, hj => simp [u8L] at hj; subst hj; rw [hb1.cell hlq]; exact c2
      | 3, hj => simp [u8L] at hj; subst hj; rw [hb1.cell hlq]; exact c3
      | j + 4, hj => simp [u8L] at hj
    go_wp2_with fail
    try simp only [show 8 + n - 8 = n by omega]
    have F : ∀ w', TabOk w' b ∧ But b w1 w' → w'.cell? ⟨q, o + 4, none⟩ = some (.int .u8 x4.toNat) ∧ w'.cell? ⟨q, o + 4 + 1, none⟩ = some (.int .u8 x5.toNat) ∧ w'.cell? ⟨q, o + 4 + 2, none⟩ = some (.int .u8 x6.toNat) ∧ w'.cell? ⟨q, o + 4 + 3, none⟩ = some (.int .u8 x7.toNat) := by
      intro w' h
      have k : ∀ j u, w.cell? ⟨q, j, none⟩ = some u → w'.cell? ⟨q, j, none⟩ = some u := fun j u hu => by
        rw [World.cell?_of_block (w := w1) (h.2.block q (Nat.lt_of_lt_of_le hlq hb1.size) hq), hb1.cell hlq]; exact hu
      exact ⟨k _ _ c4, k _ _ c5, k _ _ c6, k _ _ c7⟩
    have S : ∀ w' w'', TabOk w' b ∧ But b w1 w' → TabOk w'' b → But b w' w'' → TabOk w'' b ∧ But b w1 w'' := fun w' w'' h h2 h3 => ⟨h2, h.2.trans h3⟩
    have hER : ∀ u u', (butReach b).rel u u' = But b u u' := fun _ _ => rfl
    refine region_free (E := butReach b) (fun w' => TabOk w' b ∧ But b w1 w') [4] [] (List.range 12) (by kernel_rfl) (by kernel_rfl) (by kernel_rfl) ⟨hT1, (But.refl b w1).drew⟩ ?_
    simp only [List.range, List.range.loop]
    repeat (first
      | (refine RelSeq.pure_ (c := ?_) rfl rfl ?_ ?_; rotate_left; (focus (intro x w'; dsimp only; go_simp; (repeat' apply And.intro) <;> first | with_reducible rfl | assumption)); simp only [Act.put, List.setIfInBounds_toArray, List.set_cons_zero, List.set_cons_succ])
      | (refine RelSeq.grow_ (c := ?_) rfl rfl ?_ ?_; rotate_left; (focus (intro x w' hw _; dsimp only; obtain ⟨d0, d1, d2, d3⟩ := F w' hw; have hbr := But.refl b w'; go_simp; (try (rw [if_pos (by omega)])); (try go_simp); (repeat' apply And.intro) <;> first | with_reducible rfl | assumption)); simp only [Act.put, List.setIfInBounds_toArray, List.set_cons_zero, List.set_cons_succ]))
    refine RelSeq.rel_ (fun v u => ∃ g : Nat, v = .slice (some ⟨g, 0, none⟩) 2 2 ∧ g ≠ b ∧ Blk u g #[.slice (some ⟨q, o, none⟩) 4 8, .slice (some ⟨q, o, none⟩) n 0] 58) rfl rfl (fun v u u' h hb => let ⟨g, h1, h2, h3⟩ := h; ⟨g, h1, h2, h3.but hb h2⟩) ?_ ?_
    focus
      intro x w' hw _; dsimp only
      have hba : Below w'.heap.size w' (w'.alloc (.cells #[.slice (some ⟨q, o, none⟩) 4 8, .slice (some ⟨q, o, none⟩) n 0] 58)) := (Below.refl _ _).alloc (Nat.le_refl _) _
      have hI := S w' _ hw (hw.1.below hba) (But.of_below hba)
      have hI1 := hI.1
      have hI2 := hI.2
      have hE := But.of_below (b := b) hba
      have hg : w'.heap.size ≠ b := by have := hw.1.lt; omega
      go_simp
      (repeat' apply And.intro) <;> first | assumption | exact ⟨_, rfl, hg, Blk.new _ _ _⟩ | exact Blk.new _ _ _ | (with_unfolding_all rfl)
    simp only [Act.put, List.setIfInBounds_toArray, List.set_cons_zero, List.set_cons_succ, List.nil_append]
    refine RelSeq.grow_ (c := .int .u32 (crcSum ([x0, x1, x2, x3] ++ r.take n) : Nat)) rfl rfl ?_ ?_
    focus
      intro x w' hw hf; dsimp only
      obtain ⟨g, e, hg, hB⟩ := hf _ (.head _) (by kernel_rfl)
      have hps : Rd w' 1 (.slice (some ⟨g, 0, none⟩) 2 2) [((Value.slice (some ⟨q, o, none⟩) 4 8), [x0, x1, x2, x3]), (.slice (some ⟨q, o, none⟩) n 0, r.take n)].length ([((Value.slice (some ⟨q, o, none⟩) 4 8), [x0, x1, x2, x3]), (.slice (some ⟨q, o, none⟩) n 0, r.take n)].map (·.1)) := by
        refine ⟨_, _, rfl, rfl, Nat.le_refl _, by unfold maxLen; show 2 ≤ _; omega, fun _ => ⟨_, _, rfl, fun j u hj => ?_⟩⟩
        match j, hj with
        | 0, hj => simp at hj; subst hj; exact hB.cell rfl
        | 1, hj => simp at hj; subst hj; exact hB.cell rfl
        | j + 2, hj => simp at hj
      have hS := tabSum b (.slice (some ⟨g, 0, none⟩) 2 2) _ w' hw.1 hps (by
        intro p hp
        simp at hp
        rcases hp with rfl | rfl
        · exact hh1.but8 hT1 hw.2
        · rw [hnn]
          exact Rd.but hr1 hT1 hw.2 (u8L_no _))
      simp only [List.flatMap_cons, List.flatMap_nil, List.append_nil] at hS
      clear hps hB
      have hW := hw.2
      clear hh1 hr1 F
      go_simp
      (with_reducible refine hS.mono ?_)
      rintro e w3 ⟨rfl, hT3, hB3⟩
      have hW3 := hW.trans hB3
      go_simp
      all_goals ((repeat' apply And.intro) <;> first | assumption | with_reducible rfl)
    simp only [Act.put, List.setIfInBounds_toArray, List.set_cons_zero, List.set_cons_succ]
    repeat (first
      | (refine RelSeq.pure_ (c := ?_) rfl rfl ?_ ?_; rotate_left; (focus (intro x w'; dsimp only; go_simp; (repeat' apply And.intro) <;> first | with_reducible rfl | assumption)); simp only [Act.put, List.setIfInBounds_toArray, List.set_cons_zero, List.set_cons_succ])
      | (refine RelSeq.grow_ (c := ?_) rfl rfl ?_ ?_; rotate_left; (focus (intro x w' hw _; dsimp only; obtain ⟨d0, d1, d2, d3⟩ := F w' hw; have hbr := But.refl b w'; go_simp; (try (rw [if_pos (by omega)])); (try go_simp); (repeat' apply And.intro) <;> first | with_reducible rfl | assumption)); simp only [Act.put, List.setIfInBounds_toArray, List.set_cons_zero, List.set_cons_succ]))
    refine RelSeq.grow_ (c := .int .u32 (m : Nat)) rfl rfl ?_ ?_
    focus
      intro x w' hw _; dsimp only
      have hW := hw.2
      have hTw := hw.1
      clear hh1 hr1 F
      go_simp
      (with_reducible refine (hC2 _).mono ?_)
      rintro e w3 ⟨rfl, hb3⟩
      have hT3 := hTw.below hb3
      have hB3 := But.of_below (b := b) hb3
      have hW3 := hW.trans hB3
      go_simp
      all_goals ((repeat' apply And.intro) <;> first | assumption | with_reducible rfl)
    simp only [Act.put, List.setIfInBounds_toArray, List.set_cons_zero, List.set_cons_succ]
    refine RelSeq.pure_ (c := .bool false) rfl rfl ?_ ?_
    focus
      intro x w'; dsimp only
      have hs := HS.out
      clear hC hC2 hh1 hr1 F
      go_simp
      (repeat' apply And.intro) <;> first | with_reducible rfl | assumption | exact fun e => hs (Int.ofNat.inj e) | exact congrArg Int.ofNat hs
    simp only [Act.put, List.setIfInBounds_toArray, List.set_cons_zero, List.set_cons_succ]
    refine RelSeq.nil_ fun x wz hz _ _ => TailSeq.nil_ ?_
    obtain ⟨hTz, hBz⟩ := hz
    have hBe : But b w wz := (But.of_below hb1).trans hBz
    clear F S hER hC hC2
    have hrz : Rd wz 1 (.slice (some ⟨q, o, none⟩) n 0) n (u8L (r.take n)) := Rd.but hr1 hT1 hBz (u8L_no _)
    have hmk := run_make_row' (P := Tryz.prog) 58 5 _ 1 Tryz.underlying58 infoByte rfl .i64 .i64 n (by omega) (by omega)
    go_wp2_with (with_reducible refine wpl_stop_copy rfl fun W hW => ?_)
    refine Stopped.mk ?_
    have hBW : Blk W wz.heap.size (madeCells #[.int .u8 0] n) 5 := by rw [hW]; exact Blk.new _ _ _
    have hbW : Below wz.heap.size wz W := by rw [hW]; exact (Below.refl _ _).alloc (Nat.le_refl _) _
    clear hW
    refine wpl_copy_rd rfl (.tmp 50) (.tmp 51) 58 58 rfl 5 Tryz.underlying58 infoByteSz wz.heap.size n rfl _ 5 hBW (size_madeCells _ _) _ _ rfl (hrz.below hbW) (u8L_one _) fun w5 hB5 hb5 => ?_
    have hbe5 : Below wz.heap.size wz w5 := hbW.trans hb5
    have hTe := hTz.below hbe5
    have hBe5 := hBe.trans (But.of_below hbe5)
    have hsz := hBe.size
    have hown := owns_of_blk hB5 (base := w.heap.size) hsz (by simp [u8L]; unfold maxLen; omega)
    have e9 : (u8L (r.take n)).toArray.size = n := by simp [u8L]; omega
    rw [e9] at hown
    have e10 : (8 : Int) + (n : Int) = ((n + 8 : Nat) : Int) := by omega
    clear hrz hr1 hh1 hB5 hb5 hbW hBW hmk
    go_wp2_with fail
    go_ret3
    exact ⟨_, rfl, hown, hTe, hBe5⟩
  · have hc4 : ¬ c = 4 := by omega
    go_enter Tryz.func92, Tryz.ntmps92
    go_wp2_with fail
    (with_reducible refine (hC _).mono ?_)
    rintro e w1 ⟨rfl, hb1⟩
    have hT1 := hT.below hb1
    have hr1 : Rd w1 1 (.slice (some ⟨q, o + 8, none⟩) n (c - 8)) n (u8L (r.take n)) := by
      refine ⟨_, _, rfl, by simp [u8L]; omega, by omega, by unfold maxLen; omega, fun _ => ⟨_, _, rfl, fun j u hj => ?_⟩⟩
      rw [hb1.cell hlq]
      exact hr8 j u hj
    have hh1 : Rd w1 1 (.slice (some ⟨q, o, none⟩) 4 c) 4 (u8L [x0, x1, x2, x3]) := by
      refine ⟨_, _, rfl, rfl, by omega, by unfold maxLen; omega, fun _ => ⟨_, _, rfl, fun j u hj => ?_⟩⟩
      match j, hj with
      | 0, hj => simp [u8L] at hj; subst hj; rw [hb1.cell hlq]; exact c0
      | 1, hj => simp [u8L] at hj; subst hj; rw [hb1.cell hlq]; exact c1
      | 2, hj => simp [u8L] at hj; subst hj; rw [hb1.cell hlq]; exact c2
      | 3, hj => simp [u8L] at hj; subst hj; rw [hb1.cell hlq]; exact c3
      | j + 4, hj => simp [u8L] at hj
    go_wp2_with fail
    try simp only [show 8 + n - 8 = n by omega]
    have F : ∀ w', TabOk w' b ∧ But b w1 w' → w'.cell? ⟨q, o + 4, none⟩ = some (.int .u8 x4.toNat) ∧ w'.cell? ⟨q, o + 4 + 1, none⟩ = some (.int .u8 x5.toNat) ∧ w'.cell? ⟨q, o + 4 + 2, none⟩ = some (.int .u8 x6.toNat) ∧ w'.cell? ⟨q, o + 4 + 3, none⟩ = some (.int .u8 x7.toNat) := by
      intro w' h
      have k : ∀ j u, w.cell? ⟨q, j, none⟩ = some u → w'.cell? ⟨q, j, none⟩ = some u := fun j u hu => by
        rw [World.cell?_of_block (w := w1) (h.2.block q (Nat.lt_of_lt_of_le hlq hb1.size) hq), hb1.cell hlq]; exact hu
      exact ⟨k _ _ c4, k _ _ c5, k _ _ c6, k _ _ c7⟩
    have S : ∀ w' w'', TabOk w' b ∧ But b w1 w' → TabOk w'' b → But b w' w'' → TabOk w'' b ∧ But b w1 w'' := fun w' w'' h h2 h3 => ⟨h2, h.2.trans h3⟩
    have hER : ∀ u u', (butReach b).rel u u' = But b u u' := fun _ _ => rfl
    refine region_free (E := butReach b) (fun w' => TabOk w' b ∧ But b w1 w') [4] [] (List.range 12) (by kernel_rfl) (by kernel_rfl) (by kernel_rfl) ⟨hT1, (But.refl b w1).drew⟩ ?_
    simp only [List.range, List.range.loop]
    repeat (first
      | (refine RelSeq.pure_ (c := ?_) rfl rfl ?_ ?_; rotate_left; (focus (intro x w'; dsimp only; go_simp; (repeat' apply And.intro) <;> first | with_reducible rfl | assumption)); simp only [Act.put, List.setIfInBounds_toArray, List.set_cons_zero, List.set_cons_succ])
      | (refine RelSeq.grow_ (c := ?_) rfl rfl ?_ ?_; rotate_left; (focus (intro x w' hw _; dsimp only; obtain ⟨d0, d1, d2, d3⟩ := F w' hw; have hbr := But.refl b w'; go_simp; (try (rw [if_pos (by omega)])); (try go_simp); (repeat' apply And.intro) <;> first | with_reducible rfl | assumption)); simp only [Act.put, List.setIfInBounds_toArray, List.set_cons_zero, List.set_cons_succ]))
    refine RelSeq.rel_ (fun v u => ∃ g : Nat, v = .slice (some ⟨g, 0, none⟩) 2 2 ∧ g ≠ b ∧ Blk u g #[.slice (some ⟨q, o, none⟩) 4 c, .slice (some ⟨q, o + 8, none⟩) n (c - 8)] 58) rfl rfl (fun v u u' h hb => let ⟨g, h1, h2, h3⟩ := h; ⟨g, h1, h2, h3.but hb h2⟩) ?_ ?_
    focus
      intro x w' hw _; dsimp only
      have hba : Below w'.heap.size w' (w'.alloc (.cells #[.slice (some ⟨q, o, none⟩) 4 c, .slice (some ⟨q, o + 8, none⟩) n (c - 8)] 58)) := (Below.refl _ _).alloc (Nat.le_refl _) _
      have hI := S w' _ hw (hw.1.below hba) (But.of_below hba)
      have hI1 := hI.1
      have hI2 := hI.2
      have hE := But.of_below (b := b) hba
      have hg : w'.heap.size ≠ b := by have := hw.1.lt; omega
      go_simp
      (repeat' apply And.intro) <;> first | assumption | exact ⟨_, rfl, hg, Blk.new _ _ _⟩ | exact Blk.new _ _ _ | (with_unfolding_all rfl)
    simp only [Act.put, List.setIfInBounds_toArray, List.set_cons_zero, List.set_cons_succ, List.nil_append]
    refine RelSeq.grow_ (c := .int .u32 (crcSum ([x0, x1, x2, x3] ++ r.take n) : Nat)) rfl rfl ?_ ?_
    focus
      intro x w' hw hf; dsimp only
      obtain ⟨g, e, hg, hB⟩ := hf _ (.head _) (by kernel_rfl)
      have hps : Rd w' 1 (.slice (some ⟨g, 0, none⟩) 2 2) [((Value.slice (some ⟨q, o, none⟩) 4 c), [x0, x1, x2, x3]), (.slice (some ⟨q, o + 8, none⟩) n (c - 8), r.take n)].length ([((Value.slice (some ⟨q, o, none⟩) 4 c), [x0, x1, x2, x3]), (.slice (some ⟨q, o + 8, none⟩) n (c - 8), r.take n)].map (·.1)) := by
        refine ⟨_, _, rfl, rfl, Nat.le_refl _, by unfold maxLen; show 2 ≤ _; omega, fun _ => ⟨_, _, rfl, fun j u hj => ?_⟩⟩
        match j, hj with
        | 0, hj => simp at hj; subst hj; exact hB.cell rfl
        | 1, hj => simp at hj; subst hj; exact hB.cell rfl
        | j + 2, hj => simp at hj
      have hS := tabSum b (.slice (some ⟨g, 0, none⟩) 2 2) _ w' hw.1 hps (by
        intro p hp
        simp at hp
        rcases hp with rfl | rfl
        · exact hh1.but8 hT1 hw.2
        · rw [hnn]
          exact Rd.but hr1 hT1 hw.2 (u8L_no _))
      simp only [List.flatMap_cons, List.flatMap_nil, List.append_nil] at hS
      clear hps hB
      have hW := hw.2
      clear hh1 hr1 F
      go_simp
      (with_reducible refine hS.mono ?_)
      rintro e w3 ⟨rfl, hT3, hB3⟩
      have hW3 := hW.trans hB3
      go_simp
      all_goals ((repeat' apply And.intro) <;> first | assumption | with_reducible rfl)
    simp only [Act.put, List.setIfInBounds_toArray, List.set_cons_zero, List.set_cons_succ]
    repeat (first
      | (refine RelSeq.pure_ (c := ?_) rfl rfl ?_ ?_; rotate_left; (focus (intro x w'; dsimp only; go_simp; (repeat' apply And.intro) <;> first | with_reducible rfl | assumption)); simp only [Act.put, List.setIfInBounds_toArray, List.set_cons_zero, List.set_cons_succ])
      | (refine RelSeq.grow_ (c := ?_) rfl rfl ?_ ?_; rotate_left; (focus (intro x w' hw _; dsimp only; obtain ⟨d0, d1, d2, d3⟩ := F w' hw; have hbr := But.refl b w'; go_simp; (try (rw [if_pos (by omega)])); (try go_simp); (repeat' apply And.intro) <;> first | with_reducible rfl | assumption)); simp only [Act.put, List.setIfInBounds_toArray, List.set_cons_zero, List.set_cons_succ]))
    refine RelSeq.grow_ (c := .int .u32 (m : Nat)) rfl rfl ?_ ?_
    focus
      intro x w' hw _; dsimp only
      have hW := hw.2
      have hTw := hw.1
      clear hh1 hr1 F
      go_simp
      (with_reducible refine (hC2 _).mono ?_)
      rintro e w3 ⟨rfl, hb3⟩
      have hT3 := hTw.below hb3
      have hB3 := But.of_below (b := b) hb3
      have hW3 := hW.trans hB3
      go_simp
      all_goals ((repeat' apply And.intro) <;> first | assumption | with_reducible rfl)
    simp only [Act.put, List.setIfInBounds_toArray, List.set_cons_zero, List.set_cons_succ]
    refine RelSeq.pure_ (c := .bool false) rfl rfl ?_ ?_
    focus
      intro x w'; dsimp only
      have hs := HS.out
      clear hC hC2 hh1 hr1 F
      go_simp
      (repeat' apply And.intro) <;> first | with_reducible rfl | assumption | exact fun e => hs (Int.ofNat.inj e) | exact congrArg Int.ofNat hs
    simp only [Act.put, List.setIfInBounds_toArray, List.set_cons_zero, List.set_cons_succ]
    refine RelSeq.nil_ fun x wz hz _ _ => TailSeq.nil_ ?_
    obtain ⟨hTz, hBz⟩ := hz
    have hBe : But b w wz := (But.of_below hb1).trans hBz
    clear F S hER hC hC2
    have hrz : Rd wz 1 (.slice (some ⟨q, o + 8, none⟩) n (c - 8)) n (u8L (r.take n)) := Rd.but hr1 hT1 hBz (u8L_no _)
    have hmk := run_make_row' (P := Tryz.prog) 58 5 _ 1 Tryz.underlying58 infoByte rfl .i64 .i64 n (by omega) (by omega)
    go_wp2_with (with_reducible refine wpl_stop_copy rfl fun W hW => ?_)
    refine Stopped.mk ?_
    have hBW : Blk W wz.heap.size (madeCells #[.int .u8 0] n) 5 := by rw [hW]; exact Blk.new _ _ _
    have hbW : Below wz.heap.size wz W := by rw [hW]; exact (Below.refl _ _).alloc (Nat.le_refl _) _
    clear hW
    refine wpl_copy_rd rfl (.tmp 50) (.tmp 51) 58 58 rfl 5 Tryz.underlying58 infoByteSz wz.heap.size n rfl _ 5 hBW (size_madeCells _ _) _ _ rfl (hrz.below hbW) (u8L_one _) fun w5 hB5 hb5 => ?_
    have hbe5 : Below wz.heap.size wz w5 := hbW.trans hb5
    have hTe := hTz.below hbe5
    have hBe5 := hBe.trans (But.of_below hbe5)
    have hsz := hBe.size
    have hown := owns_of_blk hB5 (base := w.heap.size) hsz (by simp [u8L]; unfold maxLen; omega)
    have e9 : (u8L (r.take n)).toArray.size = n := by simp [u8L]; omega
    rw [e9] at hown
    have e10 : (8 : Int) + (n : Int) = ((n + 8 : Nat) : Int) := by omega
    clear hrz hr1 hh1 hB5 hb5 hbW hBW hmk
    go_wp2_with fail
    go_ret3
    exact ⟨_, rfl, hown, hTe, hBe5⟩
end Go.Proofs.YtdmdfccadjfpiaaGreat
