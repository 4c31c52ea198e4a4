/-
  journal.Lay: a record as it stands in a file.
-/
import Derived.Test.YtdmdfccadjfpiaaGreatPut
import Derived.Test.YtdmdfccadjfpiaaGreatApp
import Derived.Test.YtdmdfccadjfpiaaGreatFreeN
namespace Go.Proofs.YtdmdfccadjfpiaaGreat
open Go.RowKit FreeNew
set_option maxRecDepth 100000
attribute [local go_sem] out

def layL (l : List UInt8) : List UInt8 := four l.length ++ four (crcSum (four l.length ++ l)) ++ l
def fourV (n : Nat) : Array Value := #[.int .u8 ((n : Int) % 256), .int .u8 ((n : Int) / 256 % 256), .int .u8 ((n : Int) / 65536 % 256), .int .u8 ((n : Int) / 16777216)]
theorem u8L_four (n : Nat) (h : n < 4294967296) : u8L (four n) = (fourV n).toList := by
  have e : ∀ k, k < 256 → (UInt8.ofNat k).toNat = k := fun k hk => by simp; omega
  simp only [u8L, four, fourV, List.map_cons, List.map_nil]
  rw [e _ (by omega), e _ (by omega), e _ (by omega), e _ (by omega)]
  simp
theorem four_rd {w : World} {g n : Nat} (h : n < 4294967296) (hB : Blk w g (fourV n) 168) : Rd w 1 (.slice (some ⟨g, 0, none⟩) 4 4) (four n).length (u8L (four n)) := by
  refine ⟨_, _, rfl, rfl, Nat.le_refl _, by unfold maxLen; show 4 ≤ _; omega, fun _ => ⟨_, _, rfl, fun j u hj => ?_⟩⟩
  rw [u8L_four n h, Array.getElem?_toList] at hj
  rw [Nat.zero_add]
  exact hB.cell hj
theorem infoByte : (Tryz.prog.info? 5).map (fun i => (i.zero, i.size, i.bytes)) = some (some (.int .u8 0), 1, 1) := by kernel_rfl

theorem owns_mono {w : World} {base base' : Nat} {e : TypeId} {size : Nat} {v : Value} {n : Nat} {xs : List Value} (h : w.ownsRow base e size v n xs) (hb : base' ≤ base) : w.ownsRow base' e size v n xs := by
  refine ⟨h.1, h.2.imp id ?_⟩
  rintro ⟨g, cap, cur, hv, hg, r⟩
  exact ⟨g, cap, cur, hv, Nat.le_trans hb hg, r⟩
theorem u8L_one (l : List UInt8) : ∀ u ∈ u8L l, u.oneCell' = true := by
  intro u hu
  obtain ⟨c, _, rfl⟩ := List.mem_map.1 hu
  rfl

theorem jLayLong (b : Nat) (v : Value) (l : List UInt8) (w : World) (hl : Rd w 1 v l.length (u8L l)) (hlen : 524288 < l.length) :
    Calls Tryz.prog 68 #[.pointer (some ⟨b, 0, none⟩), v] w fun e w' => e = .returned (.tuple #[.slice none 0 0, .int .i64 4]) ∧ w' = w := by
  obtain ⟨A, c, rfl, h1, h2, h3, h4⟩ := hl
  unfold maxLen at h3
  go_enter Tryz.func68, Tryz.ntmps68
  go_wp2_with fail
  go_ret2
  exact ⟨rfl, rfl⟩

theorem jLay (b : Nat) (v : Value) (l : List UInt8) (w : World) (hT : TabOk w b) (hl : Rd w 1 v l.length (u8L l)) (hlen : l.length ≤ 524288) :
    Calls Tryz.prog 68 #[.pointer (some ⟨b, 0, none⟩), v] w fun e w' => ∃ v', e = .returned (.tuple #[v', .int .i64 0]) ∧
      w'.ownsRow w.heap.size 5 1 v' (layL l).length (u8L (layL l)) ∧ TabOk w' b ∧ But b w w' := by
  have hl0 := hl
  obtain ⟨A, c, rfl, h1, h2, h3, h4⟩ := hl
  unfold maxLen at h3
  go_enter Tryz.func68, Tryz.ntmps68
  go_wp2_with fail
  (with_reducible refine (crcPut l.length (by omega) _).mono ?_)
  rintro e w1 ⟨rfl, hb1⟩
  have hT1 := hT.below hb1
  have hl1 := hl0.below hb1
  go_wp2_with fail
  generalize hW2 : (w1.alloc (.cells #[.int .u8 ((l.length : Int) % 256), .int .u8 ((l.length : Int) / 256 % 256), .int .u8 ((l.length : Int) / 65536 % 256), .int .u8 ((l.length : Int) / 16777216)] 168)).alloc (.cells #[.slice (some ⟨w1.heap.size, 0, none⟩) 4 4, .slice A l.length c] 58) = w2
  have hH : Holds w1 [(w1.heap.size + 1, #[.slice (some ⟨w1.heap.size, 0, none⟩) 4 4, .slice A l.length c], 58), (w1.heap.size, fourV l.length, 168)] w2 := by
    rw [← hW2]
    exact ((Holds.nil w1).new w1.heap.size _ _ rfl).new (w1.heap.size + 1) _ _ (by simp)
  have hb2 := hH.1
  have hBf := hH.2 _ (.tail _ (.head _))
  have hBs := hH.2 _ (.head _)
  have hT2 := hT1.below hb2
  have hl2 := hl1.below hb2
  have hf2 := four_rd (by omega) hBf
  clear hH
  have hps : Rd w2 1 (.slice (some ⟨w1.heap.size + 1, 0, none⟩) 2 2) [((Value.slice (some ⟨w1.heap.size, 0, none⟩) 4 4), four l.length), (.slice A l.length c, l)].length ([((Value.slice (some ⟨w1.heap.size, 0, none⟩) 4 4), four l.length), (.slice A l.length c, l)].map (·.1)) := by
    refine ⟨_, _, rfl, rfl, Nat.le_refl _, by unfold maxLen; show 2 ≤ _; omega, fun _ => ⟨_, _, rfl, fun j u hj => ?_⟩⟩
    match j, hj with
    | 0, hj => simp at hj; subst hj; exact hBs.cell rfl
    | 1, hj => simp at hj; subst hj; exact hBs.cell rfl
    | j + 2, hj => simp at hj
  have hC := tabSum b (.slice (some ⟨w1.heap.size + 1, 0, none⟩) 2 2) _ w2 hT2 hps (by
    intro p hp
    simp at hp
    rcases hp with rfl | rfl
    · exact hf2
    · exact hl2)
  simp only [List.flatMap_cons, List.flatMap_nil, List.append_nil] at hC
  (with_reducible refine hC.mono ?_)
  rintro e w3 ⟨rfl, hT3, hB3⟩
  have hneF := hT2.far (hBf.cell (j := 0) (v := .int .u8 ((l.length : Int) % 256)) rfl) (fun n => by simp)
  have hBf3 := hBf.but hB3 hneF
  have hl3 := hl2.but8 hT2 hB3
  have hbut3 : But b w w3 := ((But.of_below hb1).trans (But.of_below hb2)).trans hB3
  clear hW2 hBf hBs hT2 hl2 hf2 hps hC hB3 hb1 hb2 hT1 hl1
  have hsum := crcSum_lt (four l.length ++ l)
  obtain ⟨sm, hsm⟩ : ∃ sm, sm = crcSum (four l.length ++ l) := ⟨_, rfl⟩
  rw [← hsm] at hsum
  simp only [← hsm]
  have HS := Lib.hid hsm; clear hsm
  go_wp2_with fail
  (with_reducible refine (crcPut sm hsum _).mono ?_)
  rintro e w4 ⟨rfl, hb4⟩
  have hT4 := hT3.below hb4
  have hl4 := hl3.below hb4
  have hBf4 := hBf3.below hb4 hBf3.lt
  have hbut4 := hbut3.trans (But.of_below hb4)
  have hlt4 := Nat.lt_of_lt_of_le hBf3.lt hb4.size
  clear hT3 hl3 hBf3 hbut3 hb4
  go_wp2_with fail
  refine wp_gen fun w5 hw5 => ?_
  have hb5 : Below w4.heap.size w4 w5 := by rw [hw5]; exact (Below.refl _ _).alloc (Nat.le_refl _) _
  have hBm5 : Blk w5 w4.heap.size (fourV sm) 168 := by rw [hw5]; exact Blk.new _ _ _
  have hT5 := hT4.below hb5
  have hl5 := hl4.below hb5
  have hBf5 := hBf4.below hb5 hBf4.lt
  have hbut5 := hbut4.trans (But.of_below hb5)
  clear hw5 hT4 hl4 hBf4 hbut4 hb5
  obtain ⟨i0, hi, hz0, hz1, hz2⟩ := info_parts infoByte
  have S : ∀ w' w'', Below w5.heap.size w5 w' → Below w'.heap.size w' w'' → Below w5.heap.size w5 w'' := fun w' w'' h h2 => h.trans (h2.mono h.size)
  have F : ∀ w', Below w5.heap.size w5 w' → True := fun _ _ => trivial
  refine region_free (fun w' => Below w5.heap.size w5 w') [2] [4, 5] [0, 1, 2, 3, 6] (by kernel_rfl) (by kernel_rfl) (by kernel_rfl) (Below.refl _ _).drew ?_
  repeat (first
    | (refine RelSeq.pure_ (c := ?_) rfl rfl ?_ ?_; rotate_left; (focus (intro x w'; dsimp only; go_simp; (repeat' apply And.intro) <;> first | with_reducible rfl | assumption)); simp only [Act.put, List.setIfInBounds_toArray, List.set_cons_zero, List.set_cons_succ])
    | (refine RelSeq.grow_ (c := ?_) rfl rfl ?_ ?_; rotate_left; (focus (intro x w' hw _; dsimp only; obtain _u := F w' hw; have hbr := Below.refl w'.heap.size w'; go_simp; (repeat' apply And.intro) <;> first | with_reducible rfl | assumption)); simp only [Act.put, List.setIfInBounds_toArray, List.set_cons_zero, List.set_cons_succ]))
  refine RelSeq.rel_ (fun v u => u.ownsRow w5.heap.size 5 1 v 8 (u8L (four l.length ++ four sm))) rfl rfl (fun v u u' h hb => owns_below h hb) ?_ ?_
  focus
    intro x w' hw _; dsimp only
    have hf1 := hBf5.below hw hBf5.lt
    have hf2 := hBm5.below hw hBm5.lt
    refine wp_append_full (.tmp 25) (.tmp 26) 58 rfl 5 i0 _ 1 1 Tryz.underlying58 hi hz0 hz1 hz2 rfl (by decide) w1.heap.size 4 4 (fourV l.length).toList rfl rfl (fun j u hu => ?_) w4.heap.size 4 4 (fourV sm).toList rfl rfl (fun j u hu => ?_) (by decide) (by unfold maxLen; omega) (by decide) fun v' w6 hown hgr => ?_
    · rw [Array.getElem?_toList] at hu; exact hf1.cell hu
    · rw [Array.getElem?_toList] at hu; exact hf2.cell hu
    have hb6 : Below w'.heap.size w' w6 := (Below.refl _ _).grown hgr (Nat.le_refl _) (by simp)
    rw [← u8L_four l.length (by omega), ← u8L_four sm (by omega), show u8L (four l.length) ++ u8L (four sm) = u8L (four l.length ++ four sm) by simp [u8L]] at hown
    exact ⟨rfl, ⟨owns_mono hown hw.size, fun h => by cases h⟩, S w' w6 hw hb6, hb6⟩
  simp only [Act.put, List.setIfInBounds_toArray, List.set_cons_zero, List.set_cons_succ, List.nil_append]
  repeat (first
    | (refine RelSeq.pure_ (c := ?_) rfl rfl ?_ ?_; rotate_left; (focus (intro x w'; dsimp only; go_simp; (repeat' apply And.intro) <;> first | with_reducible rfl | assumption)); simp only [Act.put, List.setIfInBounds_toArray, List.set_cons_zero, List.set_cons_succ])
    | (refine RelSeq.grow_ (c := ?_) rfl rfl ?_ ?_; rotate_left; (focus (intro x w' hw _; dsimp only; obtain _u := F w' hw; have hbr := Below.refl w'.heap.size w'; go_simp; (repeat' apply And.intro) <;> first | with_reducible rfl | assumption)); simp only [Act.put, List.setIfInBounds_toArray, List.set_cons_zero, List.set_cons_succ]))
  refine RelSeq.nil_ fun y w6 hw6 hf _ => ?_
  have hown := hf _ (.head _)
  dsimp only at hown
  refine TailSeq.cons_ rfl ?_
  have hl6 := hl5.below hw6
  refine wp_append_rd (.tmp 27) (.tmp 28) 58 rfl w5.heap.size 5 i0 _ 1 1 Tryz.underlying58 hi hz0 hz1 hz2 rfl (by decide) (y 2) 8 _ rfl hown (.slice A l.length c) l.length (u8L l) rfl hl6 (u8L_one l) (by unfold maxLen; omega) (by omega) hw6.size fun v7 w7 hown7 hgr _ => ?_
  have hb7 : Below w5.heap.size w5 w7 := hw6.grown hgr hw6.size (fun q hq => (hown.lt q hq).1)
  refine ⟨rfl, ?_⟩
  simp only [out, Act.put, List.setIfInBounds_toArray, List.set_cons_zero, List.set_cons_succ]
  refine TailSeq.cons_ rfl ?_
  go_simp
  refine TailSeq.nil_ ?_
  go_wp2_with fail
  go_ret2
  have hlay : u8L (four l.length ++ four sm) ++ u8L l = u8L (layL l) := by
    unfold layL
    rw [← HS.out]
    simp [u8L]
  have hlen8 : 8 + l.length = (layL l).length := by simp [layL, four]; omega
  rw [hlay, hlen8] at hown7
  exact ⟨v7, rfl, owns_mono hown7 hbut5.size, hT5.below hb7, hbut5.trans (But.of_below hb7)⟩
end Go.Proofs.YtdmdfccadjfpiaaGreat
