/-
  lab.Parse.
-/
import Derived.Test.YtgpojkofegajeaaGreatDoorMg25
import Derived.Lib.SplitLaws
namespace Go.Proofs.YtgpojkofegajeaaGreatDoor
open Go.RowKit
set_option maxRecDepth 100000

/-- The parts of a text between commas. -/
def partsL (s : ByteArray) : List ByteArray := Lib.splitB ⟨#[44]⟩ 0 (Lib.countB s ⟨#[44]⟩) s
def cutOk (x : ByteArray) : Bool := (Lib.cut x.data.toList [61]).2.2
def cutP (x : ByteArray) : Pr := (⟨(Lib.cut x.data.toList [61]).1.toArray⟩, ⟨(Lib.cut x.data.toList [61]).2.1.toArray⟩)
def parseF : List ByteArray → List Pr → Nat × List Pr
  | [], acc => (0, acc)
  | x :: r, acc => if cutOk x = true then (if 8 < acc.length + 1 then (5, []) else parseF r (acc ++ [cutP x])) else (2, [])
/-- A text as labels: an error's number, and the labels. -/
def parseC (s : ByteArray) : Nat × List Pr :=
  if 65536 < s.size then (4, []) else if s.size = 0 then (0, []) else
  if (parseF (partsL s) []).1 = 0 then (chkL (sortL (parseF (partsL s) []).2), makeL (parseF (partsL s) []).2) else ((parseF (partsL s) []).1, [])

theorem splitB_small (sep : ByteArray) : ∀ (k : Nat) (s : ByteArray), ∀ x ∈ Lib.splitB sep 0 k s, x.size ≤ s.size := by
  intro k
  induction k with
  | zero => intro s x hx; rw [Lib.splitB_zero] at hx; simp at hx; subst hx; exact Nat.le_refl _
  | succ k ih =>
    intro s x hx
    unfold Lib.splitB at hx
    split at hx
    · simp at hx; subst hx; exact Nat.le_refl _
    · rcases List.mem_cons.1 hx with rfl | hx
      · simp [ByteArray.size_extract]; exact Nat.min_le_right _ _
      · have := ih _ x hx
        simp [ByteArray.size_extract] at this
        omega
theorem partsL_small {s x : ByteArray} (hx : x ∈ partsL s) : x.size ≤ s.size := splitB_small _ _ _ x hx
theorem partsL_length (s : ByteArray) : (partsL s).length = Lib.countB s ⟨#[44]⟩ + 1 := Lib.splitB_all _ (by decide) 0 _ s rfl
theorem cutP_small (x : ByteArray) : (cutP x).1.size ≤ x.size ∧ (cutP x).2.size ≤ x.size := by
  unfold cutP Lib.cut
  have hs : x.data.toList.length = x.size := rfl
  split
  · constructor
    · show (List.toArray _).size ≤ _
      rw [List.size_toArray, List.length_take]; omega
    · show (List.toArray _).size ≤ _
      rw [List.size_toArray, List.length_drop]; omega
  · constructor
    · show (List.toArray _).size ≤ _
      simp
    · show (List.toArray _).size ≤ _
      simp
theorem countB_le' (s : ByteArray) : Lib.countB s ⟨#[44]⟩ ≤ s.size := Lib.countB_le _ (by decide) s.size s (Nat.le_refl _)

theorem strings_SplitC (s : ByteArray) (mx : Int) (w : World) (hs : s.size < 4294967281) (hm : w.cell? ⟨2, 0, none⟩ = some (.int .i64 mx)) :
    Calls Tryz.prog 41 #[.string s, .string ⟨#[44]⟩] w fun e w' => e = .returned (.slice (some ⟨w.heap.size, 0, none⟩) (Lib.countB s ⟨#[44]⟩ + 1) (Lib.countB s ⟨#[44]⟩ + 1)) ∧ w' = w.alloc (.cells ((partsL s).map Value.string).toArray 9) :=
  Tryz.strings_Split s ⟨#[44]⟩ mx w hs hm (by decide)
theorem strings_CutC (x : ByteArray) (mx : Int) (w : World) (hs : x.size < 4294967281) (hm : w.cell? ⟨2, 0, none⟩ = some (.int .i64 mx)) :
    Calls Tryz.prog 42 #[.string x, .string ⟨#[61]⟩] w fun e w' => e = .returned (.tuple #[.string (cutP x).1, .string (cutP x).2, .bool (cutOk x)]) ∧ Below w.heap.size w w' :=
  (Tryz.strings_Cut x ⟨#[61]⟩ mx w hs hm).mono fun _ _ ⟨h, n, hw⟩ => ⟨h, by rw [hw]; exact ⟨rfl, rfl, rfl, Nat.le_refl _, fun _ _ => rfl⟩⟩

theorem owns_mono {w : World} {base base' : Nat} {e : TypeId} {size : Nat} {v : Value} {n : Nat} {xs : List Value} (h : w.ownsRow base e size v n xs) (hb : base' ≤ base) : w.ownsRow base' e size v n xs := by
  refine ⟨h.1, h.2.imp id ?_⟩
  rintro ⟨g, cap, cur, hv, hg, r⟩
  exact ⟨g, cap, cur, hv, Nat.le_trans hb hg, r⟩
set_option maxHeartbeats 2000000 in
theorem lParse (s : ByteArray) (mx : Int) (w : World) (hs : s.size ≤ maxLen) (hm : w.cell? ⟨2, 0, none⟩ = some (.int .i64 mx)) :
    Calls Tryz.prog 92 #[.string s] w fun e w' => ∃ v', e = .returned (.tuple #[v', .int .i64 ((parseC s).1 : Nat)]) ∧ w'.ownsRow w.heap.size 92 2 v' (parseC s).2.length (pairCells (parseC s).2) ∧ Below w.heap.size w w' := by
  unfold maxLen at hs
  by_cases h1 : 65536 < s.size
  · have E := Lib.hid (show parseC s = (4, []) by simp [parseC, h1])
    clear hm
    go_enter Tryz.func92, Tryz.ntmps92
    go_wp2_with fail
    go_ret2
    rw [E.out]
    refine ⟨.slice none 0 0, ?_, World.ownsRow_nil _ _ _ _, Below.refl _ _⟩
    rfl
  by_cases h2 : s.size = 0
  · have hse : s = ByteArray.empty := by
      cases s with
      | mk d => have : d = #[] := Array.eq_empty_of_size_eq_zero h2; subst this; rfl
    have E := Lib.hid (show parseC s = (0, []) by simp [parseC, h2])
    clear hm h2
    subst hse
    go_enter Tryz.func92, Tryz.ntmps92
    go_wp2_with fail
    go_ret2
    rw [E.out]
    refine ⟨.slice none 0 0, ?_, World.ownsRow_nil _ _ _ _, Below.refl _ _⟩
    rfl
  have hE1 : s.toList ≠ [] := by
    rw [Lib.toList_data]
    intro e
    exact h2 (by have := congrArg List.length e; simpa using this)
  have hE : s.toList.isEmpty = false := by simpa using hE1
  have hsp := strings_SplitC s mx w (by omega) hm
  obtain ⟨i0, hi, hz0, hz1, hz2⟩ := info_parts infoPair
  have hpl := partsL_length s
  have hcl := countB_le' s
  have E0 : parseC s = if (parseF (partsL s) []).1 = 0 then (chkL (sortL (parseF (partsL s) []).2), makeL (parseF (partsL s) []).2) else ((parseF (partsL s) []).1, []) := by
    unfold parseC
    rw [if_neg h1, if_neg h2]
  have hsm : ∀ x ∈ partsL s, x.size ≤ 65536 := fun x hx => by have := partsL_small hx; omega
  obtain ⟨PS, hPS⟩ : ∃ PS, PS = partsL s := ⟨_, rfl⟩
  rw [← hPS] at hsp hpl E0 hsm
  obtain ⟨nc, hnc⟩ : ∃ nc, nc = Lib.countB s ⟨#[44]⟩ := ⟨_, rfl⟩
  rw [← hnc] at hsp hpl hcl
  have E := Lib.hid E0
  have HPL := Lib.hid hpl
  have hsz : s.size ≤ 65536 := by omega
  have hm0 : ∀ w', Below w.heap.size w w' → w'.cell? ⟨2, 0, none⟩ = some (.int .i64 mx) := fun w' hb => by
    rw [hb.cell (World.block_lt_of_cell? w _ hm)]; exact hm
  clear E0 hPS hnc hpl h2 hm
  go_enter Tryz.func92, Tryz.ntmps92
  go_wp2_with fail
  (with_reducible refine hsp.mono ?_)
  rintro e w1 ⟨rfl, hw1⟩
  have hb1 : Below w.heap.size w w1 := by rw [hw1]; exact (Below.refl _ _).alloc (Nat.le_refl _) _
  have hP1 : Blk w1 w.heap.size ((PS.map Value.string).toArray) 9 := by rw [hw1]; exact Blk.new _ _ _
  clear hw1 hsp
  go_wp2_with fail
  go_loopw [4, 18] (fun v i wr => ∃ (k : Nat) (acc : List Pr), k ≤ PS.length ∧ i = .int .i64 k ∧ parseF PS [] = parseF (PS.drop k) acc ∧ acc.length ≤ 8 ∧ (∀ p ∈ acc, p.1.size ≤ 65536 ∧ p.2.size ≤ 65536) ∧ wr.ownsRow w.heap.size 92 2 v acc.length (pairCells acc) ∧
    Blk wr w.heap.size ((PS.map Value.string).toArray) 9 ∧ Below w.heap.size w wr) (fun _ i _ => PS.length - (intOf i).toNat)
  case atStart => exact ⟨0, [], Nat.zero_le _, rfl, rfl, by simp, by simp, World.ownsRow_nil _ _ _ _, hP1, hb1⟩
  case round =>
    obtain ⟨k, acc, hk, rfl, hpf, ha8, hasz, hv, hP, hB⟩ := hrel
    clear hP1 hb1
    obtain ⟨Av, cv, rfl⟩ := owns_slice hv
    by_cases hlt : k < PS.length
    · obtain ⟨x, hx⟩ : ∃ x, PS[k]? = some x := ⟨_, List.getElem?_eq_getElem hlt⟩
      have hxs := hsm x (List.mem_of_getElem? hx)
      have hlt2 : k < nc + 1 := by rw [← HPL.out]; exact hlt
      have cx : wr.cell? ⟨w.heap.size, k, none⟩ = some (.string x) := hP.cell (by simp [hx])
      have hd : PS.drop k = x :: PS.drop (k + 1) := by
        rw [List.drop_eq_getElem_cons hlt]
        congr 1
        exact (List.getElem?_eq_some_iff.1 hx).2
      have hCut := strings_CutC x mx wr (by omega) (hm0 wr hB)
      have hcs := cutP_small x
      rw [hd] at hpf
      generalize hpp : cutP x = pp at hCut hcs
      obtain ⟨p1, p2⟩ := pp
      simp only at hCut hcs
      clear hd hx
      cases hok : cutOk x with
      | false =>
        rw [hok] at hCut
        have E2 := Lib.hid (show parseC s = (2, []) by rw [E.out, hpf]; simp [parseF, hok])
        clear hpf hok hpp hv hP
        go_wp2_with fail
        (with_reducible refine hCut.mono ?_)
        rintro e w2 ⟨rfl, hb2⟩
        have hB2 := hB.trans (hb2.mono hB.size)
        clear hCut hb2 hB
        go_wp2_with fail
        go_ret2
        refine ⟨.slice none 0 0, ?_, ?_, hB2⟩
        · rw [E2.out]; rfl
        · rw [E2.out]; exact World.ownsRow_nil _ _ _ _
      | true =>
        rw [hok] at hCut
        have hpf2 : parseF PS [] = if 8 < acc.length + 1 then (5, []) else parseF (PS.drop (k + 1)) (acc ++ [(p1, p2)]) := by rw [hpf]; simp only [parseF, hok, if_true, hpp]
        have HPF := Lib.hid hpf2
        clear hpf hok hpp hpf2
        go_wp2_with fail
        (with_reducible refine hCut.mono ?_)
        rintro e w2 ⟨rfl, hb2⟩
        have hB2 := hB.trans (hb2.mono hB.size)
        have hv2 := owns_below hv hb2
        have hP2 := hP.below hb2 hP.lt
        clear hCut hb2 hB hv hP cx
        go_wp2_with (at_builtin; refine wpl_stop fun W hW => ?_)
        refine Stopped.mk ?_
        have hBW : Blk W w2.heap.size #[.string p1, .string p2] 92 := by rw [hW]; exact Blk.new _ _ _
        have hbW : Below w2.heap.size w2 W := by rw [hW]; exact (Below.refl _ _).alloc (Nat.le_refl _) _
        clear hW
        have hvW := owns_below hv2 hbW
        have hPW := hP2.below hbW hP2.lt
        have hsz2 := hB2.size
        have hnx : Rd W 2 (.slice (some ⟨w2.heap.size, 0, none⟩) 1 1) 1 (pairCells [(p1, p2)]) := ⟨_, _, rfl, rfl, Nat.le_refl _, by unfold maxLen; omega, fun _ => ⟨_, _, rfl, fun j u hj => by
          match j, hj with
          | 0, hj => simp [pairCells] at hj; subst hj; exact hBW.cell rfl
          | 1, hj => simp [pairCells] at hj; subst hj; exact hBW.cell rfl
          | j + 2, hj => simp [pairCells] at hj⟩⟩
        refine wpl_append_rd rfl (.tmp 30) (.tmp 34) 24 rfl w.heap.size 92 i0 _ 2 32 Tryz.underlying24 hi hz0 hz1 hz2 rfl (by decide) _ acc.length _ rfl hvW _ 1 _ rfl hnx (pairCells_one _) (by unfold maxLen; omega) (by omega) (Nat.le_trans hsz2 hbW.size) fun v4 w4 hown4 hgr4 _ => ?_
        have hP4 := hPW.grown hgr4 (owns_ne hvW hPW (by decide))
        have hB4 := (hB2.trans (hbW.mono hB2.size)).grown hgr4 (Nat.le_trans hB2.size hbW.size) (fun gg hg => (hvW.lt gg hg).1)
        obtain ⟨A4, c4, rfl⟩ := owns_slice hown4
        clear hv2 hvW hnx hBW hbW hgr4 hB2 hP2 hPW
        by_cases hl8 : 8 < acc.length + 1
        · have E2 := Lib.hid (show parseC s = (5, []) by rw [E.out, HPF.out, if_pos hl8]; rfl)
          clear hown4
          go_wp2_with fail
          go_ret2
          refine ⟨.slice none 0 0, ?_, ?_, hB4⟩
          · rw [E2.out]; rfl
          · rw [E2.out]; exact World.ownsRow_nil _ _ _ _
        · have HPF2 := Lib.hid (HPF.out.trans (if_neg hl8))
          have hl8' : decide (8 < acc.length + 1) = false := by simpa using hl8
          go_wp2_with fail
          go_roundw
          case rel =>
            refine ⟨k + 1, acc ++ [(p1, p2)], by omega, by go_num, HPF2.out, by simp; omega, fun p hp => ?_, ?_, hP4, hB4⟩
            · rcases List.mem_append.1 hp with h | h
              · exact hasz p h
              · obtain rfl := List.mem_singleton.1 h
                exact ⟨Nat.le_trans hcs.1 hxs, Nat.le_trans hcs.2 hxs⟩
            · rw [List.length_append, pairCells_append]; exact hown4
          case measure => simp [intOf]; omega
    · obtain rfl : k = PS.length := by omega
      rw [List.drop_length] at hpf
      have hpf2 : parseF PS [] = (0, acc) := hpf
      have E2 := Lib.hid (show parseC s = (chkL (sortL acc), makeL acc) by rw [E.out, hpf2]; rfl)
      have hlt2 : ¬ PS.length < nc + 1 := by rw [HPL.out]; omega
      have hM := lMake (.slice Av acc.length cv) acc wr (rd_of_owns hv) (fun p hp => by have := hasz p hp; unfold maxLen; omega) (by omega)
      clear hpf hpf2 hP
      go_wp2_with fail
      (with_reducible refine hM.mono ?_)
      rintro e w2 ⟨v2, rfl, hv2, hb2⟩
      have hB2 := hB.trans (hb2.mono hB.size)
      have hv3 := owns_mono hv2 hB.size
      obtain ⟨A2, c2, rfl⟩ := owns_slice hv2
      clear hM hv2 hv hB hb2
      go_wp2_with fail
      go_ret2
      exact ⟨_, by rw [E2.out]; rfl, by rw [E2.out]; exact hv3, hB2⟩
end Go.Proofs.YtgpojkofegajeaaGreatDoor
