/-
  slices.SortFunc of labels, on a row of the call's own; slices.Clone of labels.
-/
import Derived.Test.YtgpojkofegajeaaGreatDoorLClo
import Derived.Test.YtgpojkofegajeaaGreatDoorMg8
import Derived.Test.YtgpojkofegajeaaGreatDoorShf
import Derived.Test.YtgpojkofegajeaaGreatDoorApp
import Derived.Shelf.SlSortCmp.NoneTotal
namespace Go.Proofs.YtgpojkofegajeaaGreatDoor
open Go.RowKit Go.Lib Go.Sort
set_option maxRecDepth 100000

theorem cfP_lt (p q : ByteArray × ByteArray) : ltOf cfP p q = ltP p q := by
  unfold ltOf cfP ltP cmpB
  by_cases h1 : ltS p.1 q.1 = true
  · simp [h1]
  · have h1 : ltS p.1 q.1 = false := by simpa using h1
    by_cases h2 : p.1 = q.1
    · by_cases h3 : ltS p.2 q.2 = true
      · simp [h2, h3, ltS_irrefl]
      · have h3 : ltS p.2 q.2 = false := by simpa using h3
        by_cases h4 : p.2 = q.2 <;> simp [h2, h3, h4, ltS_irrefl]
    · simp [h1, h2]
theorem swoP : SWO (ltOf cfP) where
  irrefl x := by rw [cfP_lt]; exact ltP_irrefl x
  trans x y z h1 h2 := by rw [cfP_lt] at *; exact ltP_trans h1 h2
  ntrans x y z h1 h2 := by rw [cfP_lt] at *; exact ltP_ntrans h1 h2
theorem totP (x y : ByteArray × ByteArray) (h1 : ltOf cfP x y = false) (h2 : ltOf cfP y x = false) : x = y := by
  rw [cfP_lt] at h1 h2
  exact ltP_total h1 h2
theorem cmpLaysP (blk off size : Nat) (w : World) : CmpLays Tryz.prog 98 #[] encP 2 cfP blk off size w := fun _ _ _ _ x y => makeCmp x y _
theorem sortL_eq (ps : List (ByteArray × ByteArray)) : (ps.mergeSort fun x y => !(ltOf cfP) y x) = sortL ps := by
  unfold sortL
  congr 1
  funext x y
  rw [cfP_lt]
  rfl

theorem flat_pairs (ps : List (ByteArray × ByteArray)) : (flatK encP 2 ps.toArray).toList = pairCells ps := by
  apply List.ext_getElem?
  intro t
  by_cases ht : t < ps.length * 2
  · have hk : t / 2 < ps.length := by omega
    obtain ⟨p, hp⟩ : ∃ p, ps[t / 2]? = some p := ⟨_, List.getElem?_eq_getElem hk⟩
    obtain ⟨c0, c1⟩ := pairCells_at ps (t / 2) p hp
    have e0 : (flatK encP 2 ps.toArray).toList[t]? = some (encP ps.toArray[t / 2]!)[t % 2]! := by
      rw [Array.getElem?_toList, Array.getElem?_eq_getElem (by rw [size_flatK]; simpa using ht)]
      congr 1
      rw [← getElem!_pos, get_flatK _ _ _ _ (by simpa using ht)]
    have e1 : ps.toArray[t / 2]! = p := by
      rw [getElem!_def]
      simp [hp]
    rw [e0, e1]
    rcases Nat.mod_two_eq_zero_or_one t with h | h
    · have e2 : t = t / 2 * 2 := by omega
      rw [h]
      conv => rhs; rw [e2]
      rw [c0]; rfl
    · have e2 : t = t / 2 * 2 + 1 := by omega
      rw [h]
      conv => rhs; rw [e2]
      rw [c1]; rfl
  · rw [List.getElem?_eq_none (by rw [Array.length_toList, size_flatK]; simp; omega), List.getElem?_eq_none (by rw [pairCells_length]; omega)]
theorem holds_pairs {w : World} {g : Nat} {cur : Array Value} {e : TypeId} {ps : List (ByteArray × ByteArray)} (hb : w.heap[g]? = some (.cells cur e (0, 0))) (ht : cur.toList.take (ps.length * 2) = pairCells ps) : HoldsK encP 2 w g 0 ps.toArray := by
  intro j hj
  have hj' : j < ps.length * 2 := by simpa using hj
  refine ⟨?_, by simp [World.frozen?, hb]⟩
  have h1 : (cur.toList.take (ps.length * 2))[j]? = (pairCells ps)[j]? := by rw [ht]
  rw [List.getElem?_take_of_lt hj', ← flat_pairs, Array.getElem?_toList, Array.getElem?_toList] at h1
  simp only [World.cell?, hb, Nat.zero_add]
  simp only [Option.isSome_none, Bool.false_eq_true, if_false]
  rw [h1, Array.getElem?_eq_getElem hj, getElem!_pos _ j hj]
  rfl
theorem heap_sortedP {w : World} {g n : Nat} {os : Array Obj} {cur : Array Value} {e : TypeId} {fr : Nat × Nat} (F : Array Value) (hb : w.heap[g]? = some (.cells cur e fr)) :
    (grow (putRow id (Sort.ahead w n) g 0 F) os).heap[g]? = some (.cells (putCells id 0 F cur) e fr) := by
  have hg : g < w.heap.size := (Array.getElem?_eq_some_iff.1 hb).1
  rw [heap_grow_old _ _ (by simpa using hg)]
  simp [putRow, mapBlock, Sort.ahead, Array.getElem?_modify, hb, onCells]
theorem grownBy_sortedP {w : World} {g n : Nat} {os : Array Obj} (F : Array Value) : w.grownBy (grow (putRow id (Sort.ahead w n) g 0 F) os) (some g) := by
  refine ⟨rfl, rfl, rfl, by simp, fun k hk hne => ?_⟩
  rw [heap_grow_old _ _ (by simpa using hk)]
  have : g ≠ k := fun e => hne (by rw [e])
  simp [putRow, mapBlock, Sort.ahead, Array.getElem?_modify, this]
theorem take_putCellsP (cur F : Array Value) (h : F.size ≤ cur.size) : (putCells id 0 F cur).toList.take F.size = F.toList := by
  apply List.ext_getElem?
  intro j
  by_cases hj : j < F.size
  · rw [List.getElem?_take_of_lt hj, Array.getElem?_toList]
    simp [putCells, hj, show j < cur.size by omega]
  · rw [List.getElem?_take_eq_none (by omega), List.getElem?_eq_none (by simp; omega)]

theorem sortPairs (base : Nat) (v : Value) (ps : List (ByteArray × ByteArray)) (w : World) (hown : w.ownsRow base 92 2 v ps.length (pairCells ps)) (hsz : ps.length < 4611686018427387904) :
    Calls Tryz.prog 97 #[v, .func (.func 98) #[] #[]] w fun e w' => e = .returned (.tuple #[]) ∧ w'.ownsRow base 92 2 v ps.length (pairCells (sortL ps)) ∧ w.grownBy w' v.ownBlock := by
  have hown0 := hown
  rcases hown.2 with ⟨rfl, h0⟩ | ⟨g, cap, cur, rfl, hbase, hb, h1, h2, h3, h4⟩
  · have : ps = [] := List.eq_nil_of_length_eq_zero h0
    subst this
    refine (AnyF.slices_SortFunc_none Tryz.sortPair none 0 _ w).mono fun e w' ⟨he, hw⟩ => ⟨he, ?_, ?_⟩
    · rw [hw]; simpa [sortL] using hown0
    · rw [hw]; exact ⟨rfl, rfl, rfl, Nat.le_refl _, fun _ _ _ => rfl⟩
  · have eg : ∀ args w, (callFunc 98 args).run Tryz.prog w = .ok (.enter 98 args) w := enters_of Tryz.func98 (by kernel_rfl) rfl
    have hcon := AnyQ.slices_SortFunc_total Tryz.sortPair 2 Tryz.isAgg92 Tryz.sizeOf92 encP (fun _ => rfl) (fun x v hv => by simp [encP] at hv; rcases hv with rfl | rfl <;> rfl) cfP swoP 98 #[] g 0 cap ps.toArray w eg (cmpLaysP g 0 _ w) (holds_pairs hb h4) (Array.getElem?_eq_some_iff.1 hb).1 (by simpa using hsz) totP
    refine hcon.mono fun e w' ⟨he, n, os, hw⟩ => ⟨he, ?_, ?_⟩
    · rw [hw, sortL_eq]
      have hl : (sortL ps).length = ps.length := by simp [sortL]
      refine ⟨by rw [pairCells_length, hl], .inr ⟨g, cap, _, rfl, hbase, heap_sortedP _ hb, h1, h2, by simp [putCells, h3], ?_⟩⟩
      have hF : (flatK encP 2 (sortL ps).toArray).size = ps.length * 2 := by rw [size_flatK]; simp [hl]
      rw [← hF]
      have := take_putCellsP cur (flatK encP 2 (sortL ps).toArray) (by rw [hF, h3]; exact Nat.mul_le_mul_right 2 h1)
      rw [← flat_pairs (sortL ps)]
      exact this
    · rw [hw]
      exact grownBy_sortedP _

theorem infoPair : (Tryz.prog.info? 92).map (fun i => (i.zero, i.size, i.bytes)) = some (some (.agg #[.string ⟨#[]⟩, .string ⟨#[]⟩]), 2, 32) := by kernel_rfl
theorem clonePairs (v : Value) (ps : List (ByteArray × ByteArray)) (w : World) (hl : Rd w 2 v ps.length (pairCells ps)) (hlen : ps.length ≤ 1048576) :
    Calls Tryz.prog 25 #[v] w fun e w' => ∃ v', e = .returned v' ∧ w'.ownsRow w.heap.size 92 2 v' ps.length (pairCells ps) ∧ Below w.heap.size w w' := by
  have hl0 := hl
  obtain ⟨A, c, rfl, h1, h2, h3, h4⟩ := hl
  obtain ⟨i1, hi1, hz3, hz4, hz5⟩ := info_parts infoPair
  cases A with
  | none =>
    have h0 : ps = [] := by
      rcases Nat.eq_zero_or_pos ps.length with h | h
      · exact List.eq_nil_of_length_eq_zero h
      · obtain ⟨_, _, h, _⟩ := h4 h
        cases h
    subst h0
    have hq := fun (W : World) => Lib.run_eql_slice_nil (P := Tryz.prog) W 24 92 none 0 c 0 0 Tryz.underlying24
    go_enter Tryz.func25, Tryz.ntmps25
    go_wp2_with fail
    go_ret
    exact ⟨_, rfl, World.ownsRow_nil _ _ _ _, Below.refl _ _⟩
  | some a =>
    have hq := fun (W : World) => Lib.run_eql_slice_nil (P := Tryz.prog) W 24 92 (some a) ps.length c 0 0 Tryz.underlying24
    unfold maxLen at h3
    go_enter Tryz.func25, Tryz.ntmps25
    go_wp2_with (at_builtin; refine wpl_stop fun W hW => ?_)
    refine Stopped.mk ?_
    subst hW
    refine wpl_gen fun W hW => ?_
    have hBe : Blk W w.heap.size #[] 92 := by rw [hW]; exact Blk.new _ _ _
    have hbW : Below w.heap.size w W := by rw [hW]; exact (Below.refl _ _).alloc (Nat.le_refl _) _
    clear hW
    have hoe : W.ownsRow w.heap.size 92 2 (.slice (some ⟨w.heap.size, 0, none⟩) 0 0) 0 [] := ⟨rfl, .inr ⟨w.heap.size, 0, #[], rfl, Nat.le_refl _, hBe, Nat.le_refl _, Nat.zero_le _, rfl, rfl⟩⟩
    refine wpl_append_rd rfl (.tmp 5) (.tmp 6) 24 rfl w.heap.size 92 i1 _ 2 32 Tryz.underlying24 hi1 hz3 hz4 hz5 rfl (by decide) _ 0 [] rfl hoe _ ps.length (pairCells ps) rfl (hl0.below hbW) (pairCells_one _) (by unfold maxLen; omega) (by omega) hbW.size fun v9 w9 hown9 hgr9 _ => ?_
    have hb9 : Below w.heap.size w w9 := hbW.grown hgr9 hbW.size (fun q hq => Nat.le_of_eq (Option.some.inj hq))
    rw [Nat.zero_add, List.nil_append] at hown9
    clear hoe hBe hbW hgr9
    obtain ⟨A9, c9, rfl⟩ := owns_slice hown9
    go_wp2_with fail
    go_ret
    exact ⟨_, rfl, hown9, hb9⟩
end Go.Proofs.YtgpojkofegajeaaGreatDoor
