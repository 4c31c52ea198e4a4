/-
  lab.Make, lab.Parse. Going over a map: what is left, what was seen. slices.SortFunc of at most one alert.
-/
import Derived.Test.YtgpojkofegajeaaGreatDoorWa5
import Derived.Test.YtgpojkofegajeaaGreatDoorShf
import Derived.Test.YtgpojkofegajeaaGreatDoorMem
import Derived.Maps.RangeRun
import Derived.Test.YtgpojkofegajeaaGreatDoorLSort
import Derived.Test.YtgpojkofegajeaaGreatDoorLChk
namespace Go.Proofs.YtgpojkofegajeaaGreatDoor
open Go.RowKit
set_option maxRecDepth 100000

theorem insSmall (A : Option Addr) (n c : Nat) (f : Value) (w : World) (hn : n ≤ 1) :
    Calls Tryz.prog 99 #[.slice A n c, .int .i64 0, .int .i64 n, f] w fun e w' => e = .returned (.tuple #[]) ∧ w' = w := by
  have d : decide ((1 : Int) < n) = false := by simp; omega
  clear hn
  go_enter Tryz.func99, Tryz.ntmps99
  go_wp2_with fail
  go_loopw [8] (fun i wr => i = .int .i64 1 ∧ wr = w) (fun _ _ => 0)
  case atStart => exact ⟨rfl, rfl⟩
  case round =>
    obtain ⟨rfl, rfl⟩ := hrel
    go_wp2_with fail
    go_end0
    exact ⟨rfl, rfl⟩
theorem pdqSmall (A : Option Addr) (n c : Nat) (f : Value) (l : Int) (w : World) (hn : n ≤ 1) :
    Calls Tryz.prog 81 #[.slice A n c, .int .i64 0, .int .i64 n, .int .i64 l, f] w fun e w' => e = .returned (.tuple #[]) ∧ w' = w := by
  have d : decide ((n : Int) ≤ 12) = true := by simp; omega
  have w1 : IntKind.i64.wrap (n : Int) = n := by rw [IntKind.wrap_i64]; omega
  have K := insSmall A n c f w hn
  clear hn
  go_enter Tryz.func81, Tryz.ntmps81
  go_wp2_with fail
  go_loopw [1, 2, 3] (fun i j k wr => i = .int .i64 0 ∧ j = .int .i64 n ∧ k = .int .i64 l ∧ wr = w) (fun _ _ _ _ => 0)
  case atStart => exact ⟨rfl, rfl, rfl, rfl⟩
  case round =>
    obtain ⟨rfl, rfl, rfl, rfl⟩ := hrel
    go_wp2_with fail
    (with_reducible refine K.mono ?_)
    rintro e w2 ⟨rfl, rfl⟩
    go_wp2_with fail
    refine bodyPost_ret (v := .tuple #[]) ?_ rfl ⟨rfl, rfl⟩
    simp [results, Tryz.results81]
theorem sortSmall (A : Option Addr) (n c : Nat) (f : Value) (w : World) (hn : n ≤ 1) :
    Calls Tryz.prog 56 #[.slice A n c, f] w fun e w' => e = .returned (.tuple #[]) ∧ w' = w := by
  have w1 : IntKind.u64.wrap (n : Int) = n := by rw [IntKind.wrap_u64]; omega
  have KB := Tryz.bits_Len (n : Int) w (by omega) (by omega)
  have K := fun l => pdqSmall A n c f l w hn
  clear hn
  go_enter Tryz.func56, Tryz.ntmps56
  go_wp2_with fail
  (with_reducible refine KB.mono ?_)
  rintro e w2 ⟨rfl, rfl⟩
  generalize (Lib.bitLen (n : Int).toNat : Int) = l
  go_wp2_with fail
  (with_reducible refine (K l).mono ?_)
  rintro e w3 ⟨rfl, rfl⟩
  go_wp2_with fail
  go_end0
  exact ⟨rfl, rfl⟩
end Go.Proofs.YtgpojkofegajeaaGreatDoor
namespace Go.Proofs.YtgpojkofegajeaaGreatDoor
open Go.RowKit
set_option maxRecDepth 100000

def leftW (es : Array MapEntry) (r : Nat) (w : World) : Nat := match w.heap[r]? with | some (.mapIter _ _ seen _) => (leftOf es seen).size | _ => 0
theorem inj_nodupW {α β : Type} {f : α → β} : ∀ {l : List α}, (l.map f).Nodup → ∀ {x y : α}, x ∈ l → y ∈ l → f x = f y → x = y := by
  intro l
  induction l with
  | nil => intro _ x y hx; cases hx
  | cons a r ih =>
    intro h x y hx hy hf
    simp only [List.map_cons, List.nodup_cons] at h
    rcases List.mem_cons.1 hx with hx1 | hx1
    · rcases List.mem_cons.1 hy with hy1 | hy1
      · rw [hx1, hy1]
      · exact absurd (List.mem_map.2 ⟨y, hy1, by rw [← hf, hx1]⟩) h.1
    · rcases List.mem_cons.1 hy with hy1 | hy1
      · exact absurd (List.mem_map.2 ⟨x, hx1, by rw [hf, hy1]⟩) h.1
      · exact ih h.2 hx1 hy1 hf
theorem nodup_mapW {α β : Type} (f : α → β) {l : List α} (h : (l.map f).Nodup) : l.Nodup := (List.pairwise_map.1 h).imp fun h e => h (congrArg f e)
theorem setBlockW_at {w : World} {r : Nat} {o o' : Obj} (h : w.heap[r]? = some o') : (ChangeMaps.setBlock w r o).heap[r]? = some o := by
  have hlt : r < w.heap.size := (Array.getElem?_eq_some_iff.1 h).1
  simp [ChangeMaps.setBlock, hlt]
theorem setBlockW_ne {w : World} {r k : Nat} {o : Obj} (h : k ≠ r) : (ChangeMaps.setBlock w r o).heap[k]? = w.heap[k]? := by
  simp only [ChangeMaps.setBlock]
  rw [Array.getElem?_setIfInBounds_ne (Ne.symm h)]
theorem perm_leftW {es : Array MapEntry} {seen : Array Nat} {done : List MapEntry} (hs : seen.toList = done.map (·.born)) (hd : ∀ e ∈ done, e ∈ es.toList) (hn : (done.map (·.born)).Nodup) (hnd : (es.toList.map (·.born)).Nodup) (h0 : (leftOf es seen).size = 0) : done.Perm es.toList := by
  have n1 : done.Nodup := nodup_mapW _ hn
  have n2 : es.toList.Nodup := nodup_mapW _ hnd
  refine (List.perm_ext_iff_of_nodup n1 n2).2 fun e => ⟨hd e, fun he => ?_⟩
  have hc := all_seen es seen h0 e he
  have hm : e.born ∈ seen.toList := by simpa using hc
  rw [hs] at hm
  obtain ⟨e', he', hb⟩ := List.mem_map.1 hm
  have : e' = e := inj_nodupW hnd (hd e' he') he hb
  rw [← this]; exact he'
theorem perm_oneW {α : Type} {a b : List α} (h : a.Perm b) (hb : b.length ≤ 1) : a = b := by
  match b, hb with
  | [], _ => exact h.eq_nil
  | [x], _ => exact h.eq_singleton
end Go.Proofs.YtgpojkofegajeaaGreatDoor
namespace Go.Proofs.YtgpojkofegajeaaGreatDoor
open Go.RowKit
set_option maxRecDepth 100000

/-- Labels of pairs in any order; of none, if they are none. -/
def makeL (ps : List Pr) : List Pr := if chkL (sortL ps) = 0 then sortL ps else []
theorem lMake (v : Value) (ps : List Pr) (w : World) (hr : Rd w 2 v ps.length (pairCells ps)) (hs : ∀ p ∈ ps, p.1.size ≤ maxLen ∧ p.2.size ≤ maxLen) (hlen : ps.length ≤ 1048576) :
    Calls Tryz.prog 80 #[v] w fun e w' => ∃ v', e = .returned (.tuple #[v', .int .i64 (chkL (sortL ps) : Nat)]) ∧ w'.ownsRow w.heap.size 92 2 v' (makeL ps).length (pairCells (makeL ps)) ∧ Below w.heap.size w w' := by
  have hC := clonePairs v ps w hr hlen
  have hs2 : ∀ p ∈ sortL ps, p.1.size ≤ maxLen ∧ p.2.size ≤ maxLen := fun p hp => hs p ((sortL_perm ps).mem_iff.1 hp)
  have hl2 := sortL_length ps
  obtain ⟨A, c, rfl, _⟩ := hr
  go_enter Tryz.func80, Tryz.ntmps80
  go_wp2_with fail
  (with_reducible refine hC.mono ?_)
  rintro e w1 ⟨v1, rfl, hv1, hb1⟩
  have hS := sortPairs w.heap.size v1 ps w1 hv1 (by omega)
  obtain ⟨A1, c1, rfl⟩ := owns_slice hv1
  have hbase : ∀ q, (Value.slice A1 ps.length c1).ownBlock = some q → w.heap.size ≤ q := fun q hq => (hv1.lt q hq).1
  clear hC hv1
  go_wp2_with fail
  (with_reducible refine hS.mono ?_)
  rintro e w2 ⟨rfl, hv2, hg2⟩
  have hb2 : Below w.heap.size w w2 := hb1.grown hg2 hb1.size hbase
  have hr2 := rd_of_owns hv2
  have hK := lCheck _ (sortL ps) w2 (by rw [hl2]; exact hr2) hs2
  clear hS hg2 hbase hr2 hb1
  cases hc : chkL (sortL ps) with
  | zero =>
    rw [hc] at hK
    have HM := Lib.hid (show makeL ps = sortL ps by simp [makeL, hc])
    have HC := Lib.hid hc
    clear hc
    go_wp2_with fail
    (with_reducible refine hK.mono ?_)
    rintro e w3 ⟨rfl, hb3⟩
    have hv3 := owns_below hv2 hb3
    have hb23 := hb2.trans (hb3.mono hb2.size)
    clear hK hv2 hb3
    have HL := Lib.hid hl2
    clear hl2
    go_wp2_with fail
    go_ret2
    exact ⟨_, by rw [HC.out]; rfl, by rw [HM.out, HL.out]; exact hv3, hb23⟩
  | succ n =>
    rw [hc] at hK
    have HM := Lib.hid (show makeL ps = [] by simp [makeL, hc])
    have HC := Lib.hid (show ((chkL (sortL ps) : Nat) : Int) = (n : Int) + 1 by rw [hc]; omega)
    have HL := Lib.hid hl2
    have hne : ((n : Int) + 1 == 0) = false := by rw [beq_eq_false_iff_ne]; omega
    have hne2 : ((n : Int) + 1 != 0) = true := by rw [bne, hne]; rfl
    clear hc hl2
    go_wp2_with fail
    (with_reducible refine hK.mono ?_)
    rintro e w3 ⟨rfl, hb3⟩
    have hb23 := hb2.trans (hb3.mono hb2.size)
    clear hK hv2 hb3
    go_wp2_with fail
    go_ret2
    exact ⟨_, by rw [HC.out]; rfl, by rw [HM.out]; exact World.ownsRow_nil _ _ _ _, hb23⟩
end Go.Proofs.YtgpojkofegajeaaGreatDoor
