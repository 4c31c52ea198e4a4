/-
  Going over a map: what is left, what was seen. slices.SortFunc of at most one alert.
-/
import Derived.Test.YtgpojkofegajeaaGreatDoorWa5
import Derived.Test.YtgpojkofegajeaaGreatDoorShf
import Derived.Test.YtgpojkofegajeaaGreatDoorMem
import Derived.Maps.RangeRun
namespace Go.Proofs.YtgpojkofegajeaaGreatDoor
open Go.RowKit
set_option maxRecDepth 100000

theorem insSmall (A : Option Addr) (n c : Nat) (f : Value) (w : World) (hn : n ≤ 1) :
    Calls Tryz.prog 99 #[.slice A n c, .int .i64 0, .int .i64 n, f] w fun e w' => e = .returned (.tuple #[]) ∧ w' = w := by
  have d : decide ((1 : Int) < n) = false := by simp; omega
  clear hn
  go_enter Tryz.func99, Tryz.ntmps99
  go_wp2_with fail
  go_loopw [8] (fun i wr => i = .int .i64 1 ∧ wr = w) (fun _ _ => 0)
  case atStart => exact ⟨rfl, rfl⟩
  case round =>
    obtain ⟨rfl, rfl⟩ := hrel
    go_wp2_with fail
    go_end0
    exact ⟨rfl, rfl⟩
theorem pdqSmall (A : Option Addr) (n c : Nat) (f : Value) (l : Int) (w : World) (hn : n ≤ 1) :
    Calls Tryz.prog 81 #[.slice A n c, .int .i64 0, .int .i64 n, .int .i64 l, f] w fun e w' => e = .returned (.tuple #[]) ∧ w' = w := by
  have d : decide ((n : Int) ≤ 12) = true := by simp; omega
  have w1 : IntKind.i64.wrap (n : Int) = n := by rw [IntKind.wrap_i64]; omega
  have K := insSmall A n c f w hn
  clear hn
  go_enter Tryz.func81, Tryz.ntmps81
  go_wp2_with fail
  go_loopw [1, 2, 3] (fun i j k wr => i = .int .i64 0 ∧ j = .int .i64 n ∧ k = .int .i64 l ∧ wr = w) (fun _ _ _ _ => 0)
  case atStart => exact ⟨rfl, rfl, rfl, rfl⟩
  case round =>
    obtain ⟨rfl, rfl, rfl, rfl⟩ := hrel
    go_wp2_with fail
    (with_reducible refine K.mono ?_)
    rintro e w2 ⟨rfl, rfl⟩
    go_wp2_with fail
    refine bodyPost_ret (v := .tuple #[]) ?_ rfl ⟨rfl, rfl⟩
    simp [results, Tryz.results81]
theorem sortSmall (A : Option Addr) (n c : Nat) (f : Value) (w : World) (hn : n ≤ 1) :
    Calls Tryz.prog 56 #[.slice A n c, f] w fun e w' => e = .returned (.tuple #[]) ∧ w' = w := by
  have w1 : IntKind.u64.wrap (n : Int) = n := by rw [IntKind.wrap_u64]; omega
  have KB := Tryz.bits_Len (n : Int) w (by omega) (by omega)
  have K := fun l => pdqSmall A n c f l w hn
  clear hn
  go_enter Tryz.func56, Tryz.ntmps56
  go_wp2_with fail
  (with_reducible refine KB.mono ?_)
  rintro e w2 ⟨rfl, rfl⟩
  generalize (Lib.bitLen (n : Int).toNat : Int) = l
  go_wp2_with fail
  (with_reducible refine (K l).mono ?_)
  rintro e w3 ⟨rfl, rfl⟩
  go_wp2_with fail
  go_end0
  exact ⟨rfl, rfl⟩
end Go.Proofs.YtgpojkofegajeaaGreatDoor
namespace Go.Proofs.YtgpojkofegajeaaGreatDoor
open Go.RowKit
set_option maxRecDepth 100000

def leftW (es : Array MapEntry) (r : Nat) (w : World) : Nat := match w.heap[r]? with | some (.mapIter _ _ seen _) => (leftOf es seen).size | _ => 0
theorem inj_nodupW {α β : Type} {f : α → β} : ∀ {l : List α}, (l.map f).Nodup → ∀ {x y : α}, x ∈ l → y ∈ l → f x = f y → x = y := by
  intro l
  induction l with
  | nil => intro _ x y hx; cases hx
  | cons a r ih =>
    intro h x y hx hy hf
    simp only [List.map_cons, List.nodup_cons] at h
    rcases List.mem_cons.1 hx with hx1 | hx1
    · rcases List.mem_cons.1 hy with hy1 | hy1
      · rw [hx1, hy1]
      · exact absurd (List.mem_map.2 ⟨y, hy1, by rw [← hf, hx1]⟩) h.1
    · rcases List.mem_cons.1 hy with hy1 | hy1
      · exact absurd (List.mem_map.2 ⟨x, hx1, by rw [hf, hy1]⟩) h.1
      · exact ih h.2 hx1 hy1 hf
theorem nodup_mapW {α β : Type} (f : α → β) {l : List α} (h : (l.map f).Nodup) : l.Nodup := (List.pairwise_map.1 h).imp fun h e => h (congrArg f e)
theorem setBlockW_at {w : World} {r : Nat} {o o' : Obj} (h : w.heap[r]? = some o') : (ChangeMaps.setBlock w r o).heap[r]? = some o := by
  have hlt : r < w.heap.size := (Array.getElem?_eq_some_iff.1 h).1
  simp [ChangeMaps.setBlock, hlt]
theorem setBlockW_ne {w : World} {r k : Nat} {o : Obj} (h : k ≠ r) : (ChangeMaps.setBlock w r o).heap[k]? = w.heap[k]? := by
  simp only [ChangeMaps.setBlock]
  rw [Array.getElem?_setIfInBounds_ne (Ne.symm h)]
theorem perm_leftW {es : Array MapEntry} {seen : Array Nat} {done : List MapEntry} (hs : seen.toList = done.map (·.born)) (hd : ∀ e ∈ done, e ∈ es.toList) (hn : (done.map (·.born)).Nodup) (hnd : (es.toList.map (·.born)).Nodup) (h0 : (leftOf es seen).size = 0) : done.Perm es.toList := by
  have n1 : done.Nodup := nodup_mapW _ hn
  have n2 : es.toList.Nodup := nodup_mapW _ hnd
  refine (List.perm_ext_iff_of_nodup n1 n2).2 fun e => ⟨hd e, fun he => ?_⟩
  have hc := all_seen es seen h0 e he
  have hm : e.born ∈ seen.toList := by simpa using hc
  rw [hs] at hm
  obtain ⟨e', he', hb⟩ := List.mem_map.1 hm
  have : e' = e := inj_nodupW hnd (hd e' he') he hb
  rw [← this]; exact he'
theorem perm_oneW {α : Type} {a b : List α} (h : a.Perm b) (hb : b.length ≤ 1) : a = b := by
  match b, hb with
  | [], _ => exact h.eq_nil
  | [x], _ => exact h.eq_singleton
end Go.Proofs.YtgpojkofegajeaaGreatDoor
