/-
  slices.Contains of texts; lab.Only, lab.Without; the reference's Among, Only. lab.Get; the reference's Get, Same, Less, Check.
-/
import Derived.Test.YtgpojkofegajeaaGreatDoorLChk
import Derived.Laws.StructEq
import Derived.Test.YtgpojkofegajeaaGreatDoorLParse
namespace Go.Proofs.YtgpojkofegajeaaGreatDoor
open Go.RowKit FreeNew
set_option maxRecDepth 100000
attribute [local go_sem] out

def getL : List Pr → ByteArray → ByteArray × Bool
  | [], _ => (⟨#[]⟩, false)
  | p :: r, k => if p.1 = k then (p.2, true) else getL r k
theorem drop_cons {α : Type} {l : List α} {k : Nat} {x : α} (h : l[k]? = some x) : l.drop k = x :: l.drop (k + 1) := by
  have hk : k < l.length := (List.getElem?_eq_some_iff.1 h).1
  rw [List.drop_eq_getElem_cons hk]
  congr 1
  exact (List.getElem?_eq_some_iff.1 h).2
theorem lGet (v : Value) (ps : List Pr) (key : ByteArray) (w : World) (hr : Rd w 2 v ps.length (pairCells ps)) :
    Calls Tryz.prog 79 #[v, .string key] w fun e w' => e = .returned (.tuple #[.string (getL ps key).1, .bool (getL ps key).2]) ∧ Below w.heap.size w w' := by
  obtain ⟨A, c, rfl, h1, h2, h3, h4⟩ := hr
  unfold maxLen at h3
  go_enter Tryz.func79, Tryz.ntmps79
  go_wp2_with fail
  go_loopw [10] (fun i wr => ∃ k : Nat, k ≤ ps.length ∧ i = .int .i64 k ∧ getL ps key = getL (ps.drop k) key ∧ Below w.heap.size w wr) (fun i _ => ps.length - (intOf i).toNat)
  case atStart => exact ⟨0, Nat.zero_le _, rfl, rfl, Below.refl _ _⟩
  case round =>
    obtain ⟨k, hk, rfl, hg, hb⟩ := hrel
    by_cases hlt : k < ps.length
    · obtain ⟨b, o, rfl, hat⟩ := h4 (by omega)
      obtain ⟨p, hp⟩ : ∃ p, ps[k]? = some p := ⟨_, List.getElem?_eq_getElem hlt⟩
      obtain ⟨hp1, hp2⟩ := (pairCells_at ps k p hp)
      have c0 := hat.nth0 hb (k*2) _ hp1
      have c1 := hat.nth hb (k*2) 1 _ hp2
      rw [drop_cons hp] at hg
      obtain ⟨p1, p2⟩ := p
      simp only at c0 c1
      clear hp hp1 hp2 hat h4
      by_cases he : p1 = key
      · have E := Lib.hid (hg.trans (by simp [getL, he] : getL ((p1, p2) :: ps.drop (k + 1)) key = (p2, true)))
        have hE : (p1 == key) = true := by rw [beqS]; simpa using he
        have hE2 : (p1.toList == key.toList) = true := by rw [eqS_eq]; simpa using he
        clear hg he
        go_wp2_with fail
        go_ret2
        exact ⟨by rw [E.out]; rfl, hb.alloc hb.size _⟩
      · have E := Lib.hid (hg.trans (by simp [getL, he] : getL ((p1, p2) :: ps.drop (k + 1)) key = getL (ps.drop (k + 1)) key))
        have hE : (p1 == key) = false := by rw [beqS]; simpa using he
        have hE2 : (p1.toList == key.toList) = false := by rw [eqS_eq]; simpa using he
        clear hg he
        go_wp2_with fail
        go_roundw
        case rel => exact ⟨k + 1, by omega, by go_num, E.out, hb.alloc hb.size _⟩
        case measure => simp [intOf]; omega
    · obtain rfl : k = ps.length := by omega
      rw [List.drop_length] at hg
      have E := Lib.hid (hg.trans (rfl : getL [] key = (⟨#[]⟩, false)))
      clear hg
      go_wp2_with fail
      go_ret2
      exact ⟨by rw [E.out]; rfl, hb⟩
end Go.Proofs.YtgpojkofegajeaaGreatDoor
namespace Go.Proofs.YtgpojkofegajeaaGreatDoor
open Go.RowKit
set_option maxRecDepth 100000

theorem filter_snoc {ps : List Pr} {k : Nat} {p : Pr} (f : Pr → Bool) (hp : ps[k]? = some p) : (ps.take (k + 1)).filter f = (ps.take k).filter f ++ (if f p = true then [p] else []) := by
  rw [List.take_add_one, hp]
  simp only [Option.toList_some, List.filter_append, List.filter_cons, List.filter_nil]
theorem filter_len (ps : List Pr) (f : Pr → Bool) (k : Nat) : ((ps.take k).filter f).length ≤ ps.length := Nat.le_trans (List.length_filter_le _ _) (by rw [List.length_take]; omega)

end Go.Proofs.YtgpojkofegajeaaGreatDoor
