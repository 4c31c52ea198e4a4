/-
  lab.Get; the reference's Get, Same, Less, Check.
-/
import Derived.Test.YteiocplfmjkbkaaGreatDoorMg6
import Derived.Laws.StructEq
namespace Go.Proofs.YteiocplfmjkbkaaGreatDoor
open Go.RowKit FreeNew
set_option maxRecDepth 100000
attribute [local go_sem] out

theorem ba_toList_inj (a b : ByteArray) : (a.toList = b.toList) = (a = b) := by
  rw [ByteArray.toList_eq, ByteArray.toList_eq]
  refine propext ⟨fun h => ?_, fun h => by rw [h]⟩
  obtain ⟨⟨x⟩⟩ := a; obtain ⟨⟨y⟩⟩ := b
  simp only at h
  rw [h]
theorem pairSt : Tryz.prog.underlying 71 = some (.struct (Tryz.prog.fieldsOf 71)) := by kernel_rfl
theorem pairHeld : Tryz.prog.stoodInHeld 71 = false := by kernel_rfl
theorem pairFs : (Tryz.prog.fieldsOf 71).toList.map (fun f => (f.name == "_", f.type, f.offset)) = [(false, 9, 0), (false, 9, 1)] := by kernel_rfl
theorem pairNe (a b c d : ByteArray) (w : World) : (binOp .neq 71 (.agg #[.string a, .string b]) (.agg #[.string c, .string d])).run Tryz.prog w = .ok (.bool (!decide ((a, b) = (c, d)))) w := by
  rw [run_neq_struct, run_equalIn_struct w 9999 71 _ _ pairSt pairHeld]
  have h := pairFs
  generalize (Tryz.prog.fieldsOf 71).toList = fs at h ⊢
  obtain ⟨f0, f1, rfl⟩ : ∃ f0 f1, fs = [f0, f1] := by
    rcases fs with _ | ⟨f0, _ | ⟨f1, _ | ⟨f2, r⟩⟩⟩
    · simp at h
    · simp at h
    · exact ⟨_, _, rfl⟩
    · simp at h
  simp only [List.map_cons, List.map_nil, List.cons.injEq, Prod.mk.injEq, and_true] at h
  obtain ⟨⟨n0, t0, o0⟩, ⟨n1, t1, o1⟩⟩ := h
  have n0' : f0.name ≠ "_" := by simpa using n0
  have n1' : f1.name ≠ "_" := by simpa using n1
  simp [Op.eqFields, n0', n1', t0, t1, o0, o1, part, Tryz.isAgg9, go_sem, ba_toList_inj]
  by_cases h1 : a = c <;> by_cases h2 : b = d <;> simp [h1, h2]

def sameB (ps qs : List (ByteArray × ByteArray)) : Bool := decide (ps = qs)

theorem refSame (v1 v2 : Value) (ps qs : List (ByteArray × ByteArray)) (w : World) (h1 : Rd w 2 v1 ps.length (pairCells ps)) (h2 : Rd w 2 v2 qs.length (pairCells qs)) :
    Calls Tryz.prog 14 #[v1, v2] w fun e w' => e = .returned (.bool (sameB ps qs)) ∧ Below w.heap.size w w' := by
  obtain ⟨A1, c1, rfl, l1, n1, m1, r1⟩ := h1
  obtain ⟨A2, c2, rfl, l2, n2, m2, r2⟩ := h2
  unfold maxLen at m1 m2
  by_cases hl : ps.length = qs.length
  · have hb0 : ((ps.length : Int) != (qs.length : Int)) = false := by simp [hl]
    have Hl := Lib.hid hl
    clear hl
    go_enter Tryz.func14, Tryz.ntmps14
    go_wp2_with fail
    go_loopw [5] (fun i wr => ∃ k : Nat, k ≤ ps.length ∧ i = .int .i64 k ∧ ps.take k = qs.take k ∧ Below w.heap.size w wr) (fun i _ => ps.length - (intOf i).toNat)
    case atStart => exact ⟨0, Nat.zero_le _, rfl, rfl, Below.refl _ _⟩
    case round =>
      obtain ⟨k, hk, rfl, heq, hb⟩ := hrel
      by_cases hlt : k < ps.length
      · have hlt2 : k < qs.length := by rw [← Hl.out]; exact hlt
        obtain ⟨b1, o1, rfl, at1⟩ := r1 (by omega)
        obtain ⟨b2, o2, rfl, at2⟩ := r2 (by omega)
        obtain ⟨p, hp⟩ : ∃ p, ps[k]? = some p := ⟨_, List.getElem?_eq_getElem hlt⟩
        obtain ⟨q, hq⟩ : ∃ q, qs[k]? = some q := ⟨_, List.getElem?_eq_getElem hlt2⟩
        obtain ⟨hp1, hp2⟩ := pairCells_at ps k p hp
        obtain ⟨hq1, hq2⟩ := pairCells_at qs k q hq
        have F : ∀ w', Below wr.heap.size wr w' → w'.cell? ⟨b1, o1 + k * 2, none⟩ = some (.string p.1) ∧ w'.cell? ⟨b1, o1 + k * 2 + 1, none⟩ = some (.string p.2) ∧ w'.cell? ⟨b2, o2 + k * 2, none⟩ = some (.string q.1) ∧ w'.cell? ⟨b2, o2 + k * 2 + 1, none⟩ = some (.string q.2) := by
          intro w' hw'
          have hb' : Below w.heap.size w w' := hb.trans (hw'.mono hb.size)
          exact ⟨at1.nth0 hb' _ _ hp1, at1.nth hb' _ 1 _ hp2, at2.nth0 hb' _ _ hq1, at2.nth hb' _ 1 _ hq2⟩
        have HP := Lib.hid hp; have HQ := Lib.hid hq; have HE := Lib.hid heq
        clear r1 r2 hp1 hp2 hq1 hq2 hp hq heq
        by_cases hpq : p = q
        · have hne := fun w' => (pairNe p.1 p.2 q.1 q.2 w').trans (show _ = Result.ok (Value.bool false) w' by rw [hpq]; simp)
          have HPQ := Lib.hid hpq; clear hpq
          go_wp2_with fail
          refine region_free (fun w' => Below wr.heap.size wr w') [] [] [0, 1, 2, 3, 4, 5, 6, 7, 8] (by kernel_rfl) (by kernel_rfl) (by kernel_rfl) (Below.refl _ _).drew ?_
          repeat (first
            | (refine RelSeq.pure_ (c := ?_) rfl rfl ?_ ?_; rotate_left; (focus (intro x w'; dsimp only; go_simp; (repeat' apply And.intro) <;> first | with_reducible rfl | assumption)); simp only [Act.put, List.setIfInBounds_toArray, List.set_cons_zero, List.set_cons_succ])
            | (refine RelSeq.grow_ (c := ?_) rfl rfl ?_ ?_; rotate_left; (focus (intro x w' hw _; dsimp only; obtain ⟨c0, c1, c2, c3⟩ := F w' hw; have hbr := Below.refl w'.heap.size w'; go_simp; (repeat' apply And.intro) <;> first | with_reducible rfl | assumption)); simp only [Act.put, List.setIfInBounds_toArray, List.set_cons_zero, List.set_cons_succ]))
          refine RelSeq.nil_ fun x w' hw _ _ => TailSeq.nil_ ?_
          have hb' : Below w.heap.size w w' := hb.trans (hw.mono hb.size)
          go_wp2_with fail
          go_roundw
          case rel =>
            refine ⟨k + 1, by omega, by go_num, ?_, hb'⟩
            rw [List.take_add_one, List.take_add_one, HP.out, HQ.out, HE.out, HPQ.out]
          case measure => simp [intOf]; omega
        · have hne := fun w' => (pairNe p.1 p.2 q.1 q.2 w').trans (show _ = Result.ok (Value.bool true) w' by
            have : ¬ ((p.1, p.2) = (q.1, q.2)) := hpq
            simp [this])
          have HPQ := Lib.hid hpq; clear hpq
          go_wp2_with fail
          refine region_free (fun w' => Below wr.heap.size wr w') [] [] [0, 1, 2, 3, 4, 5, 6, 7, 8] (by kernel_rfl) (by kernel_rfl) (by kernel_rfl) (Below.refl _ _).drew ?_
          repeat (first
            | (refine RelSeq.pure_ (c := ?_) rfl rfl ?_ ?_; rotate_left; (focus (intro x w'; dsimp only; go_simp; (repeat' apply And.intro) <;> first | with_reducible rfl | assumption)); simp only [Act.put, List.setIfInBounds_toArray, List.set_cons_zero, List.set_cons_succ])
            | (refine RelSeq.grow_ (c := ?_) rfl rfl ?_ ?_; rotate_left; (focus (intro x w' hw _; dsimp only; obtain ⟨c0, c1, c2, c3⟩ := F w' hw; have hbr := Below.refl w'.heap.size w'; go_simp; (repeat' apply And.intro) <;> first | with_reducible rfl | assumption)); simp only [Act.put, List.setIfInBounds_toArray, List.set_cons_zero, List.set_cons_succ]))
          refine RelSeq.nil_ fun x w' hw _ _ => TailSeq.nil_ ?_
          have hb' : Below w.heap.size w w' := hb.trans (hw.mono hb.size)
          go_wp2_with fail
          go_ret
          refine ⟨?_, hb'⟩
          have : sameB ps qs = false := by
            refine decide_eq_false fun e => ?_
            have h1 := HP.out
            rw [e, HQ.out] at h1
            exact HPQ.out (Option.some.inj h1).symm
          rw [this]; rfl
      · have he : ps = qs := by
          rwa [show k = ps.length from by omega, List.take_length, Hl.out, List.take_length] at heq
        have hs : sameB ps qs = true := decide_eq_true he
        have HS := Lib.hid hs
        clear heq he hs
        have hge : ps.length ≤ k := by omega
        go_wp2_with fail
        go_ret
        exact ⟨by rw [HS.out]; rfl, hb⟩
  · have hb0 : ((ps.length : Int) != (qs.length : Int)) = true := by rw [bne_iff_ne]; omega
    have HS := Lib.hid (show sameB ps qs = false from decide_eq_false fun e => hl (by rw [e]))
    clear hl
    go_enter Tryz.func14, Tryz.ntmps14
    go_wp2_with fail
    go_ret
    exact ⟨by rw [HS.out]; rfl, Below.refl _ _⟩


def getL : List Pr → ByteArray → ByteArray × Bool
  | [], _ => (⟨#[]⟩, false)
  | p :: r, k => if p.1 = k then (p.2, true) else getL r k
theorem drop_cons {α : Type} {l : List α} {k : Nat} {x : α} (h : l[k]? = some x) : l.drop k = x :: l.drop (k + 1) := by
  have hk : k < l.length := (List.getElem?_eq_some_iff.1 h).1
  rw [List.drop_eq_getElem_cons hk]
  congr 1
  exact (List.getElem?_eq_some_iff.1 h).2
theorem lGet (v : Value) (ps : List Pr) (key : ByteArray) (w : World) (hr : Rd w 2 v ps.length (pairCells ps)) :
    Calls Tryz.prog 49 #[v, .string key] w fun e w' => e = .returned (.tuple #[.string (getL ps key).1, .bool (getL ps key).2]) ∧ Below w.heap.size w w' := by
  obtain ⟨A, c, rfl, h1, h2, h3, h4⟩ := hr
  unfold maxLen at h3
  go_enter Tryz.func49, Tryz.ntmps49
  go_wp2_with fail
  go_loopw [10] (fun i wr => ∃ k : Nat, k ≤ ps.length ∧ i = .int .i64 k ∧ getL ps key = getL (ps.drop k) key ∧ Below w.heap.size w wr) (fun i _ => ps.length - (intOf i).toNat)
  case atStart => exact ⟨0, Nat.zero_le _, rfl, rfl, Below.refl _ _⟩
  case round =>
    obtain ⟨k, hk, rfl, hg, hb⟩ := hrel
    by_cases hlt : k < ps.length
    · obtain ⟨b, o, rfl, hat⟩ := h4 (by omega)
      obtain ⟨p, hp⟩ : ∃ p, ps[k]? = some p := ⟨_, List.getElem?_eq_getElem hlt⟩
      obtain ⟨hp1, hp2⟩ := (pairCells_at ps k p hp)
      have c0 := hat.nth0 hb (k*2) _ hp1
      have c1 := hat.nth hb (k*2) 1 _ hp2
      rw [drop_cons hp] at hg
      obtain ⟨p1, p2⟩ := p
      simp only at c0 c1
      clear hp hp1 hp2 hat h4
      by_cases he : p1 = key
      · have E := Lib.hid (hg.trans (by simp [getL, he] : getL ((p1, p2) :: ps.drop (k + 1)) key = (p2, true)))
        have hE : (p1 == key) = true := by rw [beqS]; simpa using he
        have hE2 : (p1.toList == key.toList) = true := by rw [eqS_eq]; simpa using he
        clear hg he
        go_wp2_with fail
        go_ret2
        exact ⟨by rw [E.out]; rfl, hb.alloc hb.size _⟩
      · have E := Lib.hid (hg.trans (by simp [getL, he] : getL ((p1, p2) :: ps.drop (k + 1)) key = getL (ps.drop (k + 1)) key))
        have hE : (p1 == key) = false := by rw [beqS]; simpa using he
        have hE2 : (p1.toList == key.toList) = false := by rw [eqS_eq]; simpa using he
        clear hg he
        go_wp2_with fail
        go_roundw
        case rel => exact ⟨k + 1, by omega, by go_num, E.out, hb.alloc hb.size _⟩
        case measure => simp [intOf]; omega
    · obtain rfl : k = ps.length := by omega
      rw [List.drop_length] at hg
      have E := Lib.hid (hg.trans (rfl : getL [] key = (⟨#[]⟩, false)))
      clear hg
      go_wp2_with fail
      go_ret2
      exact ⟨by rw [E.out]; rfl, hb⟩
theorem refGet (v : Value) (ps : List Pr) (key : ByteArray) (w : World) (hr : Rd w 2 v ps.length (pairCells ps)) :
    Calls Tryz.prog 33 #[v, .string key] w fun e w' => e = .returned (.tuple #[.string (getL ps key).1, .bool (getL ps key).2]) ∧ w' = w := by
  obtain ⟨A, c, rfl, h1, h2, h3, h4⟩ := hr
  unfold maxLen at h3
  go_enter Tryz.func33, Tryz.ntmps33
  go_wp2_with fail
  go_loop [6] (fun i => ∃ k : Nat, k ≤ ps.length ∧ i = .int .i64 k ∧ getL ps key = getL (ps.drop k) key) (fun i => ps.length - (intOf i).toNat)
  case atStart => exact ⟨0, Nat.zero_le _, rfl, rfl⟩
  case round =>
    obtain ⟨k, hk, rfl, hg⟩ := hrel
    by_cases hlt : k < ps.length
    · obtain ⟨b, o, rfl, hat⟩ := h4 (by omega)
      obtain ⟨p, hp⟩ : ∃ p, ps[k]? = some p := ⟨_, List.getElem?_eq_getElem hlt⟩
      obtain ⟨hp1, hp2⟩ := (pairCells_at ps k p hp)
      have c0 := hat.nth0 (Below.refl _ _) (k*2) _ hp1
      have c1 := hat.nth (Below.refl _ _) (k*2) 1 _ hp2
      rw [drop_cons hp] at hg
      obtain ⟨p1, p2⟩ := p
      simp only at c0 c1
      clear hp hp1 hp2 hat h4
      by_cases he : p1 = key
      · have E := Lib.hid (hg.trans (by simp [getL, he] : getL ((p1, p2) :: ps.drop (k + 1)) key = (p2, true)))
        have hE : (p1 == key) = true := by rw [beqS]; simpa using he
        have hE2 : (p1.toList == key.toList) = true := by rw [eqS_eq]; simpa using he
        clear hg he
        go_wp2_with fail
        go_ret2
        exact ⟨by rw [E.out]; rfl, rfl⟩
      · have E := Lib.hid (hg.trans (by simp [getL, he] : getL ((p1, p2) :: ps.drop (k + 1)) key = getL (ps.drop (k + 1)) key))
        have hE : (p1 == key) = false := by rw [beqS]; simpa using he
        have hE2 : (p1.toList == key.toList) = false := by rw [eqS_eq]; simpa using he
        clear hg he
        go_wp2_with fail
        go_round
        case rel => exact ⟨k + 1, by omega, by go_num, E.out⟩
        case measure => simp [intOf]; omega
    · obtain rfl : k = ps.length := by omega
      rw [List.drop_length] at hg
      have E := Lib.hid (hg.trans (rfl : getL [] key = (⟨#[]⟩, false)))
      clear hg
      go_wp2_with fail
      go_ret2
      exact ⟨by rw [E.out]; rfl, rfl⟩
end Go.Proofs.YteiocplfmjkbkaaGreatDoor
