/-
  crc.New: a table that hasn't been used. Two lists of records: whether they are the same. A fixed fact.
-/
import Derived.Test.YtdjdhakmigofmaaConv
import Derived.Test.YtdjdhakmigofmaaScan
import Derived.Test.YtdjdhakmigofmaaFreeN
namespace Go.Proofs.Ytdjdhakmigofmaa
open Go.RowKit FreeNew
set_option maxRecDepth 100000
attribute [local go_sem] out

theorem crcZero : Try.zeroCells110 = ((List.range 261).map (tc 0 0 (fun _ => 0) 0 0)).toArray := by kernel_rfl
theorem crcNew (w : World) : Calls Try.prog 31 #[] w fun e w' => e = .returned (.pointer (some ⟨w.heap.size, 0, none⟩)) ∧ TabOk w' w.heap.size ∧ Below w.heap.size w w' := by
  go_enter Try.func31, Try.ntmps31
  go_wp2_with fail
  refine bodyPost_gen fun w1 hw1 => ?_
  have hB : Blk w1 w.heap.size Try.zeroCells110 110 := by rw [hw1]; exact Blk.new _ _ _
  have hb : Below w.heap.size w w1 := by rw [hw1]; exact (Below.refl _ _).alloc (Nat.le_refl _) _
  have hT : TabOk w1 w.heap.size := ⟨0, fun _ => 0, 0, 0, by decide, by decide, .inl rfl, _, hB, by rw [crcZero]; simp, fun j hj => by rw [crcZero]; simp [hj]⟩
  clear hw1 hB
  go_ret
  exact ⟨rfl, hT, hb⟩

/-- Whether two lists of records are the same. -/
def sameL (a b : List (List UInt8)) : Bool := decide (a = b)
theorem sameRecs (v1 v2 : Value) (ps qs : List (Value × List UInt8)) (w : World) (h1 : Rd w 1 v1 ps.length (ps.map (·.1))) (h2 : Rd w 1 v2 qs.length (qs.map (·.1)))
    (p1 : ∀ p ∈ ps, Rd w 1 p.1 p.2.length (u8L p.2)) (p2 : ∀ p ∈ qs, Rd w 1 p.1 p.2.length (u8L p.2)) :
    Calls Try.prog 35 #[v1, v2] w fun e w' => e = .returned (.bool (sameL (ps.map (·.2)) (qs.map (·.2)))) ∧ Below w.heap.size w w' := by
  obtain ⟨A1, c1, rfl, r1, r2, r3, r4⟩ := h1
  obtain ⟨A2, c2, rfl, s1, s2, s3, s4⟩ := h2
  unfold maxLen at r3 s3
  by_cases hl : ps.length = qs.length
  · have hb0 : ((ps.length : Int) != (qs.length : Int)) = false := by simp [hl]
    have Hl := Lib.hid hl
    clear hl
    go_enter Try.func35, Try.ntmps35
    go_wp2_with fail
    go_loopw [13] (fun i wr => ∃ k : Nat, k ≤ ps.length ∧ i = .int .i64 k ∧ (ps.map (·.2)).take k = (qs.map (·.2)).take k ∧ Below w.heap.size w wr) (fun i _ => ps.length - (intOf i).toNat)
    case atStart => exact ⟨0, Nat.zero_le _, rfl, rfl, Below.refl _ _⟩
    case round =>
      obtain ⟨k, hk, rfl, heq, hb⟩ := hrel
      by_cases hlt : k < ps.length
      · have hlt2 : k < qs.length := by rw [← Hl.out]; exact hlt
        obtain ⟨b1, o1, rfl, at1⟩ := r4 (by omega)
        obtain ⟨b2, o2, rfl, at2⟩ := s4 (by omega)
        obtain ⟨p, hp⟩ : ∃ p, ps[k]? = some p := ⟨_, List.getElem?_eq_getElem hlt⟩
        obtain ⟨q, hq⟩ : ∃ q, qs[k]? = some q := ⟨_, List.getElem?_eq_getElem hlt2⟩
        have F : ∀ w', Below wr.heap.size wr w' → w'.cell? ⟨b1, o1 + k, none⟩ = some p.1 ∧ w'.cell? ⟨b2, o2 + k, none⟩ = some q.1 ∧ (convert 27 9 p.1).run Try.prog w' = .ok (.string ⟨p.2.toArray⟩) w' ∧ (convert 27 9 q.1).run Try.prog w' = .ok (.string ⟨q.2.toArray⟩) w' := by
          intro w' hw'
          have hb' : Below w.heap.size w w' := hb.trans (hw'.mono hb.size)
          exact ⟨at1.nth0 hb' _ _ (by simp [hp]), at2.nth0 hb' _ _ (by simp [hq]), conv8 ((p1 p (List.mem_of_getElem? hp)).below hb'), conv8 ((p2 q (List.mem_of_getElem? hq)).below hb')⟩
        have HP := Lib.hid hp; have HQ := Lib.hid hq; have HE := Lib.hid heq
        have HPP := Lib.hid p1
        have l0 : (k : Int) < (ps.length : Int) := by omega
        have l1 : (k : Int) < (qs.length : Int) := by omega
        clear r4 s4 at1 at2 hp hq heq p1 p2
        by_cases hpq : p.2 = q.2
        · have tB : (p.2 == q.2) = true := by simp [hpq]
          have HPQ := Lib.hid hpq; clear hpq
          go_wp2_with fail
          refine region_free (fun w' => Below wr.heap.size wr w') [] [] (List.range 11) (by kernel_rfl) (by kernel_rfl) (by kernel_rfl) (Below.refl _ _).drew ?_
          simp only [List.range, List.range.loop]
          repeat (first
            | (refine RelSeq.pure_ (c := ?_) rfl rfl ?_ ?_; rotate_left; (focus (intro x w'; dsimp only; go_simp; (repeat' apply And.intro) <;> first | with_reducible rfl | assumption)); simp only [Act.put, List.setIfInBounds_toArray, List.set_cons_zero, List.set_cons_succ])
            | (refine RelSeq.grow_ (c := ?_) rfl rfl ?_ ?_; rotate_left; (focus (intro x w' hw _; dsimp only; obtain ⟨d0, d1, d2, d3⟩ := F w' hw; have hbr := Below.refl w'.heap.size w'; go_simp; (repeat' apply And.intro) <;> first | with_reducible rfl | assumption)); simp only [Act.put, List.setIfInBounds_toArray, List.set_cons_zero, List.set_cons_succ]))
          refine RelSeq.nil_ fun x w7 hz7 _ _ => TailSeq.nil_ ?_
          have hb7 : Below w.heap.size w w7 := hb.trans (hz7.mono hb.size)
          clear F hb hz7
          go_wp2_with fail
          go_roundw
          case rel =>
            refine ⟨k + 1, by omega, by go_num, ?_, hb7⟩
            rw [List.take_add_one, List.take_add_one, HE.out, List.getElem?_map, List.getElem?_map, HP.out, HQ.out]
            simp only [Option.map_some, HPQ.out]
          case measure => simp [intOf]; omega
        · have tB : (p.2 == q.2) = false := by simp [hpq]
          have HF := Lib.hid (show sameL (ps.map (·.2)) (qs.map (·.2)) = false from decide_eq_false fun e => hpq (by
            have := congrArg (·[k]?) e
            simpa [HP.out, HQ.out] using this))
          clear hpq
          go_wp2_with fail
          refine region_free (fun w' => Below wr.heap.size wr w') [] [] (List.range 11) (by kernel_rfl) (by kernel_rfl) (by kernel_rfl) (Below.refl _ _).drew ?_
          simp only [List.range, List.range.loop]
          repeat (first
            | (refine RelSeq.pure_ (c := ?_) rfl rfl ?_ ?_; rotate_left; (focus (intro x w'; dsimp only; go_simp; (repeat' apply And.intro) <;> first | with_reducible rfl | assumption)); simp only [Act.put, List.setIfInBounds_toArray, List.set_cons_zero, List.set_cons_succ])
            | (refine RelSeq.grow_ (c := ?_) rfl rfl ?_ ?_; rotate_left; (focus (intro x w' hw _; dsimp only; obtain ⟨d0, d1, d2, d3⟩ := F w' hw; have hbr := Below.refl w'.heap.size w'; go_simp; (repeat' apply And.intro) <;> first | with_reducible rfl | assumption)); simp only [Act.put, List.setIfInBounds_toArray, List.set_cons_zero, List.set_cons_succ]))
          refine RelSeq.nil_ fun x w7 hz7 _ _ => TailSeq.nil_ ?_
          have hb7 : Below w.heap.size w w7 := hb.trans (hz7.mono hb.size)
          clear F hb hz7
          go_wp2_with fail
          go_ret
          exact ⟨by rw [HF.out]; rfl, hb7⟩
      · have hk2 : k = ps.length := by omega
        have HF := Lib.hid (show sameL (ps.map (·.2)) (qs.map (·.2)) = true from decide_eq_true (by
            have h1 : (ps.map (·.2)).take k = ps.map (·.2) := List.take_of_length_le (by simp; omega)
            have h2 : (qs.map (·.2)).take k = qs.map (·.2) := List.take_of_length_le (by simp; have := Hl.out; omega)
            rw [← h1, ← h2]; exact heq))
        clear heq hk2
        have hlq : ¬ k < qs.length := by have := Hl.out; omega
        go_wp2_with fail
        go_ret
        exact ⟨by rw [HF.out]; rfl, hb⟩
  · have hb0 : ((ps.length : Int) != (qs.length : Int)) = true := by rw [bne_iff_ne]; omega
    have HS := Lib.hid (show sameL (ps.map (·.2)) (qs.map (·.2)) = false from decide_eq_false fun e => hl (by simpa using congrArg List.length e))
    clear hl
    go_enter Try.func35, Try.ntmps35
    go_wp2_with fail
    go_ret
    exact ⟨by rw [HS.out]; rfl, Below.refl _ _⟩
end Go.Proofs.Ytdjdhakmigofmaa
