/-
  lab.Compare, the reference's Compare.
-/
import Derived.Test.YtebnbbbiobaneaaGreatDoorLRef
import Derived.Test.YtebnbbbiobaneaaGreatDoorLClo
namespace Go.Proofs.YtebnbbbiobaneaaGreatDoor
open Go.RowKit FreeBy
set_option maxRecDepth 100000
attribute [local go_sem] out

set_option maxHeartbeats 1000000 in
theorem compareCmp (p q : ByteArray × ByteArray) (W : World) :
    Calls Tryz.prog 193 #[.agg #[.string p.1, .string p.2], .agg #[.string q.1, .string q.2]] W fun e w' => e = .returned (.int .i64 (cfP p q)) ∧ ∃ n os, w' = Sort.grow (W.drewN n) os := by
  obtain ⟨p1, p2⟩ := p
  obtain ⟨q1, q2⟩ := q
  unfold cfP
  simp only
  generalize h1 : cmpB p1 q1 = x1
  generalize h2 : cmpB p2 q2 = x2
  have K1 : ∀ w, Calls Tryz.prog 173 #[.string p1, .string q1] w fun e w' => e = .returned (.int .i64 x1) ∧ w' = w := fun w => by rw [← h1]; exact cmpStr _ _ _
  have K2 : ∀ w, Calls Tryz.prog 173 #[.string p2, .string q2] w fun e w' => e = .returned (.int .i64 x2) ∧ w' = w := fun w => by rw [← h2]; exact cmpStr _ _ _
  obtain ⟨r, hr⟩ : ∃ r, r = if x1 = 0 then x2 else x1 := ⟨_, rfl⟩
  have OR : ∀ (b : Nat) (w : World), w.cell? ⟨b, 0, none⟩ = some (.int .i64 x1) → w.cell? ⟨b, 1, none⟩ = some (.int .i64 x2) → Calls Tryz.prog 162 #[.slice (some ⟨b, 0, none⟩) 2 2] w fun e w' => e = .returned (.int .i64 r) ∧ w' = w := fun b w c0 c1 => by
    rw [hr]
    exact orTwo b x1 x2 w c0 c1
  rw [← hr]
  clear h1 h2 hr
  go_enter Tryz.func193, Tryz.ntmps193
  go_wp2_with fail
  refine wp_gen fun w1 hw1 => ?_
  have g1 : w1 = Sort.grow W #[.cells #[.string p1, .string p2] 138, .cells #[.string q1, .string q2] 138] := by
    rw [hw1, Sort.alloc_eq_grow, Sort.alloc_eq_grow, Sort.grow_grow]; rfl
  have B1 : Blk w1 W.heap.size #[.string p1, .string p2] 138 := by rw [hw1]; exact (Blk.new _ _ _).alloc _
  have B2 : Blk w1 (W.heap.size + 1) #[.string q1, .string q2] 138 := by
    have e : W.heap.size + 1 = (W.alloc (.cells #[.string p1, .string p2] 138)).heap.size := by simp
    rw [hw1, e]; exact Blk.new _ _ _
  have d0 : w1.cell? ⟨W.heap.size, 0, none⟩ = some (.string p1) := B1.cell rfl
  have d1 : w1.cell? ⟨W.heap.size, 1, none⟩ = some (.string p2) := B1.cell rfl
  have d2 : w1.cell? ⟨W.heap.size + 1, 0, none⟩ = some (.string q1) := B2.cell rfl
  have d3 : w1.cell? ⟨W.heap.size + 1, 1, none⟩ = some (.string q2) := B2.cell rfl
  have G1 := Lib.hid g1
  clear hw1 B1 B2 g1
  refine region_free (E := quietReach) (fun w' => ∃ n, w' = w1.drewN n) [4, 9] [10, 11, 12] (List.range 10) (by kernel_rfl) (by kernel_rfl) (by kernel_rfl) ⟨1, rfl⟩ ?_
  simp only [List.range, List.range.loop]
  have F : ∀ w', (∃ n, w' = w1.drewN n) → w'.cell? ⟨W.heap.size, 0, none⟩ = some (.string p1) ∧ w'.cell? ⟨W.heap.size, 1, none⟩ = some (.string p2) ∧ w'.cell? ⟨W.heap.size + 1, 0, none⟩ = some (.string q1) ∧ w'.cell? ⟨W.heap.size + 1, 1, none⟩ = some (.string q2) := by
    rintro w' ⟨n, rfl⟩
    exact ⟨d0, d1, d2, d3⟩
  clear d0 d1 d2 d3
  repeat (first
    | (refine RelSeq.pure_ (c := ?_) rfl rfl ?_ ?_; rotate_left; (focus (intro x w'; dsimp only; go_simp; (repeat' apply And.intro) <;> first | with_reducible rfl | assumption)); simp only [Act.put, List.setIfInBounds_toArray, List.set_cons_zero, List.set_cons_succ])
    | (refine RelSeq.grow_ (c := ?_) rfl rfl ?_ ?_; rotate_left; (focus (intro x w' hw _; dsimp only; obtain ⟨d0, d1, d2, d3⟩ := F w' hw; have hE1 := quietReach.refl w'; go_simp; (repeat' apply And.intro) <;> first | with_reducible rfl | assumption)); simp only [Act.put, List.setIfInBounds_toArray, List.set_cons_zero, List.set_cons_succ])
    | (refine RelSeq.grow_ (c := .int .i64 x1) rfl rfl ?_ ?_; (focus (intro x w' hw _; dsimp only; go_simp; (with_reducible refine (K1 _).mono ?_); rintro e w2 ⟨rfl, rfl⟩; exact ⟨rfl, hw, quietReach.refl _⟩)); simp only [Act.put, List.setIfInBounds_toArray, List.set_cons_zero, List.set_cons_succ])
    | (refine RelSeq.grow_ (c := .int .i64 x2) rfl rfl ?_ ?_; (focus (intro x w' hw _; dsimp only; go_simp; (with_reducible refine (K2 _).mono ?_); rintro e w2 ⟨rfl, rfl⟩; exact ⟨rfl, hw, quietReach.refl _⟩)); simp only [Act.put, List.setIfInBounds_toArray, List.set_cons_zero, List.set_cons_succ]))
  refine RelSeq.nil_ fun x w2 hw2 _ _ => ?_
  obtain ⟨n, rfl⟩ := hw2
  refine TailSeq.cons_ rfl ?_
  go_simp
  refine TailSeq.cons_ rfl ?_
  go_simp
  have hO := OR w1.heap.size _ ((Blk.new (w1.drewN n) #[.int .i64 x1, .int .i64 x2] 3).cell rfl) ((Blk.new (w1.drewN n) #[.int .i64 x1, .int .i64 x2] 3).cell rfl)
  (with_reducible refine hO.mono ?_)
  rintro e w3 ⟨rfl, rfl⟩
  clear hO
  go_simp
  refine TailSeq.cons_ rfl ?_
  go_simp
  refine TailSeq.nil_ ?_
  go_wp2_with fail
  go_ret
  refine ⟨?_, ?_⟩
  · rfl
  · rw [G1.out]
    exact ⟨n, _, by rw [Sort.alloc_eq_grow]; exact Sort.grow_grow (W.drewN n) _ _⟩

theorem cmpB_eq (a b : ByteArray) : cmpB a b = 0 ↔ a = b := by
  unfold cmpB
  by_cases h1 : ltS a b = true
  · simp only [h1, if_true]
    constructor
    · intro h; omega
    · intro h; subst h; rw [ltS_irrefl] at h1; cases h1
  · by_cases h2 : a = b
    · simp [h2, ltS_irrefl]
    · simp [h1, h2]
theorem cfP_eq (p q : Pr) : cfP p q = if ltP p q = true then -1 else if ltP q p = true then 1 else 0 := by
  unfold cfP
  by_cases h1 : p.1 = q.1
  · rw [if_pos ((cmpB_eq _ _).2 h1)]
    unfold ltP cmpB
    rw [h1]
    simp only [ltS_irrefl, Bool.false_or, decide_true, Bool.true_and]
    by_cases h2 : ltS p.2 q.2 = true
    · simp [h2]
    · have h2' : ltS p.2 q.2 = false := by simpa using h2
      by_cases h3 : p.2 = q.2
      · simp [h3, ltS_irrefl]
      · have h4 : ltS q.2 p.2 = true := by
          cases h : ltS q.2 p.2 with
          | true => rfl
          | false => exact absurd (ltS_total h2' h) h3
        simp [h2', h3, h4]
  · rw [if_neg (fun h => h1 ((cmpB_eq _ _).1 h))]
    have h1' : ¬ q.1 = p.1 := fun h => h1 h.symm
    unfold ltP cmpB
    by_cases h2 : ltS p.1 q.1 = true
    · simp [h2]
    · have h2' : ltS p.1 q.1 = false := by simpa using h2
      have h4 : ltS q.1 p.1 = true := by
        cases h : ltS q.1 p.1 with
        | true => rfl
        | false => exact absurd (ltS_total h2' h) h1
      simp [h1, h1', h2', h4]
/-- Which labels come first. -/
def cmpLL : List Pr → List Pr → Int
  | [], [] => 0
  | [], _ :: _ => -1
  | _ :: _, [] => 1
  | p :: r, q :: s => if ltP p q = true then -1 else if ltP q p = true then 1 else cmpLL r s
theorem cmpLL_nil_l (qs : List Pr) : cmpLL [] qs = if 0 < qs.length then -1 else 0 := by
  cases qs <;> simp [cmpLL]
set_option maxHeartbeats 2000000 in
theorem slCompare (v1 v2 : Value) (ps qs : List Pr) (w : World) (h1 : Rd w 2 v1 ps.length (pairCells ps)) (h2 : Rd w 2 v2 qs.length (pairCells qs)) :
    Calls Tryz.prog 192 #[v1, v2, .func (.func 193) #[] #[]] w fun e w' => e = .returned (.int .i64 (cmpLL ps qs)) ∧ Below w.heap.size w w' := by
  obtain ⟨A1, c1, rfl, l1, n1, m1, r1⟩ := h1
  obtain ⟨A2, c2, rfl, l2, n2, m2, r2⟩ := h2
  unfold maxLen at m1 m2
  go_enter Tryz.func192, Tryz.ntmps192
  go_wp2_with fail
  go_loopw [13] (fun i wr => ∃ k : Nat, k ≤ ps.length ∧ k ≤ qs.length ∧ i = .int .i64 k ∧ cmpLL ps qs = cmpLL (ps.drop k) (qs.drop k) ∧ Below w.heap.size w wr) (fun i _ => ps.length - (intOf i).toNat)
  case atStart => exact ⟨0, Nat.zero_le _, Nat.zero_le _, rfl, rfl, Below.refl _ _⟩
  case round =>
    obtain ⟨k, hk, hk2, rfl, hc, hb⟩ := hrel
    by_cases hlt : k < ps.length
    · obtain ⟨b1, o1, rfl, at1⟩ := r1 (by omega)
      obtain ⟨p, hp⟩ : ∃ p, ps[k]? = some p := ⟨_, List.getElem?_eq_getElem hlt⟩
      obtain ⟨hp1, hp2⟩ := pairCells_at ps k p hp
      have c0 := at1.nth0 hb (k*2) _ hp1
      have d0 := at1.nth hb (k*2) 1 _ hp2
      rw [drop_cons hp] at hc
      clear r1 hp hp1 hp2 at1
      by_cases hlt2 : k < qs.length
      · obtain ⟨b2, o2, rfl, at2⟩ := r2 (by omega)
        obtain ⟨q, hq⟩ : ∃ q, qs[k]? = some q := ⟨_, List.getElem?_eq_getElem hlt2⟩
        obtain ⟨hq1, hq2⟩ := pairCells_at qs k q hq
        rw [drop_cons hq] at hc
        have hK := fun w' => compareCmp p q w'
        rw [cfP_eq] at hK
        have F : ∀ w', Below wr.heap.size wr w' → w'.cell? ⟨b2, o2 + k * 2, none⟩ = some (.string q.1) ∧ w'.cell? ⟨b2, o2 + k * 2 + 1, none⟩ = some (.string q.2) := fun w' h => ⟨at2.nth0 (hb.trans (h.mono hb.size)) (k * 2) _ hq1, at2.nth (hb.trans (h.mono hb.size)) (k * 2) 1 _ hq2⟩
        clear r2 hq hq1 hq2 at2
        obtain ⟨p1, p2⟩ := p
        obtain ⟨q1, q2⟩ := q
        simp only at c0 d0 hK F
        obtain ⟨f0, f1⟩ := F (wr.alloc (.cells #[.string p1, .string p2] 138)) ((Below.refl _ _).alloc (Nat.le_refl _) _)
        have hbb : ∀ n os w1 w2, w1 = (wr.alloc (.cells #[.string p1, .string p2] 138)).alloc (.cells #[.string q1, .string q2] 138) → w2 = Sort.grow (w1.drewN n) os → Below wr.heap.size wr w2 := by
          rintro n os w1 w2 rfl rfl
          have e : Below wr.heap.size wr ((wr.alloc (.cells #[.string p1, .string p2] 138)).alloc (.cells #[.string q1, .string q2] 138)) := ((Below.refl _ _).alloc (Nat.le_refl _) _).alloc (by simp) _
          exact ⟨e.os, e.tape, e.output, Nat.le_trans e.size (by simp [Sort.grow, World.drewN]), fun i hi => (Sort.heap_grow_old _ _ (Nat.lt_of_lt_of_le hi e.size)).trans (e.block i hi)⟩
        clear F
        cases hl1 : ltP (p1, p2) (q1, q2) with
        | true =>
          simp only [hl1, if_true] at hK
          have E := Lib.hid (hc.trans (by simp [cmpLL, hl1] : cmpLL ((p1, p2) :: _) ((q1, q2) :: _) = -1))
          clear hc hl1
          go_wp2_with fail
          refine calls_genP fun w1 hw1 => ?_
          (with_reducible refine (hK w1).mono ?_)
          rintro e w2 ⟨rfl, n, os, hw2⟩
          have hB := hb.trans ((hbb n os w1 w2 hw1 hw2).mono hb.size)
          clear hw1 hw2 hK hbb c0 d0 f0 f1
          go_wp2_with fail
          go_ret
          exact ⟨by rw [E.out]; rfl, hB⟩
        | false =>
          cases hl2 : ltP (q1, q2) (p1, p2) with
          | true =>
            simp only [hl1, hl2, if_true, Bool.false_eq_true, if_false] at hK
            have E := Lib.hid (hc.trans (by simp [cmpLL, hl1, hl2] : cmpLL ((p1, p2) :: _) ((q1, q2) :: _) = 1))
            clear hc hl1 hl2
            go_wp2_with fail
            refine calls_genP fun w1 hw1 => ?_
            (with_reducible refine (hK w1).mono ?_)
            rintro e w2 ⟨rfl, n, os, hw2⟩
            have hB := hb.trans ((hbb n os w1 w2 hw1 hw2).mono hb.size)
            clear hw1 hw2 hK hbb c0 d0 f0 f1
            go_wp2_with fail
            go_ret
            exact ⟨by rw [E.out]; rfl, hB⟩
          | false =>
            simp only [hl1, hl2, Bool.false_eq_true, if_false] at hK
            have E := Lib.hid (hc.trans (by simp [cmpLL, hl1, hl2] : cmpLL ((p1, p2) :: ps.drop (k + 1)) ((q1, q2) :: qs.drop (k + 1)) = cmpLL (ps.drop (k + 1)) (qs.drop (k + 1))))
            clear hc hl1 hl2
            go_wp2_with fail
            refine calls_genP fun w1 hw1 => ?_
            (with_reducible refine (hK w1).mono ?_)
            rintro e w2 ⟨rfl, n, os, hw2⟩
            have hB := hb.trans ((hbb n os w1 w2 hw1 hw2).mono hb.size)
            clear hw1 hw2 hK hbb c0 d0 f0 f1
            go_wp2_with fail
            go_roundw
            case rel => exact ⟨k + 1, by omega, by omega, by go_num, E.out, hB⟩
            case measure => simp [intOf]; omega
      · obtain rfl : k = qs.length := by omega
        rw [List.drop_length] at hc
        have E := Lib.hid (hc.trans (by simp [cmpLL] : cmpLL (p :: _) [] = 1))
        clear hc
        go_wp2_with fail
        go_ret
        exact ⟨by rw [E.out]; rfl, hb.alloc hb.size _⟩
    · obtain rfl : k = ps.length := by omega
      rw [List.drop_length, cmpLL_nil_l, List.length_drop] at hc
      clear r1 r2
      by_cases hl : ps.length < qs.length
      · have E := Lib.hid (hc.trans (if_pos (by omega)))
        clear hc
        go_wp2_with fail
        go_ret
        exact ⟨by rw [E.out]; rfl, hb⟩
      · have E := Lib.hid (hc.trans (if_neg (by omega)))
        clear hc
        go_wp2_with fail
        go_ret
        exact ⟨by rw [E.out]; rfl, hb⟩
theorem lCompare (v1 v2 : Value) (ps qs : List Pr) (w : World) (h1 : Rd w 2 v1 ps.length (pairCells ps)) (h2 : Rd w 2 v2 qs.length (pairCells qs)) :
    Calls Tryz.prog 164 #[v1, v2] w fun e w' => e = .returned (.int .i64 (cmpLL ps qs)) ∧ Below w.heap.size w w' := by
  have hK := slCompare v1 v2 ps qs w h1 h2
  obtain ⟨A1, c1, rfl, _⟩ := h1
  obtain ⟨A2, c2, rfl, _⟩ := h2
  go_enter Tryz.func164, Tryz.ntmps164
  go_wp2_with fail
  (with_reducible refine hK.mono ?_)
  rintro e w1 ⟨rfl, hb⟩
  go_wp2_with fail
  go_ret
  exact ⟨rfl, hb⟩
end Go.Proofs.YtebnbbbiobaneaaGreatDoor
