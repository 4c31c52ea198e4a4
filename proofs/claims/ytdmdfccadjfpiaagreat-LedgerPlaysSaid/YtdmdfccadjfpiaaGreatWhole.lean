/-
  Entries as cells; the law's high; ledger.Whole.
-/
import Derived.Test.YtdmdfccadjfpiaaGreatItT
namespace Go.Proofs.YtdmdfccadjfpiaaGreat
open Go.RowKit
set_option maxRecDepth 100000

theorem take_snocV {α : Type} {l : List α} {k : Nat} {a : α} (h : l[k]? = some a) : l.take (k + 1) = l.take k ++ [a] := by
  obtain ⟨hk, rfl⟩ := List.getElem?_eq_some_iff.1 h
  rw [List.take_succ_eq_append_getElem hk]
def en14 (e : Nat × ItV) : List Value := .int .u64 e.1 :: it13 e.2
/-- Up to which count entries cover an origin's. -/
def highL (l : List (Nat × ItV)) (o : Nat) : Nat := l.foldl (fun n x => if spanO x.2 = o then spanT x.2 else n) 0
theorem highL_snoc (l : List (Nat × ItV)) (x : Nat × ItV) (o : Nat) : highL (l ++ [x]) o = if spanO x.2 = o then spanT x.2 else highL l o := by simp [highL]
set_option maxHeartbeats 4000000 in
theorem lawHigh (v : Value) (l : List (Nat × ItV)) (p : Nat) (w : World) (hr : Rd w 14 v l.length (l.flatMap en14)) (hok : ∀ x ∈ l, x.1 < 18446744073709551616 ∧ x.2.ok w) (hl : l.length ≤ 1000000) :
    Calls Tryz.prog 10 #[v, .int .u8 p] w fun e w' => e = .returned (.int .u64 (highL l p : Nat)) ∧ Below w.heap.size w w' := by
  obtain ⟨A, c, rfl, h1, h2, h3, h4⟩ := hr
  unfold maxLen at h3
  obtain ⟨n, hnn⟩ : ∃ n, n = l.length := ⟨_, rfl⟩
  rw [← hnn] at h2 h4 hl ⊢
  have HN := Lib.hid hnn
  have HLL := Lib.hid hok
  clear hnn h1 hok
  go_enter Tryz.func10, Tryz.ntmps10
  go_wp2_with fail
  go_loopw [5, 13] (fun nv i wr => ∃ k : Nat, k ≤ n ∧ i = .int .i64 k ∧ nv = .int .u64 (highL (l.take k) p : Nat) ∧ Below w.heap.size w wr) (fun _ i _ => n - (intOf i).toNat)
  case atStart => exact ⟨0, Nat.zero_le _, rfl, rfl, Below.refl _ _⟩
  case round =>
    obtain ⟨k, hk, rfl, rfl, hb5⟩ := hrel
    by_cases hkn : k < n
    · obtain ⟨a, ha⟩ : ∃ a, l[k]? = some a := ⟨_, List.getElem?_eq_getElem (by rw [← HN.out]; exact hkn)⟩
      obtain ⟨b, oo, rfl, hat⟩ := h4 (by omega)
      have e0 := fun j hj => flat_at en14 14 (fun _ => rfl) l k a ha j hj
      have hok := (HLL.out a (List.mem_of_getElem? ha)).2
      have hnx : highL (l.take (k + 1)) p = if spanO a.2 = p then spanT a.2 else highL (l.take k) p := by rw [take_snocV ha, highL_snoc]
      have HX := Lib.hid hnx
      have kA := fun w' (h : Below w.heap.size w w') => refSpan a.2 w' (hok.below h)
      unfold itV at kA
      obtain ⟨so, hso⟩ : ∃ so, so = spanO a.2 := ⟨_, rfl⟩
      obtain ⟨sf, hsf⟩ : ∃ sf, sf = spanF a.2 := ⟨_, rfl⟩
      obtain ⟨sto, hst⟩ : ∃ sto, sto = spanT a.2 := ⟨_, rfl⟩
      rw [← hso, ← hsf, ← hst] at kA
      rw [← hso, ← hst] at HX
      obtain ⟨hi, hhi⟩ : ∃ hi, hi = highL (l.take k) p := ⟨_, rfl⟩
      rw [← hhi] at HX ⊢
      obtain ⟨Al, cl, hlv, _⟩ := hok.rd
      clear hok hnx hso hsf hst hhi
      obtain ⟨ti, gap, o, sq, tm, ru, lv, aps, st, pr, va, ow, go, gf, gt⟩ := a
      simp only at hlv kA
      subst hlv
      obtain ⟨nl, hnl⟩ : ∃ n, n = aps.length := ⟨_, rfl⟩
      rw [← hnl] at kA
      have x0 := hat.nth0 hb5 (k * 14) (.int .u64 ti) (e0 0 (by omega))
      have x1 := hat.nth hb5 (k * 14) 1 (.bool gap) (e0 1 (by omega))
      have x2 := hat.nth hb5 (k * 14) 2 (.int .u8 o) (e0 2 (by omega))
      have x3 := hat.nth hb5 (k * 14) 3 (.int .u64 sq) (e0 3 (by omega))
      have x4 := hat.nth hb5 (k * 14) 4 (.int .u64 tm) (e0 4 (by omega))
      have x5 := hat.nth hb5 (k * 14) 5 (.string ru) (e0 5 (by omega))
      have x6 := hat.nth hb5 (k * 14) 6 (.slice Al nl cl) (by rw [hnl]; exact e0 6 (by omega))
      have x7 := hat.nth hb5 (k * 14) 7 (.int .u8 st) (e0 7 (by omega))
      have x8 := hat.nth hb5 (k * 14) 8 (.int .u8 pr) (e0 8 (by omega))
      have x9 := hat.nth hb5 (k * 14) 9 (.int .i64 va) (e0 9 (by omega))
      have x10 := hat.nth hb5 (k * 14) 10 (.int .u8 ow) (e0 10 (by omega))
      have x11 := hat.nth hb5 (k * 14) 11 (.int .u8 go) (e0 11 (by omega))
      have x12 := hat.nth hb5 (k * 14) 12 (.int .u64 gf) (e0 12 (by omega))
      have x13 := hat.nth hb5 (k * 14) 13 (.int .u64 gt) (e0 13 (by omega))
      clear ha hat e0 hnl h4
      go_wp2_with fail
      refine calls_genP fun w2 hw2 => ?_
      have hb6 : Below w.heap.size w w2 := by rw [hw2]; exact hb5.alloc hb5.size _
      clear hw2
      (with_reducible refine (kA w2 hb6).mono ?_)
      rintro e w3 ⟨rfl, hb7⟩
      have hb8 := hb6.trans (hb7.mono hb6.size)
      clear hb6 hb7 kA hb5 x0 x1 x2 x3 x4 x5 x6 x7 x8 x9 x10 x11 x12 x13
      by_cases hq : so = p
      · have hx2 : highL (l.take (k + 1)) p = sto := by rw [HX.out, if_pos hq]
        have HX2 := Lib.hid hx2
        clear hx2 HX
        subst hq
        go_wp2_with fail
        exact ⟨⟨k + 1, by omega, by go_num, by rw [HX2.out], hb8⟩, by simp [intOf]; omega⟩
      · have d : ((so : Int) == (p : Int)) = false := by simp; omega
        have hx2 : highL (l.take (k + 1)) p = hi := by rw [HX.out, if_neg hq]
        have HX2 := Lib.hid hx2
        clear hx2 HX hq
        go_wp2_with fail
        exact ⟨⟨k + 1, by omega, by go_num, by rw [HX2.out], hb8⟩, by simp [intOf]; omega⟩
    · have hkk : l.take k = l := by rw [List.take_of_length_le]; have := HN.out; omega
      rw [hkk]
      go_wp2_with fail
      go_ret
      exact ⟨rfl, hb5⟩
/-- Do entries cover each origin's counts from these on, each once, rising? -/
def wholeF (h : Nat → Nat) : List (Nat × ItV) → Bool
  | [] => true
  | x :: r => decide (chkIt x.2 = 0) && (decide (spanF x.2 = h (spanO x.2) + 1) && wholeF (fun o => if o = spanO x.2 then spanT x.2 else h o) r)
def wholeL (l : List (Nat × ItV)) : Bool := wholeF (fun _ => 0) l
theorem chkIt_zero {a : ItV} (h : chkIt a = 0) : spanO a < 32 ∧ 1 ≤ spanF a ∧ spanF a ≤ spanT a ∧ spanT a ≤ 1099511627776 := by
  unfold chkIt at h
  unfold spanO spanF spanT
  cases hg : a.gap
  · rw [hg, if_neg Bool.false_ne_true] at h
    simp only [Bool.false_eq_true, if_false]
    unfold chkEv chkE at h
    split at h
    · cases h
    · omega
  · rw [hg, if_pos rfl] at h
    simp only [if_true]
    unfold chkGap at h
    split at h
    · cases h
    · omega
def hiA (h : Nat → Nat) : Array Value := Array.ofFn (n := 32) fun i => .int .u64 (h i.val : Nat)
theorem hiA_at (h : Nat → Nat) (o : Nat) (ho : o < 32) : (hiA h)[o]? = some (.int .u64 (h o : Nat)) := by
  unfold hiA
  rw [Array.getElem?_eq_getElem (by simpa using ho)]
  simp
theorem hiA_put (h : Nat → Nat) (o t : Nat) (ho : o < 32) : (hiA h).setIfInBounds o (.int .u64 (t : Nat)) = hiA (fun p => if p = o then t else h p) := by
  apply Array.ext_getElem?
  intro i
  rw [Array.getElem?_setIfInBounds]
  by_cases hi : i < 32
  · by_cases e : o = i
    · subst e
      rw [if_pos rfl, if_pos (by simpa [hiA] using ho), hiA_at _ _ ho, if_pos rfl]
    · rw [if_neg e, hiA_at _ _ hi, hiA_at _ _ hi, if_neg (fun x => e x.symm)]
  · rw [if_neg (by omega)]
    rw [Array.getElem?_eq_none (by simpa [hiA] using hi), Array.getElem?_eq_none (by simpa [hiA] using hi)]
set_option maxHeartbeats 4000000 in
theorem ledWhole (v : Value) (l : List (Nat × ItV)) (w : World) (hr : Rd w 14 v l.length (l.flatMap en14)) (hok : ∀ x ∈ l, x.1 < 18446744073709551616 ∧ x.2.ok w) (hl : l.length ≤ 1000000) :
    Calls Tryz.prog 11 #[v] w fun e w' => e = .returned (.bool (wholeL l)) ∧ Below w.heap.size w w' := by
  obtain ⟨A, c, rfl, h1, h2, h3, h4⟩ := hr
  unfold maxLen at h3
  obtain ⟨n, hnn⟩ : ∃ n, n = l.length := ⟨_, rfl⟩
  rw [← hnn] at h2 h4 hl ⊢
  have HN := Lib.hid hnn
  have HLL := Lib.hid hok
  clear hnn h1 hok
  go_enter Tryz.func11, Tryz.ntmps11
  go_wp2_with fail
  refine wp_gen fun w1 hw1 => ?_
  have U1 := ((Upd.nil [] w).alloc (hiA fun _ => 0) 83).same hw1
  clear hw1
  go_loopw [11] (fun i wr => ∃ (k : Nat) (h : Nat → Nat), k ≤ n ∧ i = .int .i64 k ∧ wholeL l = wholeF h (l.drop k) ∧ (∀ o, h o ≤ 1099511627776) ∧ Upd [] w [chBlk w.heap.size (hiA h) 83] wr) (fun i _ => n - (intOf i).toNat)
  case atStart => exact ⟨0, _, Nat.zero_le _, rfl, rfl, fun _ => Nat.zero_le _, U1⟩
  case round =>
    obtain ⟨k, h, hk, rfl, hwl, hh, U2⟩ := hrel
    clear U1 w1
    have hb5 := U2.below
    by_cases hkn : k < n
    · obtain ⟨a, ha⟩ : ∃ a, l[k]? = some a := ⟨_, List.getElem?_eq_getElem (by rw [← HN.out]; exact hkn)⟩
      have hd : l.drop k = a :: l.drop (k + 1) := by
        rw [List.drop_eq_getElem_cons (by rw [← HN.out]; exact hkn)]
        congr 1
        exact (List.getElem?_eq_some_iff.1 ha).2
      obtain ⟨b, oo, rfl, hat⟩ := h4 (by omega)
      have e0 := fun j hj => flat_at en14 14 (fun _ => rfl) l k a ha j hj
      have hok := (HLL.out a (List.mem_of_getElem? ha)).2
      rw [hd] at hwl
      have hwl2 : wholeL l = (decide (chkIt a.2 = 0) && (decide (spanF a.2 = h (spanO a.2) + 1) && wholeF (fun o => if o = spanO a.2 then spanT a.2 else h o) (l.drop (k + 1)))) := hwl
      have kC := fun w' (hb : Below w.heap.size w w') => itCheck a.2 w' (hok.below hb)
      have kS := fun w' (hb : Below w.heap.size w w') => itSpan a.2 w' (hok.below hb)
      have hz := chkIt_zero (a := a.2)
      unfold itV at kC kS
      obtain ⟨so, hso⟩ : ∃ so, so = spanO a.2 := ⟨_, rfl⟩
      obtain ⟨sf, hsf⟩ : ∃ sf, sf = spanF a.2 := ⟨_, rfl⟩
      obtain ⟨sto, hst⟩ : ∃ sto, sto = spanT a.2 := ⟨_, rfl⟩
      obtain ⟨ck, hck⟩ : ∃ ck, ck = chkIt a.2 := ⟨_, rfl⟩
      rw [← hso, ← hsf, ← hst] at kS
      rw [← hck] at kC
      rw [← hck, ← hso, ← hsf, ← hst] at hwl2 hz
      obtain ⟨Al, cl, hlv, _⟩ := hok.rd
      have HW := Lib.hid hwl2
      clear hok hso hsf hst hck hwl hwl2 hd
      obtain ⟨ti, gap, o, sq, tm, ru, lv, aps, st, pr, va, ow, go, gf, gt⟩ := a
      simp only at hlv kC kS
      subst hlv
      obtain ⟨nl, hnl⟩ : ∃ n, n = aps.length := ⟨_, rfl⟩
      rw [← hnl] at kC kS
      have x0 := hat.nth0 hb5 (k * 14) (.int .u64 ti) (e0 0 (by omega))
      have x1 := hat.nth hb5 (k * 14) 1 (.bool gap) (e0 1 (by omega))
      have x2 := hat.nth hb5 (k * 14) 2 (.int .u8 o) (e0 2 (by omega))
      have x3 := hat.nth hb5 (k * 14) 3 (.int .u64 sq) (e0 3 (by omega))
      have x4 := hat.nth hb5 (k * 14) 4 (.int .u64 tm) (e0 4 (by omega))
      have x5 := hat.nth hb5 (k * 14) 5 (.string ru) (e0 5 (by omega))
      have x6 := hat.nth hb5 (k * 14) 6 (.slice Al nl cl) (by rw [hnl]; exact e0 6 (by omega))
      have x7 := hat.nth hb5 (k * 14) 7 (.int .u8 st) (e0 7 (by omega))
      have x8 := hat.nth hb5 (k * 14) 8 (.int .u8 pr) (e0 8 (by omega))
      have x9 := hat.nth hb5 (k * 14) 9 (.int .i64 va) (e0 9 (by omega))
      have x10 := hat.nth hb5 (k * 14) 10 (.int .u8 ow) (e0 10 (by omega))
      have x11 := hat.nth hb5 (k * 14) 11 (.int .u8 go) (e0 11 (by omega))
      have x12 := hat.nth hb5 (k * 14) 12 (.int .u64 gf) (e0 12 (by omega))
      have x13 := hat.nth hb5 (k * 14) 13 (.int .u64 gt) (e0 13 (by omega))
      clear ha hat e0 hnl h4 hb5
      go_wp2_with fail
      refine calls_genP fun w2 hw2 => ?_
      have U3 := (U2.alloc #[.int .u64 ti, .bool gap, .int .u8 o, .int .u64 sq, .int .u64 tm, .string ru, .slice Al nl cl, .int .u8 st, .int .u8 pr, .int .i64 va, .int .u8 ow, .int .u8 go, .int .u64 gf, .int .u64 gt] 41).same hw2
      clear hw2 U2 x0 x1 x2 x3 x4 x5 x6 x7 x8 x9 x10 x11 x12 x13
      (with_reducible refine (kC w2 U3.below).mono ?_)
      rintro e w3 ⟨rfl, hb3⟩
      have U4 := U3.grow hb3
      clear U3 hb3 kC
      by_cases c0 : ck = 0
      · have hz2 := hz c0
        clear hz
        subst c0
        have y1 := (U4.blk 0 rfl).cell (j := 1) (v := .bool gap) rfl
        have y2 := (U4.blk 0 rfl).cell (j := 2) (v := .int .u8 o) rfl
        have y3 := (U4.blk 0 rfl).cell (j := 3) (v := .int .u64 sq) rfl
        have y4 := (U4.blk 0 rfl).cell (j := 4) (v := .int .u64 tm) rfl
        have y5 := (U4.blk 0 rfl).cell (j := 5) (v := .string ru) rfl
        have y6 := (U4.blk 0 rfl).cell (j := 6) (v := .slice Al nl cl) rfl
        have y7 := (U4.blk 0 rfl).cell (j := 7) (v := .int .u8 st) rfl
        have y8 := (U4.blk 0 rfl).cell (j := 8) (v := .int .u8 pr) rfl
        have y9 := (U4.blk 0 rfl).cell (j := 9) (v := .int .i64 va) rfl
        have y10 := (U4.blk 0 rfl).cell (j := 10) (v := .int .u8 ow) rfl
        have y11 := (U4.blk 0 rfl).cell (j := 11) (v := .int .u8 go) rfl
        have y12 := (U4.blk 0 rfl).cell (j := 12) (v := .int .u64 gf) rfl
        have y13 := (U4.blk 0 rfl).cell (j := 13) (v := .int .u64 gt) rfl
        go_wp2_with fail
        (with_reducible refine (kS w3 U4.below).mono ?_)
        rintro e w4 ⟨rfl, hb4⟩
        have U5 := U4.grow hb4
        clear U4 hb4 kS y1 y2 y3 y4 y5 y6 y7 y8 y9 y10 y11 y12 y13
        obtain ⟨hs, hhs⟩ : ∃ hs, hs = h so := ⟨_, rfl⟩
        have hsb : hs ≤ 1099511627776 := by rw [hhs]; exact hh so
        have x1 := (U5.blk 1 rfl).cell (j := so) (v := .int .u64 hs) (by rw [hhs]; exact hiA_at h so hz2.1)
        have z1 := (U5.blk 1 rfl).frozen so
        rw [← hhs] at HW
        clear hhs
        have hso := hz2.1
        by_cases c1 : sf = hs + 1
        · have d : ((sf : Int) != (hs : Int) + 1) = false := by simp; omega
          have hw2 : wholeL l = wholeF (fun o => if o = so then sto else h o) (l.drop (k + 1)) := by rw [HW.out, decide_eq_true c1]; simp
          have HW2 := Lib.hid hw2
          have hh2 : ∀ o, (if o = so then sto else h o) ≤ 1099511627776 := fun o => by split; exact hz2.2.2.2; exact hh o
          clear hw2 HW c1
          go_wp2_with fail
          have U6 := U5.put 1 rfl so (.int .u64 sto)
          simp only [List.eraseIdx_cons_succ, List.eraseIdx_cons_zero] at U6
          rw [hiA_put h so sto hso] at U6
          exact ⟨⟨k + 1, _, by omega, by go_num, HW2.out, hh2, U6.drop 1⟩, by simp [intOf]; omega⟩
        · have d : ((sf : Int) != (hs : Int) + 1) = true := by simp; omega
          have hw2 : wholeL l = false := by rw [HW.out, decide_eq_false c1]; simp
          have HW2 := Lib.hid hw2
          clear hw2 HW c1
          go_wp2_with fail
          go_ret
          exact ⟨by rw [HW2.out]; rfl, U5.below⟩
      · have d : ((ck : Int) != 0) = true := by simp; omega
        have hw2 : wholeL l = false := by rw [HW.out, decide_eq_false c0]; rfl
        have HW2 := Lib.hid hw2
        clear hw2 HW c0
        go_wp2_with fail
        go_ret
        exact ⟨by rw [HW2.out]; rfl, U4.below⟩
    · have hkk : l.drop k = [] := by rw [List.drop_eq_nil_iff]; have := HN.out; omega
      rw [hkk] at hwl
      have HW := Lib.hid hwl
      clear hwl
      go_wp2_with fail
      go_ret
      exact ⟨by rw [HW.out]; rfl, hb5⟩
end Go.Proofs.YtdmdfccadjfpiaaGreat
