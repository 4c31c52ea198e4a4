/-
  ledger.replay of the records that a ledger writes. ledger.Open of a file of records that a ledger wrote. ledger.Open of a file of records that a ledger wrote: all that it wrote is there, and a life more. The reference's Same and SameItem at equal items.
-/
import Derived.Test.YtdmdfccadjfpiaaGreatRdrT
import Derived.Test.YtdmdfccadjfpiaaGreatAdmT
import Derived.Test.YtdmdfccadjfpiaaGreatLOp
import Derived.Test.YtdmdfccadjfpiaaGreatItT
import Derived.Test.YtdmdfccadjfpiaaGreatFreeT
namespace Go.Proofs.YtdmdfccadjfpiaaGreat
open Go.RowKit
set_option maxRecDepth 100000

/-- What was counted as written, and isn't. -/
theorem Upd.unwrite {S T : List Nat} {w0 w : World} {c : Chunk} {C : List Chunk} (h : Upd (S ++ T) w0 (c :: C) w) (hT : ∀ b ∈ T, b ∈ c.fp) (he : ∀ b ∈ T, w.heap[b]? = w0.heap[b]?) : Upd S w0 C w := by
  have hp := List.pairwise_cons.1 h.apart
  refine ⟨h.os, h.tape, h.output, h.size, fun k hk hS => ?_, fun d hd => h.holds d (.tail _ hd), fun d hd b hb => ?_, hp.2⟩
  · by_cases hk2 : k ∈ T
    · exact he k hk2
    · exact h.block k hk fun hm => by
        rcases List.mem_append.1 hm with h1 | h1
        · exact hS h1
        · exact hk2 h1
  · rcases h.own d (.tail _ hd) b hb with h1 | h1
    · rcases List.mem_append.1 h1 with h2 | h2
      · exact .inl h2
      · exact absurd hb (hp.1 d hd b (hT b h2))
    · exact .inr h1
/-- A new reader. -/
theorem Upd.rdrNew {S T : List Nat} {w0 w : World} {C : List Chunk} {gr : Nat} {v : Value} {bs : List UInt8} {ob : Nat → Option Obj} (h : Upd (S ++ T) w0 (chBlk gr #[v, .int .i64 0] 174 :: C) w) (hr : Rd w 1 v bs.length (u8L bs)) (hT : ∀ q ∈ rdFp v bs.length, q ∈ T) (hg : gr ∉ T) (hdis : ∀ d ∈ C, ∀ b ∈ T, b ∉ d.fp) (hob : ∀ q ∈ T, q < w.heap.size ∧ w.heap[q]? = ob q) :
    Upd (S ++ T) w0 (chRdr T ob gr v bs :: C) w := by
  have hp := List.pairwise_cons.1 h.apart
  refine (h.drop 0).more (chRdr T ob gr v bs) ⟨h.blk 0 rfl, hr, hg, hT, hob⟩ (fun b hb => ?_) fun d hd b hb => ?_
  · rcases List.mem_cons.1 hb with rfl | hb
    · exact h.own _ (.head _) b (chBlk_fp.2 rfl)
    · exact .inl (List.mem_append_right _ hb)
  · rcases List.mem_cons.1 hb with rfl | hb
    · exact hp.1 d hd b (chBlk_fp.2 rfl)
    · exact hdis d hd b hb
theorem ledEnter (g : Nat) (jv lv : Value) (h : Nat → Nat) (li la n now : Nat) (cs : List Value) (a : ItV) (w : World) (hP : (chLed g jv lv h li la n cs).P w) (ha : a.ok w) (hd : ∀ x ∈ rdFp a.lv a.ps.length, x ∉ (chLed g jv lv h li la n cs).fp)
    (hf : fitV h la now a = 0) (hh : h (spanO a) < 18446744073709551615) (hn : n ≤ 1000000) (hpl : a.ps.length ≤ 1000000) :
    Calls Tryz.prog 43 #[.pointer (some ⟨g, 0, none⟩), .int .u64 now, itV a] w fun e w' => ∃ lv' A4 c4, e = .returned (.tuple #[itV (trimA a (h (spanO a))), .int .i64 0]) ∧
      Upd (chLed g jv lv h li la n cs).fp w [chLed g jv lv' (fun p => if p = spanO a then spanT a else h p) li now (n + 1) (cs ++ en14 (now, { trimA a (h (spanO a)) with lv := .slice A4 a.ps.length c4 })), chRow 137 2 (.slice A4 a.ps.length c4) a.ps.length (pairCells a.ps)] w' := by
  obtain ⟨h0, h1, h2, h3, h4⟩ := fitV_ok hf
  have hz := chkIt_zero h0
  have hsp := trimA_span h3
  have KF := fun w' (hb : Below w.heap.size w w') => ledFits g jv lv h li la now a w' ((show Blk w g _ _ from hP.1).below hb (show Blk w g _ _ from hP.1).lt) (ha.below hb) hh hf
  have KS : ∀ w', Calls Tryz.prog 36 #[itV (trimA a (h (spanO a)))] w' fun e w'' => e = .returned (.tuple #[.int .u8 (spanO (trimA a (h (spanO a)))), .int .u64 (spanF (trimA a (h (spanO a)))), .int .u64 (spanT (trimA a (h (spanO a))))]) ∧ Below w'.heap.size w' w'' := fun w' => itSpanA _ w' (by obtain ⟨A, c, e, _⟩ := ha.rd; exact ⟨A, c, e⟩)
  rw [hsp.1, hsp.2.1] at KS
  have hrd := ha.rd
  obtain ⟨Al, cl, hlv, _⟩ := ha.rd
  obtain ⟨hs, hhs⟩ : ∃ hs, hs = h (spanO a) := ⟨_, rfl⟩
  rw [← hhs] at KF KS ⊢
  obtain ⟨so, hso⟩ : ∃ so, so = spanO a := ⟨_, rfl⟩
  obtain ⟨sto, hsto⟩ : ∃ sto, sto = spanT a := ⟨_, rfl⟩
  rw [← hso, ← hsto] at KS
  rw [← hso] at hz
  obtain ⟨sf, hsf⟩ : ∃ sf, sf = spanF (trimA a hs) := ⟨_, rfl⟩
  rw [← hsf] at KS
  rw [← hso, ← hsto]
  obtain ⟨gf2, hgf2⟩ : ∃ g2, g2 = if hs < spanF a then a.gf else hs + 1 := ⟨_, rfl⟩
  have htr : trimA a hs = { a with gf := gf2 } := by rw [hgf2]; rfl
  rw [htr] at KF KS ⊢
  clear hso hsto hsf hgf2 htr hf hsp h0 h3 h4 hhs
  obtain ⟨gap, o, sq, tm, ru, lw, ps, st, pr, va, ow, go, gf, gt⟩ := a
  simp only at hlv KF KS hd hrd hpl
  subst hlv
  exact enter_ok g jv lv h li la n now cs gap o sq tm ru Al ps.length cl st pr va ow go gf gt ps so sf sto gf2 w hP hn hz.1 hrd hpl hd KF (fun w' _ => KS w')
set_option maxHeartbeats 2000000 in
theorem repLife (g : Nat) (jv lv : Value) (h : Nat → Nat) (li la n m : Nat) (cs : List Value) (v : Value) (w : World) (hP : (chLed g jv lv h li la n cs).P w) (hr : Rd w 1 v ((2 : UInt8) :: uvar m).length (u8L ((2 : UInt8) :: uvar m))) (hd : ∀ q ∈ rdFp v ((2 : UInt8) :: uvar m).length, q ∉ (chLed g jv lv h li la n cs).fp) (hm : m ≤ 1099511627776) :
    Calls Tryz.prog 45 #[.pointer (some ⟨g, 0, none⟩), v] w fun e w' => e = .returned (.int .i64 0) ∧ Upd (chLed g jv lv h li la n cs).fp w [chLed g jv lv h m la n cs] w' := by
  obtain ⟨S, hS⟩ : ∃ S, S = (chLed g jv lv h li la n cs).fp := ⟨_, rfl⟩
  have hlt := (chRd 1 v ((2 : UInt8) :: uvar m).length (u8L ((2 : UInt8) :: uvar m)) (by decide)).inn w hr
  have U0 := (Upd.one _ w hP).mono (S' := S ++ rdFp v ((2 : UInt8) :: uvar m).length) (fun b hb => List.mem_append_left _ (hS ▸ hb))
  rw [← hS] at hd ⊢
  obtain ⟨T, hT⟩ : ∃ T, T = rdFp v ((2 : UInt8) :: uvar m).length := ⟨_, rfl⟩
  have hlt' : ∀ q ∈ T, q < w.heap.size := fun q hq => hlt q (show q ∈ rdFp v ((2 : UInt8) :: uvar m).length by rw [← hT]; exact hq)
  rw [← hT] at U0 hd
  have HR := Lib.hid hr
  have HT := Lib.hid hT
  have HD := Lib.hid hd
  have HS := Lib.hid hS
  have HLT := Lib.hid hlt'
  obtain ⟨Av, nv, cv, rfl⟩ : ∃ A n c, v = .slice A n c := by obtain ⟨A, c, e, _⟩ := hr; exact ⟨A, _, c, e⟩
  clear hS hP hlt hlt' hr hd hT
  go_enter Tryz.func45, Tryz.ntmps45
  go_wp2_with fail
  (with_reducible refine (rdRead _ _ _ _).mono ?_)
  rintro e w1 ⟨gr, rfl, h1⟩
  have hb1 := h1.below
  have hgr : w.heap.size ≤ gr := (h1.own _ (.head _) gr (chBlk_fp.2 rfl)).resolve_left (fun h => nomatch h)
  have U1 := (U0.call h1).rdrNew (bs := (2 : UInt8) :: uvar m) (ob := fun q => w.heap[q]?) (HR.out.below hb1) (fun q hq => by rw [HT.out]; exact hq) (fun hm => by have := HLT.out gr hm; omega) (fun d hdm b hbT hbd => by
    rw [List.mem_singleton.1 hdm] at hbd
    exact HD.out b hbT (HS.out ▸ hbd)) (fun q hq => ⟨Nat.lt_of_lt_of_le (HLT.out q hq) hb1.size, hb1.block q (HLT.out q hq)⟩)
  clear h1 hb1 hgr U0
  have K : Calls Tryz.prog 74 #[.pointer (some ⟨gr, 0, none⟩)] w1 fun e w' => e = .returned (.int .u8 2) ∧ ∃ v', Upd (chRdr T (fun q => w.heap[q]?) gr (.slice Av nv cv) (2 :: uvar m)).fp w1 [chRdr T (fun q => w.heap[q]?) gr v' (uvar m)] w' := rByte gr _ 2 (uvar m) w1 (U1.get 0 rfl)
  go_wp2_with fail
  (with_reducible refine K.mono ?_)
  rintro e w2 ⟨rfl, v2, h2⟩
  have U2 := U1.turn 0 rfl h2
  simp only [List.eraseIdx_cons_zero, List.cons_append, List.nil_append] at U2
  clear K h2 U1
  have K : Calls Tryz.prog 75 #[.pointer (some ⟨gr, 0, none⟩), .int .u64 1099511627776] w2 fun e w' => e = .returned (.int .u64 m) ∧ ∃ v', Upd (chRdr T (fun q => w.heap[q]?) gr v2 (uvar m)).fp w2 [chRdr T (fun q => w.heap[q]?) gr v' []] w' := by
    have hP2 := U2.get 0 rfl
    have := rCountM (T := T) (ob := fun q => w.heap[q]?) gr v2 m [] w2 (by rw [List.append_nil]; exact hP2) hm
    rw [List.append_nil] at this
    exact this
  go_wp2_with fail
  (with_reducible refine K.mono ?_)
  rintro e w3 ⟨rfl, v3, h3⟩
  have U3 := ((U2.turn 0 rfl h3).pick [1, 0] (by decide))
  simp only [List.eraseIdx_cons_zero, List.cons_append, List.nil_append] at U3
  simp only [List.filterMap_cons, List.filterMap_nil, List.getElem?_cons_zero, List.getElem?_cons_succ] at U3
  replace U3 := U3.unTwo
  clear K h3 U2
  have g34 := (U3.blk 0 rfl).cell (ledA_34 jv lv h li la)
  have gf := (U3.blk 0 rfl).frozen
  go_wp2_with fail
  refine calls_genP fun w4 hw4 => ?_
  have U4 := (U3.put 0 rfl 34 (.int .u64 m)).same hw4
  rw [ledA_put34] at U4
  simp only [List.eraseIdx_cons_zero] at U4
  clear hw4 U3 g34 gf
  (with_reducible refine (rDone gr _ w4 (U4.get 2 rfl)).mono ?_)
  rintro e w5 ⟨rfl, rfl⟩
  have V := (U4.two.pick [1, 0] (by decide))
  simp only [List.filterMap_cons, List.filterMap_nil, List.getElem?_cons_zero, List.getElem?_cons_succ] at V
  have HU := Lib.hid (V.unwrite (fun b hb => .tail _ hb) (fun b hb => ((V.get 0 rfl).2.2.2.2 b hb).2))
  clear V U4
  go_wp2_with fail
  go_ret
  exact ⟨rfl, HU.out⟩
set_option maxHeartbeats 4000000 in
theorem repGap (g : Nat) (jv lv : Value) (h : Nat → Nat) (li la n now : Nat) (cs : List Value) (go gf gt : Nat) (v : Value) (w : World) (hP : (chLed g jv lv h li la n cs).P w) (hr : Rd w 1 v ((1 : UInt8) :: (uvar now ++ (1 :: putG go gf gt))).length (u8L ((1 : UInt8) :: (uvar now ++ (1 :: putG go gf gt))))) (hd : ∀ q ∈ rdFp v ((1 : UInt8) :: (uvar now ++ (1 :: putG go gf gt))).length, q ∉ (chLed g jv lv h li la n cs).fp)
    (hf : fitV h la now (⟨true, 0, 0, 0, ⟨#[]⟩, .slice none 0 0, [], 0, 0, 0, 0, go, gf, gt⟩ : ItV) = 0) (hh : h (spanO (⟨true, 0, 0, 0, ⟨#[]⟩, .slice none 0 0, [], 0, 0, 0, 0, go, gf, gt⟩ : ItV)) < 18446744073709551615) (hn : n ≤ 1000000) :
    Calls Tryz.prog 45 #[.pointer (some ⟨g, 0, none⟩), v] w fun e w' => e = .returned (.int .i64 0) ∧ ∃ lv' A4 c4,
      Upd (chLed g jv lv h li la n cs).fp w [chLed g jv lv' (fun p => if p = spanO (⟨true, 0, 0, 0, ⟨#[]⟩, .slice none 0 0, [], 0, 0, 0, 0, go, gf, gt⟩ : ItV) then spanT (⟨true, 0, 0, 0, ⟨#[]⟩, .slice none 0 0, [], 0, 0, 0, 0, go, gf, gt⟩ : ItV) else h p) li now (n + 1) (cs ++ en14 (now, { trimA (⟨true, 0, 0, 0, ⟨#[]⟩, .slice none 0 0, [], 0, 0, 0, 0, go, gf, gt⟩ : ItV) (h (spanO (⟨true, 0, 0, 0, ⟨#[]⟩, .slice none 0 0, [], 0, 0, 0, 0, go, gf, gt⟩ : ItV))) with lv := .slice A4 0 c4 })), chRow 137 2 (.slice A4 0 c4) 0 (pairCells ([] : List Pr))] w' := by
  obtain ⟨hc0, hnow, hla, hc3, hc4⟩ := fitV_ok hf
  have hff := Lib.hid hf
  obtain ⟨S, hS⟩ : ∃ S, S = (chLed g jv lv h li la n cs).fp := ⟨_, rfl⟩
  have hlt := (chRd 1 v ((1 : UInt8) :: (uvar now ++ (1 :: putG go gf gt))).length (u8L ((1 : UInt8) :: (uvar now ++ (1 :: putG go gf gt)))) (by decide)).inn w hr
  have U0 := (Upd.one _ w hP).mono (S' := S ++ rdFp v ((1 : UInt8) :: (uvar now ++ (1 :: putG go gf gt))).length) (fun b hb => List.mem_append_left _ (hS ▸ hb))
  rw [← hS] at hd ⊢
  obtain ⟨T, hT⟩ : ∃ T, T = rdFp v ((1 : UInt8) :: (uvar now ++ (1 :: putG go gf gt))).length := ⟨_, rfl⟩
  have hlt' : ∀ q ∈ T, q < w.heap.size := fun q hq => hlt q (show q ∈ rdFp v ((1 : UInt8) :: (uvar now ++ (1 :: putG go gf gt))).length by rw [← hT]; exact hq)
  rw [← hT] at U0 hd
  have HR := Lib.hid hr
  have HT := Lib.hid hT
  have HD := Lib.hid hd
  have HS := Lib.hid hS
  have HLT := Lib.hid hlt'
  obtain ⟨Av, nv, cv, rfl⟩ : ∃ A n c, v = .slice A n c := by obtain ⟨A, c, e, _⟩ := hr; exact ⟨A, _, c, e⟩
  clear hS hP hlt hlt' hr hd hT
  go_enter Tryz.func45, Tryz.ntmps45
  go_wp2_with fail
  (with_reducible refine (rdRead _ _ _ _).mono ?_)
  rintro e w1 ⟨gr, rfl, h1⟩
  have hb1 := h1.below
  have hgr : w.heap.size ≤ gr := (h1.own _ (.head _) gr (chBlk_fp.2 rfl)).resolve_left (fun h => nomatch h)
  have U1 := (U0.call h1).rdrNew (bs := (1 : UInt8) :: (uvar now ++ (1 :: putG go gf gt))) (ob := fun q => w.heap[q]?) (HR.out.below hb1) (fun q hq => by rw [HT.out]; exact hq) (fun hm => by have := HLT.out gr hm; omega) (fun d hdm b hbT hbd => by
    rw [List.mem_singleton.1 hdm] at hbd
    exact HD.out b hbT (HS.out ▸ hbd)) (fun q hq => ⟨Nat.lt_of_lt_of_le (HLT.out q hq) hb1.size, hb1.block q (HLT.out q hq)⟩)
  clear h1 hb1 hgr U0
  have K : Calls Tryz.prog 74 #[.pointer (some ⟨gr, 0, none⟩)] w1 fun e w' => e = .returned (.int .u8 1) ∧ ∃ v', Upd (chRdr T (fun q => w.heap[q]?) gr (.slice Av nv cv) (1 :: (uvar now ++ (1 :: putG go gf gt)))).fp w1 [chRdr T (fun q => w.heap[q]?) gr v' (uvar now ++ (1 :: putG go gf gt))] w' := rByte gr _ 1 _ w1 (U1.get 0 rfl)
  go_wp2_with fail
  (with_reducible refine K.mono ?_)
  rintro e w2 ⟨rfl, v2, h2⟩
  have U2 := U1.turn 0 rfl h2
  simp only [List.eraseIdx_cons_zero, List.cons_append, List.nil_append] at U2
  clear K h2 U1
  have K := rCountM gr v2 now (1 :: putG go gf gt) w2 (U2.get 0 rfl) hnow
  go_wp2_with fail
  (with_reducible refine K.mono ?_)
  rintro e w3 ⟨rfl, v3, h3⟩
  have U3 := U2.turn 0 rfl h3
  simp only [List.eraseIdx_cons_zero, List.cons_append, List.nil_append] at U3
  clear K h3 U2
  have hP3 := U3.get 0 rfl
  have K : Calls Tryz.prog 77 #[.pointer (some ⟨gr, 0, none⟩)] w3 fun e w' => ∃ v', e = .returned (.agg #[.bool true, .int .u8 0, .int .u64 0, .int .u64 0, .string ⟨#[]⟩, .slice none 0 0, .int .u8 0, .int .u8 0, .int .i64 0, .int .u8 0, .int .u8 go, .int .u64 gf, .int .u64 gt]) ∧ Upd (chRdr T (fun q => w.heap[q]?) gr v3 (1 :: putG go gf gt)).fp w3 [chRdr T (fun q => w.heap[q]?) gr v' []] w' := by
    have := takeGap (T := T) (ob := fun q => w.heap[q]?) gr v3 go gf gt [] w3 (by rw [List.append_nil]; exact hP3) hc0
    rw [List.append_nil] at this
    exact this
  go_wp2_with fail
  (with_reducible refine K.mono ?_)
  rintro e w4 ⟨v4, rfl, h4⟩
  have U4 := (U3.turn 0 rfl h4).nilRow 137 2 |>.pick [1, 0, 2] (by decide)
  simp only [List.eraseIdx_cons_zero, List.cons_append, List.nil_append] at U4
  simp only [List.filterMap_cons, List.filterMap_nil, List.getElem?_cons_zero, List.getElem?_cons_succ] at U4
  clear K h4 U3 hP3
  go_wp2_with fail
  refine calls_genP fun w5 hw5 => ?_
  have U5 := (U4.alloc #[.bool true, .int .u8 0, .int .u64 0, .int .u64 0, .string ⟨#[]⟩, .slice none 0 0, .int .u8 0, .int .u8 0, .int .i64 0, .int .u8 0, .int .u8 go, .int .u64 gf, .int .u64 gt] 36).same hw5
  clear hw5 U4
  (with_reducible refine (rDone gr _ w5 (U5.get 1 rfl)).mono ?_)
  rintro e w6 ⟨rfl, rfl⟩
  have y0 := (U5.blk 0 rfl).cell (j := 0) (v := .bool true) rfl
  have y1 := (U5.blk 0 rfl).cell (j := 1) (v := .int .u8 0) rfl
  have y2 := (U5.blk 0 rfl).cell (j := 2) (v := .int .u64 0) rfl
  have y3 := (U5.blk 0 rfl).cell (j := 3) (v := .int .u64 0) rfl
  have y4 := (U5.blk 0 rfl).cell (j := 4) (v := .string ⟨#[]⟩) rfl
  have y5 := (U5.blk 0 rfl).cell (j := 5) (v := .slice none 0 0) rfl
  have y6 := (U5.blk 0 rfl).cell (j := 6) (v := .int .u8 0) rfl
  have y7 := (U5.blk 0 rfl).cell (j := 7) (v := .int .u8 0) rfl
  have y8 := (U5.blk 0 rfl).cell (j := 8) (v := .int .i64 0) rfl
  have y9 := (U5.blk 0 rfl).cell (j := 9) (v := .int .u8 0) rfl
  have y10 := (U5.blk 0 rfl).cell (j := 10) (v := .int .u8 go) rfl
  have y11 := (U5.blk 0 rfl).cell (j := 11) (v := .int .u64 gf) rfl
  have y12 := (U5.blk 0 rfl).cell (j := 12) (v := .int .u64 gt) rfl
  have hz : go < 256 ∧ gf < 18446744073709551616 ∧ gt < 18446744073709551616 := by
    have hc : chkGap go gf gt = 0 := hc0
    unfold chkGap at hc
    split at hc
    · cases hc
    · omega
  have ha : (⟨true, 0, 0, 0, ⟨#[]⟩, .slice none 0 0, [], 0, 0, 0, 0, go, gf, gt⟩ : ItV).ok w6 := ⟨by simp, by simp, by simp, show (0 : Nat) ≤ maxLen from Nat.zero_le _, ⟨none, 0, rfl, rfl, Nat.le_refl _, show 0 ≤ maxLen by unfold maxLen; omega, fun h => absurd h (Nat.lt_irrefl 0)⟩, (fun _ h => nomatch h), by simp, by simp, by simp, by simp, hz.1, hz.2.1, hz.2.2⟩
  have hdd : ∀ x ∈ rdFp (⟨true, 0, 0, 0, ⟨#[]⟩, .slice none 0 0, [], 0, 0, 0, 0, go, gf, gt⟩ : ItV).lv (⟨true, 0, 0, 0, ⟨#[]⟩, .slice none 0 0, [], 0, 0, 0, 0, go, gf, gt⟩ : ItV).ps.length, x ∉ (chLed g jv lv h li la n cs).fp := fun x hx => by simp [rdFp] at hx
  have KE := ledEnter g jv lv h li la n now cs (⟨true, 0, 0, 0, ⟨#[]⟩, .slice none 0 0, [], 0, 0, 0, 0, go, gf, gt⟩ : ItV) w6 (U5.get 3 rfl) ha hdd hff.out hh hn (show (0 : Nat) ≤ _ by omega)
  obtain ⟨hs, hhs⟩ : ∃ hs, hs = h (spanO (⟨true, 0, 0, 0, ⟨#[]⟩, .slice none 0 0, [], 0, 0, 0, 0, go, gf, gt⟩ : ItV)) := ⟨_, rfl⟩
  obtain ⟨gf2, hgf2⟩ : ∃ g2, g2 = (trimA (⟨true, 0, 0, 0, ⟨#[]⟩, .slice none 0 0, [], 0, 0, 0, 0, go, gf, gt⟩ : ItV) hs).gf := ⟨_, rfl⟩
  have KE2 : Calls Tryz.prog 43 #[.pointer (some ⟨g, 0, none⟩), .int .u64 now, .agg #[.bool true, .int .u8 0, .int .u64 0, .int .u64 0, .string ⟨#[]⟩, .slice none 0 0, .int .u8 0, .int .u8 0, .int .i64 0, .int .u8 0, .int .u8 go, .int .u64 gf, .int .u64 gt]] w6 fun e w' => ∃ lv' A4 c4, e = .returned (.tuple #[.agg #[.bool true, .int .u8 0, .int .u64 0, .int .u64 0, .string ⟨#[]⟩, .slice none 0 0, .int .u8 0, .int .u8 0, .int .i64 0, .int .u8 0, .int .u8 go, .int .u64 gf2, .int .u64 gt], .int .i64 0]) ∧
      Upd (chLed g jv lv h li la n cs).fp w6 [chLed g jv lv' (fun p => if p = spanO (⟨true, 0, 0, 0, ⟨#[]⟩, .slice none 0 0, [], 0, 0, 0, 0, go, gf, gt⟩ : ItV) then spanT (⟨true, 0, 0, 0, ⟨#[]⟩, .slice none 0 0, [], 0, 0, 0, 0, go, gf, gt⟩ : ItV) else h p) li now (n + 1) (cs ++ en14 (now, { trimA (⟨true, 0, 0, 0, ⟨#[]⟩, .slice none 0 0, [], 0, 0, 0, 0, go, gf, gt⟩ : ItV) (h (spanO (⟨true, 0, 0, 0, ⟨#[]⟩, .slice none 0 0, [], 0, 0, 0, 0, go, gf, gt⟩ : ItV))) with lv := .slice A4 0 c4 })), chRow 137 2 (.slice A4 0 c4) 0 (pairCells ([] : List Pr))] w' := by
    rw [hgf2, hhs]
    exact KE
  clear KE ha hdd hgf2 hhs
  go_wp2_with fail
  (with_reducible refine KE2.mono ?_)
  rintro e w7 ⟨lv', A4, c4, rfl, h7⟩
  have U7 := (U5.turn 3 rfl h7).pick [3, 0, 1] (by decide)
  simp only [List.eraseIdx_cons_succ, List.cons_append, List.nil_append] at U7
  simp only [List.filterMap_cons, List.filterMap_nil, List.getElem?_cons_zero, List.getElem?_cons_succ] at U7
  have HU := Lib.hid (U7.unwrite (fun b hb => .tail _ hb) (fun b hb => ((U7.get 0 rfl).2.2.2.2 b hb).2))
  clear KE2 h7 U5 U7 y0 y1 y2 y3 y4 y5 y6 y7 y8 y9 y10 y11 y12
  go_wp2_with fail
  go_ret
  exact ⟨rfl, lv', A4, c4, HU.out.grow ((Below.refl _ _).alloc (Nat.le_refl _) _)⟩
set_option maxHeartbeats 4000000 in
theorem repEv (g : Nat) (jv lv : Value) (h : Nat → Nat) (li la n now : Nat) (cs : List Value) (o sq tm : Nat) (ru : ByteArray) (ps : List Pr) (st pr : Nat) (va : Int) (ow : Nat) (v : Value) (w : World) (hP : (chLed g jv lv h li la n cs).P w) (hr : Rd w 1 v ((1 : UInt8) :: (uvar now ++ (0 :: putE o sq tm ru ps st pr va ow))).length (u8L ((1 : UInt8) :: (uvar now ++ (0 :: putE o sq tm ru ps st pr va ow))))) (hd : ∀ q ∈ rdFp v ((1 : UInt8) :: (uvar now ++ (0 :: putE o sq tm ru ps st pr va ow))).length, q ∉ (chLed g jv lv h li la n cs).fp) (hva : -9223372036854775808 ≤ va ∧ va ≤ 9223372036854775807) (hst : st < 256)
    (hf : fitV h la now (⟨false, o, sq, tm, ru, .slice none 0 0, ps, st, pr, va, ow, 0, 0, 0⟩ : ItV) = 0) (hh : h (spanO (⟨false, o, sq, tm, ru, .slice none 0 0, ps, st, pr, va, ow, 0, 0, 0⟩ : ItV)) < 18446744073709551615) (hn : n ≤ 1000000) :
    Calls Tryz.prog 45 #[.pointer (some ⟨g, 0, none⟩), v] w fun e w' => e = .returned (.int .i64 0) ∧ ∃ lv' A4 c4,
      Upd (chLed g jv lv h li la n cs).fp w [chLed g jv lv' (fun p => if p = spanO (⟨false, o, sq, tm, ru, .slice none 0 0, ps, st, pr, va, ow, 0, 0, 0⟩ : ItV) then spanT (⟨false, o, sq, tm, ru, .slice none 0 0, ps, st, pr, va, ow, 0, 0, 0⟩ : ItV) else h p) li now (n + 1) (cs ++ en14 (now, { trimA (⟨false, o, sq, tm, ru, .slice none 0 0, ps, st, pr, va, ow, 0, 0, 0⟩ : ItV) (h (spanO (⟨false, o, sq, tm, ru, .slice none 0 0, ps, st, pr, va, ow, 0, 0, 0⟩ : ItV))) with lv := .slice A4 ps.length c4 })), chRow 137 2 (.slice A4 ps.length c4) ps.length (pairCells ps)] w' := by
  obtain ⟨hc0, hnow, hla, hc3, hc4⟩ := fitV_ok hf
  have hff := Lib.hid hf
  obtain ⟨S, hS⟩ : ∃ S, S = (chLed g jv lv h li la n cs).fp := ⟨_, rfl⟩
  have hlt := (chRd 1 v ((1 : UInt8) :: (uvar now ++ (0 :: putE o sq tm ru ps st pr va ow))).length (u8L ((1 : UInt8) :: (uvar now ++ (0 :: putE o sq tm ru ps st pr va ow)))) (by decide)).inn w hr
  have U0 := (Upd.one _ w hP).mono (S' := S ++ rdFp v ((1 : UInt8) :: (uvar now ++ (0 :: putE o sq tm ru ps st pr va ow))).length) (fun b hb => List.mem_append_left _ (hS ▸ hb))
  rw [← hS] at hd ⊢
  obtain ⟨T, hT⟩ : ∃ T, T = rdFp v ((1 : UInt8) :: (uvar now ++ (0 :: putE o sq tm ru ps st pr va ow))).length := ⟨_, rfl⟩
  have hlt' : ∀ q ∈ T, q < w.heap.size := fun q hq => hlt q (show q ∈ rdFp v ((1 : UInt8) :: (uvar now ++ (0 :: putE o sq tm ru ps st pr va ow))).length by rw [← hT]; exact hq)
  rw [← hT] at U0 hd
  have HR := Lib.hid hr
  have HT := Lib.hid hT
  have HD := Lib.hid hd
  have HS := Lib.hid hS
  have HLT := Lib.hid hlt'
  obtain ⟨Av, nv, cv, rfl⟩ : ∃ A n c, v = .slice A n c := by obtain ⟨A, c, e, _⟩ := hr; exact ⟨A, _, c, e⟩
  clear hS hP hlt hlt' hr hd hT
  go_enter Tryz.func45, Tryz.ntmps45
  go_wp2_with fail
  (with_reducible refine (rdRead _ _ _ _).mono ?_)
  rintro e w1 ⟨gr, rfl, h1⟩
  have hb1 := h1.below
  have hgr : w.heap.size ≤ gr := (h1.own _ (.head _) gr (chBlk_fp.2 rfl)).resolve_left (fun h => nomatch h)
  have U1 := (U0.call h1).rdrNew (bs := (1 : UInt8) :: (uvar now ++ (0 :: putE o sq tm ru ps st pr va ow))) (ob := fun q => w.heap[q]?) (HR.out.below hb1) (fun q hq => by rw [HT.out]; exact hq) (fun hm => by have := HLT.out gr hm; omega) (fun d hdm b hbT hbd => by
    rw [List.mem_singleton.1 hdm] at hbd
    exact HD.out b hbT (HS.out ▸ hbd)) (fun q hq => ⟨Nat.lt_of_lt_of_le (HLT.out q hq) hb1.size, hb1.block q (HLT.out q hq)⟩)
  clear h1 hb1 hgr U0
  have K : Calls Tryz.prog 74 #[.pointer (some ⟨gr, 0, none⟩)] w1 fun e w' => e = .returned (.int .u8 1) ∧ ∃ v', Upd (chRdr T (fun q => w.heap[q]?) gr (.slice Av nv cv) (1 :: (uvar now ++ (0 :: putE o sq tm ru ps st pr va ow)))).fp w1 [chRdr T (fun q => w.heap[q]?) gr v' (uvar now ++ (0 :: putE o sq tm ru ps st pr va ow))] w' := rByte gr _ 1 _ w1 (U1.get 0 rfl)
  go_wp2_with fail
  (with_reducible refine K.mono ?_)
  rintro e w2 ⟨rfl, v2, h2⟩
  have U2 := U1.turn 0 rfl h2
  simp only [List.eraseIdx_cons_zero, List.cons_append, List.nil_append] at U2
  clear K h2 U1
  have K := rCountM gr v2 now (0 :: putE o sq tm ru ps st pr va ow) w2 (U2.get 0 rfl) hnow
  go_wp2_with fail
  (with_reducible refine K.mono ?_)
  rintro e w3 ⟨rfl, v3, h3⟩
  have U3 := U2.turn 0 rfl h3
  simp only [List.eraseIdx_cons_zero, List.cons_append, List.nil_append] at U3
  clear K h3 U2
  have hP3 := U3.get 0 rfl
  have K : Calls Tryz.prog 77 #[.pointer (some ⟨gr, 0, none⟩)] w3 fun e w' => ∃ A1 c1 v', e = .returned (.agg #[.bool false, .int .u8 o, .int .u64 sq, .int .u64 tm, .string ru, .slice A1 ps.length c1, .int .u8 st, .int .u8 pr, .int .i64 va, .int .u8 ow, .int .u8 0, .int .u64 0, .int .u64 0]) ∧ Upd (chRdr T (fun q => w.heap[q]?) gr v3 (0 :: putE o sq tm ru ps st pr va ow)).fp w3 [chRdr T (fun q => w.heap[q]?) gr v' [], chRow 137 2 (.slice A1 ps.length c1) ps.length (pairCells ps)] w' := by
    have := takeItE (T := T) (ob := fun q => w.heap[q]?) gr v3 o sq tm ru ps st pr va ow [] w3 (by rw [List.append_nil]; exact hP3) hva hst hc0
    rw [List.append_nil] at this
    exact this
  go_wp2_with fail
  (with_reducible refine K.mono ?_)
  rintro e w4 ⟨A1, c1, v4, rfl, h4⟩
  have U4 := U3.turn 0 rfl h4
  simp only [List.eraseIdx_cons_zero, List.cons_append, List.nil_append] at U4
  clear K h4 U3 hP3
  go_wp2_with fail
  refine calls_genP fun w5 hw5 => ?_
  have U5 := (U4.alloc #[.bool false, .int .u8 o, .int .u64 sq, .int .u64 tm, .string ru, .slice A1 ps.length c1, .int .u8 st, .int .u8 pr, .int .i64 va, .int .u8 ow, .int .u8 0, .int .u64 0, .int .u64 0] 36).same hw5
  clear hw5 U4
  (with_reducible refine (rDone gr _ w5 (U5.get 1 rfl)).mono ?_)
  rintro e w6 ⟨rfl, rfl⟩
  have y0 := (U5.blk 0 rfl).cell (j := 0) (v := .bool false) rfl
  have y1 := (U5.blk 0 rfl).cell (j := 1) (v := .int .u8 o) rfl
  have y2 := (U5.blk 0 rfl).cell (j := 2) (v := .int .u64 sq) rfl
  have y3 := (U5.blk 0 rfl).cell (j := 3) (v := .int .u64 tm) rfl
  have y4 := (U5.blk 0 rfl).cell (j := 4) (v := .string ru) rfl
  have y5 := (U5.blk 0 rfl).cell (j := 5) (v := .slice A1 ps.length c1) rfl
  have y6 := (U5.blk 0 rfl).cell (j := 6) (v := .int .u8 st) rfl
  have y7 := (U5.blk 0 rfl).cell (j := 7) (v := .int .u8 pr) rfl
  have y8 := (U5.blk 0 rfl).cell (j := 8) (v := .int .i64 va) rfl
  have y9 := (U5.blk 0 rfl).cell (j := 9) (v := .int .u8 ow) rfl
  have y10 := (U5.blk 0 rfl).cell (j := 10) (v := .int .u8 0) rfl
  have y11 := (U5.blk 0 rfl).cell (j := 11) (v := .int .u64 0) rfl
  have y12 := (U5.blk 0 rfl).cell (j := 12) (v := .int .u64 0) rfl
  have hzz : o < 256 ∧ sq < 18446744073709551616 ∧ tm < 18446744073709551616 ∧ pr < 256 ∧ ow < 256 ∧ ru.size ≤ 12 ∧ ps.length ≤ 8 ∧ ∀ p ∈ ps, p.1.size ≤ 8 ∧ p.2.size ≤ 16 := by
    have hc : chkE o sq tm ru ps st pr ow = 0 := hc0
    have hz := chkE_zero hc
    unfold chkE at hc
    split at hc
    · cases hc
    split at hc
    · cases hc
    split at hc
    · cases hc
    exact ⟨by omega, by omega, by omega, by omega, by omega, hz.1, hz.2.1, hz.2.2⟩
  have ha : (⟨false, o, sq, tm, ru, .slice A1 ps.length c1, ps, st, pr, va, ow, 0, 0, 0⟩ : ItV).ok w6 := ⟨hzz.1, hzz.2.1, hzz.2.2.1, show ru.size ≤ maxLen by unfold maxLen; omega, rd_of_owns (U5.row 2 rfl), (fun p hp => by have := hzz.2.2.2.2.2.2.2 p hp; unfold maxLen; omega), hst, hzz.2.2.2.1, hva, hzz.2.2.2.2.1, by simp, by simp, by simp⟩
  have hdd : ∀ x ∈ rdFp (⟨false, o, sq, tm, ru, .slice A1 ps.length c1, ps, st, pr, va, ow, 0, 0, 0⟩ : ItV).lv (⟨false, o, sq, tm, ru, .slice A1 ps.length c1, ps, st, pr, va, ow, 0, 0, 0⟩ : ItV).ps.length, x ∉ (chLed g jv lv h li la n cs).fp := fun x hx => U5.apartAt 2 3 (by decide) rfl rfl x (chRow_fp.2 (by
    unfold rdFp at hx
    split at hx
    · cases hx
    · simpa using hx))
  have KE := ledEnter g jv lv h li la n now cs (⟨false, o, sq, tm, ru, .slice A1 ps.length c1, ps, st, pr, va, ow, 0, 0, 0⟩ : ItV) w6 (U5.get 3 rfl) ha hdd hff.out hh hn (show ps.length ≤ _ by omega)
  obtain ⟨hs, hhs⟩ : ∃ hs, hs = h (spanO (⟨false, o, sq, tm, ru, .slice A1 ps.length c1, ps, st, pr, va, ow, 0, 0, 0⟩ : ItV)) := ⟨_, rfl⟩
  obtain ⟨gf2, hgf2⟩ : ∃ g2, g2 = (trimA (⟨false, o, sq, tm, ru, .slice A1 ps.length c1, ps, st, pr, va, ow, 0, 0, 0⟩ : ItV) hs).gf := ⟨_, rfl⟩
  have KE2 : Calls Tryz.prog 43 #[.pointer (some ⟨g, 0, none⟩), .int .u64 now, .agg #[.bool false, .int .u8 o, .int .u64 sq, .int .u64 tm, .string ru, .slice A1 ps.length c1, .int .u8 st, .int .u8 pr, .int .i64 va, .int .u8 ow, .int .u8 0, .int .u64 0, .int .u64 0]] w6 fun e w' => ∃ lv' A4 c4, e = .returned (.tuple #[.agg #[.bool false, .int .u8 o, .int .u64 sq, .int .u64 tm, .string ru, .slice A1 ps.length c1, .int .u8 st, .int .u8 pr, .int .i64 va, .int .u8 ow, .int .u8 0, .int .u64 gf2, .int .u64 0], .int .i64 0]) ∧
      Upd (chLed g jv lv h li la n cs).fp w6 [chLed g jv lv' (fun p => if p = spanO (⟨false, o, sq, tm, ru, .slice none 0 0, ps, st, pr, va, ow, 0, 0, 0⟩ : ItV) then spanT (⟨false, o, sq, tm, ru, .slice none 0 0, ps, st, pr, va, ow, 0, 0, 0⟩ : ItV) else h p) li now (n + 1) (cs ++ en14 (now, { trimA (⟨false, o, sq, tm, ru, .slice none 0 0, ps, st, pr, va, ow, 0, 0, 0⟩ : ItV) (h (spanO (⟨false, o, sq, tm, ru, .slice none 0 0, ps, st, pr, va, ow, 0, 0, 0⟩ : ItV))) with lv := .slice A4 ps.length c4 })), chRow 137 2 (.slice A4 ps.length c4) ps.length (pairCells ps)] w' := by
    rw [hgf2, hhs]
    exact KE
  clear KE ha hdd hgf2 hhs
  go_wp2_with fail
  (with_reducible refine KE2.mono ?_)
  rintro e w7 ⟨lv', A4, c4, rfl, h7⟩
  have U7 := (U5.turn 3 rfl h7).pick [3, 0, 1] (by decide)
  simp only [List.eraseIdx_cons_succ, List.cons_append, List.nil_append] at U7
  simp only [List.filterMap_cons, List.filterMap_nil, List.getElem?_cons_zero, List.getElem?_cons_succ] at U7
  have HU := Lib.hid (U7.unwrite (fun b hb => .tail _ hb) (fun b hb => ((U7.get 0 rfl).2.2.2.2 b hb).2))
  clear KE2 h7 U5 U7 y0 y1 y2 y3 y4 y5 y6 y7 y8 y9 y10 y11 y12
  go_wp2_with fail
  go_ret
  exact ⟨rfl, lv', A4, c4, HU.out.grow ((Below.refl _ _).alloc (Nat.le_refl _) _)⟩
end Go.Proofs.YtdmdfccadjfpiaaGreat
namespace Go.Proofs.YtdmdfccadjfpiaaGreat
open Go.RowKit FreeNew
set_option maxRecDepth 100000

/-- Open of a file that is records all through. -/
theorem jOpenWhole (d m b : Nat) (s : ByteArray) (v : Value) (rs : List (List UInt8)) (k0 : Nat) (w : World) (hP : (chDT d m b [⟨s, v, layAll rs, k0⟩]).P w) (hrs : ∀ r ∈ rs, r.length ≤ 524288) :
    Calls Tryz.prog 44 #[.pointer (some ⟨d, 0, none⟩), .pointer (some ⟨b, 0, none⟩), .string s] w fun e w' => ∃ j A c ps, e = .returned (.tuple #[.pointer (some ⟨j, 0, none⟩), .slice A ps.length c, .int .i64 0]) ∧ ps.map (·.2) = rs ∧ w'.ownsRow w.heap.size 58 1 (.slice A ps.length c) ps.length (ps.map (·.1)) ∧ OwnAll w' w.heap.size ps ∧
      Upd (chDT d m b [⟨s, v, layAll rs, k0⟩]).fp w [chJour j d m b s (lenR rs) [⟨s, v, layAll rs, k0⟩]] w' := by
  have hsc : scanL (layAll rs) = rs := by
    have := scanL_all rs [] hrs
    rw [List.append_nil, scanL_nil, List.append_nil] at this
    exact this
  have hR := diskReadSome d m _ s ⟨s, v, layAll rs, k0⟩ w hP.2.1 (by simp [findF])
  have hfl := (hP.2.1.good _ (.head _)).2.2
  have HP := Lib.hid hP
  obtain ⟨S, hS⟩ : ∃ S, S = (chDT d m b [⟨s, v, layAll rs, k0⟩]).fp := ⟨_, rfl⟩
  have HS := Lib.hid hS
  rw [← hS]
  have hln : (layAll rs).length = lenR rs := layAll_len rs
  have HLN := Lib.hid hln
  have d0 : decide ((lenR rs : Int) < (lenR rs : Int)) = false := by simp
  clear hP hS hln
  go_enter Tryz.func44, Tryz.ntmps44
  go_wp2_with fail
  (with_reducible refine hR.mono ?_)
  rintro e w1 ⟨v1, rfl, hv1, hb1⟩
  have hT1 := HP.out.1.below hb1
  have hD1 := HP.out.2.1.below hb1
  have hS := jScan b _ _ w1 hT1 (rd_of_owns hv1) (by omega)
  rw [hsc] at hS
  rw [HLN.out] at hv1
  obtain ⟨A1, c1, rfl⟩ := owns_slice hv1
  have hB1 := But.of_below (b := b) hb1
  have hsz1 := hb1.size
  clear hR hv1 hb1 hfl
  go_wp2_with fail
  (with_reducible refine hS.mono ?_)
  rintro e w2 ⟨v2, ps, rfl, hps, hv2, hall2, hT2, hB2⟩
  have hD2 := hD1.but hT1 hB2
  have hB := hB1.trans hB2
  have hv2 := owns_mono hv2 hsz1
  have hall2 : OwnAll w2 w.heap.size ps := fun p hp => owns_mono (hall2 p hp) hsz1
  obtain ⟨A, c, rfl⟩ := owns_slice hv2
  have HPS := Lib.hid hps
  clear hS hps hD1 hT1 hB1 hB2
  go_wp2_with fail
  refine bodyPost_gen fun w3 hw3 => ?_
  have hBj : Blk w3 w2.heap.size #[.pointer (some ⟨d, 0, none⟩), .pointer (some ⟨b, 0, none⟩), .string s, .int .i64 (lenR rs : Nat)] 147 := by rw [hw3]; exact Blk.new _ _ _
  have hb3 : Below w2.heap.size w2 w3 := by rw [hw3]; exact (Below.refl _ _).alloc (Nat.le_refl _) _
  have hB3 := hB.trans (But.of_below hb3)
  have hsz := hB.size
  clear hw3
  go_ret3
  refine ⟨_, A, c, ps, rfl, HPS.out, owns_below hv2 hb3, (fun p hp => owns_below (hall2 p hp) hb3), hB3.os, hB3.tape, hB3.output, hB3.size, fun x hx hne => hB3.block x hx fun e => hne (by rw [HS.out, e]; exact .head _), fun q hq => by rw [List.mem_singleton.1 hq]; exact ⟨hBj, hT2.below hb3, hD2.below hb3, HP.out.2.2⟩, fun q hq x hx => ?_, by simp⟩
  rw [List.mem_singleton.1 hq] at hx
  rcases List.mem_cons.1 hx with rfl | hx
  · exact .inr hsz
  · exact .inl (by rw [HS.out]; exact hx)
/-- What a ledger writes: that a life begins; an entry. -/
inductive Ln where
  | life (m : Nat)
  | ent (x : Nat × ItV)
def lnB : Ln → List UInt8
  | .life m => (2 : UInt8) :: uvar m
  | .ent x => recL x.1 x.2
structure LSt where
  h : Nat → Nat
  es : List (Nat × ItV)
  li : Nat
  la : Nat
def strip (x : Nat × ItV) : Nat × ItV := (x.1, { x.2 with lv := .slice none 0 0 })
def stepS (s : LSt) : Ln → LSt
  | .life m => ⟨s.h, s.es, m, s.la⟩
  | .ent x => ⟨fun p => if p = spanO x.2 then spanT x.2 else s.h p, s.es ++ [strip x], s.li, x.1⟩
/-- An item as it comes back: of a gap no event is kept, of an event no gap. -/
def normI (a : ItV) : Prop := if a.gap then a.o = 0 ∧ a.sq = 0 ∧ a.tm = 0 ∧ a.ru = ⟨#[]⟩ ∧ a.ps = [] ∧ a.st = 0 ∧ a.pr = 0 ∧ a.va = 0 ∧ a.ow = 0 else a.go = 0 ∧ a.gf = 0 ∧ a.gt = 0
def okS (s : LSt) : Ln → Prop
  | .life m => m ≤ 1099511627776
  | .ent x => fitV s.h s.la x.1 x.2 = 0 ∧ s.h (spanO x.2) < spanF x.2 ∧ normI x.2 ∧ (-9223372036854775808 ≤ x.2.va ∧ x.2.va ≤ 9223372036854775807) ∧ x.2.st < 256
def goodS : LSt → List Ln → Prop
  | _, [] => True
  | s, r :: rs => okS s r ∧ goodS (stepS s r) rs
def runS (s : LSt) (rs : List Ln) : LSt := rs.foldl stepS s
/-- A ledger's block, row and labels. -/
abbrev chE (g : Nat) (jv lv : Value) (s : LSt) (es : List (Nat × ItV)) : Chunk := chTwo (chLed g jv lv s.h s.li s.la es.length (es.flatMap en14)) (chAll (es.map labRow))
theorem repLn (g : Nat) (jv lv : Value) (s : LSt) (es : List (Nat × ItV)) (r : Ln) (v : Value) (w : World) (hes : es.map strip = s.es) (hn : es.length ≤ 1000000) (ho : okS s r) (hP : (chE g jv lv s es).P w) (hr : Rd w 1 v (lnB r).length (u8L (lnB r))) (hd : ∀ q ∈ rdFp v (lnB r).length, q ∉ (chE g jv lv s es).fp) :
    Calls Tryz.prog 45 #[.pointer (some ⟨g, 0, none⟩), v] w fun e w' => e = .returned (.int .i64 0) ∧ ∃ lv' es', es'.map strip = (stepS s r).es ∧ es'.length ≤ es.length + 1 ∧ Upd (chE g jv lv s es).fp w [chE g jv lv' (stepS s r) es'] w' := by
  have U0 := two_open hP
  have hdl : ∀ q ∈ rdFp v (lnB r).length, q ∉ (chLed g jv lv s.h s.li s.la es.length (es.flatMap en14)).fp := fun q hq hm => hd q hq (List.mem_append_left _ hm)
  cases r with
  | life m =>
    refine (repLife g jv lv s.h s.li s.la es.length m (es.flatMap en14) v w hP.1 hr hdl ho).mono ?_
    rintro e w' ⟨rfl, hU⟩
    exact ⟨rfl, lv, es, hes, by omega, (U0.turn 0 rfl hU).two⟩
  | ent x =>
    obtain ⟨now, a⟩ := x
    obtain ⟨hf, hlt, hnm, hva, hst⟩ := ho
    simp only at hf hlt hnm hva hst
    obtain ⟨h0, h1, h2, h3, h4⟩ := fitV_ok hf
    have hz := chkIt_zero h0
    have hh : s.h (spanO a) < 18446744073709551615 := by omega
    obtain ⟨gap, o, sq, tm, ru, lv0, ps, st, pr, va, ow, go, gf, gt⟩ := a
    unfold normI at hnm
    cases gap
    · simp only [Bool.false_eq_true, if_false] at hnm
      obtain ⟨rfl, rfl, rfl⟩ := hnm
      have hb : lnB (.ent (now, (⟨false, o, sq, tm, ru, lv0, ps, st, pr, va, ow, 0, 0, 0⟩ : ItV))) = (1 : UInt8) :: (uvar now ++ (0 :: putE o sq tm ru ps st pr va ow)) := rfl
      rw [hb] at hr hdl
      refine (repEv g jv lv s.h s.li s.la es.length now (es.flatMap en14) o sq tm ru ps st pr va ow v w hP.1 hr hdl hva hst hf hh hn).mono ?_
      rintro e w' ⟨rfl, lv', A4, c4, hU⟩
      have htr : ∀ A : ItV, A = trimA (⟨false, o, sq, tm, ru, .slice none 0 0, ps, st, pr, va, ow, 0, 0, 0⟩ : ItV) (s.h (spanO (⟨false, o, sq, tm, ru, .slice none 0 0, ps, st, pr, va, ow, 0, 0, 0⟩ : ItV))) → A = ⟨false, o, sq, tm, ru, .slice none 0 0, ps, st, pr, va, ow, 0, 0, 0⟩ := fun A hA => by
        rw [hA]
        show ({ (⟨false, o, sq, tm, ru, .slice none 0 0, ps, st, pr, va, ow, 0, 0, 0⟩ : ItV) with gf := if s.h o < sq then 0 else s.h o + 1 } : ItV) = _
        rw [if_pos (show s.h o < sq from hlt)]
      refine ⟨rfl, lv', es ++ [(now, ⟨false, o, sq, tm, ru, .slice A4 ps.length c4, ps, st, pr, va, ow, 0, 0, 0⟩)], by rw [List.map_append, hes]; rfl, by simp, ?_⟩
      have hV := (U0.turn 0 rfl hU).pick [1, 2, 0] (by decide)
      simp only [List.eraseIdx_cons_zero, List.cons_append, List.nil_append, List.filterMap_cons, List.filterMap_nil, List.getElem?_cons_zero, List.getElem?_cons_succ] at hV
      have hW := (hV.intoAll.pick [1, 0] (by decide)).two
      rw [htr _ rfl] at hW
      have e3 : (es ++ [(now, (⟨false, o, sq, tm, ru, .slice A4 ps.length c4, ps, st, pr, va, ow, 0, 0, 0⟩ : ItV))]).length = es.length + 1 := by simp
      unfold chE
      rw [e3, List.flatMap_append, List.map_append]
      exact hW
    · simp only [if_true] at hnm
      obtain ⟨rfl, rfl, rfl, rfl, rfl, rfl, rfl, rfl, rfl⟩ := hnm
      have hb : lnB (.ent (now, (⟨true, 0, 0, 0, ⟨#[]⟩, lv0, [], 0, 0, 0, 0, go, gf, gt⟩ : ItV))) = (1 : UInt8) :: (uvar now ++ (1 :: putG go gf gt)) := rfl
      rw [hb] at hr hdl
      refine (repGap g jv lv s.h s.li s.la es.length now (es.flatMap en14) go gf gt v w hP.1 hr hdl hf hh hn).mono ?_
      rintro e w' ⟨rfl, lv', A4, c4, hU⟩
      have htr : ∀ A : ItV, A = trimA (⟨true, 0, 0, 0, ⟨#[]⟩, .slice none 0 0, [], 0, 0, 0, 0, go, gf, gt⟩ : ItV) (s.h (spanO (⟨true, 0, 0, 0, ⟨#[]⟩, .slice none 0 0, [], 0, 0, 0, 0, go, gf, gt⟩ : ItV))) → A = ⟨true, 0, 0, 0, ⟨#[]⟩, .slice none 0 0, [], 0, 0, 0, 0, go, gf, gt⟩ := fun A hA => by
        rw [hA]
        show ({ (⟨true, 0, 0, 0, ⟨#[]⟩, .slice none 0 0, [], 0, 0, 0, 0, go, gf, gt⟩ : ItV) with gf := if s.h go < gf then gf else s.h go + 1 } : ItV) = _
        rw [if_pos (show s.h go < gf from hlt)]
      refine ⟨rfl, lv', es ++ [(now, ⟨true, 0, 0, 0, ⟨#[]⟩, .slice A4 0 c4, [], 0, 0, 0, 0, go, gf, gt⟩)], by rw [List.map_append, hes]; rfl, by simp, ?_⟩
      have hV := (U0.turn 0 rfl hU).pick [1, 2, 0] (by decide)
      simp only [List.eraseIdx_cons_zero, List.cons_append, List.nil_append, List.filterMap_cons, List.filterMap_nil, List.getElem?_cons_zero, List.getElem?_cons_succ] at hV
      have hW := (hV.intoAll.pick [1, 0] (by decide)).two
      rw [htr _ rfl] at hW
      have e3 : (es ++ [(now, (⟨true, 0, 0, 0, ⟨#[]⟩, .slice A4 0 c4, [], 0, 0, 0, 0, go, gf, gt⟩ : ItV))]).length = es.length + 1 := by simp
      unfold chE
      rw [e3, List.flatMap_append, List.map_append]
      exact hW
end Go.Proofs.YtdmdfccadjfpiaaGreat
namespace Go.Proofs.YtdmdfccadjfpiaaGreat
open Go.RowKit
set_option maxRecDepth 100000

def s0L : LSt := ⟨fun _ => 0, [], 0, 0⟩
theorem runS_snoc (s : LSt) (rs : List Ln) (r : Ln) : runS s (rs ++ [r]) = stepS (runS s rs) r := by simp [runS]
theorem take_snocL {α : Type} {l : List α} {k : Nat} {a : α} (h : l[k]? = some a) : l.take (k + 1) = l.take k ++ [a] := by
  obtain ⟨hk, rfl⟩ := List.getElem?_eq_some_iff.1 h
  rw [List.take_succ_eq_append_getElem hk]
theorem drop_consL {α : Type} {l : List α} {k : Nat} {a : α} (h : l[k]? = some a) : l.drop k = a :: l.drop (k + 1) := by
  obtain ⟨hk, rfl⟩ := List.getElem?_eq_some_iff.1 h
  rw [List.drop_eq_getElem_cons hk]
theorem layL_lenL (l : List UInt8) : (layL l).length = l.length + 8 := by simp [layL, four]
theorem lenR_leL (rs : List (List UInt8)) (B : Nat) (h : ∀ r ∈ rs, r.length ≤ B) : lenR rs ≤ (B + 8) * rs.length := by
  induction rs with
  | nil => simp [lenR]
  | cons r t ih =>
    have h1 := ih fun x hx => h x (.tail _ hx)
    have h2 := h r (.head _)
    have e : lenR (r :: t) = lenR [r] + lenR t := lenR_append [r] t
    have e1 : lenR [r] = 8 + r.length := by rw [← layAll_len]; simp only [layAll, List.flatMap_cons, List.flatMap_nil, List.append_nil, layL_lenL]; omega
    rw [e, e1, List.length_cons, Nat.mul_succ]
    omega
set_option maxHeartbeats 4000000 in
theorem lOpenRec (d m b : Nat) (v : Value) (rs : List Ln) (k0 : Nat) (w : World) (hP : (chDT d m b [⟨nmL, v, layAll (rs.map lnB), k0⟩]).P w) (hg : goodS s0L rs) (hsz : ∀ r ∈ rs, (lnB r).length ≤ 1000) (hn : rs.length ≤ 1000) (hli : (runS s0L rs).li ≤ 1000) :
    Calls Tryz.prog 15 #[.pointer (some ⟨d, 0, none⟩), .pointer (some ⟨b, 0, none⟩)] w fun e w' => ∃ g j lv es fs' k, e = .returned (.tuple #[.pointer (some ⟨g, 0, none⟩), .int .i64 0]) ∧ es.map strip = (runS s0L rs).es ∧ es.length ≤ rs.length ∧
      hasJ fs' nmL (layAll ((rs ++ [Ln.life ((runS s0L rs).li + 1)]).map lnB)) (layAll ((rs ++ [Ln.life ((runS s0L rs).li + 1)]).map lnB)).length ∧ k ≤ 2000000 ∧
      Upd (chDT d m b [⟨nmL, v, layAll (rs.map lnB), k0⟩]).fp w [chL g j d m b lv (runS s0L rs).h ((runS s0L rs).li + 1) (runS s0L rs).la es k fs'] w' := by
  have hlr : lenR (rs.map lnB) ≤ 1008000 := by
    have h := lenR_leL (rs.map lnB) 1000 (fun r hr => by obtain ⟨x, hx, rfl⟩ := List.mem_map.1 hr; exact hsz x hx)
    rw [List.length_map] at h
    have : 1008 * rs.length ≤ 1008 * 1000 := Nat.mul_le_mul_left _ hn
    omega
  have hJ : Calls Tryz.prog 44 #[.pointer (some ⟨d, 0, none⟩), .pointer (some ⟨b, 0, none⟩), .string ⟨#[108, 101, 100, 103, 101, 114]⟩] w _ := jOpenWhole d m b nmL v (rs.map lnB) k0 w hP (fun r hr => by obtain ⟨x, hx, rfl⟩ := List.mem_map.1 hr; have := hsz x hx; omega)
  have hfs : hasJ [⟨nmL, v, layAll (rs.map lnB), k0⟩] nmL (layAll (rs.map lnB)) k0 := .inr ⟨v, rfl⟩
  obtain ⟨fs, hfs0⟩ : ∃ fs : List FileV, fs = [⟨nmL, v, layAll (rs.map lnB), k0⟩] := ⟨_, rfl⟩
  rw [← hfs0] at hJ hP hfs ⊢
  clear hfs0
  obtain ⟨S, hS⟩ : ∃ S, S = (chDT d m b fs).fp := ⟨_, rfl⟩
  have U0 := Upd.one _ w hP
  rw [← hS] at U0 ⊢
  clear hS hP
  obtain ⟨N, hN⟩ : ∃ N, N = rs.length := ⟨_, rfl⟩
  have HN := Lib.hid hN
  have HG := Lib.hid hg
  have HU0 := Lib.hid U0
  rw [← hN] at hn ⊢
  clear hN hg hsz U0
  go_enter Tryz.func15, Tryz.ntmps15
  go_wp2_with fail
  (with_reducible refine hJ.mono ?_)
  rintro e w1 ⟨j, A, c, ps, rfl, hps, hrow, hall, h1⟩
  have U1 := HU0.out.turn 0 rfl h1
  simp only [List.eraseIdx_cons_zero, List.append_nil] at U1
  have hpl : ps.length = N := by rw [HN.out, ← List.length_map (f := lnB), ← hps, List.length_map]
  rw [hpl] at hrow
  have hrdS := rd_of_owns hrow
  have hltS := (chRd 1 (.slice A N c) N (ps.map fun p : Value × List UInt8 => p.1) (by decide)).inn w1 hrdS
  have HPS := Lib.hid hps
  have HALL := Lib.hid hall
  clear h1 hJ HU0 hps hall
  go_wp2_with fail
  refine wp_gen fun w2 hw2 => ?_
  obtain ⟨cs, hcs, hw⟩ : ∃ cs, cs = ledA (.pointer (some ⟨j, 0, none⟩)) (.slice none 0 0) (fun _ => 0) 0 0 ∧ w2 = w1.alloc (.cells cs 93) := ⟨_, (ledA_new _).symm, hw2⟩
  subst hcs
  have hb2 : Below w1.heap.size w1 w2 := by rw [hw]; exact (Below.refl _ _).alloc (Nat.le_refl _) _
  obtain ⟨g, hgg⟩ : ∃ g, g = w1.heap.size := ⟨_, rfl⟩
  have U2 := ((((U1.alloc (ledA (.pointer (some ⟨j, 0, none⟩)) (.slice none 0 0) (fun _ => 0) 0 0) 93).same hw).nilRow 41 14).allNil).pick [2, 1, 0, 3] (by decide)
  simp only [List.filterMap_cons, List.filterMap_nil, List.getElem?_cons_zero, List.getElem?_cons_succ] at U2
  rw [← hgg] at U2 ⊢
  have U3 : Upd S w [chE g (.pointer (some ⟨j, 0, none⟩)) (.slice none 0 0) s0L [], chJour j d m b nmL (lenR (rs.map lnB)) fs] w2 := U2.two.two
  have hrd2 := hrdS.below hb2
  have UL := Upd.one _ w2 (U3.get 0 rfl)
  obtain ⟨TT, hTT⟩ : ∃ TT, TT = (chE g (.pointer (some ⟨j, 0, none⟩)) (.slice none 0 0) s0L []).fp := ⟨_, rfl⟩
  have hTg : ∀ q ∈ TT, q = g := fun q hq => by rw [hTT] at hq; simpa [chE, chLed, chTwo, chBlk, chRow, chAll, Value.ownBlock] using hq
  rw [← hTT] at UL
  have HTT := Lib.hid hTT
  have hS2 : ∀ q ∈ rdFp (.slice A N c) N, q ∉ TT := fun q hq hm => by
    have := hltS q hq
    have := hTg q hm
    omega
  have hrec : ∀ p ∈ ps, Rd w2 1 p.1 p.2.length (u8L p.2) ∧ ∀ q ∈ rdFp p.1 p.2.length, q ∉ TT ∧ q < w2.heap.size := fun p hp => by
    have h1 := rd_of_owns (HALL.out p hp)
    refine ⟨h1.below hb2, fun q hq => ?_⟩
    have h2 := (chRd 1 p.1 p.2.length (u8L p.2) (by decide)).inn w1 h1 q hq
    exact ⟨fun hm => by have := hTg q hm; omega, Nat.lt_of_lt_of_le h2 hb2.size⟩
  have HREC := Lib.hid hrec
  clear hw2 hw U1 U2 hb2 hgg hTT hTg hrdS hltS hrec hrow HALL
  go_loopw [30] (fun i wr => ∃ (k : Nat) (lv : Value) (es : List (Nat × ItV)), k ≤ N ∧ i = .int .i64 k ∧ es.map strip = (runS s0L (rs.take k)).es ∧ es.length ≤ k ∧ goodS (runS s0L (rs.take k)) (rs.drop k) ∧ Upd TT w2 [chE g (.pointer (some ⟨j, 0, none⟩)) lv (runS s0L (rs.take k)) es] wr) (fun i _ => N - (intOf i).toNat)
  case atStart => exact ⟨0, _, [], Nat.zero_le _, rfl, rfl, Nat.le_refl _, HG.out, UL⟩
  case round =>
    obtain ⟨k, lv, es, hk, rfl, hes, hel, hgk, R1⟩ := hrel
    clear UL
    by_cases hkn : k < N
    · obtain ⟨⟨vk, lk⟩, hp⟩ : ∃ p, ps[k]? = some p := ⟨_, List.getElem?_eq_getElem (by omega)⟩
      obtain ⟨r, hr⟩ : ∃ r, rs[k]? = some r := ⟨_, List.getElem?_eq_getElem (by rw [← HN.out]; exact hkn)⟩
      have hlk : lk = lnB r := by
        have h1 : (ps.map (·.2))[k]? = some lk := by rw [List.getElem?_map, hp]; rfl
        rw [HPS.out, List.getElem?_map, hr] at h1
        exact (Option.some.inj h1).symm
      subst hlk
      have hrk := HREC.out _ (List.mem_of_getElem? hp)
      have hrS := R1.rd (by decide) hrd2 hS2
      obtain ⟨A', c', he, _, _, _, h4⟩ := hrS
      injection he with he1 he2 he3
      subst he1 he3
      obtain ⟨q, oo, rfl, hat⟩ := h4 (by omega)
      have x0 : wr.cell? ⟨q, oo + k, none⟩ = some vk := hat k vk (by rw [List.getElem?_map, hp]; rfl)
      rw [drop_consL hr] at hgk
      have K := repLn g (.pointer (some ⟨j, 0, none⟩)) lv (runS s0L (rs.take k)) es r vk wr hes (by omega) hgk.1 (R1.get 0 rfl) (R1.rd (by decide) hrk.1 (fun q hq => (hrk.2 q hq).1)) (fun q hq hm => by
        have h5 := hrk.2 q hq
        rcases R1.own _ (List.mem_cons_self) q hm with h6 | h6
        · exact h5.1 h6
        · omega)
      have HST := Lib.hid (show runS s0L (rs.take (k + 1)) = stepS (runS s0L (rs.take k)) r by rw [take_snocL hr, runS_snoc])
      have HGK := Lib.hid hgk.2
      clear hgk hrk h4 hat hp hr he2
      go_wp2_with fail
      (with_reducible refine K.mono ?_)
      rintro e w3 ⟨rfl, lv', es', h2, h3, h5⟩
      have R2 := R1.turn 0 rfl h5
      simp only [List.eraseIdx_cons_zero, List.append_nil] at R2
      have HR := Lib.hid R2
      have HE := Lib.hid h2
      clear K h5 R1 R2 h2
      go_wp2_with fail
      refine ⟨⟨k + 1, lv', es', by omega, by go_num, ?_, by omega, ?_, ?_⟩, by simp [intOf]; omega⟩
      · rw [HST.out]; exact HE.out
      · rw [HST.out]; exact HGK.out
      · rw [HST.out]; exact HR.out
    · have hkN : k = N := by omega
      have hall2 : rs.take k = rs := List.take_of_length_le (by rw [hkN, HN.out]; exact Nat.le_refl _)
      rw [hall2] at hes R1
      rw [HTT.out] at R1
      have U4 := U3.turn 0 rfl R1
      simp only [List.eraseIdx_cons_zero, List.cons_append, List.nil_append] at U4
      replace U4 := U4.unTwo.unTwo
      clear U3 R1 hgk hrd2 hS2 HREC HTT HPS hall2
      obtain ⟨st, hst⟩ : ∃ st, st = runS s0L rs := ⟨_, rfl⟩
      rw [← hst] at hes U4 hli
      have HSTE := Lib.hid hst
      clear hst
      obtain ⟨L, hL⟩ : ∃ L, L = st.li + 1 := ⟨_, rfl⟩
      have g34 := (U4.blk 0 rfl).cell (ledA_34 (.pointer (some ⟨j, 0, none⟩)) lv st.h st.li st.la)
      have gz := (U4.blk 0 rfl).frozen
      go_wp2_with fail
      refine calls_genP fun w4 hw4 => ?_
      rw [show ((st.li : Int) + 1) = (L : Int) by omega] at hw4
      have U5 := U4.put 0 rfl 34 (.int .u64 (L : Nat))
      rw [ledA_put34] at U5
      have U6 := ((U5.alloc #[.slice none 0 0] 86).same hw4).wrNew
      simp only [List.eraseIdx_cons_zero, World.size_setCell] at U6
      have HL := Lib.hid hL
      have hL9 : L ≤ 1001 := by omega
      clear hw4 U5 U4 g34 gz hL
      (with_reducible refine (wrByte2 _ _ _ w4 (U6.get 0 rfl) (by simp)).mono ?_)
      rintro e w5 ⟨rfl, v5, h5⟩
      have U7 := U6.turn 0 rfl h5
      simp only [List.eraseIdx_cons_zero, List.cons_append, List.nil_append] at U7
      clear h5 U6
      have g34 := (U7.blk 1 rfl).cell (ledA_34 (.pointer (some ⟨j, 0, none⟩)) lv st.h L st.la)
      go_wp2_with fail
      (with_reducible refine (wrUint _ _ _ L w5 (U7.get 0 rfl) (by simp) (by omega)).mono ?_)
      rintro e w6 ⟨rfl, v6, h6⟩
      have U8 := U7.turn 0 rfl h6
      simp only [List.eraseIdx_cons_zero, List.cons_append, List.nil_append] at U8
      clear h6 U7 g34
      have hul := uvar_len64 (n := L) (by omega)
      go_wp2_with fail
      (with_reducible refine (wrBytes _ _ _ w6 (U8.get 0 rfl) (by simp; omega)).mono ?_)
      rintro e w7 ⟨v7, rfl, hrow, hb7⟩
      have U9 := (U8.grow hb7).drop 0
      simp only [List.eraseIdx_cons_zero] at U9
      clear hb7 U8
      have hal : (layAll (rs.map lnB)).length ≤ 1008000 := by rw [layAll_len]; exact hlr
      have hA := jAppendU j d m b (lenR (rs.map lnB)) k0 nmL fs (layAll (rs.map lnB)) v7 (2 :: uvar L) w7 (U9.get 3 rfl) hfs (rd_of_owns hrow) (by rw [List.length_cons]; omega) nmL_word.1 nmL_word.2 (by rw [List.length_cons]; omega) (by omega)
      clear hrow
      go_wp2_with fail
      (with_reducible refine hA.mono ?_)
      rintro e w8 ⟨rfl, fs8, hj8, h8⟩
      have U10 := U9.turn 3 rfl h8
      simp only [List.eraseIdx_cons_succ, List.eraseIdx_cons_zero, List.cons_append, List.nil_append] at U10
      have hS := jSyncU j d m b _ k0 nmL fs8 _ w8 (U10.get 0 rfl) hj8
      clear hA hj8 h8 U9
      go_wp2_with fail
      (with_reducible refine hS.mono ?_)
      rintro e w9 ⟨rfl, fs9, hj9, h9⟩
      have U11 := ((U10.turn 0 rfl h9).pick [1, 2, 3, 0] (by decide))
      simp only [List.eraseIdx_cons_zero, List.cons_append, List.nil_append, List.filterMap_cons, List.filterMap_nil, List.getElem?_cons_zero, List.getElem?_cons_succ] at U11
      have HU := Lib.hid U11.two.two.two
      have ea : layAll ((rs ++ [Ln.life L]).map lnB) = layAll (rs.map lnB) ++ layL (2 :: uvar L) := by
        rw [List.map_append, layAll_append]
        simp [layAll, lnB]
      have HJ := Lib.hid (show hasJ fs9 nmL (layAll ((rs ++ [Ln.life L]).map lnB)) (layAll ((rs ++ [Ln.life L]).map lnB)).length by rw [ea]; exact hj9)
      have HES := Lib.hid hes
      clear hS hj9 h9 U10 U11 ea hes
      go_wp2_with fail
      go_ret2
      rw [← HSTE.out, ← HL.out]
      exact ⟨g, j, lv, es, fs9, _, rfl, HES.out, by omega, HJ.out, by rw [List.length_cons]; omega, HU.out⟩
end Go.Proofs.YtdmdfccadjfpiaaGreat
namespace Go.Proofs.YtdmdfccadjfpiaaGreat
open Go.RowKit
set_option maxRecDepth 100000
attribute [local go_sem] FreeTw.out

set_option maxHeartbeats 2000000 in
theorem refSamePs (A1 A2 : Option Addr) (n c1 c2 : Nat) (ps : List Pr) (w : World) (hn : n = ps.length) (h1 : Rd w 2 (.slice A1 n c1) n (pairCells ps)) (h2 : Rd w 2 (.slice A2 n c2) n (pairCells ps)) (hp : ∀ p ∈ ps, p.1.size ≤ maxLen ∧ p.2.size ≤ maxLen) :
    Calls Tryz.prog 61 #[.slice A1 n c1, .slice A2 n c2] w fun e w' => e = .returned (.bool true) ∧ Below w.heap.size w w' := by
  obtain ⟨A, c, he, _, h12, h13, h14⟩ := h1
  injection he with e1 e2 e3
  subst e1 e3
  obtain ⟨A, c, he, _, h22, h23, h24⟩ := h2
  injection he with e1 e2 e3
  subst e1 e3
  unfold maxLen at h13 h23
  have HN := Lib.hid hn
  have HP := Lib.hid hp
  clear hn hp
  go_enter Tryz.func61, Tryz.ntmps61
  go_wp2_with fail
  go_loopw [5] (fun i wr => ∃ k : Nat, k ≤ n ∧ i = .int .i64 k ∧ Below w.heap.size w wr) (fun i _ => n - (intOf i).toNat)
  case atStart => exact ⟨0, Nat.zero_le _, rfl, Below.refl _ _⟩
  case round =>
    obtain ⟨k, hk, rfl, hb⟩ := hrel
    by_cases hkn : k < n
    · obtain ⟨⟨p1, p2⟩, hp⟩ : ∃ p, ps[k]? = some p := ⟨_, List.getElem?_eq_getElem (by rw [← HN.out]; exact hkn)⟩
      have hpa := pairCells_at ps k _ hp
      simp only at hpa
      obtain ⟨b1, o1, rfl, hat1⟩ := h14 (by omega)
      obtain ⟨b2, o2, rfl, hat2⟩ := h24 (by omega)
      have F : ∀ w', Below wr.heap.size wr w' → w'.cell? ⟨b1, o1 + k * 2, none⟩ = some (.string p1) ∧ w'.cell? ⟨b1, o1 + k * 2 + 1, none⟩ = some (.string p2) ∧ w'.cell? ⟨b2, o2 + k * 2, none⟩ = some (.string p1) ∧ w'.cell? ⟨b2, o2 + k * 2 + 1, none⟩ = some (.string p2) := fun w' hw => by
        have hbw := hb.trans (hw.mono hb.size)
        exact ⟨hat1.nth0 hbw (k * 2) _ hpa.1, hat1.nth hbw (k * 2) 1 _ hpa.2, hat2.nth0 hbw (k * 2) _ hpa.1, hat2.nth hbw (k * 2) 1 _ hpa.2⟩
      obtain ⟨x0, x1, y0, y1⟩ := F wr (Below.refl _ _)
      have lk : (k : Int) < (n : Int) := by omega
      clear F hat1 hat2 h14 h24 hp hpa
      go_wp2_with fail
      go_region
      go_wp2_with fail
      exact ⟨⟨k + 1, by omega, by go_num, hb.drew⟩, by simp [intOf]; omega⟩
    · go_wp2_with fail
      go_ret
      exact ⟨rfl, hb⟩
set_option maxHeartbeats 2000000 in
theorem sameGap (o sq tm : Nat) (ru : ByteArray) (A1 A2 : Option Addr) (n c1 c2 : Nat) (st pr : Nat) (va : Int) (ow go gf gt : Nat) (w : World) : Calls Tryz.prog 31 #[.agg #[.bool true, .int .u8 o, .int .u64 sq, .int .u64 tm, .string ru, .slice A1 n c1, .int .u8 st, .int .u8 pr, .int .i64 va, .int .u8 ow, .int .u8 go, .int .u64 gf, .int .u64 gt], .agg #[.bool true, .int .u8 o, .int .u64 sq, .int .u64 tm, .string ru, .slice A2 n c2, .int .u8 st, .int .u8 pr, .int .i64 va, .int .u8 ow, .int .u8 go, .int .u64 gf, .int .u64 gt]] w fun e w' => e = .returned (.bool true) ∧ Below w.heap.size w w' := by
  go_enter Tryz.func31, Tryz.ntmps31
  go_wp2_with fail
  go_ret
  exact ⟨rfl, ((Below.refl _ _).alloc (Nat.le_refl _) _).alloc (by simp) _⟩
set_option maxHeartbeats 8000000 in
theorem sameEvt (o sq tm : Nat) (ru : ByteArray) (A1 A2 : Option Addr) (n c1 c2 : Nat) (ps : List Pr) (st pr : Nat) (va : Int) (ow go gf gt : Nat) (w : World) (hn : n = ps.length) (_hru : ru.size ≤ maxLen) (h1 : Rd w 2 (.slice A1 n c1) n (pairCells ps)) (h2 : Rd w 2 (.slice A2 n c2) n (pairCells ps)) (hp : ∀ p ∈ ps, p.1.size ≤ maxLen ∧ p.2.size ≤ maxLen) :
    Calls Tryz.prog 31 #[.agg #[.bool false, .int .u8 o, .int .u64 sq, .int .u64 tm, .string ru, .slice A1 n c1, .int .u8 st, .int .u8 pr, .int .i64 va, .int .u8 ow, .int .u8 go, .int .u64 gf, .int .u64 gt], .agg #[.bool false, .int .u8 o, .int .u64 sq, .int .u64 tm, .string ru, .slice A2 n c2, .int .u8 st, .int .u8 pr, .int .i64 va, .int .u8 ow, .int .u8 go, .int .u64 gf, .int .u64 gt]] w fun e w' => e = .returned (.bool true) ∧ Below w.heap.size w w' := by
  have KS := fun w' (hb : Below w.heap.size w w') => refSamePs A1 A2 n c1 c2 ps w' hn (h1.below hb) (h2.below hb) hp
  clear h1 h2 hn hp
  go_enter Tryz.func31, Tryz.ntmps31
  go_wp2_with fail
  refine wp_gen fun w2 hw2 => ?_
  have U2 := (((Upd.nil [] w).alloc #[.bool false, .int .u8 o, .int .u64 sq, .int .u64 tm, .string ru, .slice A1 n c1, .int .u8 st, .int .u8 pr, .int .i64 va, .int .u8 ow, .int .u8 go, .int .u64 gf, .int .u64 gt] 36).alloc #[.bool false, .int .u8 o, .int .u64 sq, .int .u64 tm, .string ru, .slice A2 n c2, .int .u8 st, .int .u8 pr, .int .i64 va, .int .u8 ow, .int .u8 go, .int .u64 gf, .int .u64 gt] 36).same hw2
  simp only [World.size_alloc] at U2
  clear hw2
  have F : ∀ w', Below w2.heap.size w2 w' → w'.cell? ⟨w.heap.size, 1, none⟩ = some (.int .u8 o) ∧ w'.cell? ⟨w.heap.size, 2, none⟩ = some (.int .u64 sq) ∧ w'.cell? ⟨w.heap.size, 3, none⟩ = some (.int .u64 tm) ∧ w'.cell? ⟨w.heap.size, 4, none⟩ = some (.string ru) ∧ w'.cell? ⟨w.heap.size, 5, none⟩ = some (.slice A1 n c1) ∧ w'.cell? ⟨w.heap.size, 6, none⟩ = some (.int .u8 st) ∧ w'.cell? ⟨w.heap.size, 7, none⟩ = some (.int .u8 pr) ∧ w'.cell? ⟨w.heap.size, 8, none⟩ = some (.int .i64 va) ∧ w'.cell? ⟨w.heap.size, 9, none⟩ = some (.int .u8 ow) ∧ w'.cell? ⟨w.heap.size + 1, 1, none⟩ = some (.int .u8 o) ∧ w'.cell? ⟨w.heap.size + 1, 2, none⟩ = some (.int .u64 sq) ∧ w'.cell? ⟨w.heap.size + 1, 3, none⟩ = some (.int .u64 tm) ∧ w'.cell? ⟨w.heap.size + 1, 4, none⟩ = some (.string ru) ∧ w'.cell? ⟨w.heap.size + 1, 5, none⟩ = some (.slice A2 n c2) ∧ w'.cell? ⟨w.heap.size + 1, 6, none⟩ = some (.int .u8 st) ∧ w'.cell? ⟨w.heap.size + 1, 7, none⟩ = some (.int .u8 pr) ∧ w'.cell? ⟨w.heap.size + 1, 8, none⟩ = some (.int .i64 va) ∧ w'.cell? ⟨w.heap.size + 1, 9, none⟩ = some (.int .u8 ow) := fun w' hw => by
    have q1 := (U2.grow hw).blk 1 rfl
    have q0 := (U2.grow hw).blk 0 rfl
    exact ⟨q1.cell rfl, q1.cell rfl, q1.cell rfl, q1.cell rfl, q1.cell rfl, q1.cell rfl, q1.cell rfl, q1.cell rfl, q1.cell rfl, q0.cell rfl, q0.cell rfl, q0.cell rfl, q0.cell rfl, q0.cell rfl, q0.cell rfl, q0.cell rfl, q0.cell rfl, q0.cell rfl⟩
  refine FreeTw.region_free (fun w' => Below w2.heap.size w2 w') (fun w' => w'.cell? ⟨w.heap.size, 1, none⟩ = some (.int .u8 o) ∧ w'.cell? ⟨w.heap.size, 2, none⟩ = some (.int .u64 sq) ∧ w'.cell? ⟨w.heap.size, 3, none⟩ = some (.int .u64 tm) ∧ w'.cell? ⟨w.heap.size, 4, none⟩ = some (.string ru) ∧ w'.cell? ⟨w.heap.size, 5, none⟩ = some (.slice A1 n c1) ∧ w'.cell? ⟨w.heap.size, 6, none⟩ = some (.int .u8 st) ∧ w'.cell? ⟨w.heap.size, 7, none⟩ = some (.int .u8 pr) ∧ w'.cell? ⟨w.heap.size, 8, none⟩ = some (.int .i64 va) ∧ w'.cell? ⟨w.heap.size, 9, none⟩ = some (.int .u8 ow) ∧ w'.cell? ⟨w.heap.size + 1, 1, none⟩ = some (.int .u8 o) ∧ w'.cell? ⟨w.heap.size + 1, 2, none⟩ = some (.int .u64 sq) ∧ w'.cell? ⟨w.heap.size + 1, 3, none⟩ = some (.int .u64 tm) ∧ w'.cell? ⟨w.heap.size + 1, 4, none⟩ = some (.string ru) ∧ w'.cell? ⟨w.heap.size + 1, 5, none⟩ = some (.slice A2 n c2) ∧ w'.cell? ⟨w.heap.size + 1, 6, none⟩ = some (.int .u8 st) ∧ w'.cell? ⟨w.heap.size + 1, 7, none⟩ = some (.int .u8 pr) ∧ w'.cell? ⟨w.heap.size + 1, 8, none⟩ = some (.int .i64 va) ∧ w'.cell? ⟨w.heap.size + 1, 9, none⟩ = some (.int .u8 ow)) [4, 5, 1000004, 1000005, 2000001, 2000003] [6, 7] [0, 1, 2, 3, 4, 5] (fun w' hw => F w' hw) (by kernel_rfl) (by kernel_rfl) (by kernel_rfl) ((Below.refl _ _).drew) ?_
  repeat (first
    | (refine FreeTw.RelSeq.pure_ (c := ?_) rfl rfl ?_ ?_; rotate_left; (focus (intro x w'; dsimp only; go_simp; (first | ((repeat' apply And.intro) <;> first | with_reducible rfl | assumption) | (split <;> (try (focus (exfalso; omega))); (try go_simp); (repeat' apply And.intro) <;> first | with_reducible rfl | assumption)))); simp only [Act.put, List.setIfInBounds_toArray, List.set_cons_zero, List.set_cons_succ])
    | (refine FreeTw.RelSeq.steady_ (c := ?_) rfl rfl rfl ?_ ?_; rotate_left; (focus (intro x w' hw; dsimp only; obtain ⟨d0, d1, d2, d3, d4, d5, d6, d7, d8, d9, d10, d11, d12, d13, d14, d15, d16, d17⟩ := hw; go_simp; (repeat' apply And.intro) <;> first | with_reducible rfl | assumption)); simp only [Act.put, List.setIfInBounds_toArray, List.set_cons_zero, List.set_cons_succ])
    | (refine FreeTw.RelSeq.grow_ (c := ?_) rfl rfl rfl ?_ ?_; rotate_left; (focus (intro x w' hw _; dsimp only; have hbr := Below.refl w'.heap.size w'; go_simp; (repeat' apply And.intro) <;> first | with_reducible rfl | assumption)); simp only [Act.put, List.setIfInBounds_toArray, List.set_cons_zero, List.set_cons_succ]))
  refine FreeTw.RelSeq.rel_ (NewPt w2.heap.size 0 #[.int .u8 0, .int .u64 0, .int .u64 0, .string ⟨#[]⟩, .slice none 0 0, .int .u8 0, .int .u8 0, .int .i64 0, .int .u8 0] 32) rfl rfl NewPt.stable ?_ ?_
  focus
    intro x w' hw _; dsimp only
    have hba : Below w'.heap.size w' (w'.alloc (.cells #[.int .u8 0, .int .u64 0, .int .u64 0, .string ⟨#[]⟩, .slice none 0 0, .int .u8 0, .int .u8 0, .int .i64 0, .int .u8 0] 32)) := (Below.refl _ _).alloc (Nat.le_refl _) _
    have hI := hw.trans (hba.mono hw.size)
    have hsz := hw.size
    go_simp
    exact ⟨_, rfl, hsz, Blk.new _ _ _⟩
  simp only [Act.put, List.setIfInBounds_toArray, List.set_cons_zero, List.set_cons_succ, List.nil_append]
  refine FreeTw.RelSeq.rel_ (NewPt w2.heap.size 0 #[.int .u8 0, .int .u64 0, .int .u64 0, .string ⟨#[]⟩, .slice none 0 0, .int .u8 0, .int .u8 0, .int .i64 0, .int .u8 0] 32) rfl rfl NewPt.stable ?_ ?_
  focus
    intro x w' hw _; dsimp only
    have hba : Below w'.heap.size w' (w'.alloc (.cells #[.int .u8 0, .int .u64 0, .int .u64 0, .string ⟨#[]⟩, .slice none 0 0, .int .u8 0, .int .u8 0, .int .i64 0, .int .u8 0] 32)) := (Below.refl _ _).alloc (Nat.le_refl _) _
    have hI := hw.trans (hba.mono hw.size)
    have hsz := hw.size
    go_simp
    exact ⟨_, rfl, hsz, Blk.new _ _ _⟩
  simp only [Act.put, List.setIfInBounds_toArray, List.set_cons_zero, List.set_cons_succ, List.nil_append, List.cons_append]
  refine FreeTw.RelSeq.nil_ fun x w3 hw hf hap => ?_
  obtain ⟨b5, e5, hb5, hB5⟩ := hf _ (.head _)
  obtain ⟨b6, e6, hb6, hB6⟩ := hf _ (.tail _ (.head _))
  have hne : b5 ≠ b6 := by
    have h := hap 4 5 (by decide) (by rfl) (by rfl) (by simp) (by simp)
    rw [e5, e6] at h
    intro e
    subst e
    exact h _ _ rfl rfl rfl
  have hne2 : b6 ≠ b5 := fun h => hne h.symm
  have hs2 := U2.below.size
  have hl0 : w.heap.size + 1 < w2.heap.size := U2.lt (List.mem_cons_self) (chBlk_fp.2 rfl)
  have n1 : b5 ≠ w.heap.size := by omega
  have n2 : b5 ≠ w.heap.size + 1 := by omega
  have n3 : b6 ≠ w.heap.size := by omega
  have n4 : b6 ≠ w.heap.size + 1 := by omega
  have n5 : w.heap.size ≠ b5 := by omega
  have n6 : w.heap.size + 1 ≠ b5 := by omega
  have n7 : w.heap.size ≠ b6 := by omega
  have n8 : w.heap.size + 1 ≠ b6 := by omega
  obtain ⟨d0, d1, d2, d3, d4, d5, d6, d7, d8, d9, d10, d11, d12, d13, d14, d15, d16, d17⟩ := F w3 hw
  have U3 := ((U2.grow hw).moreBlk hB5 (by omega) (fun d hd hg => by have := U2.lt hd hg; omega)).moreBlk hB6 (by omega) (fun d hd hg => by
    rcases List.mem_cons.1 hd with rfl | hd
    · exact hne2 (chBlk_fp.1 hg)
    · have := U2.lt hd hg
      omega)
  clear F hw hf hap U2 hB5 hB6 hb5 hb6 hs2 hl0
  have p0 := (U3.blk 1 rfl).cell (j := 0) (v := .int .u8 0) rfl
  have p1 := (U3.blk 1 rfl).cell (j := 1) (v := .int .u64 0) rfl
  have p2 := (U3.blk 1 rfl).cell (j := 2) (v := .int .u64 0) rfl
  have p3 := (U3.blk 1 rfl).cell (j := 3) (v := .string ⟨#[]⟩) rfl
  have p4 := (U3.blk 1 rfl).cell (j := 4) (v := .slice none 0 0) rfl
  have p5 := (U3.blk 1 rfl).cell (j := 5) (v := .int .u8 0) rfl
  have p6 := (U3.blk 1 rfl).cell (j := 6) (v := .int .u8 0) rfl
  have p7 := (U3.blk 1 rfl).cell (j := 7) (v := .int .i64 0) rfl
  have p8 := (U3.blk 1 rfl).cell (j := 8) (v := .int .u8 0) rfl
  have pf := (U3.blk 1 rfl).frozen
  have q0 := (U3.blk 0 rfl).cell (j := 0) (v := .int .u8 0) rfl
  have q1 := (U3.blk 0 rfl).cell (j := 1) (v := .int .u64 0) rfl
  have q2 := (U3.blk 0 rfl).cell (j := 2) (v := .int .u64 0) rfl
  have q3 := (U3.blk 0 rfl).cell (j := 3) (v := .string ⟨#[]⟩) rfl
  have q4 := (U3.blk 0 rfl).cell (j := 4) (v := .slice none 0 0) rfl
  have q5 := (U3.blk 0 rfl).cell (j := 5) (v := .int .u8 0) rfl
  have q6 := (U3.blk 0 rfl).cell (j := 6) (v := .int .u8 0) rfl
  have q7 := (U3.blk 0 rfl).cell (j := 7) (v := .int .i64 0) rfl
  have q8 := (U3.blk 0 rfl).cell (j := 8) (v := .int .u8 0) rfl
  have qf := (U3.blk 0 rfl).frozen
  refine FreeTw.TailSeq.cons_ rfl ?_
  go_simp
  refine FreeTw.TailSeq.cons_ rfl ?_
  go_simp
  refine FreeTw.TailSeq.nil_gen fun w4 hw4 => ?_
  have U4 := (((((((((((((((((((U3.put 1 rfl 0 (.int .u8 o)).put 0 rfl 1 (.int .u64 sq)).put 0 rfl 2 (.int .u64 tm)).put 0 rfl 3 (.string ru)).put 0 rfl 4 (.slice A1 n c1)).put 0 rfl 5 (.int .u8 st)).put 0 rfl 6 (.int .u8 pr)).put 0 rfl 7 (.int .i64 va)).put 0 rfl 8 (.int .u8 ow)).put 1 rfl 0 (.int .u8 o)).put 0 rfl 1 (.int .u64 sq)).put 0 rfl 2 (.int .u64 tm)).put 0 rfl 3 (.string ru)).put 0 rfl 4 (.slice A2 n c2)).put 0 rfl 5 (.int .u8 st)).put 0 rfl 6 (.int .u8 pr)).put 0 rfl 7 (.int .i64 va)).put 0 rfl 8 (.int .u8 ow))).same hw4
  simp only [List.eraseIdx_cons_succ, List.eraseIdx_cons_zero, List.setIfInBounds_toArray, List.set_cons_succ, List.set_cons_zero] at U4
  clear hw4 U3 p0 p1 p2 p3 p4 p5 p6 p7 p8 pf q0 q1 q2 q3 q4 q5 q6 q7 q8 qf e5 e6 n1 n2 n3 n4 n5 n6 n7 n8 d0 d1 d2 d3 d4 d5 d6 d7 d8 d9 d10 d11 d12 d13 d14 d15 d16 d17
  have p0 := (U4.blk 1 rfl).cell (j := 0) (v := .int .u8 o) rfl
  have p1 := (U4.blk 1 rfl).cell (j := 1) (v := .int .u64 sq) rfl
  have p2 := (U4.blk 1 rfl).cell (j := 2) (v := .int .u64 tm) rfl
  have p3 := (U4.blk 1 rfl).cell (j := 3) (v := .string ru) rfl
  have p4 := (U4.blk 1 rfl).cell (j := 4) (v := .slice A1 n c1) rfl
  have p5 := (U4.blk 1 rfl).cell (j := 5) (v := .int .u8 st) rfl
  have p6 := (U4.blk 1 rfl).cell (j := 6) (v := .int .u8 pr) rfl
  have p7 := (U4.blk 1 rfl).cell (j := 7) (v := .int .i64 va) rfl
  have p8 := (U4.blk 1 rfl).cell (j := 8) (v := .int .u8 ow) rfl
  have q0 := (U4.blk 0 rfl).cell (j := 0) (v := .int .u8 o) rfl
  have q1 := (U4.blk 0 rfl).cell (j := 1) (v := .int .u64 sq) rfl
  have q2 := (U4.blk 0 rfl).cell (j := 2) (v := .int .u64 tm) rfl
  have q3 := (U4.blk 0 rfl).cell (j := 3) (v := .string ru) rfl
  have q4 := (U4.blk 0 rfl).cell (j := 4) (v := .slice A2 n c2) rfl
  have q5 := (U4.blk 0 rfl).cell (j := 5) (v := .int .u8 st) rfl
  have q6 := (U4.blk 0 rfl).cell (j := 6) (v := .int .u8 pr) rfl
  have q7 := (U4.blk 0 rfl).cell (j := 7) (v := .int .i64 va) rfl
  have q8 := (U4.blk 0 rfl).cell (j := 8) (v := .int .u8 ow) rfl
  go_wp2_with fail
  (with_reducible refine (KS w4 U4.below).mono ?_)
  rintro e w5 ⟨rfl, hb5⟩
  have HU := Lib.hid (U4.grow hb5).below
  clear KS U4 hb5 p0 p1 p2 p3 p4 p5 p6 p7 p8 q0 q1 q2 q3 q4 q5 q6 q7 q8
  go_wp2_with fail
  go_ret
  exact ⟨rfl, HU.out⟩
/-- The reference finds an item the same, wherever its labels lie. -/
theorem sameItem (a : ItV) (lv2 : Value) (w : World) (ha : a.ok w) (h2 : Rd w 2 lv2 a.ps.length (pairCells a.ps)) : Calls Tryz.prog 31 #[itV a, itV { a with lv := lv2 }] w fun e w' => e = .returned (.bool true) ∧ Below w.heap.size w w' := by
  have h1 := ha.rd
  obtain ⟨A1, c1, hl1, _⟩ := ha.rd
  have h2' := h2
  obtain ⟨A2, c2, hl2, _⟩ := h2
  obtain ⟨gap, o, sq, tm, ru, lv, ps, st, pr, va, ow, go, gf, gt⟩ := a
  simp only at hl1 hl2 h1 h2'
  subst hl1 hl2
  cases gap
  · exact sameEvt o sq tm ru A1 A2 ps.length c1 c2 ps st pr va ow go gf gt w rfl ha.ru h1 h2' ha.pz
  · exact sameGap o sq tm ru A1 A2 ps.length c1 c2 st pr va ow go gf gt w
end Go.Proofs.YtdmdfccadjfpiaaGreat
