/-
  A node that may be one: match.Asks.Check, route.Node.check.
-/
import Derived.Test.YteiocplfmjkbkaaGreatDoorRtN
import Derived.Test.YteiocplfmjkbkaaGreatDoorRt4
namespace Go.Proofs.YteiocplfmjkbkaaGreatDoor
open Go.RowKit
set_option maxRecDepth 100000

/-- What may be a node, but for where it hangs. -/
structure RN.Fit (n : RN) : Prop where
  asks : n.asks.length ≤ 8
  ask : ∀ a ∈ n.asks, chkA a = 0
  name : nameB n.tgt = true
  bys : n.bys.length ≤ 8
  key : ∀ k ∈ n.bys, wordB k 8 false = true
  up : n.bys.Pairwise fun x y => ltS x y = true
  wait : n.wait ≤ 1048576
  one : 1 ≤ n.between
  more : n.between ≤ n.again
  again : n.again ≤ 1048576
theorem up_idx {l : List ByteArray} (h : l.Pairwise fun x y => ltS x y = true) : ∀ i x y, l[i]? = some x → l[i + 1]? = some y → ltS x y = true := by
  intro i x y h1 h2
  obtain ⟨a, ha⟩ := List.getElem?_eq_some_iff.1 h1
  obtain ⟨b, hb⟩ := List.getElem?_eq_some_iff.1 h2
  rw [← ha, ← hb]
  exact List.pairwise_iff_getElem.1 h i (i + 1) a b (by omega)
theorem name_size {s : ByteArray} (h : nameB s = true) : s.size ≤ 12 := by
  unfold nameB at h
  rw [Bool.and_eq_true] at h
  exact word_size h.1
theorem ask_size {a : Aq} (h : chkA a = 0) : a.1.size ≤ 8 ∧ a.2.2.size ≤ 16 ∧ a.2.1 < 256 := by
  obtain ⟨h1, h2, h3, h4, h5⟩ := chkA_parts h
  have z1 := word_size h1
  by_cases h6 : a.2.1 < 4
  · exact ⟨z1, word_size (h4 h6), by omega⟩
  · refine ⟨z1, ?_, by omega⟩
    rw [h5 (by omega)]
    show 0 ≤ 16
    omega
set_option maxHeartbeats 4000000 in
/-- match.Asks.Check of right ones. -/
theorem asksChk (l : List Aq) (v : Value) (w : World) (hr : Rd w 3 v l.length (l.flatMap aqC)) (hl : l.length ≤ 8) (h : ∀ a ∈ l, chkA a = 0) :
    Calls Tryz.prog 43 #[v] w fun e w' => e = .returned (.int .i64 0) ∧ Below w.heap.size w w' := by
  have KC : ∀ a ∈ l, ∀ w', Calls Tryz.prog 63 #[.agg #[.string a.1, .int .u8 (a.2.1 : Nat), .string a.2.2]] w' fun e w2 => e = .returned (.int .i64 0) ∧ Below w'.heap.size w' w2 := fun a ha w' => by
    have hc := h a ha
    obtain ⟨z1, z2, z3⟩ := ask_size hc
    have := askChk a.1 a.2.1 a.2.2 w' (by unfold maxLen; omega) (by unfold maxLen; omega) z3
    refine this.mono ?_
    rintro e w2 ⟨rfl, hb⟩
    have e0 : chkA (a.1, a.2.1, a.2.2) = 0 := hc
    exact ⟨by rw [e0]; rfl, hb⟩
  obtain ⟨A, c, rfl, h1, h2, h3, h4⟩ := hr
  unfold maxLen at h3
  have HA := Lib.hid h4
  obtain ⟨nl, hnl⟩ : ∃ n, n = l.length := ⟨_, rfl⟩
  rw [← hnl] at h2 hl ⊢
  have HNL := Lib.hid hnl
  clear h4 h h1 hnl
  go_enter Tryz.func43, Tryz.ntmps43
  go_wp2_with fail
  go_loopw [11] (fun i wr => ∃ k : Nat, k ≤ nl ∧ i = .int .i64 k ∧ Below w.heap.size w wr) (fun i _ => nl - (intOf i).toNat)
  case atStart => exact ⟨0, Nat.zero_le _, rfl, Below.refl _ _⟩
  case round =>
    obtain ⟨k, hk, rfl, hb⟩ := hrel
    by_cases hlt : k < nl
    · obtain ⟨b, o, rfl, hat⟩ := HA.out (by rw [← HNL.out]; omega)
      obtain ⟨a, hp⟩ : ∃ a, l[k]? = some a := ⟨_, List.getElem?_eq_getElem (by rw [← HNL.out]; omega)⟩
      have c0 := hat.nth0 hb (k*3) _ (flatN aqC 3 aqC_len l k a hp 0 _ rfl)
      have c1 := hat.nth hb (k*3) 1 _ (flatN aqC 3 aqC_len l k a hp 1 _ rfl)
      have c2 := hat.nth hb (k*3) 2 _ (flatN aqC 3 aqC_len l k a hp 2 _ rfl)
      have K := KC a (List.mem_of_getElem? hp)
      clear hp hat
      have U0 := (Upd.nil [] wr).alloc #[.string a.1, .int .u8 (a.2.1 : Nat), .string a.2.2] 68
      go_wp2_with fail
      refine calls_genP fun w1 hw1 => ?_
      have U1 := U0.same hw1
      clear hw1
      (with_reducible refine (K _).mono ?_)
      rintro e w2 ⟨rfl, hb2⟩
      have U2 := U1.grow hb2
      go_wp2_with fail
      go_roundw
      case rel => exact ⟨k + 1, by omega, by go_num, hb.trans (U2.below.mono hb.size)⟩
      case measure => simp [intOf]; omega
    · obtain rfl : k = nl := by omega
      go_wp2_with fail
      go_ret
      exact ⟨rfl, hb⟩
set_option maxHeartbeats 8000000 in
/-- route.Node.check of one that may be. -/
theorem nodeChk (n : RNV) (w : World) (ha : Rd w 3 n.va n.p.asks.length (n.p.asks.flatMap aqC)) (hb : Rd w 1 n.vb n.p.bys.length (n.p.bys.map Value.string)) (h : n.p.Fit) :
    Calls Tryz.prog 23 #[.agg #[n.va, .string n.p.tgt, n.vb, .int .u64 (n.p.wait : Nat), .int .u64 (n.p.between : Nat), .int .u64 (n.p.again : Nat), .bool n.p.more, .int .i64 n.p.above]] w fun e w' => e = .returned (.int .i64 0) ∧ Below w.heap.size w w' := by
  have zn := name_size h.name
  have KA := fun w' (hw : Below w.heap.size w w') => asksChk n.p.asks n.va w' (ha.below hw) h.asks h.ask
  have KN := fun w' => lName n.p.tgt w' (by unfold maxLen; omega)
  have KT := fun w' => tTimes n.p.wait n.p.between n.p.again w' h.wait h.one h.more h.again
  rw [h.name] at KN
  have hl := h.bys
  have HK := Lib.hid h.key
  have HU := Lib.hid (up_idx h.up)
  clear h
  obtain ⟨⟨asks, tgt, bys, wait, betw, again, more, above⟩, va, vb⟩ := n
  dsimp only at ha hb KA KN KT zn hl HK HU ⊢
  obtain ⟨Aa, ca, rfl, _⟩ := ha
  obtain ⟨Ab, cb, rfl, h1, h2, h3, h4⟩ := hb
  unfold maxLen at h3
  have HB := Lib.hid h4
  obtain ⟨nl, hnl⟩ : ∃ n, n = bys.length := ⟨_, rfl⟩
  rw [← hnl] at h2 hl ⊢
  have HNL := Lib.hid hnl
  have U0 := (Upd.nil [] w).alloc #[.slice Aa asks.length ca, .string tgt, .slice Ab nl cb, .int .u64 (wait : Nat), .int .u64 (betw : Nat), .int .u64 (again : Nat), .bool more, .int .i64 above] 50
  clear h4 h1 hnl zn
  go_enter Tryz.func23, Tryz.ntmps23
  go_wp2_with fail
  refine calls_genP fun w1 hw1 => ?_
  have U1 := U0.same hw1
  clear hw1
  (with_reducible refine (KA _ U1.below).mono ?_)
  rintro e w2 ⟨rfl, hb2⟩
  have U2 := U1.grow hb2
  have y1 := (U2.blk 0 rfl).cell (j := 1) rfl
  have y2 := (U2.blk 0 rfl).cell (j := 2) rfl
  clear U0 U1 hb2
  go_wp2_with fail
  (with_reducible refine (KN _).mono ?_)
  rintro e w3 ⟨rfl, hb3⟩
  have U3 := U2.grow hb3
  have y2 := (U3.blk 0 rfl).cell (j := 2) rfl
  clear U2 hb3 y1
  go_wp2_with fail
  go_loopw [23] (fun i wr => ∃ k : Nat, k ≤ nl ∧ i = .int .i64 k ∧ Upd [] w [chBlk w.heap.size #[.slice Aa asks.length ca, .string tgt, .slice Ab nl cb, .int .u64 (wait : Nat), .int .u64 (betw : Nat), .int .u64 (again : Nat), .bool more, .int .i64 above] 50] wr) (fun i _ => nl - (intOf i).toNat)
  case atStart => exact ⟨0, Nat.zero_le _, rfl, U3⟩
  case round =>
    obtain ⟨k, hk, rfl, U4⟩ := hrel
    clear U3 y2
    have y2 := (U4.blk 0 rfl).cell (j := 2) rfl
    by_cases hlt : k < nl
    · obtain ⟨b, o, rfl, hat⟩ := HB.out (by rw [← HNL.out]; omega)
      obtain ⟨x, hx⟩ : ∃ x, bys[k]? = some x := ⟨_, List.getElem?_eq_getElem (by rw [← HNL.out]; omega)⟩
      have c0 := hat.nth0 U4.below k (.string x) (by rw [List.getElem?_map, hx]; rfl)
      have hw := HK.out x (List.mem_of_getElem? hx)
      have zx := word_size hw
      have K := fun w' => lKey x w' (by unfold maxLen; omega)
      rw [hw] at K
      have HU1 := fun i y (h : bys[i]? = some y) (hi : i + 1 = k) => HU.out i y x h (by rw [hi]; exact hx)
      by_cases hk0 : k = 0
      · subst hk0
        rw [Nat.add_zero] at c0
        clear hx hw HU1
        go_wp2_with fail
        (with_reducible refine (K _).mono ?_)
        rintro e w5 ⟨rfl, hb5⟩
        have U5 := U4.grow hb5
        go_wp2_with fail
        go_roundw
        case rel => exact ⟨1, by omega, by go_num, U5⟩
        case measure => simp [intOf]; omega
      · obtain ⟨p, hp⟩ : ∃ p, bys[k - 1]? = some p := ⟨_, List.getElem?_eq_getElem (by rw [← HNL.out]; omega)⟩
        have hps : Op.bytesLess p.toList x.toList = true := HU1 (k - 1) p hp (by omega)
        have c1 := fun w' (h : Below w.heap.size w w') => hat.nth0 h (k - 1) (.string p) (by rw [List.getElem?_map, hp]; rfl)
        obtain ⟨j, rfl⟩ : ∃ j, k = j + 1 := ⟨k - 1, by omega⟩
        rw [Nat.add_sub_cancel] at c1
        clear hx hw HU1 hp
        go_wp2_with fail
        (with_reducible refine (K _).mono ?_)
        rintro e w5 ⟨rfl, hb5⟩
        have U5 := U4.grow hb5
        have y2 := (U5.blk 0 rfl).cell (j := 2) rfl
        have c2 := c1 _ U5.below
        clear c1 c0
        go_wp2_with fail
        go_roundw
        case rel => exact ⟨j + 1 + 1, by omega, by go_num, U5⟩
        case measure => simp [intOf]; omega
    · obtain rfl : k = nl := by omega
      have y3 := (U4.blk 0 rfl).cell (j := 3) rfl
      have y4 := (U4.blk 0 rfl).cell (j := 4) rfl
      have y5 := (U4.blk 0 rfl).cell (j := 5) rfl
      go_wp2_with fail
      (with_reducible refine (KT _).mono ?_)
      rintro e w6 ⟨rfl, hb6⟩
      have U6 := U4.grow hb6
      go_wp2_with fail
      go_ret
      exact ⟨rfl, U6.below⟩
end Go.Proofs.YteiocplfmjkbkaaGreatDoor
