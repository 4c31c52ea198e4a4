/-
  A line's settings; route.node of a right line's words.
-/
import Derived.Test.YteiocplfmjkbkaaGreatDoorRtS
namespace Go.Proofs.YteiocplfmjkbkaaGreatDoor
open Go.RowKit
set_option maxRecDepth 100000

/-- A setting of a line. -/
inductive Set1 where
  | more
  | tgt (s : ByteArray)
  | bys (ks : List ByteArray)
  | wait (n : Nat)
  | between (n : Nat)
  | again (n : Nat)
def Set1.words : Set1 → List ByteArray
  | more => [⟨#[109, 111, 114, 101]⟩]
  | tgt s => [⟨#[116, 111]⟩, s]
  | bys ks => [⟨#[98, 121]⟩, keysT ks]
  | wait n => [⟨#[119, 97, 105, 116]⟩, decB n]
  | between n => [⟨#[98, 101, 116, 119, 101, 101, 110]⟩, decB n]
  | again n => [⟨#[114, 101, 112, 101, 97, 116]⟩, decB n]
def Set1.on (n : RN) : Set1 → RN
  | more => { n with more := true }
  | tgt s => { n with tgt := s }
  | bys ks => { n with bys := ks }
  | wait k => { n with wait := k }
  | between k => { n with between := k }
  | again k => { n with again := k }
def Set1.Fit : Set1 → Prop
  | more => True
  | tgt _ => True
  | bys ks => ks.length ≤ 8 ∧ (∀ k ∈ ks, wordB k 8 false = true) ∧ ks.Pairwise fun x y => ltS x y = true
  | wait k => k ≤ 1048576
  | between k => k ≤ 1048576
  | again k => k ≤ 1048576
def setWords (l : List Set1) : List ByteArray := l.flatMap Set1.words
def lineWords (asks : List Aq) (l : List Set1) : List ByteArray := ⟨#[114, 111, 117, 116, 101]⟩ :: asksT asks :: setWords l
/-- A line's node, of the one above. -/
def lineNode (n : RN) (asks : List Aq) (l : List Set1) : RN := l.foldl Set1.on { n with asks := asks, more := false }
theorem numRight (n : Nat) (w : World) (h : n ≤ 1048576) : Calls Tryz.prog 62 #[.string (decB n), .int .u64 1048576] w fun e w' => e = .returned (.tuple #[.int .u64 (n : Nat), .bool true]) ∧ w' = w := by
  have := condNumberI (decB n) 1048576 1048576 rfl w (by have := decB_size n (by omega); unfold maxLen; omega)
  rw [numN_dec n (by omega), numO_dec n 1048576 (by omega) h] at this
  exact this
/-- `s[k:]`: the rest, and where it lies under a name. -/
theorem cutS {w : World} {m k : Nat} {xs : List Value} {b o c : Nat} (kk : Int) (hkk : kk = (k : Int)) (h : Rd w 1 (.slice (some ⟨b, o, none⟩) (m + k) c) (m + k) xs) :
    ∃ A', (∀ W : World, (Instr.slice 46 (.slice (some ⟨b, o, none⟩) (m + k) c) (some (.int .i64 kk)) none none).run Tryz.prog W = .ok (.slice A' m (c - k)) W) ∧ Rd w 1 (.slice A' m (c - k)) m (xs.drop k) := by
  subst hkk
  obtain ⟨A, c', he, h1, h2, h3, h4⟩ := h
  cases he
  have ht : Tryz.prog.underlying 46 = some (.slice (Tryz.prog.elem 46)) := by simp [Program.elem, Tryz.underlying46]
  have hel : Tryz.prog.elem 46 = 9 := by simp [Program.elem, Tryz.underlying46]
  refine ⟨if c = k then some ⟨b, o, none⟩ else some ⟨b, o + k, none⟩, fun W => ?_, ?_⟩
  · rw [run_slice_l W _ _ _ _ ht .i64 _ (by omega) (by omega), hel, Tryz.sizeOf9]
    by_cases h0 : c = k
    · simp [Result.andThen, sliced, h0]
    · by_cases h5 : k = 0
      · subst h5; simp [Result.andThen, sliced, Addr.add, h0]
      · simp [Result.andThen, sliced, Addr.add, h0, h5]
  · refine ⟨_, _, rfl, by simp; omega, by omega, by omega, fun hn => ?_⟩
    obtain ⟨q', o', he, hr⟩ := h4 (by omega)
    cases he
    rw [if_neg (by omega)]
    refine ⟨_, _, rfl, fun j u hj => ?_⟩
    rw [List.getElem?_drop] at hj
    rw [Nat.add_assoc]
    exact hr _ u hj
/-- What node hands back: the questions are new, the keys new or the ones that were there. -/
def NodeMade (m : RN) (vb0 : Value) (bys0 : List ByteArray) (w : World) (e : Ending) (w' : World) : Prop := ∃ va vb, e = .returned (.tuple #[.agg #[va, .string m.tgt, vb, .int .u64 (m.wait : Nat), .int .u64 (m.between : Nat), .int .u64 (m.again : Nat), .bool m.more, .int .i64 m.above], .int .i64 0]) ∧
  w'.ownsRow w.heap.size 68 3 va m.asks.length (m.asks.flatMap aqC) ∧ ((vb = vb0 ∧ m.bys = bys0) ∨ w'.ownsRow w.heap.size 9 1 vb m.bys.length (m.bys.map Value.string)) ∧ Below w.heap.size w w'
set_option maxHeartbeats 16000000 in
theorem rNode (asks : List Aq) (sets : List Set1) (n : RN) (va vb wv : Value) (mx : Int) (w : World) (hw : Rd w 1 wv (lineWords asks sets).length ((lineWords asks sets).map Value.string)) (hb : Rd w 1 vb n.bys.length (n.bys.map Value.string))
    (hl : asks.length ≤ 8) (ha : ∀ a ∈ asks, chkA a = 0) (hs : ∀ s ∈ sets, s.Fit) (hm : w.cell? ⟨2, 0, none⟩ = some (.int .i64 mx)) :
    Calls Tryz.prog 40 #[wv, .agg #[va, .string n.tgt, vb, .int .u64 (n.wait : Nat), .int .u64 (n.between : Nat), .int .u64 (n.again : Nat), .bool n.more, .int .i64 n.above]] w (NodeMade (lineNode n asks sets) vb n.bys w) := by
  have KP := fun w' (h : w'.cell? ⟨2, 0, none⟩ = some (.int .i64 mx)) => mParseAll asks mx w' hl ha h
  have HM := Lib.hid hm
  have HSF := Lib.hid hs
  have hw0 := hw
  have hlw : (lineWords asks sets).length = (setWords sets).length + 2 := rfl
  obtain ⟨nw, hnw⟩ : ∃ k, k = (setWords sets).length := ⟨_, rfl⟩
  rw [hlw, ← hnw] at hw hw0
  obtain ⟨A, c, rfl, h1, h2, h3, h4⟩ := hw
  unfold maxLen at h3
  obtain ⟨b, o, rfl, hat⟩ := h4 (by omega)
  have x0 := hat 0 (.string ⟨#[114, 111, 117, 116, 101]⟩) rfl
  have X1 := fun w' (h : Below w.heap.size w w') => hat.nth h 0 1 (.string (asksT asks)) rfl
  rw [Nat.add_zero] at x0
  obtain ⟨Ac, hrun, hcut⟩ := cutS (m := nw) (k := 2) 2 rfl hw0
  have hcut : Rd w 1 (.slice Ac nw (c - 2)) nw ((setWords sets).map Value.string) := hcut
  obtain ⟨Ab, cb, rfl, _⟩ := id hb
  have U0 := ((Upd.nil [] w).alloc #[va, .string n.tgt, .slice Ab n.bys.length cb, .int .u64 (n.wait : Nat), .int .u64 (n.between : Nat), .int .u64 (n.again : Nat), .bool n.more, .int .i64 n.above] 50).alloc #[.slice none 0 0, .string ⟨#[]⟩, .slice none 0 0, .int .u64 0, .int .u64 0, .int .u64 0, .bool false, .int .i64 0] 50
  rw [allocSzR] at U0
  have x0 : ((w.alloc (.cells #[va, .string n.tgt, .slice Ab n.bys.length cb, .int .u64 (n.wait : Nat), .int .u64 (n.between : Nat), .int .u64 (n.again : Nat), .bool n.more, .int .i64 n.above] 50)).alloc (.cells #[.slice none 0 0, .string ⟨#[]⟩, .slice none 0 0, .int .u64 0, .int .u64 0, .int .u64 0, .bool false, .int .i64 0] 50)).cell? ⟨b, o, none⟩ = some (.string ⟨#[114, 111, 117, 116, 101]⟩) := cell_updR U0 (by simp) x0
  have HC := Lib.hid hcut
  have HNW := Lib.hid hnw
  obtain ⟨nb, hnb⟩ : ∃ k, k = n.bys.length := ⟨_, rfl⟩
  rw [← hnb] at U0 x0 ⊢
  have HNB := Lib.hid hnb
  have X1' := X1 _ U0.below
  clear hat hw0 hcut h4 h1 hm hs ha hlw hnw hb hnb
  go_enter Tryz.func40, Tryz.ntmps40
  go_wp2_with fail
  (with_reducible refine (KP _ (cell_updR U0 (by simp) HM.out)).mono ?_)
  rintro e w2 ⟨va2, rfl, hr2, hb2⟩
  obtain ⟨A2, c2, rfl⟩ := owns_slice hr2
  have U2 := U0.addRow hb2 hr2 (Nat.le_refl _)
  obtain ⟨na, hna⟩ : ∃ k, k = asks.length := ⟨_, rfl⟩
  rw [← hna] at U2 ⊢
  have HNA := Lib.hid hna
  have y0 := (U2.blk 2 rfl).cell (j := 0) (v := va) rfl
  have y6 := (U2.blk 2 rfl).cell (j := 6) (v := .bool n.more) rfl
  have yf := (U2.blk 2 rfl).frozen
  have U3 := (((U2.put 2 rfl 0 (.slice A2 na c2)).put 0 rfl 6 (.bool false)).nilRow 9 1).pick [1, 3, 2, 0] (by decide)
  simp only [List.setIfInBounds_toArray, List.set_cons_succ, List.set_cons_zero, List.eraseIdx_cons_succ, List.eraseIdx_cons_zero, List.filterMap_cons, List.filterMap_nil, List.getElem?_cons_zero, List.getElem?_cons_succ] at U3
  clear hb2 hr2 U2 U0 x0 X1' KP hna
  go_wp2_with fail
  go_loopw [0] (fun l wr => ∃ (r : List Set1) (m : RN) (B : Option Addr) (kb cbb : Nat) (rv : Value) (rl : List ByteArray), Hid (∀ s ∈ r, s.Fit) ∧ Hid (r.foldl Set1.on m = lineNode n asks sets) ∧ Hid (Rd w 1 l (setWords r).length ((setWords r).map Value.string)) ∧ Hid (((Value.slice B kb cbb) = .slice Ab nb cb ∧ m.bys = n.bys) ∨ ((Value.slice B kb cbb) = rv ∧ m.bys = rl)) ∧ Hid (m.asks = asks) ∧
    Upd [] w [chBlk w.heap.size #[.slice A2 na c2, .string m.tgt, .slice B kb cbb, .int .u64 (m.wait : Nat), .int .u64 (m.between : Nat), .int .u64 (m.again : Nat), .bool m.more, .int .i64 m.above] 50, chBlk (w.heap.size + 1) #[.slice none 0 0, .string ⟨#[]⟩, .slice none 0 0, .int .u64 0, .int .u64 0, .int .u64 0, .bool false, .int .i64 0] 50, chRow 68 3 (.slice A2 na c2) na (asks.flatMap aqC), chRow 9 1 rv rl.length (rl.map Value.string)] wr) (fun l _ => match l with | .slice _ k _ => k | _ => 0)
  case atStart => exact ⟨sets, { n with asks := asks, more := false }, Ab, nb, cb, .slice none 0 0, [], HSF, Lib.hid rfl, Lib.hid (by rw [← HNW.out]; exact HC.out), Lib.hid (.inl ⟨rfl, rfl⟩), Lib.hid rfl, U3⟩
  case round =>
    obtain ⟨r, m, B, kb, cbb, rv, rl, HF, HT, HR, HV, HA, U4⟩ := hrel
    clear U3 y0 y6 yf HC HSF hrun
    obtain ⟨nr, hnr⟩ : ∃ k, k = (setWords r).length := ⟨_, rfl⟩
    have hR := HR.out
    rw [← hnr] at hR
    obtain ⟨Al, cl, rfl, _, hle, hcl, h4⟩ := id hR
    unfold maxLen at hcl
    cases r with
    | nil =>
      obtain rfl : nr = 0 := hnr
      have e0 := (U4.blk 0 rfl).cell (j := 0) rfl
      have e1 := (U4.blk 0 rfl).cell (j := 1) rfl
      have e2 := (U4.blk 0 rfl).cell (j := 2) rfl
      have e3 := (U4.blk 0 rfl).cell (j := 3) rfl
      have e4 := (U4.blk 0 rfl).cell (j := 4) rfl
      have e5 := (U4.blk 0 rfl).cell (j := 5) rfl
      have e6 := (U4.blk 0 rfl).cell (j := 6) rfl
      have e7 := (U4.blk 0 rfl).cell (j := 7) rfl
      have z0 := (U4.blk 1 rfl).cell (j := 0) rfl
      have z1 := (U4.blk 1 rfl).cell (j := 1) rfl
      have z2 := (U4.blk 1 rfl).cell (j := 2) rfl
      have z3 := (U4.blk 1 rfl).cell (j := 3) rfl
      have z4 := (U4.blk 1 rfl).cell (j := 4) rfl
      have z5 := (U4.blk 1 rfl).cell (j := 5) rfl
      have z6 := (U4.blk 1 rfl).cell (j := 6) rfl
      have z7 := (U4.blk 1 rfl).cell (j := 7) rfl
      have zf := (U4.blk 1 rfl).frozen
      go_wp2_with fail
      refine bodyPost_gen fun w4 hw4 => ?_
      have V := ((((((((U4.put 1 rfl 0 (.slice A2 na c2)).put 0 rfl 1 (.string m.tgt)).put 0 rfl 2 (.slice B kb cbb)).put 0 rfl 3 (.int .u64 (m.wait : Nat))).put 0 rfl 4 (.int .u64 (m.between : Nat))).put 0 rfl 5 (.int .u64 (m.again : Nat))).put 0 rfl 6 (.bool m.more)).put 0 rfl 7 (.int .i64 m.above)).same hw4
      simp only [List.setIfInBounds_toArray, List.set_cons_succ, List.set_cons_zero, List.eraseIdx_cons_succ, List.eraseIdx_cons_zero] at V
      clear hw4 U4
      have a0 := (V.blk 0 rfl).cell (j := 0) (v := .slice A2 na c2) rfl
      have a1 := (V.blk 0 rfl).cell (j := 1) (v := .string m.tgt) rfl
      have a2 := (V.blk 0 rfl).cell (j := 2) (v := .slice B kb cbb) rfl
      have a3 := (V.blk 0 rfl).cell (j := 3) (v := .int .u64 (m.wait : Nat)) rfl
      have a4 := (V.blk 0 rfl).cell (j := 4) (v := .int .u64 (m.between : Nat)) rfl
      have a5 := (V.blk 0 rfl).cell (j := 5) (v := .int .u64 (m.again : Nat)) rfl
      have a6 := (V.blk 0 rfl).cell (j := 6) (v := .bool m.more) rfl
      have a7 := (V.blk 0 rfl).cell (j := 7) (v := .int .i64 m.above) rfl
      have HTe : m = lineNode n asks sets := HT.out
      refine bodyPost_ret (v := .tuple #[.agg #[.slice A2 na c2, .string m.tgt, .slice B kb cbb, .int .u64 (m.wait : Nat), .int .u64 (m.between : Nat), .int .u64 (m.again : Nat), .bool m.more, .int .i64 m.above], .int .i64 0]) ?_ rfl ?_
      · simp [results, Tryz.results40, go_sem, a0, a1, a2, a3, a4, a5, a6, a7]
      · rw [← HTe]
        refine ⟨_, _, rfl, ?_, ?_, V.below⟩
        · rw [HA.out, ← HNA.out]
          exact rowBaseR V 2 rfl
        · rcases HV.out with ⟨h5, h6⟩ | ⟨h5, h6⟩
          · exact .inl ⟨h5, h6⟩
          · right
            rw [h5, h6]
            exact rowBaseR V 3 rfl
    | cons s r =>
      obtain ⟨nt, hnt⟩ : ∃ k, k = (setWords r).length := ⟨_, rfl⟩
      have HNT := Lib.hid hnt
      have hF1 := HF.out s (.head _)
      have HF2 : Hid (∀ s ∈ r, s.Fit) := Lib.hid fun s hs => HF.out s (.tail _ hs)
      have hL : setWords (s :: r) = s.words ++ setWords r := rfl
      have hpos : 0 < nr := by
        rw [hnr, hL, List.length_append]
        cases s <;> simp [Set1.words] <;> omega
      obtain ⟨b', o', rfl, hat⟩ := h4 hpos
      have x0 := fun v hv => hat.nth0 U4.below 0 v hv
      have x1 := fun v hv => hat.nth U4.below 0 1 v hv
      rw [Nat.add_zero] at x0
      have yf := (U4.blk 0 rfl).frozen
      cases s with
      | more =>
        obtain rfl : nr = nt + 1 := by rw [hnr, hL, List.length_append, ← hnt]; show 1 + nt = _; omega
        have q0 := x0 (.string ⟨#[109, 111, 114, 101]⟩) rfl
        obtain ⟨Ac, hrun, hcut⟩ := cutS (m := nt) (k := 1) 1 rfl hR
        have HR2 : Hid (Rd w 1 (.slice Ac nt (cl - 1)) (setWords r).length ((setWords r).map Value.string)) := Lib.hid (by rw [← hnt]; exact hcut)
        have HT2 : Hid (r.foldl Set1.on (Set1.on m (.more)) = lineNode n asks sets) := Lib.hid HT.out
        have p := (U4.blk 0 rfl).cell (j := 6) (v := .bool m.more) rfl
        clear hnr hL hnt hat x0 x1 h4 hF1 hcut hR
        have U9 := U4.put 0 rfl 6 (.bool true)
        simp only [List.setIfInBounds_toArray, List.set_cons_succ, List.set_cons_zero, List.eraseIdx_cons_zero] at U9
        go_wp2_with fail
        go_roundw
        case rel => exact ⟨r, Set1.on m (.more), B, kb, cbb, rv, rl, HF2, HT2, HR2, HV, Lib.hid HA.out, U9⟩
        case measure => simp
      | tgt s =>
        obtain rfl : nr = nt + 2 := by rw [hnr, hL, List.length_append, ← hnt]; show 2 + nt = _; omega
        have q0 := x0 (.string ⟨#[116, 111]⟩) rfl
        have q1 := x1 (.string s) rfl
        obtain ⟨Ac, hrun, hcut⟩ := cutS (m := nt) (k := 2) 2 rfl hR
        have HR2 : Hid (Rd w 1 (.slice Ac nt (cl - 2)) (setWords r).length ((setWords r).map Value.string)) := Lib.hid (by rw [← hnt]; exact hcut)
        have HT2 : Hid (r.foldl Set1.on (Set1.on m (.tgt s)) = lineNode n asks sets) := Lib.hid HT.out
        have p := (U4.blk 0 rfl).cell (j := 1) (v := .string m.tgt) rfl
        clear hnr hL hnt hat x0 x1 h4 hF1 hcut hR
        have U9 := U4.put 0 rfl 1 (.string s)
        simp only [List.setIfInBounds_toArray, List.set_cons_succ, List.set_cons_zero, List.eraseIdx_cons_zero] at U9
        go_wp2_with fail
        go_roundw
        case rel => exact ⟨r, Set1.on m (.tgt s), B, kb, cbb, rv, rl, HF2, HT2, HR2, HV, Lib.hid HA.out, U9⟩
        case measure => simp
      | bys ks =>
        obtain rfl : nr = nt + 2 := by rw [hnr, hL, List.length_append, ← hnt]; show 2 + nt = _; omega
        have q0 := x0 (.string ⟨#[98, 121]⟩) rfl
        have q1 := x1 (.string (keysT ks)) rfl
        obtain ⟨Ac, hrun, hcut⟩ := cutS (m := nt) (k := 2) 2 rfl hR
        have HR2 : Hid (Rd w 1 (.slice Ac nt (cl - 2)) (setWords r).length ((setWords r).map Value.string)) := Lib.hid (by rw [← hnt]; exact hcut)
        have HT2 : Hid (r.foldl Set1.on (Set1.on m (.bys ks)) = lineNode n asks sets) := Lib.hid HT.out
        have p := (U4.blk 0 rfl).cell (j := 2) (v := .slice B kb cbb) rfl
        obtain ⟨f1, f2, f3⟩ := hF1
        have KK := fun w' h => rKeys ks mx w' f1 f2 f3 h
        clear hnr hL hnt hat x0 x1 h4 hcut hR f2 f3 p
        go_wp2_with fail
        (with_reducible refine (KK _ (cell_updR U4 (by simp) HM.out)).mono ?_)
        rintro e w7 ⟨v7, rfl, hr7, hb7⟩
        obtain ⟨A7, c7, rfl⟩ := owns_slice hr7
        have U7 := U4.addRow hb7 hr7 (Nat.le_refl _)
        have p := (U7.blk 1 rfl).cell (j := 2) (v := .slice B kb cbb) rfl
        have yf := (U7.blk 1 rfl).frozen
        have U9 := (U7.put 1 rfl 2 (.slice A7 ks.length c7)).pick [0, 2, 3, 1] (by decide)
        simp only [List.setIfInBounds_toArray, List.set_cons_succ, List.set_cons_zero, List.eraseIdx_cons_succ, List.eraseIdx_cons_zero, List.filterMap_cons, List.filterMap_nil, List.getElem?_cons_zero, List.getElem?_cons_succ] at U9
        clear hr7 hb7 U7 KK
        go_wp2_with fail
        go_roundw
        case rel => exact ⟨r, Set1.on m (.bys ks), A7, ks.length, c7, _, ks, HF2, HT2, HR2, Lib.hid (.inr ⟨rfl, rfl⟩), Lib.hid HA.out, U9⟩
        case measure => simp
      | wait k =>
        obtain rfl : nr = nt + 2 := by rw [hnr, hL, List.length_append, ← hnt]; show 2 + nt = _; omega
        have q0 := x0 (.string ⟨#[119, 97, 105, 116]⟩) rfl
        have q1 := x1 (.string (decB k)) rfl
        obtain ⟨Ac, hrun, hcut⟩ := cutS (m := nt) (k := 2) 2 rfl hR
        have HR2 : Hid (Rd w 1 (.slice Ac nt (cl - 2)) (setWords r).length ((setWords r).map Value.string)) := Lib.hid (by rw [← hnt]; exact hcut)
        have HT2 : Hid (r.foldl Set1.on (Set1.on m (.wait k)) = lineNode n asks sets) := Lib.hid HT.out
        have p := (U4.blk 0 rfl).cell (j := 3) (v := .int .u64 (m.wait : Nat)) rfl
        have KN := fun w' => numRight k w' hF1
        clear hnr hL hnt hat x0 x1 h4 hcut hR
        obtain ⟨tx, htx⟩ : ∃ t, t = decB k := ⟨_, rfl⟩
        rw [← htx] at q1 KN
        clear htx hF1
        go_wp2_with fail
        (with_reducible refine (KN _).mono ?_)
        rintro e w7 ⟨rfl, rfl⟩
        clear KN
        have U9 := U4.put 0 rfl 3 (.int .u64 (k : Nat))
        simp only [List.setIfInBounds_toArray, List.set_cons_succ, List.set_cons_zero, List.eraseIdx_cons_zero] at U9
        go_wp2_with fail
        go_roundw
        case rel => exact ⟨r, Set1.on m (.wait k), B, kb, cbb, rv, rl, HF2, HT2, HR2, HV, Lib.hid HA.out, U9⟩
        case measure => simp
      | between k =>
        obtain rfl : nr = nt + 2 := by rw [hnr, hL, List.length_append, ← hnt]; show 2 + nt = _; omega
        have q0 := x0 (.string ⟨#[98, 101, 116, 119, 101, 101, 110]⟩) rfl
        have q1 := x1 (.string (decB k)) rfl
        obtain ⟨Ac, hrun, hcut⟩ := cutS (m := nt) (k := 2) 2 rfl hR
        have HR2 : Hid (Rd w 1 (.slice Ac nt (cl - 2)) (setWords r).length ((setWords r).map Value.string)) := Lib.hid (by rw [← hnt]; exact hcut)
        have HT2 : Hid (r.foldl Set1.on (Set1.on m (.between k)) = lineNode n asks sets) := Lib.hid HT.out
        have p := (U4.blk 0 rfl).cell (j := 4) (v := .int .u64 (m.between : Nat)) rfl
        have KN := fun w' => numRight k w' hF1
        clear hnr hL hnt hat x0 x1 h4 hcut hR
        obtain ⟨tx, htx⟩ : ∃ t, t = decB k := ⟨_, rfl⟩
        rw [← htx] at q1 KN
        clear htx hF1
        go_wp2_with fail
        (with_reducible refine (KN _).mono ?_)
        rintro e w7 ⟨rfl, rfl⟩
        clear KN
        have U9 := U4.put 0 rfl 4 (.int .u64 (k : Nat))
        simp only [List.setIfInBounds_toArray, List.set_cons_succ, List.set_cons_zero, List.eraseIdx_cons_zero] at U9
        go_wp2_with fail
        go_roundw
        case rel => exact ⟨r, Set1.on m (.between k), B, kb, cbb, rv, rl, HF2, HT2, HR2, HV, Lib.hid HA.out, U9⟩
        case measure => simp
      | again k =>
        obtain rfl : nr = nt + 2 := by rw [hnr, hL, List.length_append, ← hnt]; show 2 + nt = _; omega
        have q0 := x0 (.string ⟨#[114, 101, 112, 101, 97, 116]⟩) rfl
        have q1 := x1 (.string (decB k)) rfl
        obtain ⟨Ac, hrun, hcut⟩ := cutS (m := nt) (k := 2) 2 rfl hR
        have HR2 : Hid (Rd w 1 (.slice Ac nt (cl - 2)) (setWords r).length ((setWords r).map Value.string)) := Lib.hid (by rw [← hnt]; exact hcut)
        have HT2 : Hid (r.foldl Set1.on (Set1.on m (.again k)) = lineNode n asks sets) := Lib.hid HT.out
        have p := (U4.blk 0 rfl).cell (j := 5) (v := .int .u64 (m.again : Nat)) rfl
        have KN := fun w' => numRight k w' hF1
        clear hnr hL hnt hat x0 x1 h4 hcut hR
        obtain ⟨tx, htx⟩ : ∃ t, t = decB k := ⟨_, rfl⟩
        rw [← htx] at q1 KN
        clear htx hF1
        go_wp2_with fail
        (with_reducible refine (KN _).mono ?_)
        rintro e w7 ⟨rfl, rfl⟩
        clear KN
        have U9 := U4.put 0 rfl 5 (.int .u64 (k : Nat))
        simp only [List.setIfInBounds_toArray, List.set_cons_succ, List.set_cons_zero, List.eraseIdx_cons_zero] at U9
        go_wp2_with fail
        go_roundw
        case rel => exact ⟨r, Set1.on m (.again k), B, kb, cbb, rv, rl, HF2, HT2, HR2, HV, Lib.hid HA.out, U9⟩
        case measure => simp
end Go.Proofs.YteiocplfmjkbkaaGreatDoor
