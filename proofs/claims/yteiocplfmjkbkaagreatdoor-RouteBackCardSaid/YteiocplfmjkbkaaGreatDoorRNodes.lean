/-
  The nodes of a tree of small numbers (watchfirelaw20.Nodes).
-/
import Derived.Test.YteiocplfmjkbkaaGreatDoorMg40
import Derived.Test.YteiocplfmjkbkaaGreatDoorRLabs
import Derived.RegionTactic
import Derived.BigRegion
import Derived.Test.YteiocplfmjkbkaaGreatDoorSt2
namespace Go.Proofs.YteiocplfmjkbkaaGreatDoor
open Go.RowKit FreeOrd
set_option maxRecDepth 100000
attribute [local go_sem] out

structure SmN where
  v : Value
  asks : List (Nat × Nat × Nat)
  tgt : Nat
  bi : Nat
  wa : Nat
  be : Nat
  re : Nat
  mo : Bool
  ab : Nat
structure NodeP where
  asks : List (Nat × Nat × Nat)
  tgt : ByteArray
  bys : List ByteArray
  wait : Nat
  between : Nat
  again : Nat
  more : Bool
  above : Int
structure NodeV where
  p : NodeP
  va : Value
  vb : Value
theorem infoStrV : (Tryz.prog.info? 9).map (fun i => (i.zero, i.size, i.bytes)) = some (some (.string ⟨#[]⟩), 1, 16) := by kernel_rfl
def smn8 (s : SmN) : List Value := [s.v, .int .u8 s.tgt, .int .u8 s.bi, .int .u8 s.wa, .int .u8 s.be, .int .u8 s.re, .bool s.mo, .int .u8 s.ab]
def node8 (n : NodeV) : List Value := [n.va, .string n.p.tgt, n.vb, .int .u64 n.p.wait, .int .u64 n.p.between, .int .u64 n.p.again, .bool n.p.more, .int .i64 n.p.above]
def nodeCh (n : NodeV) : List Chunk := [chRow 68 3 n.va n.p.asks.length (askCells n.p.asks), chRow 9 1 n.vb n.p.bys.length (n.p.bys.map Value.string)]
def toB (k : Nat) : ByteArray := if k % 3 = 0 then ⟨#[111, 112, 115]⟩ else if k % 3 = 1 then ⟨#[109, 101]⟩ else ⟨#[116, 101, 97, 109, 45, 49]⟩
theorem to_at (k : Nat) : (#[Value.string ⟨#[111, 112, 115]⟩, .string ⟨#[109, 101]⟩, .string ⟨#[116, 101, 97, 109, 45, 49]⟩] : Array Value)[k % 3]? = some (.string (toB k)) := by
  unfold toB
  have h : k % 3 = 0 ∨ k % 3 = 1 ∨ k % 3 = 2 := by omega
  rcases h with h | h | h <;> rw [h] <;> rfl
def byAll : List ByteArray := [⟨#[97]⟩, ⟨#[98]⟩, ⟨#[110, 111, 100, 101]⟩, ⟨#[114, 117, 108, 101]⟩]
def byF (n k : Nat) : List ByteArray := match byAll[k]? with
  | some p => if labBit n k = true then [p] else []
  | none => []
def byTo (n k : Nat) : List ByteArray := (List.range k).flatMap (byF n)
theorem byTo_succ (n k : Nat) : byTo n (k + 1) = byTo n k ++ byF n k := by simp [byTo, List.range_succ]
theorem by7len (n k : Nat) : (byF n k).length ≤ 1 := by
  unfold byF
  split
  · split <;> simp
  · simp
theorem byTo_len (n : Nat) : ∀ k, (byTo n k).length ≤ k := by
  intro k
  induction k with
  | zero => simp [byTo]
  | succ k ih => rw [byTo_succ, List.length_append]; have := by7len n k; omega
theorem byAll_at (k : Nat) (h : k < 4) : ∃ p, byAll[k]? = some p ∧ (#[Value.string ⟨#[97]⟩, .string ⟨#[98]⟩, .string ⟨#[110, 111, 100, 101]⟩, .string ⟨#[114, 117, 108, 101]⟩] : Array Value)[k]? = some (.string p) := by
  have h : k = 0 ∨ k = 1 ∨ k = 2 ∨ k = 3 := by omega
  rcases h with rfl | rfl | rfl | rfl <;> exact ⟨_, rfl, rfl⟩
/-- A node that is laid behind others: above which it stands, how deep. -/
def stepN (st : List NodeP × List Nat) (s : SmN) : List NodeP × List Nat :=
  let i := st.1.length
  if i = 0 then (st.1 ++ [⟨[], toB s.tgt, byTo s.bi 4, s.wa % 6, 1 + s.be % 6, 1 + s.be % 6 + s.re % 20, false, -1⟩], st.2 ++ [1])
  else
    let a0 := s.ab % i
    let a := if st.2.getD a0 0 = 8 then 0 else a0
    (st.1 ++ [⟨s.asks.take 2, toB s.tgt, byTo s.bi 4, s.wa % 6, 1 + s.be % 6, 1 + s.be % 6 + s.re % 20, s.mo, a⟩], st.2 ++ [st.2.getD a 0 + 1])
def treeL (l : List SmN) : List NodeP × List Nat := (l.take 12).foldl stepN ([], [])
theorem infoNodeR : (Tryz.prog.info? 50).map (fun i => (i.zero, i.size, i.bytes)) = some (some (.agg #[.slice none 0 0, .string ⟨#[]⟩, .slice none 0 0, .int .u64 0, .int .u64 0, .int .u64 0, .bool false, .int .i64 0]), 8, 104) := by kernel_rfl

theorem infoIntV : (Tryz.prog.info? 3).map (fun i => (i.zero, i.size, i.bytes)) = some (some (.int .i64 0), 1, 8) := by kernel_rfl
def SmN.ok (s : SmN) : Prop := s.tgt < 256 ∧ s.bi < 256 ∧ s.wa < 256 ∧ s.be < 256 ∧ s.re < 256 ∧ s.ab < 256
theorem treeL_succ {l : List SmN} {k : Nat} {s : SmN} (h : l[k]? = some s) (hk : k < 12) : treeL (l.take (k + 1)) = stepN (treeL (l.take k)) s := by
  unfold treeL
  rw [List.take_take, List.take_take, Nat.min_eq_right (by omega), Nat.min_eq_right (by omega), take_snoc h, List.foldl_append]
  rfl
theorem stepN_len (st : List NodeP × List Nat) (s : SmN) (_h : st.2.length = st.1.length) : (stepN st s).1.length = st.1.length + 1 ∧ (stepN st s).2.length = st.2.length + 1 := by
  unfold stepN
  dsimp only
  split <;> simp
theorem treeL_len (l : List SmN) : ∀ k, k ≤ 12 → k ≤ l.length → (treeL (l.take k)).1.length = k ∧ (treeL (l.take k)).2.length = k := by
  intro k
  induction k with
  | zero => intro _ _; simp [treeL]
  | succ k ih =>
    intro h1 h2
    obtain ⟨s, hs⟩ : ∃ s, l[k]? = some s := ⟨_, List.getElem?_eq_getElem (by omega)⟩
    obtain ⟨e1, e2⟩ := ih (by omega) (by omega)
    rw [treeL_succ hs (by omega)]
    have := stepN_len (treeL (l.take k)) s (by rw [e1, e2])
    omega
def depV (l : List Nat) : List Value := l.map fun n => .int .i64 (n : Nat)
theorem treeL_dep (l : List SmN) : ∀ k, k ≤ 12 → k ≤ l.length → ∀ x ∈ (treeL (l.take k)).2, x ≤ k := by
  intro k
  induction k with
  | zero => intro _ _ x hx; simp [treeL] at hx
  | succ k ih =>
    intro h1 h2
    obtain ⟨s, hs⟩ : ∃ s, l[k]? = some s := ⟨_, List.getElem?_eq_getElem (by omega)⟩
    have e := ih (by omega) (by omega)
    rw [treeL_succ hs (by omega)]
    have hd : ∀ i, (treeL (l.take k)).2.getD i 0 ≤ k := by
      intro i
      rw [List.getD_eq_getElem?_getD]
      cases hi : (treeL (l.take k)).2[i]? with
      | none => simp
      | some x => exact e x (List.mem_of_getElem? hi)
    unfold stepN
    dsimp only
    intro x hx
    split at hx
    · rcases List.mem_append.1 hx with hx | hx
      · have := e x hx; omega
      · rw [List.mem_singleton.1 hx]; omega
    · rcases List.mem_append.1 hx with hx | hx
      · have := e x hx; omega
      · rw [List.mem_singleton.1 hx]; have := hd (if (treeL (l.take k)).2.getD (s.ab % (treeL (l.take k)).1.length) 0 = 8 then 0 else s.ab % (treeL (l.take k)).1.length); omega
theorem treeL_12 (l : List SmN) : treeL (l.take 12) = treeL l := by
  unfold treeL
  rw [List.take_take, Nat.min_self]
theorem stepN_root (st : List NodeP × List Nat) (s : SmN) (h : st.1.length = 0) : stepN st s = (st.1 ++ [⟨[], toB s.tgt, byTo s.bi 4, s.wa % 6, 1 + s.be % 6, 1 + s.be % 6 + s.re % 20, false, -1⟩], st.2 ++ [1]) := by
  unfold stepN
  simp only [h, if_true]
theorem stepN_else (st : List NodeP × List Nat) (s : SmN) (k a : Nat) (h : st.1.length = k) (hk : 0 < k) (ha : (if st.2.getD (s.ab % k) 0 = 8 then 0 else s.ab % k) = a) :
    stepN st s = (st.1 ++ [⟨s.asks.take 2, toB s.tgt, byTo s.bi 4, s.wa % 6, 1 + s.be % 6, 1 + s.be % 6 + s.re % 20, s.mo, a⟩], st.2 ++ [st.2.getD a 0 + 1]) := by
  unfold stepN
  simp only [h, if_neg (Nat.ne_of_gt hk), ha]
theorem nodes_snoc (ns : List NodeV) (n : NodeV) : (ns ++ [n]).flatMap nodeCh = ns.flatMap nodeCh ++ [chRow 68 3 n.va n.p.asks.length (askCells n.p.asks)] ++ [chRow 9 1 n.vb n.p.bys.length (n.p.bys.map Value.string)] := by simp [List.flatMap_append, nodeCh]
theorem node8_snoc (ns : List NodeV) (n : NodeV) : (ns ++ [n]).flatMap node8 = ns.flatMap node8 ++ node8 n := by simp [List.flatMap_append]
theorem depV_snoc (l : List Nat) (n : Nat) : depV (l ++ [n]) = depV l ++ [.int .i64 (n : Nat)] := by simp [depV]
theorem depV_at {l : List Nat} {i : Nat} (h : i < l.length) : (depV l)[i]? = some (.int .i64 (l.getD i 0 : Nat)) := by
  unfold depV
  rw [List.getElem?_map, List.getElem?_eq_getElem h, List.getD_eq_getElem?_getD, List.getElem?_eq_getElem h]
  rfl
/-- The node that stands where none is said. -/
def defN : NodeP := ⟨[], ⟨#[111, 112, 115]⟩, [], 1, 2, 5, false, -1⟩
set_option maxHeartbeats 8000000 in
theorem smallNodes (v : Value) (l : List SmN) (w : World) (hr : Rd w 8 v l.length (l.flatMap smn8)) (hok : ∀ s ∈ l, s.ok ∧ Rd w 3 s.v s.asks.length (smallCells s.asks)) :
    Calls Tryz.prog 7 #[v] w fun e w' => ∃ (v' : Value) (ns : List NodeV), e = .returned v' ∧ (l ≠ [] → ns.map (·.p) = (treeL l).1) ∧ (l = [] → ns.map (·.p) = [defN]) ∧ ns.length ≤ 12 ∧ Upd [] w [chRow 50 8 v' ns.length (ns.flatMap node8), chAll (ns.flatMap nodeCh)] w' := by
  obtain ⟨A, c, rfl, h1, h2, h3, h4⟩ := hr
  unfold maxLen at h3
  obtain ⟨i0, hi, hz0, hz1, hz2⟩ := info_parts infoNodeR
  obtain ⟨j0, ji, jz0, jz1, jz2⟩ := info_parts infoStrV
  obtain ⟨n0, ni, nz0, nz1, nz2⟩ := info_parts infoIntV
  obtain ⟨nl, hnl0⟩ : ∃ n, n = l.length := ⟨_, rfl⟩
  rw [← hnl0] at h2 h4 ⊢
  have HL0 := Lib.hid hnl0
  clear hnl0 h1
  go_enter Tryz.func7, Tryz.ntmps7
  go_wp2_with fail
  have T0 : Upd [] w [chRow 50 8 (.slice none 0 0) 0 [], chRow 3 1 (.slice (some ⟨w.heap.size, 0, none⟩) 0 0) 0 [], chAll []] (w.alloc (.cells #[] 3)) := by
    have q : Below w.heap.size w (w.alloc (.cells #[] 3)) := (Below.refl _ _).alloc (Nat.le_refl _) _
    have q1 := ((Upd.nil [] w).allNil).addRow q (e := 3) (size := 1) (v := .slice (some ⟨w.heap.size, 0, none⟩) 0 0) (n := 0) (xs := []) (base := w.heap.size) ⟨rfl, .inr ⟨w.heap.size, 0, #[], rfl, Nat.le_refl _, Blk.new _ _ _, Nat.le_refl _, Nat.zero_le _, rfl, rfl⟩⟩ (Nat.le_refl _)
    exact q1.nilRow 50 8
  go_loopw [3, 4, 14] (fun v dv i wr => ∃ (k : Nat) (ns : List NodeV), k ≤ nl ∧ k ≤ 12 ∧ i = .int .i64 k ∧ ns.map (·.p) = (treeL (l.take k)).1 ∧
    Upd [] w [chRow 50 8 v k (ns.flatMap node8), chRow 3 1 dv k (depV (treeL (l.take k)).2), chAll (ns.flatMap nodeCh)] wr) (fun _ _ i _ => nl - (intOf i).toNat)
  case atStart => exact ⟨0, [], Nat.zero_le _, Nat.zero_le _, rfl, rfl, T0⟩
  case round =>
    obtain ⟨wo, rfl⟩ : ∃ wo, wo = wr := ⟨_, rfl⟩
    obtain ⟨k, ns, hk, hk12, rfl, hns, hS0⟩ := hrel
    clear T0
    have hnlL := HL0.out
    obtain ⟨tl1, tl2⟩ := treeL_len l k hk12 (by omega)
    have htd := treeL_dep l k hk12 (by omega)
    have hnl : ns.length = k := by rw [← tl1, ← hns, List.length_map]
    clear hnlL
    obtain ⟨Av, cv, rfl⟩ := owns_slice (hS0.row 0 rfl)
    obtain ⟨Ad, cd, rfl⟩ := owns_slice (hS0.row 1 rfl)
    have hB := hS0.below
    by_cases hlt : k < nl
    · obtain ⟨s, hs⟩ : ∃ s, l[k]? = some s := ⟨_, List.getElem?_eq_getElem (by rw [← HL0.out]; exact hlt)⟩
      obtain ⟨b, o, rfl, hat⟩ := h4 (by omega)
      obtain ⟨⟨ok1, ok2, ok3, ok4, ok5, ok6⟩, hsr⟩ := hok s (List.mem_of_getElem? hs)
      have e0 := fun j hj => flat_at smn8 8 (fun _ => rfl) l k s hs j hj
      obtain ⟨vs, la, tgt, bi, wa, be, re, mo, ab⟩ := s
      simp only at hsr ok1 ok2 ok3 ok4 ok5 ok6
      obtain ⟨As, cs, rfl, _⟩ := id hsr
      obtain ⟨nA, hnA⟩ : ∃ n, n = la.length := ⟨_, rfl⟩
      have x0 := hat.nth0 hB (k * 8) (.slice As nA cs) (by rw [hnA]; exact e0 0 (by omega))
      have x1 := hat.nth hB (k * 8) 1 (.int .u8 tgt) (e0 1 (by omega))
      have x2 := hat.nth hB (k * 8) 2 (.int .u8 bi) (e0 2 (by omega))
      have x3 := hat.nth hB (k * 8) 3 (.int .u8 wa) (e0 3 (by omega))
      have x4 := hat.nth hB (k * 8) 4 (.int .u8 be) (e0 4 (by omega))
      have x5 := hat.nth hB (k * 8) 5 (.int .u8 re) (e0 5 (by omega))
      have x6 := hat.nth hB (k * 8) 6 (.bool mo) (e0 6 (by omega))
      have x7 := hat.nth hB (k * 8) 7 (.int .u8 ab) (e0 7 (by omega))
      have HTD := Lib.hid htd
      have HTL := Lib.hid tl2
      have HNS := Lib.hid hns
      have HT1 := Lib.hid tl1
      generalize hL2 : (treeL (l.take k)).2 = L2 at hS0
      have HL2 := Lib.hid hL2
      clear htd tl2 hL2 hns tl1
      by_cases h12 : k = 12
      · have h12' : decide ((12 : Int) ≤ (k : Int)) = true := by simp; omega
        have HS1 := (hS0.pick [0, 2] (by decide))
        simp only [List.filterMap_cons, List.filterMap_nil, List.getElem?_cons_succ, List.getElem?_cons_zero] at HS1
        have hnlk := Lib.hid hnl
        have h12h := Lib.hid h12
        have hk0' : ((k : Int) == 0) = false := by simp; omega
        have hz := HS1.grow ((Below.refl wo.heap.size wo).alloc (Nat.le_refl _) (.cells #[.slice As nA cs, .int .u8 tgt, .int .u8 bi, .int .u8 wa, .int .u8 be, .int .u8 re, .bool mo, .int .u8 ab] 59))
        clear hs hnA e0 hat h4 hsr hnl h12
        go_wp2_with fail
        go_ret
        exact ⟨_, ns, rfl, fun _ => by rw [HNS.out, h12h.out, treeL_12], fun h => by have h5 := HL0.out; rw [h] at h5; simp at h5; omega, by rw [hnlk.out]; omega, by rw [hnlk.out]; exact hz⟩
      · have h12' : ¬ (12 : Int) ≤ (k : Int) := by omega
        have h12' : ¬ (12 : Int) ≤ (k : Int) := by omega
        obtain ⟨t3, ht3⟩ : ∃ n, n = tgt % 3 := ⟨_, rfl⟩
        have r1 : (tgt : Int).tmod 3 = (t3 : Int) := by rw [ht3]; rfl
        have hto := ht3 ▸ to_at tgt
        have t3lt : t3 < 3 := by omega
        have u1 : (t3 : Int) < 3 := by omega
        have k1 := fun w' (h : Below w.heap.size w w') => smallAsks (.slice As la.length cs) la 2 w' (hsr.below h) (by omega)
        rw [← hnA] at k1
        have HA := Lib.hid hnA
        have HT := Lib.hid hs
        have HNL := Lib.hid hnl
        generalize hLA : la.take 2 = LA at k1
        have HLA := Lib.hid hLA
        clear ht3 hnA hs hnl hLA e0 hat h4 hsr
        go_wp2_with fail
        obtain ⟨Inv, I0, F, S, Z, HH, K1⟩ : ∃ Inv : World → Prop, Inv (wo.alloc (Obj.cells #[.slice As nA cs, .int .u8 tgt, .int .u8 bi, .int .u8 wa, .int .u8 be, .int .u8 re, .bool mo, .int .u8 ab] 59)).drew ∧
            (∀ w', Inv w' → w'.cell? ⟨wo.heap.size, 0, none⟩ = some (.slice As nA cs) ∧ w'.cell? ⟨wo.heap.size, 1, none⟩ = some (.int .u8 tgt) ∧ w'.cell? ⟨wo.heap.size, 6, none⟩ = some (.bool mo)) ∧
            (∀ w' w'', Inv w' → Below w'.heap.size w' w'' → Inv w'') ∧ (∀ w', Inv w' → wo.heap.size + 1 ≤ w'.heap.size) ∧ (∀ w', Inv w' → Holds wo [(wo.heap.size, #[.slice As nA cs, .int .u8 tgt, .int .u8 bi, .int .u8 wa, .int .u8 be, .int .u8 re, .bool mo, .int .u8 ab], 59)] w') ∧
            (∀ w', Inv w' → Calls Tryz.prog 22 #[.slice As nA cs, .int .i64 2] w' fun e w'' => ∃ v', e = .returned v' ∧ w''.ownsRow w'.heap.size 68 3 v' LA.length (askCells LA) ∧ Below w'.heap.size w' w'') :=
          ⟨Holds wo [(wo.heap.size, #[.slice As nA cs, .int .u8 tgt, .int .u8 bi, .int .u8 wa, .int .u8 be, .int .u8 re, .bool mo, .int .u8 ab], 59)], ((Holds.nil wo).new _ _ _ rfl).drew, fun w' h => ⟨h.cell (.head _) rfl, h.cell (.head _) rfl, h.cell (.head _) rfl⟩, fun w' w'' h hb => h.grow hb, fun w' h => (h.2 _ (.head _)).lt, fun w' h => h, fun w' h => k1 w' (hB.trans (h.1.mono hB.size))⟩
        clear k1
        refine region_free (Inv) [0, 4, 10, 11, 12] [13] [0, 1, 2, 3, 4, 5, 6, 7, 8, 9, 10, 11, 12] (by kernel_rfl) (by kernel_rfl) (by kernel_rfl) (I0) ?_
        repeat (first
          | (refine RelSeq.pure_ (c := ?_) rfl rfl ?_ ?_; rotate_left; (focus (intro x w'; dsimp only; go_simp; (repeat' apply And.intro) <;> first | with_reducible rfl | assumption)); simp only [Act.put, List.setIfInBounds_toArray, List.set_cons_zero, List.set_cons_succ])
          | (refine RelSeq.grow_ (c := ?_) rfl rfl ?_ ?_; rotate_left; (focus (intro x w' hw _; dsimp only; obtain ⟨e0, e1, e6⟩ := F w' hw; have hbr := Below.refl w'.heap.size w'; go_simp; (repeat' apply And.intro) <;> first | with_reducible rfl | assumption)); simp only [Act.put, List.setIfInBounds_toArray, List.set_cons_zero, List.set_cons_succ]))
        refine RelSeq.rel_ (NewSl wo.heap.size 3 #[.string ⟨#[111, 112, 115]⟩, .string ⟨#[109, 101]⟩, .string ⟨#[116, 101, 97, 109, 45, 49]⟩] 9) rfl rfl NewSl.stable ?_ ?_
        focus
          intro x w' hw _; dsimp only
          have hba : Below w'.heap.size w' (w'.alloc (.cells #[.string ⟨#[111, 112, 115]⟩, .string ⟨#[109, 101]⟩, .string ⟨#[116, 101, 97, 109, 45, 49]⟩] 9)) := (Below.refl _ _).alloc (Nat.le_refl _) _
          have hI := S w' _ hw hba
          have hsz0 := Z w' hw
          have hsz := Nat.le_trans (Nat.le_succ wo.heap.size) hsz0
          go_simp
          (repeat' apply And.intro) <;> first | assumption | exact ⟨_, rfl, hsz, Blk.new _ _ _⟩ | exact ⟨_, rfl, hsz0, Blk.new _ _ _⟩
        simp only [Act.put, List.setIfInBounds_toArray, List.set_cons_zero, List.set_cons_succ, List.nil_append]
        repeat (first
          | (refine RelSeq.pure_ (c := ?_) rfl rfl ?_ ?_; rotate_left; (focus (intro x w'; dsimp only; go_simp; (repeat' apply And.intro) <;> first | with_reducible rfl | assumption)); simp only [Act.put, List.setIfInBounds_toArray, List.set_cons_zero, List.set_cons_succ])
          | (refine RelSeq.grow_ (c := ?_) rfl rfl ?_ ?_; rotate_left; (focus (intro x w' hw _; dsimp only; obtain ⟨e0, e1, e6⟩ := F w' hw; have hbr := Below.refl w'.heap.size w'; go_simp; (repeat' apply And.intro) <;> first | with_reducible rfl | assumption)); simp only [Act.put, List.setIfInBounds_toArray, List.set_cons_zero, List.set_cons_succ]))
        refine RelSeq.rel_ (NewPt wo.heap.size t3 #[.string ⟨#[111, 112, 115]⟩, .string ⟨#[109, 101]⟩, .string ⟨#[116, 101, 97, 109, 45, 49]⟩] 9) rfl rfl NewPt.stable ?_ ?_
        focus
          intro x w' hw hf; dsimp only
          obtain ⟨b, e, hb0, hB⟩ := hf _ (.head _) (by kernel_rfl)
          have hbr := Below.refl w'.heap.size w'
          go_simp
          (repeat' apply And.intro) <;> first | assumption | exact ⟨b, rfl, hb0, hB⟩
        simp only [Act.put, List.setIfInBounds_toArray, List.set_cons_zero, List.set_cons_succ, List.nil_append, List.cons_append]
        refine RelSeq.grow_ (c := ?_) rfl rfl ?_ ?_; rotate_left
        focus
          intro x w' hw hf; dsimp only
          obtain ⟨b, e, hb0, hB⟩ := hf _ (.tail _ (.head _)) (by kernel_rfl)
          have c0 := hB.cell (hto)
          clear hB
          have hbr := Below.refl w'.heap.size w'
          go_simp
          (repeat' apply And.intro) <;> first | with_reducible rfl | assumption
        simp only [Act.put, List.setIfInBounds_toArray, List.set_cons_zero, List.set_cons_succ]
        repeat (first
          | (refine RelSeq.pure_ (c := ?_) rfl rfl ?_ ?_; rotate_left; (focus (intro x w'; dsimp only; go_simp; (repeat' apply And.intro) <;> first | with_reducible rfl | assumption)); simp only [Act.put, List.setIfInBounds_toArray, List.set_cons_zero, List.set_cons_succ])
          | (refine RelSeq.grow_ (c := ?_) rfl rfl ?_ ?_; rotate_left; (focus (intro x w' hw _; dsimp only; obtain ⟨e0, e1, e6⟩ := F w' hw; have hbr := Below.refl w'.heap.size w'; go_simp; (repeat' apply And.intro) <;> first | with_reducible rfl | assumption)); simp only [Act.put, List.setIfInBounds_toArray, List.set_cons_zero, List.set_cons_succ]))
        refine RelSeq.rel_ (fun v u => u.ownsRow wo.heap.size 68 3 v LA.length (askCells LA)) rfl rfl (fun v u u' h hb => owns_below h hb) ?_ ?_
        focus
          intro x w' hw _; dsimp only
          have hsz0 := Z w' hw
          have hsz := Nat.le_trans (Nat.le_succ wo.heap.size) hsz0
          go_simp
          (with_reducible refine (K1 w' hw).mono ?_)
          rintro e w2 ⟨v2, rfl, hv2, hb2⟩
          have hI := S w' w2 hw hb2
          have hv3 := owns_mono hv2 hsz
          go_simp
          (repeat' apply And.intro) <;> first | rfl | assumption
        simp only [Act.put, List.setIfInBounds_toArray, List.set_cons_zero, List.set_cons_succ, List.nil_append, List.cons_append]
        repeat (first
          | (refine RelSeq.pure_ (c := ?_) rfl rfl ?_ ?_; rotate_left; (focus (intro x w'; dsimp only; go_simp; (repeat' apply And.intro) <;> first | with_reducible rfl | assumption)); simp only [Act.put, List.setIfInBounds_toArray, List.set_cons_zero, List.set_cons_succ])
          | (refine RelSeq.grow_ (c := ?_) rfl rfl ?_ ?_; rotate_left; (focus (intro x w' hw _; dsimp only; obtain ⟨e0, e1, e6⟩ := F w' hw; have hbr := Below.refl w'.heap.size w'; go_simp; (repeat' apply And.intro) <;> first | with_reducible rfl | assumption)); simp only [Act.put, List.setIfInBounds_toArray, List.set_cons_zero, List.set_cons_succ]))
        refine RelSeq.rel_ (fun v u => ∃ B1 d1, v = .agg #[.slice B1 LA.length d1, .string (toB tgt), .slice none 0 0, .int .u64 0, .int .u64 0, .int .u64 0, .bool mo, .int .i64 (-1)] ∧ u.ownsRow wo.heap.size 68 3 (.slice B1 LA.length d1) LA.length (askCells LA)) rfl rfl (fun v u u' ⟨B1, d1, h1, h2⟩ hb => ⟨B1, d1, h1, owns_below h2 hb⟩) ?_ ?_
        focus
          intro x w' hw hf; dsimp only
          have g1 : w'.ownsRow wo.heap.size 68 3 (x 10) LA.length (askCells LA) := hf _ (.tail _ (.tail _ (.head _))) (by kernel_rfl)
          obtain ⟨B1, d1, e1⟩ := owns_slice g1
          rw [e1] at g1
          have hbr := Below.refl w'.heap.size w'
          go_simp
          (repeat' apply And.intro) <;> first | assumption | exact ⟨B1, d1, ⟨rfl, rfl⟩, g1⟩ | exact ⟨B1, d1, rfl, g1⟩
        simp only [Act.put, List.setIfInBounds_toArray, List.set_cons_zero, List.set_cons_succ, List.nil_append, List.cons_append]
        refine RelSeq.rel_ (NewPt (wo.heap.size + 1) 0 #[.slice none 0 0, .string ⟨#[]⟩, .slice none 0 0, .int .u64 0, .int .u64 0, .int .u64 0, .bool false, .int .i64 0] 50) rfl rfl NewPt.stable ?_ ?_
        focus
          intro x w' hw _; dsimp only
          have hba : Below w'.heap.size w' (w'.alloc (.cells #[.slice none 0 0, .string ⟨#[]⟩, .slice none 0 0, .int .u64 0, .int .u64 0, .int .u64 0, .bool false, .int .i64 0] 50)) := (Below.refl _ _).alloc (Nat.le_refl _) _
          have hI := S w' _ hw hba
          have hsz0 := Z w' hw
          have hsz := Nat.le_trans (Nat.le_succ wo.heap.size) hsz0
          go_simp
          (repeat' apply And.intro) <;> first | assumption | exact ⟨_, rfl, hsz, Blk.new _ _ _⟩ | exact ⟨_, rfl, hsz0, Blk.new _ _ _⟩
        simp only [Act.put, List.setIfInBounds_toArray, List.set_cons_zero, List.set_cons_succ, List.nil_append, List.cons_append]
        refine RelSeq.nil_ fun x w1 hw hf => ?_
        obtain ⟨B1, d1, e6, g1⟩ := hf _ (.tail _ (.tail _ (.tail _ (.head _))))
        obtain ⟨bb, e7, hb0, hBn⟩ := hf _ (.tail _ (.tail _ (.tail _ (.tail _ (.head _)))))
        have hH := HH w1 hw
        have hbw : wo.heap.size ≠ bb := by omega
        have hb1 : wo.heap.size ≤ bb := by omega
        have hBs := hH.2 _ (.head _)
        have hbl := hH.1
        clear hf F S Z HH hw hH K1 hto
        refine TailSeq.cons_ rfl ?_
        have p0 := hBn.cell (j := 0) rfl
        have p1 := hBn.cell (j := 1) rfl
        have p2 := hBn.cell (j := 2) rfl
        have p3 := hBn.cell (j := 3) rfl
        have p4 := hBn.cell (j := 4) rfl
        have p5 := hBn.cell (j := 5) rfl
        have p6 := hBn.cell (j := 6) rfl
        have p7 := hBn.cell (j := 7) rfl
        have f0 := hBn.frozen
        dsimp only at hBs ⊢
        go_simp
        refine TailSeq.nil_gen fun w2 hw2 => ?_
        have hB2 : Blk w2 bb #[.slice B1 LA.length d1, .string (toB tgt), .slice none 0 0, .int .u64 0, .int .u64 0, .int .u64 0, .bool mo, .int .i64 (-1)] 50 := by
          rw [hw2]
          have := ((((((((hBn.set_ 0 (.slice B1 LA.length d1)).set_ 1 (.string (toB tgt))).set_ 2 (.slice none 0 0)).set_ 3 (.int .u64 0)).set_ 4 (.int .u64 0)).set_ 5 (.int .u64 0)).set_ 6 (.bool mo)).set_ 7 (.int .i64 (-1)))
          simpa using this
        have hbut : But bb w1 w2 := by rw [hw2]; exact ((((((((But.refl bb w1).put 0 _).put 1 _).put 2 _).put 3 _).put 4 _).put 5 _).put 6 _).put 7 _
        have hb2 := hbut.below hbl (Nat.le_refl _) hb1
        have g1' := owns_but g1 hBn hbut (by decide)
        have hS2 := hBs.but hbut hbw
        have U0 := Upd.of_below hb2
        have U1 := U0.moreBlk hS2 (Nat.le_refl _) (fun d hd => nomatch hd)
        have U2 := U1.moreRow g1' (Nat.le_refl _) (fun d hd b hb => by
          rw [List.mem_singleton.1 hd, chBlk_fp] at hb
          rw [hb]; exact owns_ne g1' hS2 (by decide))
        have U3 := U2.moreBlk hB2 hb1 (fun d hd hb => by
          rcases List.mem_cons.1 hd with rfl | hd
          · exact owns_ne g1' hB2 (by decide) (chRow_fp.1 hb).symm
          · rw [List.mem_singleton.1 hd, chBlk_fp] at hb
            exact hbw hb.symm)
        have T2 := hS0.call U3
        simp only [List.cons_append, List.nil_append] at T2
        clear hw2 hBn hbut hbl g1 hBs f0 p0 p1 p2 p3 p4 p5 p6 p7 r1 U0 U1 U2 U3 hb2 g1' hB2 hS2 hS0 hb1
        obtain ⟨w6, hw6⟩ : ∃ n, n = wa % 6 := ⟨_, rfl⟩
        obtain ⟨b6, hb6⟩ : ∃ n, n = be % 6 := ⟨_, rfl⟩
        obtain ⟨r20, hr20⟩ : ∃ n, n = re % 20 := ⟨_, rfl⟩
        have m1 : (wa : Int).tmod 6 = (w6 : Int) := by rw [hw6]; rfl
        have m2 : (be : Int).tmod 6 = (b6 : Int) := by rw [hb6]; rfl
        have m3 : (re : Int).tmod 20 = (r20 : Int) := by rw [hr20]; rfl
        have q1 : IntKind.u64.wrap (w6 : Int) = (w6 : Int) := by rw [IntKind.wrap_u64]; omega
        have q2 : IntKind.u64.wrap (b6 : Int) = (b6 : Int) := by rw [IntKind.wrap_u64]; omega
        have q3 : IntKind.u64.wrap (1 + (b6 : Int)) = 1 + (b6 : Int) := by rw [IntKind.wrap_u64]; omega
        have q4 : IntKind.u64.wrap (r20 : Int) = (r20 : Int) := by rw [IntKind.wrap_u64]; omega
        have q5 : IntKind.u64.wrap (1 + (b6 : Int) + (r20 : Int)) = 1 + (b6 : Int) + (r20 : Int) := by rw [IntKind.wrap_u64]; omega
        have HW6 := Lib.hid hw6
        have HB6 := Lib.hid hb6
        have HR20 := Lib.hid hr20
        clear hw6 hb6 hr20
        have hbw' : ¬ bb = wo.heap.size := fun h => hbw h.symm
        have s3 := (T2.blk 2 rfl).cell (j := 3) (v := .int .u8 wa) rfl
        have s4 := (T2.blk 2 rfl).cell (j := 4) (v := .int .u8 be) rfl
        have p3 := (T2.blk 0 rfl).cell (j := 3) (v := .int .u64 0) rfl
        have p4 := (T2.blk 0 rfl).cell (j := 4) (v := .int .u64 0) rfl
        have f0 := (T2.blk 0 rfl).frozen
        go_wp2_with fail
        go_region
        generalize hw3 : ((w2.setCell ⟨bb, 3, none⟩ (.int .u64 w6)).setCell ⟨bb, 4, none⟩ (.int .u64 (1 + (b6 : Int)))).drew = w3
        have T3 := (((T2.put 0 rfl 3 (.int .u64 w6)).put 0 rfl 4 (.int .u64 (1 + (b6 : Int)))).drew).same hw3.symm
        simp only [List.setIfInBounds_toArray, List.set_cons_succ, List.set_cons_zero, List.eraseIdx_cons_zero] at T3
        clear hw3 s3 s4 p3 p4 f0 T2
        have s5 := (T3.blk 2 rfl).cell (j := 5) (v := .int .u8 re) rfl
        have p4 := (T3.blk 0 rfl).cell (j := 4) (v := .int .u64 (1 + (b6 : Int))) rfl
        have p5 := (T3.blk 0 rfl).cell (j := 5) (v := .int .u64 0) rfl
        have f0 := (T3.blk 0 rfl).frozen
        have T5 := (T3.put 0 rfl 5 (.int .u64 (1 + (b6 : Int) + (r20 : Int)))).alloc #[.string ⟨#[97]⟩, .string ⟨#[98]⟩, .string ⟨#[110, 111, 100, 101]⟩, .string ⟨#[114, 117, 108, 101]⟩] 9
        simp only [List.setIfInBounds_toArray, List.set_cons_succ, List.set_cons_zero, List.eraseIdx_cons_zero] at T5
        rw [World.size_setCell] at T5
        have T6 := T5.nilRow 9 1
        clear T3 T5
        go_wp2_with fail
        go_loopw [58] (fun i wq => ∃ (j : Nat) (ev : Value), j ≤ 4 ∧ i = .int .i64 j ∧ Upd [] w [chRow 9 1 ev (byTo bi j).length ((byTo bi j).map Value.string), chBlk w3.heap.size #[.string ⟨#[97]⟩, .string ⟨#[98]⟩, .string ⟨#[110, 111, 100, 101]⟩, .string ⟨#[114, 117, 108, 101]⟩] 9, chBlk bb #[.slice B1 LA.length d1, .string (toB tgt), ev, .int .u64 (w6 : Nat), .int .u64 (1 + (b6 : Int)), .int .u64 (1 + (b6 : Int) + (r20 : Int)), .bool mo, .int .i64 (-1)] 50, chRow 68 3 (.slice B1 LA.length d1) LA.length (askCells LA), chBlk wo.heap.size #[.slice As nA cs, .int .u8 tgt, .int .u8 bi, .int .u8 wa, .int .u8 be, .int .u8 re, .bool mo, .int .u8 ab] 59, chRow 50 8 (.slice Av k cv) k (ns.flatMap node8), chRow 3 1 (.slice Ad k cd) k (depV L2), chAll (ns.flatMap nodeCh)] wq) (fun i _ => 4 - (intOf i).toNat)
        case atStart => exact ⟨0, _, Nat.zero_le _, rfl, T6⟩
        case round =>
          obtain ⟨j, ev, hj, rfl, T7⟩ := hrel
          clear T6 s5 p4 p5 f0
          obtain ⟨Ae, ce, rfl⟩ := owns_slice (T7.row 0 rfl)
          by_cases hlj : j < 4
          · obtain ⟨p, hp, hpc⟩ := byAll_at j hlj
            have c0 := (T7.blk 1 rfl).cell hpc
            have s2 := (T7.blk 4 rfl).cell (j := 2) (v := .int .u8 bi) rfl
            have hlen := byTo_len bi j
            have hs0 := byTo_succ bi j
            have hf0 : byF bi j = if labBit bi j = true then [p] else [] := by unfold byF; rw [hp]
            rw [hf0] at hs0
            generalize byTo bi j = L at T7 hlen hs0 ⊢
            clear hp hpc hf0
            cases hbit : labBit bi j with
            | true =>
              rw [hbit, if_pos rfl] at hs0
              have hbit' : (bits BinOp.and IntKind.u8 ((bi : Int) / 2 ^ j) 1 == 1) = true := hbit
              have p2 := (T7.blk 2 rfl).cell (j := 2) (v := .slice Ae L.length ce) rfl
              have HE := Lib.hid hs0
              clear hbit hs0
              go_wp2_with (at_builtin; refine wpl_stop fun W hW => ?_)
              refine Stopped.mk ?_
              have T8 := (T7.alloc #[.string p] 9).same hW
              clear hW T7
              refine wpl_append_rd rfl (.tmp 70) (.tmp 72) 46 rfl 0 9 j0 _ 1 16 Tryz.underlying46 ji jz0 jz1 jz2 rfl (by decide) _ L.length _ rfl (T8.row 1 rfl) _ 1 _ rfl (rd_one (T8.blk 0 rfl) (n := 1) rfl) (by intro u hu; simp at hu; subst hu; rfl) (by unfold maxLen; omega) (by omega) (Nat.zero_le _) fun v4 w4 hown4 hgr4 hv4 => ?_
              have T9 := T8.app 1 rfl hown4 hgr4 hv4
              simp only [List.eraseIdx_cons_succ, List.eraseIdx_cons_zero] at T9
              obtain ⟨A4, c4, rfl⟩ := owns_slice hown4
              clear hown4 hgr4 hv4 T8 c0 s2 p2
              have p2 := (T9.blk 3 rfl).cell (j := 2) (v := .slice Ae L.length ce) rfl
              have f0 := (T9.blk 3 rfl).frozen
              have T10 := (T9.put 3 rfl 2 (.slice A4 (L.length + 1) c4)).pick [1, 3, 0, 4, 5, 6, 7, 8] (by decide)
              simp only [List.setIfInBounds_toArray, List.set_cons_succ, List.set_cons_zero, List.eraseIdx_cons_succ, List.eraseIdx_cons_zero] at T10
              simp only [List.filterMap_cons, List.filterMap_nil, List.getElem?_cons_succ, List.getElem?_cons_zero] at T10
              clear T9
              go_wp2_with fail
              go_roundw
              case rel => exact ⟨j + 1, _, by omega, by go_num, by rw [HE.out, List.length_append, List.map_append]; exact T10⟩
              case measure => simp [intOf]; omega
            | false =>
              rw [hbit, if_neg (by decide), List.append_nil] at hs0
              have hbit' : (bits BinOp.and IntKind.u8 ((bi : Int) / 2 ^ j) 1 == 1) = false := hbit
              have HE := Lib.hid hs0
              clear hbit hs0
              go_wp2_with fail
              go_roundw
              case rel => exact ⟨j + 1, _, by omega, by go_num, by rw [HE.out]; exact T7⟩
              case measure => simp [intOf]; omega
          · obtain rfl : j = 4 := by omega
            have y0 := (T7.blk 2 rfl).cell (j := 0) (v := .slice B1 LA.length d1) rfl
            have y1 := (T7.blk 2 rfl).cell (j := 1) (v := .string (toB tgt)) rfl
            have y2 := (T7.blk 2 rfl).cell (j := 2) (v := .slice Ae (byTo bi 4).length ce) rfl
            have y3 := (T7.blk 2 rfl).cell (j := 3) (v := .int .u64 (w6 : Nat)) rfl
            have y4 := (T7.blk 2 rfl).cell (j := 4) (v := .int .u64 (1 + (b6 : Int))) rfl
            have y5 := (T7.blk 2 rfl).cell (j := 5) (v := .int .u64 (1 + (b6 : Int) + (r20 : Int))) rfl
            have y6 := (T7.blk 2 rfl).cell (j := 6) (v := .bool mo) rfl
            have y7 := (T7.blk 2 rfl).cell (j := 7) (v := .int .i64 (-1)) rfl
            have f0 := (T7.blk 2 rfl).frozen
            by_cases hk0 : k = 0
            · have hk0' : ((k : Int) == 0) = true := by simp [hk0]
              have HK := Lib.hid hk0
              clear hk0
              go_wp2_with (at_builtin; refine wpl_stop fun W hW => ?_)
              refine Stopped.mk ?_
              have T8 := (((T7.put 2 rfl 6 (.bool false)).put 0 rfl 0 (.slice none 0 0)).alloc #[.slice none 0 0, .string (toB tgt), .slice Ae (byTo bi 4).length ce, .int .u64 (w6 : Nat), .int .u64 (1 + (b6 : Int)), .int .u64 (1 + (b6 : Int) + (r20 : Int)), .bool false, .int .i64 (-1)] 50)
              simp only [List.setIfInBounds_toArray, List.set_cons_succ, List.set_cons_zero, List.eraseIdx_cons_succ, List.eraseIdx_cons_zero] at T8
              rw [World.size_setCell, World.size_setCell] at T8
              have T9 := T8.same hW
              clear hW T7 T8 y0 y1 y2 y3 y4 y5 y6 y7 f0
              refine wpl_append_rd rfl (.tmp 99) (.tmp 101) 25 rfl 0 50 i0 _ 8 104 Tryz.underlying25 hi hz0 hz1 hz2 rfl (by decide) _ k _ rfl (T9.row 6 rfl) _ 1 _ rfl (rd_one (T9.blk 0 rfl) (n := 8) rfl) (by intro u hu; simp at hu; rcases hu with rfl | rfl | rfl | rfl | rfl | rfl | rfl | rfl <;> rfl) (by unfold maxLen; omega) (by omega) (Nat.zero_le _) fun v4 w4 hown4 hgr4 hv4 => ?_
              have T10 := T9.app 6 rfl hown4 hgr4 hv4
              simp only [List.eraseIdx_cons_succ, List.eraseIdx_cons_zero] at T10
              obtain ⟨A4, c4, rfl⟩ := owns_slice hown4
              clear hown4 hgr4 hv4 T9
              go_wp2_with (at_builtin; refine wpl_stop fun W2 hW2 => ?_)
              refine Stopped.mk ?_
              have T11 := (T10.alloc #[.int .i64 1] 3).same hW2
              clear hW2 T10
              refine wpl_append_rd rfl (.tmp 103) (.tmp 105) 39 rfl 0 3 n0 _ 1 8 Tryz.underlying39 ni nz0 nz1 nz2 rfl (by decide) _ k _ rfl (T11.row 8 rfl) _ 1 _ rfl (rd_one (T11.blk 0 rfl) (n := 1) rfl) (by intro u hu; simp at hu; subst hu; rfl) (by unfold maxLen; omega) (by omega) (Nat.zero_le _) fun v5 w5 hown5 hgr5 hv5 => ?_
              have T12 := T11.app 8 rfl hown5 hgr5 hv5
              simp only [List.eraseIdx_cons_succ, List.eraseIdx_cons_zero] at T12
              obtain ⟨A5, c5, rfl⟩ := owns_slice hown5
              clear hown5 hgr5 hv5 T11
              have T13 := (T12.nilRow 68 3).pick [0, 10, 6, 3, 1] (by decide)
              simp only [List.filterMap_cons, List.filterMap_nil, List.getElem?_cons_succ, List.getElem?_cons_zero] at T13
              have T14 := (T13.intoAll.pick [1, 0, 2, 3] (by decide))
              simp only [List.filterMap_cons, List.filterMap_nil, List.getElem?_cons_succ, List.getElem?_cons_zero] at T14
              have T15 := (T14.intoAll.pick [1, 2, 0] (by decide))
              simp only [List.filterMap_cons, List.filterMap_nil, List.getElem?_cons_succ, List.getElem?_cons_zero] at T15
              clear T12 T13 T14
              go_wp2_with fail
              go_roundw
              case rel =>
                have hst := (treeL_succ HT.out (by omega)).trans (stepN_root _ _ (by rw [HT1.out, HK.out]))
                refine ⟨k + 1, ns ++ [⟨⟨[], toB tgt, byTo bi 4, w6, 1 + b6, 1 + b6 + r20, false, -1⟩, .slice none 0 0, .slice Ae (byTo bi 4).length ce⟩], by omega, by omega, by go_num, ?_, ?_⟩
                · rw [hst, List.map_append, HNS.out]
                  simp only [List.map_cons, List.map_nil, HW6.out, HB6.out, HR20.out]
                · rw [hst, depV_snoc, nodes_snoc, node8_snoc, HL2.out]
                  exact T15
              case measure => simp [intOf]; omega
            · have hk0' : ((k : Int) == 0) = false := by simp; omega
              have hkp : 0 < k := by omega
              obtain ⟨a0, ha0⟩ : ∃ a, a = ab % k := ⟨_, rfl⟩
              have ha0k : a0 < k := by rw [ha0]; exact Nat.mod_lt _ hkp
              have m4 : (ab : Int).tmod (k : Int) = (a0 : Int) := by rw [ha0]; rfl
              have hL2l : L2.length = k := by rw [← HL2.out]; exact HTL.out
              obtain ⟨dA, hdA⟩ : ∃ d, d = L2.getD a0 0 := ⟨_, rfl⟩
              obtain ⟨dZ, hdZ⟩ : ∃ d, d = L2.getD 0 0 := ⟨_, rfl⟩
              have hdb : ∀ i, L2.getD i 0 ≤ 12 := by
                intro i
                rw [List.getD_eq_getElem?_getD]
                cases hi : L2[i]? with
                | none => simp
                | some x => have := HTD.out x (by rw [HL2.out]; exact List.mem_of_getElem? hi); show x ≤ 12; omega
              have hdA12 : dA ≤ 12 := by rw [hdA]; exact hdb a0
              have hdZ12 : dZ ≤ 12 := by rw [hdZ]; exact hdb 0
              have hrow := rd_of_owns (T7.row 6 rfl)
              obtain ⟨bD, oD, hAD, zA, zZ⟩ : ∃ b o, Ad = some ⟨b, o, none⟩ ∧ wr.cell? ⟨b, o + a0, none⟩ = some (.int .i64 (dA : Nat)) ∧ wr.cell? ⟨b, o, none⟩ = some (.int .i64 (dZ : Nat)) := by
                obtain ⟨_, _, he, _, _, _, h4⟩ := hrow
                cases he
                obtain ⟨b, o, hA, hat⟩ := h4 hkp
                refine ⟨b, o, hA, hat a0 _ (by rw [hdA]; exact depV_at (by omega)), ?_⟩
                have := hat 0 _ (depV_at (l := L2) (i := 0) (by omega))
                rw [hdZ]
                rwa [Nat.add_zero] at this
              have hne : bD ≠ bb := by
                rintro rfl
                exact T7.apartAt 2 6 (by decide) rfl rfl bD (chBlk_fp.2 rfl) (chRow_fp.2 (by rw [hAD]; rfl))
              subst hAD
              have HA0 := Lib.hid ha0
              have HDA := Lib.hid hdA
              have HDZ := Lib.hid hdZ
              have HLL := Lib.hid hL2l
              have s7 := (T7.blk 4 rfl).cell (j := 7) (v := .int .u8 ab) rfl
              have hsb : ¬ wo.heap.size = bb := hbw
              clear ha0 hdA hdZ hL2l hrow hdb hk0
              by_cases h8 : dA = 8
              · have h8' : ((dA : Int) == 8) = true := by simp [h8]
                have H8 := Lib.hid h8
                clear h8
                go_wp2_with (at_builtin; refine wpl_stop fun W hW => ?_)
                refine Stopped.mk ?_
                have T8 := ((T7.put 2 rfl 7 (.int .i64 a0)).put 0 rfl 7 (.int .i64 0)).alloc #[.slice B1 LA.length d1, .string (toB tgt), .slice Ae (byTo bi 4).length ce, .int .u64 (w6 : Nat), .int .u64 (1 + (b6 : Int)), .int .u64 (1 + (b6 : Int) + (r20 : Int)), .bool mo, .int .i64 0] 50
                simp only [List.setIfInBounds_toArray, List.set_cons_succ, List.set_cons_zero, List.eraseIdx_cons_succ, List.eraseIdx_cons_zero] at T8
                rw [World.size_setCell, World.size_setCell] at T8
                have T9 := T8.same hW
                clear hW T7 T8 y0 y1 y2 y3 y4 y5 y6 y7 f0 zA zZ s7
                refine wpl_append_rd rfl (.tmp 99) (.tmp 101) 25 rfl 0 50 i0 _ 8 104 Tryz.underlying25 hi hz0 hz1 hz2 rfl (by decide) _ k _ rfl (T9.row 6 rfl) _ 1 _ rfl (rd_one (T9.blk 0 rfl) (n := 8) rfl) (by intro u hu; simp at hu; rcases hu with rfl | rfl | rfl | rfl | rfl | rfl | rfl | rfl <;> rfl) (by unfold maxLen; omega) (by omega) (Nat.zero_le _) fun v4 w4 hown4 hgr4 hv4 => ?_
                have T10 := T9.app 6 rfl hown4 hgr4 hv4
                simp only [List.eraseIdx_cons_succ, List.eraseIdx_cons_zero] at T10
                obtain ⟨A4, c4, rfl⟩ := owns_slice hown4
                clear hown4 hgr4 hv4 T9
                go_wp2_with (at_builtin; refine wpl_stop fun W2 hW2 => ?_)
                refine Stopped.mk ?_
                have T11 := (T10.alloc #[.int .i64 (dZ + 1)] 3).same hW2
                clear hW2 T10
                refine wpl_append_rd rfl (.tmp 103) (.tmp 105) 39 rfl 0 3 n0 _ 1 8 Tryz.underlying39 ni nz0 nz1 nz2 rfl (by decide) _ k _ rfl (T11.row 8 rfl) _ 1 _ rfl (rd_one (T11.blk 0 rfl) (n := 1) rfl) (by intro u hu; simp at hu; subst hu; rfl) (by unfold maxLen; omega) (by omega) (Nat.zero_le _) fun v5 w5 hown5 hgr5 hv5 => ?_
                have T12 := T11.app 8 rfl hown5 hgr5 hv5
                simp only [List.eraseIdx_cons_succ, List.eraseIdx_cons_zero] at T12
                obtain ⟨A5, c5, rfl⟩ := owns_slice hown5
                clear hown5 hgr5 hv5 T11
                have T13 := T12.pick [7, 9, 5, 2, 0] (by decide)
                simp only [List.filterMap_cons, List.filterMap_nil, List.getElem?_cons_succ, List.getElem?_cons_zero] at T13
                have T14 := (T13.intoAll.pick [1, 0, 2, 3] (by decide))
                simp only [List.filterMap_cons, List.filterMap_nil, List.getElem?_cons_succ, List.getElem?_cons_zero] at T14
                have T15 := (T14.intoAll.pick [1, 2, 0] (by decide))
                simp only [List.filterMap_cons, List.filterMap_nil, List.getElem?_cons_succ, List.getElem?_cons_zero] at T15
                clear T12 T13 T14
                go_wp2_with fail
                go_roundw
                case rel =>
                  have hst := (treeL_succ HT.out (by omega)).trans (stepN_else _ _ k 0 HT1.out hkp (by simp only [HL2.out, ← HA0.out, ← HDA.out, H8.out]; rfl))
                  refine ⟨k + 1, ns ++ [⟨⟨LA, toB tgt, byTo bi 4, w6, 1 + b6, 1 + b6 + r20, mo, ((0 : Nat) : Int)⟩, .slice B1 LA.length d1, .slice Ae (byTo bi 4).length ce⟩], by omega, by omega, by go_num, ?_, ?_⟩
                  · rw [hst, List.map_append, HNS.out]
                    simp only [List.map_cons, List.map_nil, HW6.out, HB6.out, HR20.out, HLA.out]
                  · rw [hst, depV_snoc, nodes_snoc, node8_snoc, HL2.out, ← HDZ.out]
                    exact T15
                case measure => simp [intOf]; omega
              · have h8' : ((dA : Int) == 8) = false := by simp; omega
                have H8 := Lib.hid h8
                clear h8
                go_wp2_with (at_builtin; refine wpl_stop fun W hW => ?_)
                refine Stopped.mk ?_
                have T8 := (T7.put 2 rfl 7 (.int .i64 a0)).alloc #[.slice B1 LA.length d1, .string (toB tgt), .slice Ae (byTo bi 4).length ce, .int .u64 (w6 : Nat), .int .u64 (1 + (b6 : Int)), .int .u64 (1 + (b6 : Int) + (r20 : Int)), .bool mo, .int .i64 a0] 50
                simp only [List.setIfInBounds_toArray, List.set_cons_succ, List.set_cons_zero, List.eraseIdx_cons_succ, List.eraseIdx_cons_zero] at T8
                rw [World.size_setCell] at T8
                have T9 := T8.same hW
                clear hW T7 T8 y0 y1 y2 y3 y4 y5 y6 y7 f0 zA zZ s7
                refine wpl_append_rd rfl (.tmp 99) (.tmp 101) 25 rfl 0 50 i0 _ 8 104 Tryz.underlying25 hi hz0 hz1 hz2 rfl (by decide) _ k _ rfl (T9.row 6 rfl) _ 1 _ rfl (rd_one (T9.blk 0 rfl) (n := 8) rfl) (by intro u hu; simp at hu; rcases hu with rfl | rfl | rfl | rfl | rfl | rfl | rfl | rfl <;> rfl) (by unfold maxLen; omega) (by omega) (Nat.zero_le _) fun v4 w4 hown4 hgr4 hv4 => ?_
                have T10 := T9.app 6 rfl hown4 hgr4 hv4
                simp only [List.eraseIdx_cons_succ, List.eraseIdx_cons_zero] at T10
                obtain ⟨A4, c4, rfl⟩ := owns_slice hown4
                clear hown4 hgr4 hv4 T9
                go_wp2_with (at_builtin; refine wpl_stop fun W2 hW2 => ?_)
                refine Stopped.mk ?_
                have T11 := (T10.alloc #[.int .i64 (dA + 1)] 3).same hW2
                clear hW2 T10
                refine wpl_append_rd rfl (.tmp 103) (.tmp 105) 39 rfl 0 3 n0 _ 1 8 Tryz.underlying39 ni nz0 nz1 nz2 rfl (by decide) _ k _ rfl (T11.row 8 rfl) _ 1 _ rfl (rd_one (T11.blk 0 rfl) (n := 1) rfl) (by intro u hu; simp at hu; subst hu; rfl) (by unfold maxLen; omega) (by omega) (Nat.zero_le _) fun v5 w5 hown5 hgr5 hv5 => ?_
                have T12 := T11.app 8 rfl hown5 hgr5 hv5
                simp only [List.eraseIdx_cons_succ, List.eraseIdx_cons_zero] at T12
                obtain ⟨A5, c5, rfl⟩ := owns_slice hown5
                clear hown5 hgr5 hv5 T11
                have T13 := T12.pick [7, 9, 5, 2, 0] (by decide)
                simp only [List.filterMap_cons, List.filterMap_nil, List.getElem?_cons_succ, List.getElem?_cons_zero] at T13
                have T14 := (T13.intoAll.pick [1, 0, 2, 3] (by decide))
                simp only [List.filterMap_cons, List.filterMap_nil, List.getElem?_cons_succ, List.getElem?_cons_zero] at T14
                have T15 := (T14.intoAll.pick [1, 2, 0] (by decide))
                simp only [List.filterMap_cons, List.filterMap_nil, List.getElem?_cons_succ, List.getElem?_cons_zero] at T15
                clear T12 T13 T14
                go_wp2_with fail
                go_roundw
                case rel =>
                  have hst := (treeL_succ HT.out (by omega)).trans (stepN_else _ _ k a0 HT1.out hkp (by simp only [HL2.out, ← HA0.out, ← HDA.out]; exact if_neg H8.out))
                  refine ⟨k + 1, ns ++ [⟨⟨LA, toB tgt, byTo bi 4, w6, 1 + b6, 1 + b6 + r20, mo, ((a0 : Nat) : Int)⟩, .slice B1 LA.length d1, .slice Ae (byTo bi 4).length ce⟩], by omega, by omega, by go_num, ?_, ?_⟩
                  · rw [hst, List.map_append, HNS.out]
                    simp only [List.map_cons, List.map_nil, HW6.out, HB6.out, HR20.out, HLA.out]
                  · rw [hst, depV_snoc, nodes_snoc, node8_snoc, HL2.out, ← HDA.out]
                    exact T15
                case measure => simp [intOf]; omega
    · obtain rfl : k = nl := by omega
      have hkk : decide ((k : Int) < (k : Int)) = false := by simp
      have HS1 := (hS0.pick [0, 2] (by decide))
      simp only [List.filterMap_cons, List.filterMap_nil, List.getElem?_cons_succ, List.getElem?_cons_zero] at HS1
      clear h4
      by_cases hk0 : k = 0
      · have hk0' : ((k : Int) == 0) = true := by simp [hk0]
        have HK := Lib.hid hk0
        have hnlk := Lib.hid hnl
        clear hk0 hnl
        go_wp2_with (at_builtin; refine wpl_stop fun W hW => ?_)
        refine Stopped.mk ?_
        have T9 := (HS1.alloc #[.slice none 0 0, .string ⟨#[111, 112, 115]⟩, .slice none 0 0, .int .u64 1, .int .u64 2, .int .u64 5, .bool false, .int .i64 (-1)] 50).same hW
        clear hW HS1 hS0
        refine wpl_append_rd rfl (.tmp 111) (.tmp 114) 25 rfl 0 50 i0 _ 8 104 Tryz.underlying25 hi hz0 hz1 hz2 rfl (by decide) _ k _ rfl (T9.row 1 rfl) _ 1 _ rfl (rd_one (T9.blk 0 rfl) (n := 8) rfl) (by intro u hu; simp at hu; rcases hu with rfl | rfl | rfl | rfl | rfl | rfl | rfl | rfl <;> rfl) (by unfold maxLen; omega) (by omega) (Nat.zero_le _) fun v4 w4 hown4 hgr4 hv4 => ?_
        have T10 := ((T9.app 1 rfl hown4 hgr4 hv4).nilRow 68 3).nilRow 9 1
        simp only [List.eraseIdx_cons_succ, List.eraseIdx_cons_zero] at T10
        obtain ⟨A4, c4, rfl⟩ := owns_slice hown4
        clear hown4 hgr4 hv4 T9
        have T13 := T10.pick [1, 4, 0, 2] (by decide)
        simp only [List.filterMap_cons, List.filterMap_nil, List.getElem?_cons_succ, List.getElem?_cons_zero] at T13
        have T14 := (T13.intoAll.pick [1, 0, 2] (by decide))
        simp only [List.filterMap_cons, List.filterMap_nil, List.getElem?_cons_succ, List.getElem?_cons_zero] at T14
        have T15 := (T14.intoAll.pick [1, 0] (by decide))
        simp only [List.filterMap_cons, List.filterMap_nil, List.getElem?_cons_succ, List.getElem?_cons_zero] at T15
        clear T10 T13 T14
        go_wp2_with fail
        go_ret
        refine ⟨_, ns ++ [⟨⟨[], ⟨#[111, 112, 115]⟩, [], 1, 2, 5, false, -1⟩, .slice none 0 0, .slice none 0 0⟩], rfl, fun h => absurd (List.eq_nil_of_length_eq_zero (by rw [← HL0.out, HK.out])) h, fun _ => by (have h5 : ns = [] := List.eq_nil_of_length_eq_zero (by rw [hnlk.out, HK.out])); rw [h5]; rfl, by rw [List.length_append, hnlk.out, HK.out]; simp, ?_⟩
        rw [nodes_snoc, node8_snoc, List.length_append, hnlk.out]
        exact T15
      · have hk0' : ((k : Int) == 0) = false := by simp; omega
        have hnlk := Lib.hid hnl
        have HNS := Lib.hid hns
        clear hk0 hnl hns
        go_wp2_with fail
        go_ret
        exact ⟨_, ns, rfl, fun _ => by rw [HNS.out, HL0.out, List.take_length], fun h => by (have h5 := HL0.out; rw [h] at h5; have h6 : k = 0 := h5; rw [h6] at hk0'; simp at hk0'), by rw [hnlk.out]; omega, by rw [hnlk.out]; exact HS1⟩
end Go.Proofs.YteiocplfmjkbkaaGreatDoor
