/-
  cond's Series: Last, Add; a condition that is above a number.
-/
import Derived.Test.YtgpojkofegajeaaGreatDoorFreeS
import Derived.Test.YtgpojkofegajeaaGreatDoorMg5
import Derived.Test.YtgpojkofegajeaaGreatDoorMg8
import Derived.Deep.CutRange
import Derived.RegionTactic
import Derived.BigRegion
namespace Go.Proofs.YtgpojkofegajeaaGreatDoor
open Go.RowKit FreeSl
set_option maxRecDepth 100000
attribute [local go_sem] out

/-- A point's cells. -/
def ptC (p : Nat × Int) : List Value := [.int .u64 p.1, .int .i64 p.2]
theorem ptC_len (p : Nat × Int) : (ptC p).length = 2 := rfl
theorem infoPoint : (Tryz.prog.info? 140).map (fun i => (i.zero, i.size, i.bytes)) = some (some (.agg #[.int .u64 0, .int .i64 0]), 2, 16) := by kernel_rfl
set_option maxHeartbeats 1000000 in
theorem serLast (b j : Nat) (pv : Value) (pts : List (Nat × Int)) (k : Nat) (p : Nat × Int) (w : World) (hc : w.cell? ⟨b, j, none⟩ = some pv) (hr : Rd w 2 pv pts.length (pts.flatMap ptC)) (hk : pts.length = k + 1) (hp : pts[k]? = some p) (hm : k < 1048576) :
    Calls Tryz.prog 54 #[.pointer (some ⟨b, j, none⟩)] w fun e w' => e = .returned (.tuple #[.agg #[.int .u64 (p.1 : Nat), .int .i64 p.2], .bool true]) ∧ Below w.heap.size w w' := by
  obtain ⟨A, c, rfl, h1, h2, h3, h4⟩ := hr
  obtain ⟨q, o, rfl, hat⟩ := h4 (by omega)
  rw [hk] at hc
  have U0 := (Upd.nil [] w).alloc #[.int .u64 0, .int .i64 0] 140
  have hb0 := U0.below
  have c0 := (hb0.cell (World.block_lt_of_cell? w _ hc)).trans hc
  have y0 := hat.nth0 hb0 (k * 2) (.int .u64 p.1) (flat_at ptC 2 ptC_len pts k p hp 0 (by decide))
  have y1 := hat.nth hb0 (k * 2) 1 (.int .i64 p.2) (flat_at ptC 2 ptC_len pts k p hp 1 (by decide))
  have hw1 : IntKind.i64.wrap ((k : Int) + 1 - 1) = (k : Int) := by rw [IntKind.wrap_i64]; omega
  have d0 : ((k : Int) + 1 == 0) = false := by simp; omega
  clear hat h1 h4 hp hk hc hb0
  go_enter Tryz.func54, Tryz.ntmps54
  go_upto_region 3 with fail
  refine wp_gen fun W9 hW9 => ?_
  rw [← hW9] at c0 y0 y1
  have U9 := U0.same hW9
  clear hW9 U0
  have hb9 := U9.below
  have z0 := (U9.blk 0 rfl).cell (j := 0) rfl
  have z1 := (U9.blk 0 rfl).cell (j := 1) rfl
  have zf := (U9.blk 0 rfl).frozen
  go_region
  go_wp2_with fail
  refine bodyPost_gen fun W8 hW8 => ?_
  have U8 := ((U9.put 0 rfl 0 (.int .u64 (p.1 : Nat))).put 0 rfl 1 (.int .i64 p.2)).drew.same hW8
  simp only [List.setIfInBounds_toArray, List.set_cons_succ, List.set_cons_zero, List.eraseIdx_cons_zero] at U8
  clear hW8 U9 c0 y0 y1 z0 z1 zf
  have a0 := (U8.blk 0 rfl).cell (j := 0) (v := .int .u64 (p.1 : Nat)) rfl
  have a1 := (U8.blk 0 rfl).cell (j := 1) (v := .int .i64 p.2) rfl
  refine bodyPost_ret (v := .tuple #[.agg #[.int .u64 (p.1 : Nat), .int .i64 p.2], .bool true]) ?_ rfl ⟨rfl, U8.below⟩
  simp [results, Tryz.results54, go_sem, a0, a1]
/-- Is the last number above one? -/
theorem condAbove (lim : Int) (tk now : Nat) (b j : Nat) (pv : Value) (pts : List (Nat × Int)) (k : Nat) (p : Nat × Int) (w : World) (hc : w.cell? ⟨b, j, none⟩ = some pv) (hr : Rd w 2 pv pts.length (pts.flatMap ptC)) (hk : pts.length = k + 1) (hp : pts[k]? = some p) (hm : k < 1048576) :
    Calls Tryz.prog 31 #[.agg #[.int .u8 1, .int .i64 lim, .int .u64 tk], .pointer (some ⟨b, j, none⟩), .int .u64 now] w fun e w' => e = .returned (.tuple #[.bool (decide (lim < p.2)), .int .i64 p.2]) ∧ Below w.heap.size w w' := by
  have K := fun w' (h : Below w.heap.size w w') => serLast b j pv pts k p w' ((h.cell (World.block_lt_of_cell? w _ hc)).trans hc) (hr.below h) hk hp hm
  have U0 := (Upd.nil [] w).alloc #[.int .u8 1, .int .i64 lim, .int .u64 (tk : Nat)] 28
  clear hc hr hk hp
  go_enter Tryz.func31, Tryz.ntmps31
  go_wp2_with fail
  refine calls_genP fun w1 hw1 => ?_
  have U1 := U0.same hw1
  clear hw1 U0
  (with_reducible refine (K w1 U1.below).mono ?_)
  rintro e w2 ⟨rfl, hb2⟩
  have U2 := (U1.grow hb2).alloc #[.int .u64 (p.1 : Nat), .int .i64 p.2] 140
  have z1 := (U2.blk 0 rfl).cell (j := 1) (v := .int .i64 p.2) rfl
  have x0 := (U2.blk 1 rfl).cell (j := 0) (v := .int .u8 1) rfl
  have x1 := (U2.blk 1 rfl).cell (j := 1) (v := .int .i64 lim) rfl
  clear K
  go_upto_region 6 with fail
  refine wp_gen fun W9 hW9 => ?_
  rw [← hW9] at z1 x0 x1
  have U9 := U2.same hW9
  clear hW9 U2 U1
  go_region
  go_wp2_with fail
  go_ret2
  exact ⟨rfl, U9.below.drew⟩
theorem wpl_copyW {P : Program} {ops : Array Oper} {rest : List Oper} {o : Oper} {a : Act} {w : World} {Q : Exit → Act → World → Prop} (hgd : o.guard = none) (s x : Operand) (t : TypeId)
    (ho : o.op = .call { callee := .builtin .append, args := #[s, x], argTypes := #[t, t] })
    (base : Nat) (e : TypeId) (i : TypeInfo) (z : Value) (size bytes : Nat) (ht : P.underlying t = some (.slice e)) (hi : P.info? e = some i) (hz : i.zero = some z)
    (hsize : i.size = size) (hby : i.bytes = bytes) (hzs : z.cells.size = size) (hsz : 0 < size)
    (b : Nat) (hB : Blk w b #[] e) (hb : base ≤ b) (hs : a.eval s = .slice (some ⟨b, 0, none⟩) 0 0)
    (xv : Value) (m : Nat) (news : List Value) (hx : a.eval x = xv) (hr : Rd w size xv m news) (h63 : m ≤ maxLen) (hbytes : m * bytes ≤ 140737488355328)
    (h : ∀ v' w', w'.ownsRow base e size v' m news → Below w.heap.size w w' → wpList P ops Q rest (a.put o.dst v') w') : wpList P ops Q (o :: rest) a w :=
  wpList_plain hgd fun _ hK => wp_append_copy s x t ho base e i z size bytes ht hi hz hsize hby hzs hsz b hB hb hs xv m news hx hr h63 hbytes fun v' w' h2 h3 => hK _ _ (h v' w' h2 h3)
theorem rd_oneW {w : World} {g n : Nat} {cs : Array Value} {t : TypeId} (h : Blk w g cs t) (hn : cs.size = n) : Rd w n (.slice (some ⟨g, 0, none⟩) 1 1) 1 cs.toList :=
  ⟨_, _, rfl, by simp [hn], Nat.le_refl _, by unfold maxLen; omega, fun _ => ⟨_, _, rfl, fun j u hj => by rw [Nat.zero_add]; exact h.cell (by simpa using hj)⟩⟩
/-- Two parts that don't meet: a start. -/
theorem Upd.start2 (c d : Chunk) (w : World) (hc : c.P w) (hd : d.P w) (ha : ∀ b ∈ c.fp, b ∉ d.fp) : Upd (c.fp ++ d.fp) w [c, d] w := by
  refine ⟨rfl, rfl, rfl, Nat.le_refl _, fun _ _ _ => rfl, fun x hx => ?_, fun x hx b hb => ?_, ?_⟩
  · simp only [List.mem_cons, List.not_mem_nil, or_false] at hx
    rcases hx with rfl | rfl
    · exact hc
    · exact hd
  · simp only [List.mem_cons, List.not_mem_nil, or_false] at hx
    rcases hx with rfl | rfl
    · exact .inl (List.mem_append_left _ hb)
    · exact .inl (List.mem_append_right _ hb)
  · rw [List.pairwise_cons]
    refine ⟨fun x hx b hb => ?_, by simp⟩
    rw [List.mem_singleton.1 hx]
    exact ha b hb
/-- A slice that begins further on. -/
theorem cutPtW {w : World} {m k : Nat} {xs : List Value} {b o c : Nat} (h : Rd w 2 (.slice (some ⟨b, o, none⟩) (m + k) c) (m + k) xs) :
    ∃ A', (∀ W : World, (Instr.slice 97 (.slice (some ⟨b, o, none⟩) (m + k) c) (some (.int .i64 k)) none none).run Tryz.prog W = .ok (.slice A' m (c - k)) W) ∧ Rd w 2 (.slice A' m (c - k)) m (xs.drop (k * 2)) := by
  obtain ⟨A, c', he, h1, h2, h3, h4⟩ := h
  cases he
  have ht : Tryz.prog.underlying 97 = some (.slice (Tryz.prog.elem 97)) := by simp [Program.elem, Tryz.underlying97]
  have hel : Tryz.prog.elem 97 = 140 := by simp [Program.elem, Tryz.underlying97]
  refine ⟨if c = k then some ⟨b, o, none⟩ else some ⟨b, o + k * 2, none⟩, fun W => ?_, ?_⟩
  · rw [run_slice_l W _ _ _ _ ht .i64 _ (by omega) (by omega), hel, Tryz.sizeOf140]
    by_cases h0 : c = k
    · simp [Result.andThen, sliced, h0]
    · by_cases h5 : k = 0
      · subst h5; simp [Result.andThen, sliced, Addr.add, h0]
      · have h6 : ¬ k * 2 = 0 := by omega
        simp [Result.andThen, sliced, Addr.add, h0, h6]
  · refine ⟨_, _, rfl, by simp; omega, by omega, by omega, fun hn => ?_⟩
    obtain ⟨b', o', ha, hr⟩ := h4 (by omega)
    cases ha
    rw [if_neg (by omega)]
    refine ⟨b, o + k * 2, rfl, fun j u hu => ?_⟩
    rw [List.getElem?_drop] at hu
    have := hr _ u hu
    rwa [← Nat.add_assoc] at this
/-- The points that are kept. -/
def keepP (pts : List (Nat × Int)) (now : Nat) (x : Int) : List (Nat × Int) := (pts ++ [(now, x)]).drop (pts.length + 1 - 32)
set_option maxHeartbeats 2000000 in
theorem serAdd0 (b : Nat) (lv pv : Value) (pts : List (Nat × Int)) (now : Nat) (x : Int) (w : World) (hB : Blk w b #[lv, pv] 101) (hr : w.ownsRow 0 140 2 pv pts.length (pts.flatMap ptC)) (hnow : now ≤ 1099511627776) (hl : pts = []) :
    Calls Tryz.prog 28 #[.pointer (some ⟨b, 1, none⟩), .int .u64 now, .int .i64 x] w fun e w' => e = .returned (.int .i64 0) ∧ ∃ pv', Upd (b :: pv.ownBlock.toList) w [chBlk b #[lv, pv'] 101, chRow 140 2 pv' (keepP pts now x).length ((keepP pts now x).flatMap ptC)] w' := by
  obtain ⟨i0, hi, hz0, hz1, hz2⟩ := info_parts infoPoint
  have U0 : Upd (b :: pv.ownBlock.toList) w [chBlk b #[lv, pv] 101, chRow 140 2 pv pts.length (pts.flatMap ptC)] w := Upd.start2 (chBlk b #[lv, pv] 101) (chRow 140 2 pv pts.length (pts.flatMap ptC)) w hB hr (fun q hq hq' => by
    rw [chBlk_fp.1 hq] at hq'
    exact owns_ne hr hB (by decide) (chRow_fp.1 hq').symm)
  generalize b :: pv.ownBlock.toList = S at U0 ⊢
  have hrd := rd_of_owns hr
  obtain ⟨A, c, rfl⟩ := owns_slice hr
  have d1 : decide ((1099511627776 : Int) < now) = false := by simp; omega
  subst hl
  have hk : keepP [] now x = [(now, x)] := rfl
  rw [hk]
  simp only [List.length_nil, List.flatMap_nil] at U0
  clear hk hrd
  have q1 := (U0.blk 0 rfl).cell (j := 1) rfl
  have qf := (U0.blk 0 rfl).frozen
  clear hr hnow hB
  go_enter Tryz.func28, Tryz.ntmps28
  go_upto_region 5 with fail
  go_region
  have U1 := U0.drew
  have q1 := (U1.blk 0 rfl).cell (j := 1) rfl
  have qf := (U1.blk 0 rfl).frozen
  clear U0
  go_wp2_with (at_builtin; refine wpl_stop fun W hW => ?_)
  refine Stopped.mk ?_
  have U2 := (U1.alloc #[.int .u64 (now : Nat), .int .i64 x] 140).same hW
  clear hW U1 q1 qf
  refine wpl_append_rd rfl (.tmp 42) (.tmp 46) 97 rfl 0 140 i0 _ 2 16 Tryz.underlying97 hi hz0 hz1 hz2 rfl (by decide) _ 0 _ rfl (U2.row 2 rfl) _ 1 _ rfl (rd_oneW (U2.blk 0 rfl) (n := 2) rfl) (by intro u hu; simp at hu; rcases hu with rfl | rfl <;> rfl) (by unfold maxLen; omega) (by omega) (Nat.zero_le _) fun v3 w3 hown3 hgr3 hv3 => ?_
  have U3 := U2.app 2 rfl hown3 hgr3 hv3
  simp only [List.eraseIdx_cons_succ, List.eraseIdx_cons_zero] at U3
  obtain ⟨A3, c3, rfl⟩ := owns_slice hown3
  clear hown3 hgr3 hv3 U2
  have q1 := (U3.blk 2 rfl).cell (j := 1) rfl
  have qf := (U3.blk 2 rfl).frozen
  go_wp2_with fail
  refine bodyPost_gen fun w4 hw4 => ?_
  have U4 := ((U3.put 2 rfl 1 (.slice A3 (0 + 1) c3)).drop 2).same hw4
  simp only [List.setIfInBounds_toArray, List.set_cons_succ, List.set_cons_zero, List.eraseIdx_cons_succ, List.eraseIdx_cons_zero] at U4
  clear hw4 U3 q1 qf
  go_ret
  exact ⟨rfl, .slice A3 (0 + 1) c3, U4⟩
set_option maxHeartbeats 2000000 in
theorem serAdd1 (b : Nat) (lv pv : Value) (pts : List (Nat × Int)) (now : Nat) (x : Int) (w : World) (hB : Blk w b #[lv, pv] 101) (hr : w.ownsRow 0 140 2 pv pts.length (pts.flatMap ptC)) (hnow : now ≤ 1099511627776) (k : Nat) (hl : pts.length = k) (h0k : 0 < k) (hlen : k < 32) (hlast : ∀ (k : Nat) (p : Nat × Int), pts[k]? = some p → p.1 ≤ now) :
    Calls Tryz.prog 28 #[.pointer (some ⟨b, 1, none⟩), .int .u64 now, .int .i64 x] w fun e w' => e = .returned (.int .i64 0) ∧ ∃ pv', Upd (b :: pv.ownBlock.toList) w [chBlk b #[lv, pv'] 101, chRow 140 2 pv' (keepP pts now x).length ((keepP pts now x).flatMap ptC)] w' := by
  obtain ⟨i0, hi, hz0, hz1, hz2⟩ := info_parts infoPoint
  have U0 : Upd (b :: pv.ownBlock.toList) w [chBlk b #[lv, pv] 101, chRow 140 2 pv pts.length (pts.flatMap ptC)] w := Upd.start2 (chBlk b #[lv, pv] 101) (chRow 140 2 pv pts.length (pts.flatMap ptC)) w hB hr (fun q hq hq' => by
    rw [chBlk_fp.1 hq] at hq'
    exact owns_ne hr hB (by decide) (chRow_fp.1 hq').symm)
  generalize b :: pv.ownBlock.toList = S at U0 ⊢
  have hrd := rd_of_owns hr
  obtain ⟨A, c, rfl⟩ := owns_slice hr
  have d1 : decide ((1099511627776 : Int) < now) = false := by simp; omega
  obtain ⟨p, hp⟩ : ∃ p, pts[k - 1]? = some p := ⟨_, List.getElem?_eq_getElem (by omega)⟩
  have ht := hlast _ p hp
  have d2 : decide (now < p.1) = false := by simp; omega
  have hw1 : IntKind.i64.wrap ((k : Int) - 1) = ((k - 1 : Nat) : Int) := by rw [IntKind.wrap_i64]; omega
  have d0 : decide (0 < k) = true := by simp; omega
  have hlt : k - 1 < k := by omega
  have hw2 : IntKind.i64.wrap ((k : Int) + 1 - 32) = (k : Int) + 1 - 32 := by rw [IntKind.wrap_i64]; omega
  have d3 : decide ((0 : Int) < (k : Int) + 1 - 32) = false := by simp; omega
  have hkp : keepP pts now x = pts ++ [(now, x)] := by unfold keepP; rw [show pts.length + 1 - 32 = 0 by omega, List.drop_zero]
  rw [hkp]
  have HL := Lib.hid hl
  rw [hl] at U0 hrd
  obtain ⟨A2, c2, he, h1, h2, h3, h4⟩ := hrd
  cases he
  obtain ⟨g, o, rfl, hat⟩ := h4 (by omega)
  have y0 := hat.nth0 (Below.refl _ _) ((k - 1) * 2) (.int .u64 p.1) (flat_at ptC 2 ptC_len pts (k - 1) p hp 0 (by decide))
  clear hat h1 h4 hp hlast hl hkp ht h0k
  have q1 := (U0.blk 0 rfl).cell (j := 1) rfl
  have qf := (U0.blk 0 rfl).frozen
  clear hr hnow hB
  go_enter Tryz.func28, Tryz.ntmps28
  go_upto_region 5 with fail
  go_region
  have U1 := U0.drew
  have q1 := (U1.blk 0 rfl).cell (j := 1) rfl
  have qf := (U1.blk 0 rfl).frozen
  clear U0
  go_wp2_with (at_builtin; refine wpl_stop fun W hW => ?_)
  refine Stopped.mk ?_
  have U2 := (U1.alloc #[.int .u64 (now : Nat), .int .i64 x] 140).same hW
  clear hW U1 q1 qf y0
  refine wpl_append_rd rfl (.tmp 42) (.tmp 46) 97 rfl 0 140 i0 _ 2 16 Tryz.underlying97 hi hz0 hz1 hz2 rfl (by decide) _ k _ rfl (U2.row 2 rfl) _ 1 _ rfl (rd_oneW (U2.blk 0 rfl) (n := 2) rfl) (by intro u hu; simp at hu; rcases hu with rfl | rfl <;> rfl) (by unfold maxLen; omega) (by omega) (Nat.zero_le _) fun v3 w3 hown3 hgr3 hv3 => ?_
  have U3 := U2.app 2 rfl hown3 hgr3 hv3
  simp only [List.eraseIdx_cons_succ, List.eraseIdx_cons_zero] at U3
  obtain ⟨A3, c3, rfl⟩ := owns_slice hown3
  clear hown3 hgr3 hv3 U2
  have q1 := (U3.blk 2 rfl).cell (j := 1) rfl
  have qf := (U3.blk 2 rfl).frozen
  go_wp2_with fail
  refine bodyPost_gen fun w4 hw4 => ?_
  have U4 := ((U3.put 2 rfl 1 (.slice A3 (k + 1) c3)).drop 2).same hw4
  simp only [List.setIfInBounds_toArray, List.set_cons_succ, List.set_cons_zero, List.eraseIdx_cons_succ, List.eraseIdx_cons_zero] at U4
  clear hw4 U3 q1 qf
  have e5 : (pts ++ [(now, x)]).length = k + 1 := by rw [List.length_append, HL.out]; rfl
  rw [e5, List.flatMap_append]
  go_ret
  exact ⟨rfl, .slice A3 (k + 1) c3, U4⟩
set_option maxHeartbeats 2000000 in
theorem serAdd2 (b : Nat) (lv pv : Value) (pts : List (Nat × Int)) (now : Nat) (x : Int) (w : World) (hB : Blk w b #[lv, pv] 101) (hr : w.ownsRow 0 140 2 pv pts.length (pts.flatMap ptC)) (hnow : now ≤ 1099511627776) (hl : pts.length = 31 + 1) (hlast : ∀ (k : Nat) (p : Nat × Int), pts[k]? = some p → p.1 ≤ now) :
    Calls Tryz.prog 28 #[.pointer (some ⟨b, 1, none⟩), .int .u64 now, .int .i64 x] w fun e w' => e = .returned (.int .i64 0) ∧ ∃ pv', Upd (b :: pv.ownBlock.toList) w [chBlk b #[lv, pv'] 101, chRow 140 2 pv' (keepP pts now x).length ((keepP pts now x).flatMap ptC)] w' := by
  obtain ⟨i0, hi, hz0, hz1, hz2⟩ := info_parts infoPoint
  have U0 : Upd (b :: pv.ownBlock.toList) w [chBlk b #[lv, pv] 101, chRow 140 2 pv pts.length (pts.flatMap ptC)] w := Upd.start2 (chBlk b #[lv, pv] 101) (chRow 140 2 pv pts.length (pts.flatMap ptC)) w hB hr (fun q hq hq' => by
    rw [chBlk_fp.1 hq] at hq'
    exact owns_ne hr hB (by decide) (chRow_fp.1 hq').symm)
  generalize b :: pv.ownBlock.toList = S at U0 ⊢
  have hrd := rd_of_owns hr
  obtain ⟨A, c, rfl⟩ := owns_slice hr
  have d1 : decide ((1099511627776 : Int) < now) = false := by simp; omega
  obtain ⟨p, hp⟩ : ∃ p, pts[31]? = some p := ⟨_, List.getElem?_eq_getElem (by omega)⟩
  have ht := hlast _ p hp
  have d2 : decide (now < p.1) = false := by simp; omega
  have hkp : keepP pts now x = (pts ++ [(now, x)]).drop 1 := by unfold keepP; rw [show pts.length + 1 - 32 = 1 by omega]
  rw [hkp]
  have HL := Lib.hid hl
  rw [hl] at U0 hrd
  obtain ⟨A2, c2, he, h1, h2, h3, h4⟩ := hrd
  cases he
  obtain ⟨g, o, rfl, hat⟩ := h4 (by omega)
  have y0 := hat.nth0 (Below.refl _ _) 62 (.int .u64 p.1) (flat_at ptC 2 ptC_len pts 31 p hp 0 (by decide))
  clear hat h1 h4 hp hlast hl hkp ht
  have q1 := (U0.blk 0 rfl).cell (j := 1) rfl
  have qf := (U0.blk 0 rfl).frozen
  clear hr hnow hB
  go_enter Tryz.func28, Tryz.ntmps28
  go_upto_region 5 with fail
  go_region
  have U1 := U0.drew
  have q1 := (U1.blk 0 rfl).cell (j := 1) rfl
  have qf := (U1.blk 0 rfl).frozen
  clear U0
  go_wp2_with (at_builtin; refine wpl_stop fun W hW => ?_)
  refine Stopped.mk ?_
  have U2 := (U1.alloc #[.int .u64 (now : Nat), .int .i64 x] 140).same hW
  clear hW U1 q1 qf y0
  refine wpl_append_rd rfl (.tmp 42) (.tmp 46) 97 rfl 0 140 i0 _ 2 16 Tryz.underlying97 hi hz0 hz1 hz2 rfl (by decide) _ 32 _ rfl (U2.row 2 rfl) _ 1 _ rfl (rd_oneW (U2.blk 0 rfl) (n := 2) rfl) (by intro u hu; simp at hu; rcases hu with rfl | rfl <;> rfl) (by unfold maxLen; omega) (by omega) (Nat.zero_le _) fun v3 w3 hown3 hgr3 hv3 => ?_
  have U3 := U2.app 2 rfl hown3 hgr3 hv3
  simp only [List.eraseIdx_cons_succ, List.eraseIdx_cons_zero] at U3
  obtain ⟨A3, c3, rfl⟩ := owns_slice hown3
  clear hown3 hgr3 hv3 U2
  have q1 := (U3.blk 2 rfl).cell (j := 1) rfl
  have qf := (U3.blk 2 rfl).frozen
  obtain ⟨g3, o3, rfl⟩ : ∃ g3 o3, A3 = some ⟨g3, o3, none⟩ := by
    obtain ⟨Az, cz, hez, _, _, _, hr34⟩ := rd_of_owns (U3.row 0 rfl)
    cases hez
    obtain ⟨g3, o3, e, _⟩ := hr34 (by decide)
    exact ⟨g3, o3, e⟩
  go_upto_region 8 with fail
  refine wp_gen fun W4 hW4 => ?_
  have U4 := (U3.put 2 rfl 1 (.slice (some ⟨g3, o3, none⟩) 33 c3)).same hW4
  simp only [List.setIfInBounds_toArray, List.set_cons_succ, List.set_cons_zero, List.eraseIdx_cons_succ, List.eraseIdx_cons_zero] at U4
  clear hW4 U3 q1 qf
  have hr4 := rd_of_owns (U4.row 1 rfl)
  have hc34 : 33 ≤ c3 := by
    obtain ⟨Az, cz, hez, _, h, _⟩ := hr4
    cases hez
    exact h
  obtain ⟨A', hcut, hr5⟩ := cutPtW (m := 32) (k := 1) hr4
  have hcut : ∀ W : World, (Instr.slice 97 (.slice (some ⟨g3, o3, none⟩) 33 c3) (some (.int .i64 1)) none none).run Tryz.prog W = .ok (.slice A' 32 (c3 - 1)) W := hcut
  have U5 := U4.alloc #[] 140
  have q1 := (U4.blk 0 rfl).cell (j := 1) rfl
  have q2 := (U5.blk 1 rfl).cell (j := 1) rfl
  have hr6 := hr5.below ((Below.refl _ _).alloc (Nat.le_refl _) (.cells #[] 140))
  have HR := Lib.hid hr6
  clear hr4 hr5 hr6
  go_wp2_with (at_builtin; refine wpl_stop fun W5 hW5 => ?_)
  refine Stopped.mk ?_
  rw [← hW5] at HR
  have hb5 : Below W4.heap.size W4 W5 := by rw [hW5]; exact (Below.refl _ _).alloc (Nat.le_refl _) _
  have U6 := U5.same hW5
  clear hW5 U5 q1 q2 hcut
  refine wpl_copyW rfl (.tmp 59) (.tmp 65) 97 rfl W4.heap.size 140 i0 _ 2 16 Tryz.underlying97 hi hz0 hz1 hz2 rfl (by decide) _ (U6.blk 0 rfl) (Nat.le_refl _) rfl _ 32 _ rfl HR.out (by unfold maxLen; omega) (by omega) fun v7 w7 hown7 hb7 => ?_
  obtain ⟨A7, c7, rfl⟩ := owns_slice hown7
  have U7 := U4.addRow (hb5.trans (hb7.mono hb5.size)) hown7 (Nat.le_refl _)
  clear U4 U6 hb5 hb7 hown7 HR
  have q1 := (U7.blk 1 rfl).cell (j := 1) rfl
  have qf := (U7.blk 1 rfl).frozen
  have e5 : ((pts ++ [(now, x)]).drop 1).length = 32 := by rw [List.length_drop, List.length_append, HL.out]; rfl
  have e6 : ((pts ++ [(now, x)]).drop 1).flatMap ptC = (pts.flatMap ptC ++ ptC (now, x)).drop (1 * 2) := by
    cases pts with
    | nil => cases HL.out
    | cons a r => simp [ptC]
  go_wp2_with fail
  refine bodyPost_gen fun w8 hw8 => ?_
  have U8 := ((U7.put 1 rfl 1 (.slice A7 32 c7)).pick [0, 1] (by decide)).same hw8
  simp only [List.setIfInBounds_toArray, List.set_cons_succ, List.set_cons_zero, List.eraseIdx_cons_succ, List.eraseIdx_cons_zero, List.filterMap_cons, List.filterMap_nil, List.getElem?_cons_zero, List.getElem?_cons_succ] at U8
  clear hw8 U7 q1 qf
  rw [e5, e6]
  go_ret
  exact ⟨rfl, .slice A7 32 c7, U8⟩
/-- A number comes. -/
theorem serAdd (b : Nat) (lv pv : Value) (pts : List (Nat × Int)) (now : Nat) (x : Int) (w : World) (hB : Blk w b #[lv, pv] 101) (hr : w.ownsRow 0 140 2 pv pts.length (pts.flatMap ptC)) (hnow : now ≤ 1099511627776) (hlast : ∀ (k : Nat) (p : Nat × Int), pts[k]? = some p → p.1 ≤ now) (hlen : pts.length ≤ 32) :
    Calls Tryz.prog 28 #[.pointer (some ⟨b, 1, none⟩), .int .u64 now, .int .i64 x] w fun e w' => e = .returned (.int .i64 0) ∧ ∃ pv', Upd (b :: pv.ownBlock.toList) w [chBlk b #[lv, pv'] 101, chRow 140 2 pv' (keepP pts now x).length ((keepP pts now x).flatMap ptC)] w' := by
  by_cases h0 : pts = []
  · exact serAdd0 b lv pv pts now x w hB hr hnow h0
  have h0' : 0 < pts.length := by
    cases pts with
    | nil => exact absurd rfl h0
    | cons a r => exact Nat.succ_pos _
  by_cases h1 : pts.length < 32
  · exact serAdd1 b lv pv pts now x w hB hr hnow pts.length rfl h0' h1 hlast
  · exact serAdd2 b lv pv pts now x w hB hr hnow (by omega) hlast
end Go.Proofs.YtgpojkofegajeaaGreatDoor
