/-
  LedgerPlays: the walk. A region that draws its order, walked at a frame that is a variable: its slots are known by equations alone. For frames of hundreds of slots.
-/
import Derived.Test.YtdmdfccadjfpiaaGreatFreeN
import Derived.Test.YtdmdfccadjfpiaaGreatFreeT
import Derived.Deep.MidRow
import Derived.BigFrame
import Derived.Test.YtdmdfccadjfpiaaGreatRfT
import Derived.Deep.CutRange
namespace Go.Proofs.YtdmdfccadjfpiaaGreat
open Go.RowKit

theorem put_size (a : Act) (d : Option Tmp) (v : Value) : (a.put d v).tmps.size = a.tmps.size := by cases d <;> simp [Act.put]
theorem eval_put_self {a : Act} {d : Nat} {v : Value} (h : d < a.tmps.size) : (a.put (some d) v).eval (.tmp d) = v := by simp [Act.eval, Act.put, h]
theorem eval_put_ne {a : Act} {d t : Nat} {v : Value} (h : d ≠ t) : (a.put (some d) v).eval (.tmp t) = a.eval (.tmp t) := by simp [Act.eval, Act.put, Array.getElem?_setIfInBounds_ne h]
theorem eval_getD {a : Act} {t : Nat} {v : Value} (h : a.eval (.tmp t) = v) : a.tmps[t]?.getD undef = v := by rw [← h]; simp [Act.eval]
theorem eval_put_none {a : Act} {t : Nat} {v : Value} : (a.put none v).eval (.tmp t) = a.eval (.tmp t) := rfl
theorem outT_put {d : Nat} {op : Op} {ty : TypeId} {pos : String} {af : Array Edge} {g : Option (Nat × Bool)} {a : Act} {v : Value} (h : d < a.tmps.size) : FreeTw.out ⟨some d, op, ty, pos, af, g⟩ (a.put (some d) v) = v := by
  simp [FreeTw.out, Act.put, h]
theorem outN_put {d : Nat} {op : Op} {ty : TypeId} {pos : String} {af : Array Edge} {g : Option (Nat × Bool)} {a : Act} {v : Value} (h : d < a.tmps.size) : FreeNew.out ⟨some d, op, ty, pos, af, g⟩ (a.put (some d) v) = v := by
  simp [FreeNew.out, Act.put, h]
theorem put_defersA (a : Act) (d : Option Tmp) (v : Value) : (a.put d v).defers = a.defers := by cases d <;> rfl
/-- The frame as a variable. -/
theorem wp_at {P : Program} {Q : Exit → Act → World → Prop} {c : Code} {a : Act} {w : World} (h : ∀ A, A = a → Code.wp P c Q A w) : Code.wp P c Q a w := h a rfl
namespace FreeTw
section
variable {P : Program} {ops : Array Oper} {Inv J : World → Prop} {Q : Exit → Act → World → Prop} {rs : List Nat} {fr : (Nat → Value) → Act} {fa : List (Nat × ((Nat → Value) → World → Prop))} {K : ((Nat → Value) → Act) → List (Nat × ((Nat → Value) → World → Prop)) → Prop}
  {i : Nat} {r : List Nat} {op : Op} {ty : TypeId} {pos : String} {af : Array Edge} {a : Act} {w : World}
theorem out_none (a : Act) (v : Value) : a.put none v = a := rfl
theorem TailSeq.asg_ {d : Nat} {x : Operand} {v : Value} (ho : ops[i]? = some ⟨some d, .assign x, ty, pos, af, none⟩) (hd : d < a.tmps.size) (hx : a.eval x = v) (hJ : r = [] ∨ J w)
    (h : TailSeq P ops J Q r (a.put (some d) v) w) : TailSeq P ops J Q (i :: r) a w := by
  refine TailSeq.cons_ ho (BigFrame.wp_assign x rfl ⟨put_defersA _ _ _, hJ, ?_⟩)
  show TailSeq P ops J Q r (a.put (some d) (FreeTw.out _ (a.put (some d) (a.eval x)))) w
  rw [outT_put hd, hx]; exact h
theorem TailSeq.stm_ (T : TypeId) (x y : Operand) (ho : ops[i]? = some ⟨none, .store T x y, ty, pos, af, none⟩) (b o : Nat) (cells : Array Value) (hx : a.eval x = .pointer (some ⟨b, o, none⟩)) (hy : a.eval y = .agg cells) (ht : w.there b o cells.size)
    (hi : (P.info? T).map (·.size) = some cells.size) (h1 : cells.all (·.oneCell') = true) (hJ : r = [] ∨ J (w.setCells b o cells.toList))
    (h : TailSeq P ops J Q r a (w.setCells b o cells.toList)) : TailSeq P ops J Q (i :: r) a w :=
  TailSeq.cons_ ho (wp_store_mid T x y rfl b o cells hx hy ht hi h1 ⟨rfl, hJ, h⟩)
/-- A load of a whole struct: the same in each world that meets Inv. -/
theorem RelSeq.ldm_ {d : Nat} (T : TypeId) (x : Operand) (ho : ops[i]? = some ⟨some d, .load T x, ty, pos, af, none⟩) (hp : (pureOp (.load T x) && !rs.contains i) = false) (hp2 : steadyAt rs i = false)
    (b o : Nat) (cs : List Value) (D : TypeDesc) (hd : ∀ y, d < (fr y).tmps.size) (hx : ∀ y, (fr y).eval x = .pointer (some ⟨b, o, none⟩)) (hr : ∀ w, Inv w → w.rangeAt b o cs) (hu : P.underlying T = some D) (hD : D.isRow = true) (hi : (P.info? T).map (·.size) = some cs.length)
    (h : RelSeq P ops Inv J rs r (fun y => (fr y).put (some d) (.agg cs.toArray)) fa K) : RelSeq P ops Inv J rs (i :: r) fr fa K :=
  RelSeq.grow_ ho hp hp2 (fun y w' hw _ => wp_load_mid T x rfl b o (hx y) cs D (hr w' hw) hu hD hi ⟨put_defersA _ _ _, outT_put (hd y), hw, Below.refl _ _⟩) h
/-- A call that gives one value in each world that meets Inv, and makes memory at most. -/
theorem RelSeq.call_ {d : Nat} {f : FuncId} {args : Array Operand} {ats : Array TypeId} {c : Value} (ho : ops[i]? = some ⟨some d, .call { callee := .value (.func f), args := args, argTypes := ats }, ty, pos, af, none⟩) (hp : (pureOp (.call { callee := .value (.func f), args := args, argTypes := ats }) && !rs.contains i) = false) (hp2 : steadyAt rs i = false)
    (hd : ∀ y, d < (fr y).tmps.size) (vs : Array Value) (hx : ∀ y, args.map (fr y).eval = vs)
    (hcf : ∀ w, (callFunc f vs).run P w = .ok (.enter f vs) w)
    (hc : ∀ w, Inv w → Calls P f vs w fun e w' => e = .returned c ∧ Inv w' ∧ Below w.heap.size w w')
    (h : RelSeq P ops Inv J rs r (fun y => (fr y).put (some d) c) fa K) : RelSeq P ops Inv J rs (i :: r) fr fa K :=
  RelSeq.grow_ ho hp hp2 (fun y w' hw _ => by
    unfold Oper.wp execOp
    simp only []
    go_simp
    refine (hc w' hw).mono ?_
    rintro e w'' ⟨rfl, h1, h2⟩
    exact ⟨outT_put (hd y), h1, h2⟩) h
theorem RelSeq.mov_ {d : Nat} {x : Operand} {c : Value} (ho : ops[i]? = some ⟨some d, .move x, ty, pos, af, none⟩) (hp : (pureOp (.move x) && !rs.contains i) = true) (hd : ∀ y, d < (fr y).tmps.size) (hx : ∀ y, (fr y).eval x = c)
    (h : RelSeq P ops Inv J rs r (fun y => (fr y).put (some d) c) fa K) : RelSeq P ops Inv J rs (i :: r) fr fa K :=
  RelSeq.pure_ ho hp (fun y w' => BigFrame.wp_move x rfl ⟨put_defersA _ _ _, by show FreeTw.out _ ((fr y).put (some d) ((fr y).eval x)) = c; rw [outT_put (hd y), hx y], rfl⟩) h
theorem RelSeq.ext_ {d k : Nat} {x : Nat} {c : Value} {vs : Array Value} (ho : ops[i]? = some ⟨some d, .extract (.tmp x) k, ty, pos, af, none⟩) (hp : (pureOp (.extract (.tmp x) k) && !rs.contains i) = true) (hd : ∀ y, d < (fr y).tmps.size) (hx : ∀ y, (fr y).eval (.tmp x) = .tuple vs) (hc : vs[k]? = some c)
    (h : RelSeq P ops Inv J rs r (fun y => (fr y).put (some d) c) fa K) : RelSeq P ops Inv J rs (i :: r) fr fa K :=
  RelSeq.pure_ ho hp (fun y w' => by
    have hx' := eval_getD (hx y)
    have hd' := outT_put (op := .extract (.tmp x) k) (ty := ty) (pos := pos) (af := af) (g := none) (v := c) (hd y)
    unfold Oper.wp execOp
    go_simp
    exact hd') h
end
end FreeTw
/-! The same for a region in the text's order. -/
namespace PL
section
variable {P : Program} {ops : Array Oper} {Q : Exit → Act → World → Prop} {rest : List Oper} {ty : TypeId} {pos : String} {af : Array Edge} {a : Act} {w : World}
theorem mov_ {d : Nat} {x : Operand} {v : Value} (hx : a.eval x = v) (h : wpList P ops Q rest (a.put (some d) v) w) : wpList P ops Q (⟨some d, .move x, ty, pos, af, none⟩ :: rest) a w :=
  wpList_plain rfl fun _ hK => BigFrame.wp_move x rfl (hK _ _ (by rw [hx]; exact h))
theorem asg_ {d : Nat} {x : Operand} {v : Value} (hx : a.eval x = v) (h : wpList P ops Q rest (a.put (some d) v) w) : wpList P ops Q (⟨some d, .assign x, ty, pos, af, none⟩ :: rest) a w :=
  wpList_plain rfl fun _ hK => BigFrame.wp_assign x rfl (hK _ _ (by rw [hx]; exact h))
theorem ldm_ {d : Nat} {T : TypeId} {x : Operand} (b o : Nat) (cs : List Value) (D : TypeDesc) (hx : a.eval x = .pointer (some ⟨b, o, none⟩)) (hr : w.rangeAt b o cs) (hu : P.underlying T = some D) (hD : D.isRow = true) (hi : (P.info? T).map (·.size) = some cs.length)
    (h : wpList P ops Q rest (a.put (some d) (.agg cs.toArray)) w) : wpList P ops Q (⟨some d, .load T x, ty, pos, af, none⟩ :: rest) a w :=
  wpList_load_mid rfl T x rfl b o hx cs D hr hu hD hi h
theorem call_ {d : Nat} {f : FuncId} {args : Array Operand} {ats : Array TypeId} {c : Value} (vs : Array Value) (hx : args.map a.eval = vs)
    (hcf : ∀ w, (callFunc f vs).run P w = .ok (.enter f vs) w) {R : World → Prop} (hc : Calls P f vs w fun e w' => e = .returned c ∧ R w')
    (h : ∀ w', R w' → wpList P ops Q rest (a.put (some d) c) w') : wpList P ops Q (⟨some d, .call { callee := .value (.func f), args := args, argTypes := ats }, ty, pos, af, none⟩ :: rest) a w :=
  wpList_plain rfl fun _ hK => by
    unfold Oper.wp execOp
    simp only []
    go_simp
    refine hc.mono ?_
    rintro e w'' ⟨rfl, h1⟩
    exact hK _ _ (h w'' h1)
/-- Any other operation that gives one value. -/
theorem val_ {d : Nat} {op : Op} {v : Value} {w' : World} (ho : ∀ K : Act → World → Prop, K (a.put (some d) v) w' → (⟨some d, op, ty, pos, af, none⟩ : Oper).wp P a w K Q) (h : wpList P ops Q rest (a.put (some d) v) w') : wpList P ops Q (⟨some d, op, ty, pos, af, none⟩ :: rest) a w :=
  wpList_plain rfl fun K hK => ho K (hK _ _ h)
end
end PL
end Go.Proofs.YtdmdfccadjfpiaaGreat
namespace Go.Proofs.YtdmdfccadjfpiaaGreat
open Go.RowKit
set_option maxRecDepth 100000
attribute [local go_sem] FreeTw.out

/-- An act, as it is handed in. -/
structure ActP where
  k : Nat
  s : Sm
  a : ItV
  af : Nat
  nw : Nat
  raw : Bool
  t1 : Nat
  t2 : Nat
structure ActP.ok (x : ActP) (w : World) : Prop where
  k : x.k < 256
  s : x.s.ok
  a : x.a.ok w
  af : x.af < 256
  nw : x.nw < 18446744073709551616
  t1 : x.t1 < 65536
  t2 : x.t2 < 65536
def act30 (x : ActP) : List Value := .int .u8 x.k :: (sm11 x.s ++ (it13 x.a ++ [.int .u8 x.af, .int .u64 x.nw, .bool x.raw, .int .u16 x.t1, .int .u16 x.t2]))
/-- Where the calls stand. -/
structure PW (w : World) (d m b g j : Nat) (rs : List Ln) (sN k nw : Nat) (M es : List (Nat × ItV)) (Am : Option Addr) (cm : Nat) (lv : Value) (Ls : List Chunk) (kk ks : Nat) (fs : List FileV) (wr : World) : Prop where
  pi : PI rs sN k nw M
  hes : es.map nrmS = M.map nrmS
  nb : ∀ x ∈ es, x.2.nb ∧ x.2.ps.length ≤ 12
  hj : hasJ fs nmL (layAll (rs.map lnB)) ks
  hks : ks = lenR ((rs.take sN).map lnB)
  hkk : kk ≤ 2000000 + 708 * k
  lab : ∀ x ∈ M, Rd w 2 x.2.lv x.2.ps.length (pairCells x.2.ps) ∨ labRow x ∈ Ls
  upd : Upd [] w [chL g j d m b lv (runS s0L rs).h (runS s0L rs).li (runS s0L rs).la es kk fs, chM 41 14 (.slice Am M.length cm) M.length (M.flatMap en14), chAll Ls] wr
/-- What the variables hold there. -/
def RP (w : World) (d m b k : Nat) (l e mv sy li nv : Value) (wr : World) : Prop :=
  ∃ (g j : Nat) (rs : List Ln) (sN nw : Nat) (M es : List (Nat × ItV)) (Am : Option Addr) (cm : Nat) (lv : Value) (Ls : List Chunk) (kk ks : Nat) (fs : List FileV),
    l = .pointer (some ⟨g, 0, none⟩) ∧ e = .int .i64 0 ∧ mv = .slice Am M.length cm ∧ sy = .int .i64 (runS s0L (rs.take sN)).es.length ∧ li = .int .u64 (runS s0L rs).li ∧ nv = .int .u64 nw ∧ PW w d m b g j rs sN k nw M es Am cm lv Ls kk ks fs wr

/-- A crash, and the tear of the one file. -/
theorem crashTornDT (d m b : Nat) (nm : ByteArray) (v0 : Value) (bs : List UInt8) (k : Nat) (v : Value) (t : Nat × Nat) (w : World) (hP : (chDT d m b [⟨nm, v0, bs, k⟩]).P w) (hv : Rd w 2 v 1 [.int .u16 t.1, .int .u16 t.2]) (ht1 : t.1 < 65536) (ht2 : t.2 < 65536) :
    Calls Tryz.prog 27 #[.pointer (some ⟨d, 0, none⟩), v] w fun e w' => e = .returned (.tuple #[]) ∧ ∃ v', Upd (chDT d m b [⟨nm, v0, bs, k⟩]).fp w [chDT d m b [⟨nm, v', tornB bs k t.1 t.2, (tornB bs k t.1 t.2).length⟩]] w' := by
  refine (diskCrashTorn d m ⟨nm, v0, bs, k⟩ v t [] w hP.2.1 hv ht1 ht2).mono ?_
  rintro e w' ⟨rfl, ⟨v', hfr, hD⟩, hM⟩
  have hbd := hP.2.2
  have hbl := hP.1.ltA
  refine ⟨rfl, v', hM.os, hM.tape, hM.output, hM.size, fun x hx hne => hM.block x hx fun hm => hne ?_, fun q hq => ?_, fun q hq x hx => ?_, by simp⟩
  · show x ∈ b :: d :: m :: _
    simp only [List.mem_cons, List.not_mem_nil, or_false] at hm ⊢
    rcases hm with h | h <;> simp [h]
  · rw [List.mem_singleton.1 hq]
    exact ⟨hP.1.locA (hM.block b hbl hbd), hD, hbd⟩
  · rw [List.mem_singleton.1 hq] at hx
    have hx : x ∈ b :: d :: m :: filesFp [⟨nm, v', tornB bs k t.1 t.2, (tornB bs k t.1 t.2).length⟩] := hx
    simp only [List.mem_cons] at hx
    rcases hx with h | h | h | hx
    · rw [h]; exact .inl (.head _)
    · rw [h]; exact .inl (.tail _ (.head _))
    · rw [h]; exact .inl (.tail _ (.tail _ (.head _)))
    · obtain ⟨f, hf, hx⟩ := mem_filesFp.1 hx
      rw [List.mem_singleton.1 hf] at hx
      exact .inr (hfr x hx)
/-- The item that an act offers, in block gx. -/
def XI (w : World) (gx : Nat) (C : List Chunk) (Ls : List Chunk) (wx : World) : Prop :=
  ∃ (X : ItV) (Ls' : List Chunk), X.nb ∧ (chkIt X = 0 → X.ps.length ≤ 12) ∧ (Rd w 2 X.lv X.ps.length (pairCells X.ps) ∨ labRow (0, X) ∈ Ls') ∧ (∀ c ∈ Ls, c ∈ Ls') ∧ Upd [] w (chBlk gx (it13 X).toArray 36 :: chAll Ls' :: C) wx
theorem next_ps {a : ItV} (hnr : normI a) (hc : chkIt a = 0) : a.ps.length ≤ 12 := by
  unfold normI at hnr
  unfold chkIt at hc
  cases hg : a.gap
  · rw [hg, if_neg Bool.false_ne_true] at hc
    have := (chkE_zero hc).2.1
    omega
  · rw [hg, if_pos rfl] at hnr
    rw [hnr.2.2.2.2.1]
    exact Nat.zero_le _
theorem next_gap {a : ItV} (hnr : normI a) (hg : a.gap = true) : a.ps = [] := by
  unfold normI at hnr
  rw [hg, if_pos rfl] at hnr
  exact hnr.2.2.2.2.1
theorem ItV.nb.setGf {a : ItV} (h : a.nb) {n : Nat} (hn : n < 18446744073709551616) : ({ a with gf := n } : ItV).nb := ⟨h.o, h.sq, h.tm, h.ru, h.pz, h.st, h.pr, h.va, h.ow, h.go, hn, h.gt⟩
theorem range_mid {l1 l2 l3 : List Value} {j : Nat} {u : Value} (h : l2[j]? = some u) : (l1 ++ (l2 ++ l3))[l1.length + j]? = some u := by
  rw [List.getElem?_append_right (by omega), Nat.add_sub_cancel_left, List.getElem?_append_left (List.getElem?_eq_some_iff.1 h).1]
  exact h
theorem rdFp_lt {w : World} {size : Nat} (hs : 0 < size) {v : Value} {n : Nat} {xs : List Value} (h : Rd w size v n xs) : ∀ x ∈ rdFp v n, x < w.heap.size := by
  intro x hx
  unfold rdFp at hx
  split at hx
  · cases hx
  obtain ⟨A, c, rfl, hl, _, _, h4⟩ := h
  obtain ⟨b, o, rfl, hat⟩ := h4 (by omega)
  have hx' : x = b := List.mem_singleton.1 hx
  have h0 : 0 < xs.length := by rw [hl]; exact Nat.mul_pos (by omega) hs
  have hc := hat 0 xs[0] (List.getElem?_eq_getElem h0)
  rw [hx']
  exact World.block_lt_of_cell? w ⟨b, o + 0, none⟩ hc
theorem nrmS_lv (t : Nat) (a : ItV) (v : Value) : nrmS (t, { a with lv := v }) = nrmS (t, a) := by
  obtain ⟨gap, o, sq, tm, ru, lv, ps, st, pr, va, ow, go, gf, gt⟩ := a
  cases gap <;> rfl
theorem cf_high (vs : Array Value) (w : World) : (callFunc 10 vs).run Tryz.prog w = .ok (.enter 10 vs) w := by go_simp
theorem cf_above (vs : Array Value) (w : World) : (callFunc 30 vs).run Tryz.prog w = .ok (.enter 30 vs) w := by go_simp
theorem cf_same (vs : Array Value) (w : World) : (callFunc 31 vs).run Tryz.prog w = .ok (.enter 31 vs) w := by go_simp
theorem rs_allocItem {ops : Array Oper} {J : World → Prop} {rs : List Nat} {fr : (Nat → Value) → Act} {fa : List (Nat × ((Nat → Value) → World → Prop))} {K : ((Nat → Value) → Act) → List (Nat × ((Nat → Value) → World → Prop)) → Prop} {i : Nat} {r : List Nat} {ty : TypeId} {pos : String} {af : Array Edge} {d : Nat} (W0 : World)
    (ho : ops[i]? = some ⟨some d, .alloc 36, ty, pos, af, none⟩) (hp : rs.contains i = true) (hnew : FreeTw.isNew rs i = false) (hd : ∀ y, d < (fr y).tmps.size)
    (h : FreeTw.RelSeq Tryz.prog ops (fun w' => Below W0.heap.size W0 w') J rs r (fun x => (fr x).put (some d) (x i)) (fa ++ [(i, fun x w => ∃ b, x i = .pointer (some ⟨b, 0, none⟩) ∧ W0.heap.size ≤ b ∧ Blk w b #[.bool false, .int .u8 0, .int .u64 0, .int .u64 0, .string ⟨#[]⟩, .slice none 0 0, .int .u8 0, .int .u8 0, .int .i64 0, .int .u8 0, .int .u8 0, .int .u64 0, .int .u64 0] 36)]) K) : FreeTw.RelSeq Tryz.prog ops (fun w' => Below W0.heap.size W0 w') J rs (i :: r) fr fa K := by
  refine FreeTw.RelSeq.rel_ (fun v w' => ∃ b, v = .pointer (some ⟨b, 0, none⟩) ∧ W0.heap.size ≤ b ∧ Blk w' b #[.bool false, .int .u8 0, .int .u64 0, .int .u64 0, .string ⟨#[]⟩, .slice none 0 0, .int .u8 0, .int .u8 0, .int .i64 0, .int .u8 0, .int .u8 0, .int .u64 0, .int .u64 0] 36) ho hp (fun v w w' ⟨b, e, h1, h2⟩ hb => ⟨b, e, h1, h2.below hb h2.lt⟩) ?_ h
  intro x w' hw _
  have hd' := hd x
  have hba : Below w'.heap.size w' (w'.alloc (.cells #[.bool false, .int .u8 0, .int .u64 0, .int .u64 0, .string ⟨#[]⟩, .slice none 0 0, .int .u8 0, .int .u8 0, .int .i64 0, .int .u8 0, .int .u8 0, .int .u64 0, .int .u64 0] 36)) := (Below.refl _ _).alloc (Nat.le_refl _) _
  have hI := hw.trans (hba.mono hw.size)
  have hsz := hw.size
  have hB : Blk (w'.alloc (.cells #[.bool false, .int .u8 0, .int .u64 0, .int .u64 0, .string ⟨#[]⟩, .slice none 0 0, .int .u8 0, .int .u8 0, .int .i64 0, .int .u8 0, .int .u8 0, .int .u64 0, .int .u64 0] 36)) w'.heap.size #[.bool false, .int .u8 0, .int .u64 0, .int .u64 0, .string ⟨#[]⟩, .slice none 0 0, .int .u8 0, .int .u8 0, .int .i64 0, .int .u8 0, .int .u8 0, .int .u64 0, .int .u64 0] 36 := Blk.new _ _ _
  unfold Oper.wp execOp
  go_simp
section
variable {ops : Array Oper} {Q : Exit → Act → World → Prop} {rest : List Oper} {ty : TypeId} {pos : String} {af : Array Edge} {a : Act} {w : World} {d : Nat}
theorem pl_mkEnt {x : Nat} (ti : Nat) (gp : Bool) (o sq tm : Nat) (ru : ByteArray) (Al : Option Addr) (nl cl st pr : Nat) (va : Int) (ow go gf gt : Nat) (hx : a.eval (.tmp x) = .agg #[.int .u64 ti, .bool gp, .int .u8 o, .int .u64 sq, .int .u64 tm, .string ru, .slice Al nl cl, .int .u8 st, .int .u8 pr, .int .i64 va, .int .u8 ow, .int .u8 go, .int .u64 gf, .int .u64 gt]) (h : wpList Tryz.prog ops Q rest (a.put (some d) (.slice (some ⟨w.heap.size, 0, none⟩) 1 1)) (w.alloc (.cells #[.int .u64 ti, .bool gp, .int .u8 o, .int .u64 sq, .int .u64 tm, .string ru, .slice Al nl cl, .int .u8 st, .int .u8 pr, .int .i64 va, .int .u8 ow, .int .u8 go, .int .u64 gf, .int .u64 gt] 41))) : wpList Tryz.prog ops Q (⟨some d, .buildSlice 24 1 #[(0, .tmp x)], ty, pos, af, none⟩ :: rest) a w := by
  have hx' := eval_getD hx
  exact PL.val_ (fun K hK => by unfold Oper.wp execOp; go_simp; exact hK) h
theorem pl_buildEnt {x y : Nat} (ti : Nat) (gp : Bool) (o sq tm : Nat) (ru : ByteArray) (Al : Option Addr) (nl cl st pr : Nat) (va : Int) (ow go gf gt : Nat) (hx : a.eval (.tmp x) = .int .u64 ti) (hy : a.eval (.tmp y) = .agg #[.bool gp, .int .u8 o, .int .u64 sq, .int .u64 tm, .string ru, .slice Al nl cl, .int .u8 st, .int .u8 pr, .int .i64 va, .int .u8 ow, .int .u8 go, .int .u64 gf, .int .u64 gt]) (h : wpList Tryz.prog ops Q rest (a.put (some d) (.agg #[.int .u64 ti, .bool gp, .int .u8 o, .int .u64 sq, .int .u64 tm, .string ru, .slice Al nl cl, .int .u8 st, .int .u8 pr, .int .i64 va, .int .u8 ow, .int .u8 go, .int .u64 gf, .int .u64 gt])) w) : wpList Tryz.prog ops Q (⟨some d, .build 41 #[(0, .tmp x), (1, .tmp y)], ty, pos, af, none⟩ :: rest) a w := by
  have hx' := eval_getD hx
  have hy' := eval_getD hy
  exact PL.val_ (fun K hK => by unfold Oper.wp execOp; go_simp; exact hK) h
theorem pl_not {x : Nat} {b : Bool} (hx : a.eval (.tmp x) = .bool b) (h : wpList Tryz.prog ops Q rest (a.put (some d) (.bool (!b))) w) : wpList Tryz.prog ops Q (⟨some d, .unOp .not 4 (.tmp x), ty, pos, af, none⟩ :: rest) a w := by
  have hx' := eval_getD hx
  exact PL.val_ (fun K hK => by unfold Oper.wp execOp; go_simp; exact hK) h
end
theorem exit_world {Q : Exit → Act → World → Prop} {e : Exit} {a : Act} {w : World} (h : ∀ w', w' = w → Q e a w') : Q e a w := h w rfl
theorem exit_frame {Q : Exit → Act → World → Prop} {e : Exit} {a b : Act} {w : World} (h : a = b) (hb : Q e b w) : Q e a w := h ▸ hb
theorem nrmS_nb {x : Nat × ItV} (h : x.2.nb ∧ x.2.ps.length ≤ 12) : (nrmS x).2.nb ∧ (nrmS x).2.ps.length ≤ 12 := by
  refine strip_nb (x := (x.1, nrmI x.2)) ⟨nrmI_nb h.1, ?_⟩
  obtain ⟨t, gap, o, sq, tm, ru, lv, ps, st, pr, va, ow, go, gf, gt⟩ := x
  cases gap
  · exact h.2
  · exact Nat.zero_le _
theorem flat_take14 (l : List (Nat × ItV)) : ∀ k, (l.flatMap en14).take (k * 14) = (l.take k).flatMap en14 := by
  induction l with
  | nil => intro k; simp
  | cons x r ih =>
    intro k
    cases k with
    | zero => rw [Nat.zero_mul]; rfl
    | succ k =>
      rw [List.flatMap_cons, List.take_succ_cons, List.flatMap_cons, ← ih k, List.take_append]
      have h : (en14 x).length = 14 := rfl
      rw [h, List.take_of_length_le (by rw [h]; omega), show (k + 1) * 14 - 14 = k * 14 by omega]

set_option maxHeartbeats 16000000 in
theorem lpWalk (v : Value) (xs : List ActP) (w : World) (hr : Rd w 30 v xs.length (xs.flatMap act30)) (hok : ∀ x ∈ xs, x.ok w) :
    Calls Tryz.prog 6 #[v] w fun e w' => e = .returned (.bool true) ∧ Below w.heap.size w w' := by
  obtain ⟨i0, hi, hz0, hz1, hz2⟩ := info_parts infoEntryL
  obtain ⟨A, c, rfl, _, h2, h3, h4⟩ := hr
  unfold maxLen at h3
  obtain ⟨n, hnn⟩ : ∃ n, n = xs.length := ⟨_, rfl⟩
  rw [← hnn] at h2 h4 ⊢
  have HN := Lib.hid hnn
  have HXS := Lib.hid hok
  clear hnn hok
  go_enter Tryz.func6, Tryz.ntmps6
  go_wp2_with fail
  (with_reducible refine (awake22 _).mono ?_)
  rintro e w1 ⟨rfl, hb1⟩
  have U1 := (Upd.nil [] w).grow hb1
  clear hb1
  go_wp2_with fail
  (with_reducible refine (diskNew _).mono ?_)
  rintro e w8 ⟨d_, m, rfl, hd, hm, hD, hb8⟩
  have U8 := U1.add hb8 (chDisk d_ m []) hD (fun x hx => by
    rcases List.mem_cons.1 hx with rfl | hx
    · exact hd
    rcases List.mem_cons.1 hx with rfl | hx
    · exact hm
    · cases hx)
  clear U1 hd hm hD hb8
  go_wp2_with fail
  (with_reducible refine (crcNew w8).mono ?_)
  rintro e w12 ⟨rfl, hT, hb12⟩
  obtain ⟨b, hbb⟩ : ∃ b, b = w8.heap.size := ⟨_, rfl⟩
  rw [← hbb] at hT ⊢
  have hdl : d_ < w8.heap.size := U8.lt (List.mem_cons_self) (.head _)
  have hml : m < w8.heap.size := U8.lt (List.mem_cons_self) (.tail _ (.head _))
  have U12 := U8.add hb12 (chTbA b) hT (fun y hy => by rw [List.mem_singleton.1 hy]; omega)
  have hDd := U12.disk 1 rfl
  have hPd : (chDT d_ m b []).P w12 := ⟨hT, hDd, by simp only [List.mem_cons, List.not_mem_nil, or_false]; omega⟩
  have U13 := U12.join (chDT d_ m b []) hPd (fun y hy => by
    rcases List.mem_cons.1 hy with rfl | hy
    · exact .inl (.head _)
    · exact .inr hy)
  have KO := lOpen0 d_ m b w12 hPd
  clear U8 hb12 hT hbb hdl hml hDd hPd U12
  go_wp2_with fail
  (with_reducible refine KO.mono ?_)
  rintro e w14 ⟨g, j, fs0, rfl, hj0, h14⟩
  have U14 := (((U13.turn 0 rfl h14).allNil).nilRow 41 14).ofRow.pick [2, 0, 1] (by decide)
  simp only [List.eraseIdx_cons_zero, List.append_nil, List.filterMap_cons, List.filterMap_nil, List.getElem?_cons_zero, List.getElem?_cons_succ] at U14
  have eL : layAll (([Ln.life 1] : List Ln).map lnB) = layL [2, 1] := by
    show layAll [(2 : UInt8) :: uvar 1] = _
    rw [uvar_small (by decide)]
    show layL [2, 1] ++ [] = _
    rw [List.append_nil]
  have R0 : RP w d_ m b 0 (.pointer (some ⟨g, 0, none⟩)) (.int .i64 0) (.slice none 0 0) (.int .i64 0) (.int .u64 1) (.int .u64 0) w14 :=
    ⟨g, j, [Ln.life 1], 1, 0, [], [], none, 0, _, [], 10, _, fs0, rfl, rfl, rfl, rfl, rfl, rfl, PI.zero, rfl, (fun _ h => nomatch h), by rw [eL]; exact hj0, by
      show _ = lenR (([Ln.life 1] : List Ln).map lnB)
      rw [← layAll_len, eL], by omega, (fun _ h => nomatch h), U14⟩
  clear KO h14 U13 hj0 eL U14
  go_wp2_with fail
  go_loopw [5, 6, 7, 8, 9, 10, 46] (fun l e mv sy li nv i wr => ∃ k : Nat, k ≤ n ∧ k ≤ 101 ∧ i = .int .i64 k ∧ RP w d_ m b k l e mv sy li nv wr) (fun _ _ _ _ _ _ i _ => n - (intOf i).toNat)
  case atStart => exact ⟨0, Nat.zero_le _, by omega, rfl, R0⟩
  case round =>
    obtain ⟨k, hk, hk1, rfl, g, j, rs, sN, nw, M, es, Am, cm, lv, Ls, kk, ks, fs, rfl, rfl, rfl, rfl, rfl, rfl, HP⟩ := hrel
    have HPW := Lib.hid HP
    have R1 := HP.upd
    clear HP R0
    by_cases hkn : k < n
    · obtain ⟨x, hx⟩ : ∃ x, xs[k]? = some x := ⟨_, List.getElem?_eq_getElem (by rw [← HN.out]; exact hkn)⟩
      obtain ⟨bq, oo, rfl, hat⟩ := h4 (by omega)
      have hsk := HXS.out x (List.mem_of_getElem? hx)
      have hb5 := R1.below
      obtain ⟨ki, ⟨g_, o, p, ow, sq, mo, ti, ru, la, va, stb⟩, ⟨ag, ao, asq, atm, aru, alv, aps, ast, apr, ava, aow, ago, agf, agt⟩, af, anw, raw, t1, t2⟩ := x
      obtain ⟨o1, o2, o3, o4, o5, o6, o7⟩ := hsk
      simp only at o1 o2 o3 o4 o5 o6 o7
      obtain ⟨Al, acl, hal, _⟩ := o3.rd
      simp only at hal
      subst hal
      have hR : wr.rangeAt bq (oo + k * 30) [.int .u8 ki, .bool g_, .int .u8 o, .int .u8 p, .int .u8 ow, .int .u16 sq, .int .u16 mo, .int .u16 ti, .int .u8 ru, .int .u8 la, .int .u8 va, .bool stb, .bool ag, .int .u8 ao, .int .u64 asq, .int .u64 atm, .string aru, .slice Al aps.length acl, .int .u8 ast, .int .u8 apr, .int .i64 ava, .int .u8 aow, .int .u8 ago, .int .u64 agf, .int .u64 agt, .int .u8 af, .int .u64 anw, .bool raw, .int .u16 t1, .int .u16 t2] := (hat.el (f := act30) (n := 30) (fun _ => rfl) k _ hx).below hb5
      clear hx hat
      go_upto_region 11 with (first | ((with_reducible refine wpList_load_mid ?l5a 74 (.tmp 49) ?l5b (bq) (oo + k * 30) ?l5c _ _ hR Tryz.underlying74 ?l5d ?l5e ?l5f); (focus (case l5a => rfl)); (focus (case l5b => rfl)); (focus (case l5c => rfl)); (focus (case l5d => rfl)); (focus (case l5e => kernel_rfl))) | ((with_reducible refine wpList_store_mid ?s6a 74 (.tmp 12) (.tmp 50) ?s6b (wr.heap.size) 0 ?s6z ?s6c ?s6d ?s6e ?s6f ?s6g ?s6h); (case s6a => rfl); (case s6b => rfl); (case s6c => rfl); (case s6d => rfl); (case s6e => exact Blk.there (Blk.new _ _ _) 0 30 (by decide)); (case s6f => kernel_rfl); (case s6g => simp [Value.oneCell'])))
      refine wp_gen fun w2 hw2 => ?_
      have U2 := ((R1.alloc #[.int .u8 0, .bool false, .int .u8 0, .int .u8 0, .int .u8 0, .int .u16 0, .int .u16 0, .int .u16 0, .int .u8 0, .int .u8 0, .int .u8 0, .bool false, .bool false, .int .u8 0, .int .u64 0, .int .u64 0, .string ⟨#[]⟩, .slice none 0 0, .int .u8 0, .int .u8 0, .int .i64 0, .int .u8 0, .int .u8 0, .int .u64 0, .int .u64 0, .int .u8 0, .int .u64 0, .bool false, .int .u16 0, .int .u16 0] 74).putAll 0 rfl [.int .u8 ki, .bool g_, .int .u8 o, .int .u8 p, .int .u8 ow, .int .u16 sq, .int .u16 mo, .int .u16 ti, .int .u8 ru, .int .u8 la, .int .u8 va, .bool stb, .bool ag, .int .u8 ao, .int .u64 asq, .int .u64 atm, .string aru, .slice Al aps.length acl, .int .u8 ast, .int .u8 apr, .int .i64 ava, .int .u8 aow, .int .u8 ago, .int .u64 agf, .int .u64 agt, .int .u8 af, .int .u64 anw, .bool raw, .int .u16 t1, .int .u16 t2] rfl).same hw2
      simp only [List.eraseIdx_cons_zero] at U2
      clear R1 hw2 hb5 hR
      obtain ⟨ga, hga⟩ : ∃ ga, ga = wr.heap.size := ⟨_, rfl⟩
      rw [← hga] at U2 ⊢
      clear hga
      have x17 := (U2.blk 0 rfl).cell (j := 17) (v := .slice Al aps.length acl) rfl
      by_cases h100 : 100 < k
      · as_aux_lemma =>
        have d1 : decide ((100 : Int) < (k : Int)) = true := by simp; omega
        have hB2 := U2.below
        clear U2 HPW
        go_wp2_with fail
        go_ret
        exact ⟨rfl, hB2⟩
      have d1 : decide ((100 : Int) < (k : Int)) = false := by simp; omega
      by_cases h12 : 12 < aps.length
      · as_aux_lemma =>
        have d2 : decide ((12 : Int) < (aps.length : Int)) = true := by simp; omega
        have hB2 := U2.below
        clear U2 HPW
        go_wp2_with fail
        go_ret
        exact ⟨rfl, hB2⟩
      have d2 : decide ((12 : Int) < (aps.length : Int)) = false := by simp; omega
      go_upto_if 60 with fail
      iterate 5 (first | go_skip | go_step | go_values | go_back)
      clear d1 d2 x17
      go_cut [5, 6, 7, 8, 9, 10, 46] from 46 to 297 (fun l e mv sy li nv i wx => i = .int .i64 k ∧ RP w d_ m b (k + 1) l e mv sy li nv wx)
      case first =>
        as_aux_lemma =>
        obtain ⟨r8, hr8⟩ : ∃ r, r = ki % 8 := ⟨_, rfl⟩
        have t8 : (ki : Int).tmod 8 = (r8 : Int) := by rw [hr8]; rfl
        have x0 := (U2.blk 0 rfl).cell (j := 0) (v := .int .u8 ki) rfl
        have HU2 := Lib.hid U2
        clear hr8 U2
        by_cases h6 : r8 = 6
        · as_aux_lemma =>
          subst h6
          have t8' : (ki : Int).tmod 8 = 6 := t8
          have KS := lSync g j d_ m b kk ks lv _ _ _ es fs (layAll (rs.map lnB)) w2 (HU2.out.get 1 rfl) HPW.out.hj
          clear t8
          go_wp2_with fail
          (with_reducible refine KS.mono ?_)
          rintro e w3 ⟨rfl, fs3, hj3, hU3⟩
          have U3 := (HU2.out.turn 1 rfl hU3).pick [0, 2, 3] (by decide)
          simp only [List.filterMap_cons, List.filterMap_nil, List.getElem?_cons_zero, List.getElem?_cons_succ, List.cons_append, List.nil_append, List.eraseIdx_cons_succ, List.eraseIdx_cons_zero] at U3
          have HU3 := Lib.hid U3
          have HJ := Lib.hid hj3
          clear KS hU3 HU2 U3 hj3 x0 t8'
          go_wp2_with fail
          go_meet
          case rel =>
            have HP := HPW.out
            exact ⟨rfl, g, j, rs, rs.length, nw, M, es, Am, cm, lv, Ls, kk, _, fs3, rfl, rfl, rfl, by rw [List.take_length, ← HP.pi.mes, List.length_map], rfl, rfl, HP.pi.synced, HP.hes, HP.nb, HJ.out, by rw [List.take_length, layAll_len], by have := HP.hkk; omega, HP.lab, HU3.out⟩
        by_cases h7 : r8 = 7
        · as_aux_lemma =>
          subst h7
          have t8' : (ki : Int).tmod 8 = 7 := t8
          have x28 := (HU2.out.blk 0 rfl).cell (j := 28) (v := .int .u16 t1) rfl
          have x29 := (HU2.out.blk 0 rfl).cell (j := 29) (v := .int .u16 t2) rfl
          have hpi := HPW.out.pi
          have HPI := Lib.hid hpi
          have hacc : 1 ≤ (layAll (rs.map lnB)).length := by
            have h1 := lenR_ge (rs.map lnB)
            have h2 := hpi.one
            have h3 := hpi.sn
            rw [layAll_len]
            rw [List.length_map] at h1
            omega
          obtain ⟨v0, hfs⟩ := HPW.out.hj.some hacc
          have hks := HPW.out.hks
          have U3 := (HU2.out.pick [1, 0, 2, 3] (by decide))
          simp only [List.filterMap_cons, List.filterMap_nil, List.getElem?_cons_zero, List.getElem?_cons_succ] at U3
          replace U3 := U3.left
          rw [hfs] at U3
          obtain ⟨g', hg1, hg2, hsc⟩ := scan_crash (rs.map lnB) (fun r hr => by obtain ⟨y, hy, rfl⟩ := List.mem_map.1 hr; have := hpi.sz y hy; omega) sN (by rw [List.length_map]; exact hpi.sn) t1 t2
          rw [List.length_map] at hg2
          rw [← List.map_take, ← List.map_take, ← hks] at hsc
          obtain ⟨R, hR⟩ : ∃ R, R = tornB (layAll (rs.map lnB)) ks t1 t2 := ⟨_, rfl⟩
          rw [← hR] at hsc
          have HSC := Lib.hid hsc
          have HR := Lib.hid hR
          have HG2 := Lib.hid hg2
          obtain ⟨nn, hnn, hc1, hc2, hc3, hc4, hc5, hc6, hc7⟩ := hpi.crash hg1 hg2 (by omega)
          have HNN := Lib.hid hnn
          have HC3 := Lib.hid hc3
          have HC4 := Lib.hid hc4
          have HC5 := Lib.hid hc5
          have HC6 := Lib.hid hc6
          have HC7 := Lib.hid hc7
          have hlx := hpi.len
          clear t8 hacc hfs hks hsc hR hnn hc3 hc4 hc5 hc6 hc7 hpi hg1 hg2
          go_wp2_with fail
          refine calls_genP fun w4 hw4 => ?_
          have U4 := (U3.alloc #[.int .u16 t1, .int .u16 t2] 68).same hw4
          have KC := crashTornDT d_ m b nmL v0 (layAll (rs.map lnB)) ks _ (t1, t2) w4 (U4.get 1 rfl) (rd_one (U4.blk 0 rfl) (n := 2) rfl) o6 o7
          simp only [← HR.out] at KC
          clear hw4 U3 x0 x28 x29
          (with_reducible refine KC.mono ?_)
          rintro e w5 ⟨rfl, v5, hU5⟩
          have U5 := (U4.turn 1 rfl hU5).pick [0, 2, 3, 4] (by decide)
          simp only [List.filterMap_cons, List.filterMap_nil, List.getElem?_cons_zero, List.getElem?_cons_succ, List.cons_append, List.nil_append, List.eraseIdx_cons_succ, List.eraseIdx_cons_zero] at U5
          clear KC hU5 U4
          have KO := lOpenTorn d_ m b v5 R (rs.take g') w5 (U5.get 0 rfl) HSC.out HC5.out (fun r hr => by have := HC6.out r hr; omega) (by rw [List.length_take]; omega) (by have := HPI.out.li; rw [HC3.out]; omega)
          go_wp2_with fail
          (with_reducible refine KO.mono ?_)
          rintro e w6 ⟨g6, j6, lv6, es6, fs6, k6, rfl, hes6, hle6, hj6, hk6, hU6⟩
          have U6 := U5.turn 0 rfl hU6
          simp only [List.cons_append, List.nil_append, List.eraseIdx_cons_zero] at U6
          clear KO hU6 U5 hle6
          have hn6 : es6.length = nn := by
            have h5 := congrArg List.length hes6
            rw [List.length_map] at h5
            rw [h5]; exact HNN.out.symm
          obtain ⟨Alv6, clv6, rfl⟩ := owns_slice ((two_open (two_open (two_open (U6.get 0 rfl) |>.get 0 rfl) |>.get 0 rfl)).row 1 rfl)
          have hB6 := (two_open (two_open (two_open (U6.get 0 rfl) |>.get 0 rfl) |>.get 0 rfl)).blk 0 rfl
          have KN := lLen g6 es6.length (.pointer (some ⟨j6, 0, none⟩)) Alv6 clv6 _ _ _ w6 hB6
          rw [hn6] at KN
          have hcm := (show mAt _ _ _ _ _ w6 from U6.get 2 rfl).rd
          obtain ⟨A_, c_, he_, _, hmc, hmx, _⟩ := hcm
          cases he_
          have hli := HPI.out.li
          have hmle := HPI.out.mlen
          have wli : IntKind.u64.wrap (((runS s0L rs).li : Int) + 1) = (((runS s0L rs).li + 1 : Nat) : Int) := by rw [IntKind.wrap_u64]; omega
          have d1 : decide ((nn : Int) < ((runS s0L (rs.take sN)).es.length : Int)) = false := by simp; omega
          have d2 : decide ((M.length : Int) < (nn : Int)) = false := by simp; omega
          have d3 : (nn : Int) ≤ (cm : Int) := by omega
          have d4 : (0 : Int) ≤ (nn : Int) := by omega
          have HES6 := Lib.hid hes6
          have HJ6 := Lib.hid hj6
          have HU6 := Lib.hid U6
          have HN6 := Lib.hid hn6
          clear hB6 hes6 hj6 U6 hn6 hmx hmc
          go_wp2_with fail
          (with_reducible refine KN.mono ?_)
          rintro e w7 ⟨rfl, rfl⟩
          go_wp2_with fail
          (with_reducible refine KN.mono ?_)
          rintro e w7 ⟨rfl, rfl⟩
          go_wp2_with fail
          (with_reducible refine KN.mono ?_)
          rintro e w7 ⟨rfl, rfl⟩
          go_wp2_with fail
          go_meet
          case rel =>
            have U7 := HU6.out.pick [2, 0, 3] (by decide)
            simp only [List.filterMap_cons, List.filterMap_nil, List.getElem?_cons_zero, List.getElem?_cons_succ] at U7
            have U8 := (U7.cutM nn hc2).pick [1, 0, 2] (by decide)
            simp only [List.filterMap_cons, List.filterMap_nil, List.getElem?_cons_zero, List.getElem?_cons_succ] at U8
            rw [flat_take14] at U8
            have hlt : (M.take nn).length = nn := by rw [List.length_take, Nat.min_eq_left hc2]
            refine ⟨rfl, g6, j6, rs.take g' ++ [Ln.life ((runS s0L (rs.take g')).li + 1)], (rs.take g' ++ [Ln.life ((runS s0L (rs.take g')).li + 1)]).length, nw, M.take nn, es6, Am, nn, .slice Alv6 es6.length clv6, Ls, k6, _, fs6, rfl, rfl, by rw [hlt], ?_, ?_, rfl, HC7.out, ?_, ?_, HJ6.out, by rw [List.take_length, layAll_len], by omega, fun x hx => HPW.out.lab x (List.mem_of_mem_take hx), ?_⟩
            · rw [List.take_length, runS_snoc]; show _ = Value.int .i64 ((runS s0L (rs.take g')).es.length : Nat); rw [← HNN.out]
            · rw [runS_snoc]; show _ = Value.int .u64 ((runS s0L (rs.take g')).li + 1 : Nat); rw [HC3.out]; rfl
            · exact (nrmS_of_strips HES6.out (good_nrm HC5.out)).trans HC4.out.symm
            · refine nb_strips HES6.out fun y hy => ?_
              rw [← HC4.out] at hy
              obtain ⟨z, hz, rfl⟩ := List.mem_map.1 hy
              have h9 := HPI.out.nb z (List.mem_of_mem_take hz)
              exact nrmS_nb h9.2
            · rw [runS_snoc, hlt]; exact U8
        have q6 : ((r8 : Int) == 6) = false := by simp; omega
        have q7 : ((r8 : Int) == 7) = false := by simp; omega
        clear h6 h7
        obtain ⟨a3, ha3⟩ : ∃ r, r = af % 3 := ⟨_, rfl⟩
        have t3 : (af : Int).tmod 3 = (a3 : Int) := by rw [ha3]; rfl
        have hpn := HPW.out.pi.now
        have hpk := HPW.out.pi.hle
        have w3 : IntKind.u64.wrap (a3 : Int) = (a3 : Int) := by rw [IntKind.wrap_u64]; omega
        have wn : IntKind.u64.wrap ((nw : Int) + (a3 : Int)) = ((nw + a3 : Nat) : Int) := by rw [IntKind.wrap_u64]; omega
        have hnw : nw + a3 ≤ nw + 2 := by omega
        have hnwb : nw + a3 < 18446744073709551616 := by omega
        have x25 := (HU2.out.blk 0 rfl).cell (j := 25) (v := .int .u8 af) rfl
        have x1 := (HU2.out.blk 0 rfl).cell (j := 1) (v := .bool g_) rfl
        have x2 := (HU2.out.blk 0 rfl).cell (j := 2) (v := .int .u8 o) rfl
        have x3 := (HU2.out.blk 0 rfl).cell (j := 3) (v := .int .u8 p) rfl
        have x4 := (HU2.out.blk 0 rfl).cell (j := 4) (v := .int .u8 ow) rfl
        have x5 := (HU2.out.blk 0 rfl).cell (j := 5) (v := .int .u16 sq) rfl
        have x6 := (HU2.out.blk 0 rfl).cell (j := 6) (v := .int .u16 mo) rfl
        have x7 := (HU2.out.blk 0 rfl).cell (j := 7) (v := .int .u16 ti) rfl
        have x8 := (HU2.out.blk 0 rfl).cell (j := 8) (v := .int .u8 ru) rfl
        have x9 := (HU2.out.blk 0 rfl).cell (j := 9) (v := .int .u8 la) rfl
        have x10 := (HU2.out.blk 0 rfl).cell (j := 10) (v := .int .u8 va) rfl
        have x11 := (HU2.out.blk 0 rfl).cell (j := 11) (v := .bool stb) rfl
        obtain ⟨hv, hhv⟩ : ∃ hv, hv = (runS s0L rs).h (o % 4) := ⟨_, rfl⟩
        have hvl : hv ≤ 1099511627776 := by rw [hhv]; exact hpk.2 _
        have KN := smallNextH g_ g hv o p ow sq mo ti ru la va stb w2 hvl o2.ow o2.sq o2.mo o2.ti o2.la o2.va (fun o4 ho4 w' hb => by
          have hB := (two_open (two_open (two_open ((HU2.out.grow hb).get 1 rfl) |>.get 0 rfl) |>.get 0 rfl)).blk 0 rfl
          refine (lHigh g _ lv (runS s0L rs).h (runS s0L rs).li (runS s0L rs).la w' hB o4 (by omega)).mono ?_
          rintro e w'' ⟨rfl, rfl⟩
          exact ⟨by rw [hhv, ho4], Below.refl _ _⟩)
        have HHV := Lib.hid hhv
        clear ha3 hpn hpk hhv
        go_wp2_with fail
        (with_reducible refine KN.mono ?_)
        rintro e w4 ⟨a, he, hnx, hrowa, hoka, hb4⟩
        have U4 := ((HU2.out.call ((Upd.nil [] w2).addRow hb4 hrowa (Nat.le_refl _)))).pick [0, 4, 1, 2, 3] (by decide)
        simp only [List.filterMap_cons, List.filterMap_nil, List.getElem?_cons_zero, List.getElem?_cons_succ, List.cons_append, List.nil_append] at U4
        replace U4 := U4.intoAll
        have hnp := next_ps hnx.nrm
        have hnpg := next_gap hnx.nrm
        have hnb := hoka.nb
        clear KN hb4 hnx hoka x1 x2 x3 x4 x5 x6 x7 x8 x9 x10 x11 x25 t3 w3 wn hvl
        subst he
        obtain ⟨bg, bo, bsq, btm, bru, blv, bps, bst, bpr, bva, bow, bgo, bgf, bgt⟩ := a
        obtain ⟨Bl, bcl, hbl⟩ := owns_slice hrowa
        simp only at hbl
        subst hbl
        clear hrowa
        go_upto_region 16 with fail
        refine wp_gen fun w5 hw5 => ?_
        have U5 := (U4.alloc #[.bool bg, .int .u8 bo, .int .u64 bsq, .int .u64 btm, .string bru, .slice Bl bps.length bcl, .int .u8 bst, .int .u8 bpr, .int .i64 bva, .int .u8 bow, .int .u8 bgo, .int .u64 bgf, .int .u64 bgt] 36).same hw5
        obtain ⟨gx, hgx⟩ : ∃ gx, gx = w4.heap.size := ⟨_, rfl⟩
        rw [← hgx] at U5 ⊢
        clear hgx hw5 U4
        have HU5 := Lib.hid U5
        have HNP := Lib.hid hnp
        have HNG := Lib.hid hnpg
        have HNB := Lib.hid hnb
        clear U5 hnp hnpg hnb
        obtain ⟨cB, hcB⟩ : ∃ B, B = (decide (200 < af) && (bg && decide (1 < bgf))) := ⟨_, rfl⟩
        go_cut [46, 88] from 46 to 297 (fun i c wx => i = .int .i64 k ∧ wx = w5 ∧ c = .bool cB)
        case first =>
          as_aux_lemma =>
          have x25 := (HU5.out.blk 2 rfl).cell (j := 25) (v := .int .u8 af) rfl
          have y0 := (HU5.out.blk 0 rfl).cell (j := 0) (v := .bool bg) rfl
          have y11 := (HU5.out.blk 0 rfl).cell (j := 11) (v := .int .u64 bgf) rfl
          have HCB := Lib.hid hcB
          clear hcB
          by_cases h200 : 200 < af
          · have d1 : decide ((200 : Int) < (af : Int)) = true := by simp; omega
            cases bg
            · go_wp2_with fail
              go_meet
              case rel => exact ⟨rfl, rfl, by rw [HCB.out]; simp⟩
            · by_cases hgf : 1 < bgf
              · have d2 : decide ((1 : Int) < (bgf : Int)) = true := by simp; omega
                go_wp2_with fail
                go_meet
                case rel => exact ⟨rfl, rfl, by rw [HCB.out]; simp; omega⟩
              · have d2 : decide ((1 : Int) < (bgf : Int)) = false := by simp; omega
                go_wp2_with fail
                go_meet
                case rel => exact ⟨rfl, rfl, by rw [HCB.out]; simp; omega⟩
          · have d1 : decide ((200 : Int) < (af : Int)) = false := by simp; omega
            go_wp2_with fail
            go_meet
            case rel => exact ⟨rfl, rfl, by rw [HCB.out]; simp; omega⟩
        case rest =>
        as_aux_lemma =>
        obtain ⟨rfl, hwc, rfl⟩ := hcut
        subst hwc
        have HCB := Lib.hid hcB
        clear hcB
        go_upto_if 88 with fail
        go_cut [46] from 46 to 297 (fun i wx => i = .int .i64 k ∧ XI w gx (chBlk ga #[.int .u8 ki, .bool g_, .int .u8 o, .int .u8 p, .int .u8 ow, .int .u16 sq, .int .u16 mo, .int .u16 ti, .int .u8 ru, .int .u8 la, .int .u8 va, .bool stb, .bool ag, .int .u8 ao, .int .u64 asq, .int .u64 atm, .string aru, .slice Al aps.length acl, .int .u8 ast, .int .u8 apr, .int .i64 ava, .int .u8 aow, .int .u8 ago, .int .u64 agf, .int .u64 agt, .int .u8 af, .int .u64 anw, .bool raw, .int .u16 t1, .int .u16 t2] 74 :: [chL g j d_ m b lv (runS s0L rs).h (runS s0L rs).li (runS s0L rs).la es kk fs, chM 41 14 (.slice Am M.length cm) M.length (M.flatMap en14)]) Ls wx)
        case first =>
          as_aux_lemma =>
          cases hB : cB
          · go_wp2_with fail
            go_meet
            case rel => exact ⟨rfl, (⟨bg, bo, bsq, btm, bru, .slice Bl bps.length bcl, bps, bst, bpr, bva, bow, bgo, bgf, bgt⟩ : ItV), _, HNB.out, HNP.out, .inr (List.mem_append_right _ (.head _)), fun c hc => List.mem_append_left _ hc, HU5.out⟩
          · have hB2 := HCB.out.symm.trans hB
            simp only [Bool.and_eq_true, decide_eq_true_eq] at hB2
            obtain ⟨h200, rfl, hgf⟩ := hB2
            have hlt := HNB.out.gf
            simp only at hlt
            have y11 := (HU5.out.blk 0 rfl).cell (j := 11) (v := .int .u64 bgf) rfl
            have wg : IntKind.u64.wrap ((bgf : Int) - 1) = ((bgf - 1 : Nat) : Int) := by rw [IntKind.wrap_u64]; omega
            have fz := (HU5.out.blk 0 rfl).frozen 11
            have U6 := HU5.out.put 0 rfl 11 (.int .u64 (bgf - 1 : Nat))
            go_wp2_with fail
            go_meet
            case rel => exact ⟨rfl, (⟨true, bo, bsq, btm, bru, .slice Bl bps.length bcl, bps, bst, bpr, bva, bow, bgo, bgf - 1, bgt⟩ : ItV), _, HNB.out.setGf (by omega), fun _ => by rw [HNG.out (by first | rfl | trivial)]; exact Nat.zero_le _, .inr (List.mem_append_right _ (.head _)), fun c hc => List.mem_append_left _ hc, U6⟩
        case rest =>
        as_aux_lemma =>
        obtain ⟨rfl, hxi⟩ := hcut
        have HXI := Lib.hid hxi
        have x27 : wc.cell? ⟨ga, 27, none⟩ = some (.bool raw) := by
          obtain ⟨X, Ls', _, _, _, _, hU⟩ := hxi
          exact (hU.blk 2 rfl).cell rfl
        clear hxi HU5 HNP HNG HNB
        go_upto_if 96 with fail
        clear x27
        go_cut [14, 46] from 46 to 297 (fun at_ i wx => i = .int .i64 k ∧ (∃ an : Nat, at_ = .int .u64 an ∧ an < 18446744073709551616) ∧ XI w gx (chBlk ga #[.int .u8 ki, .bool g_, .int .u8 o, .int .u8 p, .int .u8 ow, .int .u16 sq, .int .u16 mo, .int .u16 ti, .int .u8 ru, .int .u8 la, .int .u8 va, .bool stb, .bool ag, .int .u8 ao, .int .u64 asq, .int .u64 atm, .string aru, .slice Al aps.length acl, .int .u8 ast, .int .u8 apr, .int .i64 ava, .int .u8 aow, .int .u8 ago, .int .u64 agf, .int .u64 agt, .int .u8 af, .int .u64 anw, .bool raw, .int .u16 t1, .int .u16 t2] 74 :: [chL g j d_ m b lv (runS s0L rs).h (runS s0L rs).li (runS s0L rs).la es kk fs, chM 41 14 (.slice Am M.length cm) M.length (M.flatMap en14)]) Ls wx)
        case first =>
          as_aux_lemma =>
          cases raw
          · go_wp2_with fail
            go_meet
            case rel => exact ⟨rfl, ⟨_, rfl, hnwb⟩, HXI.out⟩
          · obtain ⟨X, Ls', hXn, hXp, hXl, hLs, hU⟩ := HXI.out
            have hU0 := hU.blk 2 rfl
            have hB := hU.blk 0 rfl
            have hne : ga ≠ gx := fun h => hU.apartAt 0 2 (by decide) rfl rfl gx (chBlk_fp.2 rfl) (chBlk_fp.2 h.symm)
            have hnx : wc.heap.size = wc.heap.size := rfl
            go_upto_region 19 with fail
            refine wp_at fun A hA => ?_
            have hs : A.tmps.size = 300 := by rw [hA]; rfl
            have h12 : A.eval (.tmp 12) = .pointer (some ⟨ga, 0, none⟩) := by rw [hA]; rfl
            have h15 : A.eval (.tmp 15) = .pointer (some ⟨gx, 0, none⟩) := by rw [hA]; rfl
            have HA := Lib.hid hA
            clear hA
            have F : ∀ w', Below wc.heap.size wc w' → w'.cell? ⟨ga, 26, none⟩ = some (.int .u64 anw) ∧ w'.rangeAt ga 12 [.bool ag, .int .u8 ao, .int .u64 asq, .int .u64 atm, .string aru, .slice Al aps.length acl, .int .u8 ast, .int .u8 apr, .int .i64 ava, .int .u8 aow, .int .u8 ago, .int .u64 agf, .int .u64 agt] ∧ w'.there gx 0 13 ∧ Upd [] w (chBlk gx (it13 X).toArray 36 :: chAll Ls' :: (chBlk ga #[.int .u8 ki, .bool g_, .int .u8 o, .int .u8 p, .int .u8 ow, .int .u16 sq, .int .u16 mo, .int .u16 ti, .int .u8 ru, .int .u8 la, .int .u8 va, .bool stb, .bool ag, .int .u8 ao, .int .u64 asq, .int .u64 atm, .string aru, .slice Al aps.length acl, .int .u8 ast, .int .u8 apr, .int .i64 ava, .int .u8 aow, .int .u8 ago, .int .u64 agf, .int .u64 agt, .int .u8 af, .int .u64 anw, .bool true, .int .u16 t1, .int .u16 t2] 74 :: [chL g j d_ m b lv (runS s0L rs).h (runS s0L rs).li (runS s0L rs).la es kk fs, chM 41 14 (.slice Am M.length cm) M.length (M.flatMap en14)])) w' := fun w' hb =>
              ⟨((hU.grow hb).blk 2 rfl).cell rfl, ((hU.grow hb).blk 2 rfl).range 12 _ (fun j u hu => by rw [List.getElem?_toArray]; exact range_mid (l1 := [.int .u8 ki, .bool g_, .int .u8 o, .int .u8 p, .int .u8 ow, .int .u16 sq, .int .u16 mo, .int .u16 ti, .int .u8 ru, .int .u8 la, .int .u8 va, .bool stb]) (l3 := [.int .u8 af, .int .u64 anw, .bool true, .int .u16 t1, .int .u16 t2]) hu), Blk.there ((hU.grow hb).blk 0 rfl) 0 13 (Nat.le_refl 13), hU.grow hb⟩
            refine FreeTw.region_free (fun w' => Below wc.heap.size wc w') (fun w' => w'.cell? ⟨ga, 26, none⟩ = some (.int .u64 anw)) [2000003] [4, 5] [0, 1, 2, 3] (fun w' hw => (F w' hw).1) (by kernel_rfl) (by rw [hs]; kernel_rfl) (by kernel_rfl) ((Below.refl _ _).drew) ?_
            refine FreeTw.RelSeq.pure_ (c := ?_) rfl rfl ?_ ?_; rotate_left; (focus (intro x w'; (try dsimp only); unfold Oper.wp execOp; simp only [h12]; go_simp; with_reducible rfl))
            refine FreeTw.RelSeq.ldm_ 36 (.tmp 97) rfl rfl rfl ga 12 [.bool ag, .int .u8 ao, .int .u64 asq, .int .u64 atm, .string aru, .slice Al aps.length acl, .int .u8 ast, .int .u8 apr, .int .i64 ava, .int .u8 aow, .int .u8 ago, .int .u64 agf, .int .u64 agt] _ (fun y => by simp only [put_size, hs, Nat.reduceLT]) (fun y => by simp only [eval_put_self, hs, Nat.reduceLT]) (fun w' hw => (F w' hw).2.1) Tryz.underlying36 rfl (by kernel_rfl) ?_
            refine FreeTw.RelSeq.pure_ (c := ?_) rfl rfl ?_ ?_; rotate_left; (focus (intro x w'; (try dsimp only); unfold Oper.wp execOp; simp only [eval_put_ne, ne_eq, not_false_eq_true, Nat.reduceEqDiff, h12]; go_simp; with_reducible rfl))
            refine FreeTw.RelSeq.steady_ (c := ?_) rfl rfl rfl ?_ ?_; rotate_left; (focus (intro x w' hw; (try dsimp only); unfold Oper.wp execOp; simp only [eval_put_self, put_size, hs, Nat.reduceLT]; go_simp; with_reducible rfl))
            refine FreeTw.RelSeq.nil_ fun x w6 hw _ _ => ?_
            obtain ⟨f1, f2, f3, U6⟩ := F w6 hw
            refine FreeTw.TailSeq.stm_ 36 (.tmp 15) (.tmp 98) rfl gx 0 #[.bool ag, .int .u8 ao, .int .u64 asq, .int .u64 atm, .string aru, .slice Al aps.length acl, .int .u8 ast, .int .u8 apr, .int .i64 ava, .int .u8 aow, .int .u8 ago, .int .u64 agf, .int .u64 agt] (by simp only [eval_put_ne, ne_eq, not_false_eq_true, Nat.reduceEqDiff, h15]) (by simp only [eval_put_ne, eval_put_self, put_size, hs, ne_eq, not_false_eq_true, Nat.reduceEqDiff, Nat.reduceLT]) f3 (by kernel_rfl) (by simp [Value.oneCell']) (.inr (by rw [World.cell?_of_block ((setCells_mod gx _ 0 w6).2.2.2.2 ga hne)]; exact f1)) ?_
            refine FreeTw.TailSeq.asg_ rfl (by simp only [put_size, hs, Nat.reduceLT]) (v := .int .u64 anw) (by simp only [eval_put_self, put_size, hs, Nat.reduceLT]) (.inl rfl) ?_
            refine FreeTw.TailSeq.nil_ ?_
            have U7 := U6.putAll 0 rfl [.bool ag, .int .u8 ao, .int .u64 asq, .int .u64 atm, .string aru, .slice Al aps.length acl, .int .u8 ast, .int .u8 apr, .int .i64 ava, .int .u8 aow, .int .u8 ago, .int .u64 agf, .int .u64 agt] rfl
            have HU7 := Lib.hid U7
            have HLS := Lib.hid hLs
            clear U7 U6 f1 f2 f3 F hw h12 h15 hs hLs hXn hXp hXl hU0 hB hU
            have hA := HA.out
            clear HA
            subst hA
            simp only [Act.put, List.setIfInBounds_toArray]
            refine exit_frame (b := ⟨List.toArray (_ :: _ :: _ :: _ :: _ :: _ :: _ :: _ :: _ :: _ :: _ :: _ :: _ :: _ :: _ :: _ :: _ :: _ :: _ :: _ :: _ :: _ :: _ :: _ :: _ :: _ :: _ :: _ :: _ :: _ :: _ :: _ :: _ :: _ :: _ :: _ :: _ :: _ :: _ :: _ :: _ :: _ :: _ :: _ :: _ :: _ :: _ :: _ :: _ :: _ :: _ :: _ :: _ :: _ :: _ :: _ :: _ :: _ :: _ :: _ :: _ :: _ :: _ :: _ :: _ :: _ :: _ :: _ :: _ :: _ :: _ :: _ :: _ :: _ :: _ :: _ :: _ :: _ :: _ :: _ :: _ :: _ :: _ :: _ :: _ :: _ :: _ :: _ :: _ :: _ :: _ :: _ :: _ :: _ :: _ :: _ :: _ :: _ :: _ :: _ :: _ :: _ :: _ :: _ :: _ :: _ :: _ :: _ :: _ :: _ :: _ :: _ :: _ :: _ :: _ :: _ :: _ :: _ :: _ :: _ :: _ :: _ :: _ :: _ :: _ :: _ :: _ :: _ :: _ :: _ :: _ :: _ :: _ :: _ :: _ :: _ :: _ :: _ :: _ :: _ :: _ :: _ :: _ :: _ :: _ :: _ :: _ :: _ :: _ :: _ :: _ :: _ :: _ :: _ :: _ :: _ :: _ :: _ :: _ :: _ :: _ :: _ :: _ :: _ :: _ :: _ :: _ :: _ :: _ :: _ :: _ :: _ :: _ :: _ :: _ :: _ :: _ :: _ :: _ :: _ :: _ :: _ :: _ :: _ :: _ :: _ :: _ :: _ :: _ :: _ :: _ :: _ :: _ :: _ :: _ :: _ :: _ :: _ :: _ :: _ :: _ :: _ :: _ :: _ :: _ :: _ :: _ :: _ :: _ :: _ :: _ :: _ :: _ :: _ :: _ :: _ :: _ :: _ :: _ :: _ :: _ :: _ :: _ :: _ :: _ :: _ :: _ :: _ :: _ :: _ :: _ :: _ :: _ :: _ :: _ :: _ :: _ :: _ :: _ :: _ :: _ :: _ :: _ :: _ :: _ :: _ :: _ :: _ :: _ :: _ :: _ :: _ :: _ :: _ :: _ :: _ :: _ :: _ :: _ :: _ :: _ :: _ :: _ :: _ :: _ :: _ :: _ :: _ :: _ :: _ :: _ :: _ :: _ :: _ :: _ :: _ :: _ :: _ :: _ :: _ :: _ :: _ :: _ :: _ :: _ :: _ :: _ :: _ :: _ :: _ :: _ :: _ :: _ :: _ :: _ :: _ :: _ :: _ :: _ :: _ :: []), _⟩) rfl ?_
            go_wp2_with fail
            go_meet
            case rel => exact ⟨rfl, ⟨_, rfl, o5⟩, ⟨ag, ao, asq, atm, aru, .slice Al aps.length acl, aps, ast, apr, ava, aow, ago, agf, agt⟩, Ls', o3.nb, fun _ => by show aps.length ≤ 12; omega, .inl o3.rd, HLS.out, HU7.out⟩
        case rest =>
        as_aux_lemma =>
        obtain ⟨rfl, ⟨an, rfl, han⟩, hxi⟩ := hcut
        obtain ⟨X, Ls2, hXn, hXp, hXl, hLs, U6⟩ := hxi
        obtain ⟨Bl, bcl, hbl⟩ : ∃ A c, X.lv = .slice A X.ps.length c := by
          rcases hXl with h | h
          · obtain ⟨A, c, e, _⟩ := h; exact ⟨A, c, e⟩
          · obtain ⟨A, c, e, _⟩ := rd_of_owns (show wc.ownsRow 0 137 2 X.lv X.ps.length (pairCells X.ps) from U6.all 1 rfl _ h); exact ⟨A, c, e⟩
        have HXO := Lib.hid (show ∀ (C : List Chunk) (w' : World), Upd [] w (chAll Ls2 :: C) w' → X.ok w' from fun C w' hU => hXn.ok (by
          rcases hXl with h | h
          · exact hU.rd0 h
          · exact rd_of_owns (show w'.ownsRow 0 137 2 X.lv X.ps.length (pairCells X.ps) from hU.all 0 rfl _ h)))
        have HDJ := Lib.hid (show ∀ (q : Chunk) (C : List Chunk) (w' : World), Upd [] w (chAll Ls2 :: q :: C) w' → ∀ x ∈ rdFp X.lv X.ps.length, x ∉ q.fp from fun q C w' hU x hx hq => by
          rcases hXl with h | h
          · have h1 := rdFp_lt (by decide) h x hx
            rcases hU.own q (.tail _ (.head _)) x hq with h2 | h2
            · cases h2
            · omega
          · have h1 : x ∈ (labRow (0, X)).fp := by
              unfold rdFp at hx
              split at hx
              · cases hx
              · exact hx
            exact hU.apartAt 0 1 (by decide) rfl rfl x (List.mem_flatMap.2 ⟨_, h, h1⟩) hq)
        obtain ⟨mn, hmn⟩ : ∃ mn, mn = M.length := ⟨_, rfl⟩
        have hM6 := (show mAt _ _ _ _ _ wc from U6.get 4 rfl).rd
        rw [← hmn] at U6 hM6 ⊢
        have HMR := Lib.hid hM6
        have HMN := Lib.hid hmn
        have HPI := Lib.hid HPW.out.pi
        have hml : mn ≤ 1000 := by have := HPI.out.mlen; omega
        have HXN := Lib.hid hXn
        have HXP := Lib.hid hXp
        have HXL := Lib.hid hXl
        have HLS := Lib.hid hLs
        obtain ⟨bg, bo, bsq, btm, bru, blv, bps, bst, bpr, bva, bow, bgo, bgf, bgt⟩ := X
        simp only at hbl
        subst hbl
        have U6 : Upd [] w [chBlk gx #[.bool bg, .int .u8 bo, .int .u64 bsq, .int .u64 btm, .string bru, .slice Bl bps.length bcl, .int .u8 bst, .int .u8 bpr, .int .i64 bva, .int .u8 bow, .int .u8 bgo, .int .u64 bgf, .int .u64 bgt] 36, chAll Ls2, chBlk ga #[.int .u8 ki, .bool g_, .int .u8 o, .int .u8 p, .int .u8 ow, .int .u16 sq, .int .u16 mo, .int .u16 ti, .int .u8 ru, .int .u8 la, .int .u8 va, .bool stb, .bool ag, .int .u8 ao, .int .u64 asq, .int .u64 atm, .string aru, .slice Al aps.length acl, .int .u8 ast, .int .u8 apr, .int .i64 ava, .int .u8 aow, .int .u8 ago, .int .u64 agf, .int .u64 agt, .int .u8 af, .int .u64 anw, .bool raw, .int .u16 t1, .int .u16 t2] 74, chL g j d_ m b lv (runS s0L rs).h (runS s0L rs).li (runS s0L rs).la es kk fs, chM 41 14 (.slice Am mn cm) mn (M.flatMap en14)] wc := U6
        have HU6 := Lib.hid U6
        clear hXn hXp hXl hLs hM6 hmn HXI U6
        go_upto_if 103 with fail
        go_cut [16, 46] from 46 to 297 (fun la i wx => wx = wc ∧ i = .int .i64 k ∧ la = .int .u64 (lastL M))
        case first =>
          as_aux_lemma =>
          rcases Nat.eq_zero_or_pos mn with h0 | h0
          · have e1 : M = [] := List.eq_nil_of_length_eq_zero (by rw [← HMN.out]; exact h0)
            subst h0 e1
            go_wp2_with fail
            go_meet
            case rel => exact ⟨rfl, rfl, rfl⟩
          · have hx := HMR.out
            obtain ⟨Aq, cq, he, hxl, hx2, hx3, hx4⟩ := hx
            cases he
            obtain ⟨bq, oq, rfl, hat⟩ := hx4 h0
            obtain ⟨x, hx⟩ : ∃ x, M[mn - 1]? = some x := ⟨_, List.getElem?_eq_getElem (by rw [← HMN.out]; omega)⟩
            have hR := hat.el (f := en14) (n := 14) (fun _ => rfl) (mn - 1) x hx
            have hlast : lastL M = x.1 := by
              unfold lastL
              rw [List.getLast?_eq_getElem?, ← HMN.out, hx]; rfl
            have c0 : wc.cell? ⟨bq, oq + (mn - 1) * 14, none⟩ = some (.int .u64 x.1) := hR 0 _ rfl
            have d0 : decide ((0 : Int) < (mn : Int)) = true := by simp; omega
            have q0 : IntKind.i64.wrap ((mn : Int) - 1) = ((mn - 1 : Nat) : Int) := by rw [IntKind.wrap_i64]; omega
            have q1 : 0 ≤ ((mn - 1 : Nat) : Int) ∧ ((mn - 1 : Nat) : Int) < (mn : Int) := by omega
            clear hat hx hxl hR
            go_wp2_with fail
            go_meet
            case rel => exact ⟨rfl, rfl, by rw [hlast]⟩
        case rest =>
        as_aux_lemma =>
        obtain ⟨rfl, rfl, rfl⟩ := hcut
        have y0 := (HU6.out.blk 0 rfl).cell (j := 0) (v := .bool bg) rfl
        have y1 := (HU6.out.blk 0 rfl).cell (j := 1) (v := .int .u8 bo) rfl
        have y2 := (HU6.out.blk 0 rfl).cell (j := 2) (v := .int .u64 bsq) rfl
        have y3 := (HU6.out.blk 0 rfl).cell (j := 3) (v := .int .u64 btm) rfl
        have y4 := (HU6.out.blk 0 rfl).cell (j := 4) (v := .string bru) rfl
        have y5 := (HU6.out.blk 0 rfl).cell (j := 5) (v := .slice Bl bps.length bcl) rfl
        have y6 := (HU6.out.blk 0 rfl).cell (j := 6) (v := .int .u8 bst) rfl
        have y7 := (HU6.out.blk 0 rfl).cell (j := 7) (v := .int .u8 bpr) rfl
        have y8 := (HU6.out.blk 0 rfl).cell (j := 8) (v := .int .i64 bva) rfl
        have y9 := (HU6.out.blk 0 rfl).cell (j := 9) (v := .int .u8 bow) rfl
        have y10 := (HU6.out.blk 0 rfl).cell (j := 10) (v := .int .u8 bgo) rfl
        have y11 := (HU6.out.blk 0 rfl).cell (j := 11) (v := .int .u64 bgf) rfl
        have y12 := (HU6.out.blk 0 rfl).cell (j := 12) (v := .int .u64 bgt) rfl
        have hok6 := HXO.out _ _ (HU6.out.drop 0)
        have KI := refItem (⟨bg, bo, bsq, btm, bru, .slice Bl bps.length bcl, bps, bst, bpr, bva, bow, bgo, bgf, bgt⟩ : ItV) wc hok6
        have KS := fun w' (hb : Below wc.heap.size wc w') => refSpan (⟨bg, bo, bsq, btm, bru, .slice Bl bps.length bcl, bps, bst, bpr, bva, bow, bgo, bgf, bgt⟩ : ItV) w' (hok6.below hb)
        obtain ⟨cx, hcx⟩ : ∃ cx, cx = chkIt (⟨bg, bo, bsq, btm, bru, .slice Bl bps.length bcl, bps, bst, bpr, bva, bow, bgo, bgf, bgt⟩ : ItV) := ⟨_, rfl⟩
        obtain ⟨so, hso⟩ : ∃ so, so = spanO (⟨bg, bo, bsq, btm, bru, .slice Bl bps.length bcl, bps, bst, bpr, bva, bow, bgo, bgf, bgt⟩ : ItV) := ⟨_, rfl⟩
        obtain ⟨sf, hsf⟩ : ∃ sf, sf = spanF (⟨bg, bo, bsq, btm, bru, .slice Bl bps.length bcl, bps, bst, bpr, bva, bow, bgo, bgf, bgt⟩ : ItV) := ⟨_, rfl⟩
        obtain ⟨st_, hst⟩ : ∃ st_, st_ = spanT (⟨bg, bo, bsq, btm, bru, .slice Bl bps.length bcl, bps, bst, bpr, bva, bow, bgo, bgf, bgt⟩ : ItV) := ⟨_, rfl⟩
        rw [← hcx] at KI
        simp only [← hso, ← hsf, ← hst] at KS
        have HCX := Lib.hid hcx
        have HSO := Lib.hid hso
        have HSF := Lib.hid hsf
        have HST := Lib.hid hst
        clear hcx hso hsf hst hok6
        go_wp2_with fail
        (with_reducible refine (show Calls _ _ #[.agg #[.bool bg, .int .u8 bo, .int .u64 bsq, .int .u64 btm, .string bru, .slice Bl bps.length bcl, .int .u8 bst, .int .u8 bpr, .int .i64 bva, .int .u8 bow, .int .u8 bgo, .int .u64 bgf, .int .u64 bgt]] _ _ from KI).mono ?_)
        rintro e w7 ⟨rfl, hb7⟩
        have U7 := HU6.out.grow hb7
        have KS := KS w7 hb7
        clear KI y0 y1 y2 y3 y4 y5 y6 y7 y8 y9 y10 y11 y12
        have y0 := (U7.blk 0 rfl).cell (j := 0) (v := .bool bg) rfl
        have y1 := (U7.blk 0 rfl).cell (j := 1) (v := .int .u8 bo) rfl
        have y2 := (U7.blk 0 rfl).cell (j := 2) (v := .int .u64 bsq) rfl
        have y3 := (U7.blk 0 rfl).cell (j := 3) (v := .int .u64 btm) rfl
        have y4 := (U7.blk 0 rfl).cell (j := 4) (v := .string bru) rfl
        have y5 := (U7.blk 0 rfl).cell (j := 5) (v := .slice Bl bps.length bcl) rfl
        have y6 := (U7.blk 0 rfl).cell (j := 6) (v := .int .u8 bst) rfl
        have y7 := (U7.blk 0 rfl).cell (j := 7) (v := .int .u8 bpr) rfl
        have y8 := (U7.blk 0 rfl).cell (j := 8) (v := .int .i64 bva) rfl
        have y9 := (U7.blk 0 rfl).cell (j := 9) (v := .int .u8 bow) rfl
        have y10 := (U7.blk 0 rfl).cell (j := 10) (v := .int .u8 bgo) rfl
        have y11 := (U7.blk 0 rfl).cell (j := 11) (v := .int .u64 bgf) rfl
        have y12 := (U7.blk 0 rfl).cell (j := 12) (v := .int .u64 bgt) rfl
        go_wp2_with fail
        (with_reducible refine (show Calls _ _ #[.agg #[.bool bg, .int .u8 bo, .int .u64 bsq, .int .u64 btm, .string bru, .slice Bl bps.length bcl, .int .u8 bst, .int .u8 bpr, .int .i64 bva, .int .u8 bow, .int .u8 bgo, .int .u64 bgf, .int .u64 bgt]] _ _ from KS).mono ?_)
        rintro e w8 ⟨rfl, hb8⟩
        have U8 := U7.grow hb8
        have HU8 := Lib.hid U8
        clear KS y0 y1 y2 y3 y4 y5 y6 y7 y8 y9 y10 y11 y12 U7 U8 hb7 hb8
        go_upto_if 120 with fail
        go_cut [17, 46] from 46 to 297 (fun c i wx => i = .int .i64 k ∧ c = .int .i64 (fitV (runS s0L rs).h (runS s0L rs).la an (⟨bg, bo, bsq, btm, bru, .slice Bl bps.length bcl, bps, bst, bpr, bva, bow, bgo, bgf, bgt⟩ : ItV) : Nat) ∧ Upd [] w [chBlk gx #[.bool bg, .int .u8 bo, .int .u64 bsq, .int .u64 btm, .string bru, .slice Bl bps.length bcl, .int .u8 bst, .int .u8 bpr, .int .i64 bva, .int .u8 bow, .int .u8 bgo, .int .u64 bgf, .int .u64 bgt] 36, chAll Ls2, chBlk ga #[.int .u8 ki, .bool g_, .int .u8 o, .int .u8 p, .int .u8 ow, .int .u16 sq, .int .u16 mo, .int .u16 ti, .int .u8 ru, .int .u8 la, .int .u8 va, .bool stb, .bool ag, .int .u8 ao, .int .u64 asq, .int .u64 atm, .string aru, .slice Al aps.length acl, .int .u8 ast, .int .u8 apr, .int .i64 ava, .int .u8 aow, .int .u8 ago, .int .u64 agf, .int .u64 agt, .int .u8 af, .int .u64 anw, .bool raw, .int .u16 t1, .int .u16 t2] 74, chL g j d_ m b lv (runS s0L rs).h (runS s0L rs).li (runS s0L rs).la es kk fs, chM 41 14 (.slice Am mn cm) mn (M.flatMap en14)] wx)
        case first =>
          as_aux_lemma =>
          have hhs := HPI.out.hle
          have hlm := HPI.out.last
          obtain ⟨hv2, hh2⟩ : ∃ hv2, hv2 = (runS s0L rs).h so := ⟨_, rfl⟩
          have hhb : hv2 ≤ 1099511627776 := by rw [hh2]; exact hhs.2 _
          obtain ⟨lm, hlm2⟩ : ∃ lm, lm = lastL M := ⟨_, rfl⟩
          rw [← hlm2] at hlm
          have HL2 := Lib.hid hlm2
          obtain ⟨fv, hfv⟩ : ∃ fv, fv = fitV (runS s0L rs).h (runS s0L rs).la an (⟨bg, bo, bsq, btm, bru, .slice Bl bps.length bcl, bps, bst, bpr, bva, bow, bgo, bgf, bgt⟩ : ItV) := ⟨_, rfl⟩
          have hfv2 : fv = fitC cx an lm hv2 sf st_ := by
            rw [hfv, hlm, hh2, HCX.out, HSO.out, HSF.out, HST.out]; rfl
          have HFV := Lib.hid hfv2
          have HQ := Lib.hid hfv
          clear hfv hfv2 hlm2 hlm
          by_cases hc : cx = 0
          · subst hc
            have KH := lawHigh (.slice Am mn cm) M so w8 (by have := (show mAt _ _ _ _ _ w8 from HU8.out.get 4 rfl).rd; rw [HMN.out] at this ⊢; exact this) (fun x hx => ⟨by have := (HPI.out.nb x hx).1; omega, (HPI.out.nb x hx).2.1.ok (by
              rcases HPW.out.lab x hx with h | h
              · exact HU8.out.rd0 h
              · exact rd_of_owns (show w8.ownsRow 0 137 2 x.2.lv x.2.ps.length (pairCells x.2.ps) from HU8.out.all 1 rfl (labRow x) (HLS.out _ h)))⟩) (by rw [← HMN.out]; omega)
            rw [HPI.out.high so, ← hh2] at KH
            have w1 : IntKind.u64.wrap ((hv2 : Int) + 1) = ((hv2 + 1 : Nat) : Int) := by rw [IntKind.wrap_u64]; omega
            clear hh2 hhs
            go_wp2_with fail
            (with_reducible refine KH.mono ?_)
            rintro e w9 ⟨rfl, hb9⟩
            have U9 := HU8.out.grow hb9
            have HU9 := Lib.hid U9
            clear KH hb9 U9
            by_cases c1 : 1099511627776 < an
            · have d1 : decide ((1099511627776 : Int) < (an : Int)) = true := by simp; omega
              go_wp2_with fail
              go_meet
              case rel => exact ⟨rfl, by rw [← HQ.out, HFV.out]; simp [fitC, c1], HU9.out⟩
            have d1 : decide ((1099511627776 : Int) < (an : Int)) = false := by simp; omega
            by_cases c2 : an < lm
            · have d2 : decide (an < lastL M) = true := by rw [← HL2.out]; simp; omega
              go_wp2_with fail
              go_meet
              case rel => exact ⟨rfl, by rw [← HQ.out, HFV.out]; simp [fitC, c1, c2], HU9.out⟩
            have d2 : decide (an < lastL M) = false := by rw [← HL2.out]; simp; omega
            by_cases c3 : st_ ≤ hv2
            · have d3 : decide (st_ ≤ hv2) = true := by simp; omega
              go_wp2_with fail
              go_meet
              case rel => exact ⟨rfl, by rw [← HQ.out, HFV.out]; simp [fitC, c1, c2, c3], HU9.out⟩
            have d3 : decide (st_ ≤ hv2) = false := by simp; omega
            by_cases c4 : hv2 + 1 < sf
            · have d4 : decide (((hv2 + 1 : Nat) : Int) < (sf : Int)) = true := by simp; omega
              have d5 : decide ((hv2 : Int) + 1 < (sf : Int)) = true := by simp; omega
              have d6 : decide (hv2 + 1 < sf) = true := by simp; omega
              go_wp2_with fail
              go_meet
              case rel => exact ⟨rfl, by rw [← HQ.out, HFV.out]; simp [fitC, c1, c2, c3, c4], HU9.out⟩
            have d4 : decide (((hv2 + 1 : Nat) : Int) < (sf : Int)) = false := by simp; omega
            have d5 : decide ((hv2 : Int) + 1 < (sf : Int)) = false := by simp; omega
            have d6 : decide (hv2 + 1 < sf) = false := by simp; omega
            go_wp2_with fail
            go_meet
            case rel => exact ⟨rfl, by rw [← HQ.out, HFV.out]; simp [fitC, c1, c2, c3, c4], HU9.out⟩
          · have q0 : ((cx : Int) == 0) = false := by simp; omega
            go_wp2_with fail
            go_meet
            case rel => exact ⟨rfl, by rw [← HQ.out, HFV.out]; unfold fitC; rw [if_pos hc], HU8.out⟩
        case rest =>
        as_aux_lemma =>
        obtain ⟨rfl, rfl, U9⟩ := hcut
        have HU9 := Lib.hid U9
        clear U9 HU8 HU6
        obtain ⟨fv, hfv⟩ : ∃ fv, fv = fitV (runS s0L rs).h (runS s0L rs).la an (⟨bg, bo, bsq, btm, bru, .slice Bl bps.length bcl, bps, bst, bpr, bva, bow, bgo, bgf, bgt⟩ : ItV) := ⟨_, rfl⟩
        rw [← hfv]
        have hok9 := HXO.out _ _ (HU9.out.drop 0)
        have hhs := HPI.out.hle
        have y0 := (HU9.out.blk 0 rfl).cell (j := 0) (v := .bool bg) rfl
        have y1 := (HU9.out.blk 0 rfl).cell (j := 1) (v := .int .u8 bo) rfl
        have y2 := (HU9.out.blk 0 rfl).cell (j := 2) (v := .int .u64 bsq) rfl
        have y3 := (HU9.out.blk 0 rfl).cell (j := 3) (v := .int .u64 btm) rfl
        have y4 := (HU9.out.blk 0 rfl).cell (j := 4) (v := .string bru) rfl
        have y5 := (HU9.out.blk 0 rfl).cell (j := 5) (v := .slice Bl bps.length bcl) rfl
        have y6 := (HU9.out.blk 0 rfl).cell (j := 6) (v := .int .u8 bst) rfl
        have y7 := (HU9.out.blk 0 rfl).cell (j := 7) (v := .int .u8 bpr) rfl
        have y8 := (HU9.out.blk 0 rfl).cell (j := 8) (v := .int .i64 bva) rfl
        have y9 := (HU9.out.blk 0 rfl).cell (j := 9) (v := .int .u8 bow) rfl
        have y10 := (HU9.out.blk 0 rfl).cell (j := 10) (v := .int .u8 bgo) rfl
        have y11 := (HU9.out.blk 0 rfl).cell (j := 11) (v := .int .u64 bgf) rfl
        have y12 := (HU9.out.blk 0 rfl).cell (j := 12) (v := .int .u64 bgt) rfl
        by_cases hf : fv = 0
        · as_aux_lemma =>
          subst hf
          have hf0 := hfv.symm
          have hk9 := fitV_ok hf0
          obtain ⟨hv2, hh2⟩ : ∃ hv2, hv2 = (runS s0L rs).h (spanO (⟨bg, bo, bsq, btm, bru, .slice Bl bps.length bcl, bps, bst, bpr, bva, bow, bgo, bgf, bgt⟩ : ItV)) := ⟨_, rfl⟩
          have hhb : hv2 ≤ 1099511627776 := by rw [hh2]; exact hhs.2 _
          have hlt2 : hv2 < spanT (⟨bg, bo, bsq, btm, bru, .slice Bl bps.length bcl, bps, bst, bpr, bva, bow, bgo, bgf, bgt⟩ : ItV) := by rw [hh2]; exact hk9.2.2.2.1
          have hat9 := hk9.2.1
          have hp12 : bps.length ≤ 12 := HXP.out hk9.1
          obtain ⟨mi, hmi⟩ : ∃ mi, mi = min an 549755813888 := ⟨_, rfl⟩
          obtain ⟨mx, hmx⟩ : ∃ mx, mx = max (nw + a3) mi := ⟨_, rfl⟩
          have hPO := HPI.out.ok hf0 HXN.out (show (⟨bg, bo, bsq, btm, bru, .slice Bl bps.length bcl, bps, bst, bpr, bva, bow, bgo, bgf, bgt⟩ : ItV).ps.length ≤ 12 from hp12) (nw' := mx) (by rw [hmx, hmi]; exact Nat.max_le.2 ⟨Nat.le_trans hnw (Nat.le_max_left _ _), Nat.le_trans (Nat.min_le_right _ _) (Nat.le_max_right _ _)⟩)
          have hby := HPI.out.bytes
          have hkk := HPW.out.hkk
          have hne : es.length = mn := by
            have h5 := congrArg List.length HPW.out.hes
            simp only [List.length_map] at h5
            rw [HMN.out]; exact h5
          obtain ⟨rL, hrL⟩ : ∃ rL, rL = (recL an (trimA (⟨bg, bo, bsq, btm, bru, .slice Bl bps.length bcl, bps, bst, bpr, bva, bow, bgo, bgf, bgt⟩ : ItV) ((runS s0L rs).h (spanO (⟨bg, bo, bsq, btm, bru, .slice Bl bps.length bcl, bps, bst, bpr, bva, bow, bgo, bgf, bgt⟩ : ItV))))).length := ⟨_, rfl⟩
          obtain ⟨aL, haL⟩ : ∃ aL, aL = (layAll (rs.map lnB)).length := ⟨_, rfl⟩
          have hr7 : rL ≤ 700 := by rw [hrL]; exact hPO.2
          rw [← haL] at hby
          have hA1 : aL + (rL + 8) ≤ 1048576 := by omega
          have hA2 : rL ≤ 524288 := by omega
          have hA3 : kk ≤ 1099511627776 := by omega
          have hA4 : es.length ≤ 1000000 := by omega
          have hA5 : bps.length ≤ 1000000 := by omega
          have hA6 : hv2 < 18446744073709551615 := by omega
          rw [haL, hrL] at hA1
          rw [hrL] at hA2
          rw [hh2] at hA6
          clear hrL haL hr7
          have KA := admitOk g j d_ m b kk ks lv (runS s0L rs).h (runS s0L rs).li (runS s0L rs).la an es fs (layAll (rs.map lnB)) (⟨bg, bo, bsq, btm, bru, .slice Bl bps.length bcl, bps, bst, bpr, bva, bow, bgo, bgf, bgt⟩ : ItV) wc (HU9.out.get 3 rfl) HPW.out.hj hok9
            (HDJ.out _ _ _ (HU9.out.pick [1, 3] (by decide))) hf0 hA6 hA4 hA3 hA5 hA1 hA2
          clear hA1 hA2 hA3 hA4 hA5 hA6
          rw [← hh2] at KA hPO
          obtain ⟨tg, htg⟩ : ∃ tg, tg = (trimA (⟨bg, bo, bsq, btm, bru, .slice Bl bps.length bcl, bps, bst, bpr, bva, bow, bgo, bgf, bgt⟩ : ItV) hv2).gf := ⟨_, rfl⟩
          have etr : trimA (⟨bg, bo, bsq, btm, bru, .slice Bl bps.length bcl, bps, bst, bpr, bva, bow, bgo, bgf, bgt⟩ : ItV) hv2 = (⟨bg, bo, bsq, btm, bru, .slice Bl bps.length bcl, bps, bst, bpr, bva, bow, bgo, tg, bgt⟩ : ItV) := by rw [htg]; rfl
          have hokt := fun w' (h : (⟨bg, bo, bsq, btm, bru, .slice Bl bps.length bcl, bps, bst, bpr, bva, bow, bgo, bgf, bgt⟩ : ItV).ok w') => trimA_ok h hlt2
          rw [etr] at KA hPO hokt
          have emi : min (an : Int) 549755813888 = (mi : Int) := by omega
          have emx : max ((nw : Int) + (a3 : Int)) (mi : Int) = (mx : Int) := by omega
          have HEMI := Lib.hid emi
          have HEMX := Lib.hid emx
          have HNW := Lib.hid hnw
          have HMX2 := Lib.hid hmx
          clear emi emx
          have HPO := Lib.hid hPO
          have HOT := Lib.hid hokt
          have HETR := Lib.hid etr
          have HH2 := Lib.hid hh2
          have HF0 := Lib.hid hf0
          have q0 : (((0 : Nat) : Int) == 0) = true := rfl
          clear hfv hok9 hhs hk9 hPO hby hokt etr htg hh2 hf0 hmi hmx
          go_wp2_with fail
          (with_reducible refine (show Calls _ _ #[.pointer (some ⟨g, 0, none⟩), .int .u64 an, .agg #[.bool bg, .int .u8 bo, .int .u64 bsq, .int .u64 btm, .string bru, .slice Bl bps.length bcl, .int .u8 bst, .int .u8 bpr, .int .i64 bva, .int .u8 bow, .int .u8 bgo, .int .u64 bgf, .int .u64 bgt]] _ _ from KA).mono ?_)
          rintro e w10 ⟨lv', A4, c4, fs', rfl, hj', hU'⟩
          have U10 := HU9.out.turn 3 rfl hU'
          simp only [List.cons_append, List.nil_append, List.eraseIdx_cons_succ, List.eraseIdx_cons_zero] at U10
          have HJ := Lib.hid hj'
          clear KA hU' hj' y0 y1 y2 y3 y4 y5 y6 y7 y8 y9 y10 y11 y12
          go_upto_region 39 with fail
          refine wp_gen fun w11 hw11 => ?_
          have U11 := (U10.alloc #[.bool bg, .int .u8 bo, .int .u64 bsq, .int .u64 btm, .string bru, .slice Bl bps.length bcl, .int .u8 bst, .int .u8 bpr, .int .i64 bva, .int .u8 bow, .int .u8 bgo, .int .u64 tg, .int .u64 bgt] 36).same hw11
          obtain ⟨gz, hgz⟩ : ∃ gz, gz = w10.heap.size := ⟨_, rfl⟩
          rw [← hgz] at U11 ⊢
          clear hgz hw11 U10
          have hok11 := HXO.out _ _ (U11.pick [3] (by decide))
          have KH : ∀ w', Below w11.heap.size w11 w' → Calls Tryz.prog 10 #[.slice Am mn cm, .int .u8 so] w' fun e w'' => e = .returned (.int .u64 hv2) ∧ Below w11.heap.size w11 w'' ∧ Below w'.heap.size w' w'' := fun w' hb => by
            refine (lawHigh (.slice Am mn cm) M so w' (by have := (show mAt _ _ _ _ _ w' from (U11.grow hb).get 5 rfl).rd; rw [HMN.out] at this ⊢; exact this) (fun x hx => ⟨by have := (HPI.out.nb x hx).1; omega, (HPI.out.nb x hx).2.1.ok (by
              rcases HPW.out.lab x hx with h | h
              · exact (U11.grow hb).rd0 h
              · exact rd_of_owns (show w'.ownsRow 0 137 2 x.2.lv x.2.ps.length (pairCells x.2.ps) from (U11.grow hb).all 3 rfl (labRow x) (HLS.out _ h)))⟩) (by rw [← HMN.out]; omega)).mono ?_
            rintro e w'' ⟨rfl, hb2⟩
            exact ⟨by rw [HPI.out.high so, HSO.out, ← HH2.out], hb.trans (hb2.mono hb.size), hb2⟩
          have KA : ∀ w', Below w11.heap.size w11 w' → Calls Tryz.prog 30 #[.agg #[.bool bg, .int .u8 bo, .int .u64 bsq, .int .u64 btm, .string bru, .slice Bl bps.length bcl, .int .u8 bst, .int .u8 bpr, .int .i64 bva, .int .u8 bow, .int .u8 bgo, .int .u64 bgf, .int .u64 bgt], .int .u64 hv2] w' fun e w'' => e = .returned (.tuple #[.agg #[.bool bg, .int .u8 bo, .int .u64 bsq, .int .u64 btm, .string bru, .slice Bl bps.length bcl, .int .u8 bst, .int .u8 bpr, .int .i64 bva, .int .u8 bow, .int .u8 bgo, .int .u64 tg, .int .u64 bgt], .bool true]) ∧ Below w11.heap.size w11 w'' ∧ Below w'.heap.size w' w'' := fun w' hb => by
            have h5 := refAbove (⟨bg, bo, bsq, btm, bru, .slice Bl bps.length bcl, bps, bst, bpr, bva, bow, bgo, bgf, bgt⟩ : ItV) hv2 w' (hok11.below hb) hlt2
            rw [HETR.out] at h5
            refine h5.mono ?_
            rintro e w'' ⟨rfl, hb2⟩
            exact ⟨rfl, hb.trans (hb2.mono hb.size), hb2⟩
          refine wp_at fun A hA => ?_
          have hs : A.tmps.size = 300 := by rw [hA]; rfl
          have h7 : A.eval (.tmp 7) = .slice Am mn cm := by rw [hA]; rfl
          have h15 : A.eval (.tmp 15) = .pointer (some ⟨gx, 0, none⟩) := by rw [hA]; rfl
          have h18 : A.eval (.tmp 18) = .int .u8 so := by rw [hA]; rfl
          have HA := Lib.hid hA
          clear hA
          have hB := U11.blk 2 rfl
          refine FreeTw.region_free (fun w' => Below w11.heap.size w11 w') (fun _ => True) [8] [9, 10] [0, 1, 2, 3, 4, 5, 6, 7, 8] (fun _ _ => trivial) (by kernel_rfl) (by rw [hs]; kernel_rfl) (by kernel_rfl) ((Below.refl _ _).drew) ?_
          refine FreeTw.RelSeq.ldm_ 36 (.tmp 15) rfl rfl rfl gx 0 [.bool bg, .int .u8 bo, .int .u64 bsq, .int .u64 btm, .string bru, .slice Bl bps.length bcl, .int .u8 bst, .int .u8 bpr, .int .i64 bva, .int .u8 bow, .int .u8 bgo, .int .u64 bgf, .int .u64 bgt] _ (fun y => by simp only [hs, Nat.reduceLT]) (fun y => by simp only [h15]) (fun w' hw => (hB.below hw hB.lt).range 0 _ (fun j u hu => by rw [List.getElem?_toArray, Nat.zero_add]; exact hu)) Tryz.underlying36 rfl (by kernel_rfl) ?_
          refine FreeTw.RelSeq.mov_ (c := ?_) rfl rfl (fun y => by simp only [put_size, hs, Nat.reduceLT]) (fun y => by simp only [eval_put_ne, ne_eq, not_false_eq_true, Nat.reduceEqDiff, h7]; with_reducible rfl) ?_
          refine FreeTw.RelSeq.mov_ (c := ?_) rfl rfl (fun y => by simp only [put_size, hs, Nat.reduceLT]) (fun y => by simp only [eval_put_ne, ne_eq, not_false_eq_true, Nat.reduceEqDiff, h18]; with_reducible rfl) ?_
          refine FreeTw.RelSeq.call_ (c := .int .u64 hv2) rfl rfl rfl (fun y => by simp only [put_size, hs, Nat.reduceLT]) #[.slice Am mn cm, .int .u8 so] (fun y => by simp [eval_put_ne, eval_put_self, put_size, hs, ne_eq, not_false_eq_true, Nat.reduceLT]) (fun w' => cf_high _ w') KH ?_
          refine FreeTw.RelSeq.call_ (c := .tuple #[.agg #[.bool bg, .int .u8 bo, .int .u64 bsq, .int .u64 btm, .string bru, .slice Bl bps.length bcl, .int .u8 bst, .int .u8 bpr, .int .i64 bva, .int .u8 bow, .int .u8 bgo, .int .u64 tg, .int .u64 bgt], .bool true]) rfl rfl rfl (fun y => by simp only [put_size, hs, Nat.reduceLT]) #[.agg #[.bool bg, .int .u8 bo, .int .u64 bsq, .int .u64 btm, .string bru, .slice Bl bps.length bcl, .int .u8 bst, .int .u8 bpr, .int .i64 bva, .int .u8 bow, .int .u8 bgo, .int .u64 bgf, .int .u64 bgt], .int .u64 hv2] (fun y => by simp [eval_put_ne, eval_put_self, put_size, hs, ne_eq, not_false_eq_true, Nat.reduceEqDiff, Nat.reduceLT]) (fun w' => cf_above _ w') KA ?_
          refine FreeTw.RelSeq.mov_ (c := ?_) rfl rfl (fun y => by simp only [put_size, hs, Nat.reduceLT]) (fun y => by simp only [eval_put_self, put_size, hs, Nat.reduceLT]; with_reducible rfl) ?_
          refine FreeTw.RelSeq.ext_ (x := 152) (k := 0) (c := .agg #[.bool bg, .int .u8 bo, .int .u64 bsq, .int .u64 btm, .string bru, .slice Bl bps.length bcl, .int .u8 bst, .int .u8 bpr, .int .i64 bva, .int .u8 bow, .int .u8 bgo, .int .u64 tg, .int .u64 bgt]) (vs := #[.agg #[.bool bg, .int .u8 bo, .int .u64 bsq, .int .u64 btm, .string bru, .slice Bl bps.length bcl, .int .u8 bst, .int .u8 bpr, .int .i64 bva, .int .u8 bow, .int .u8 bgo, .int .u64 tg, .int .u64 bgt], .bool true]) rfl rfl (fun y => by simp only [put_size, hs, Nat.reduceLT]) (fun y => by simp only [eval_put_self, put_size, hs, Nat.reduceLT]) rfl ?_
          refine FreeTw.RelSeq.ext_ (x := 152) (k := 1) (c := .bool true) (vs := #[.agg #[.bool bg, .int .u8 bo, .int .u64 bsq, .int .u64 btm, .string bru, .slice Bl bps.length bcl, .int .u8 bst, .int .u8 bpr, .int .i64 bva, .int .u8 bow, .int .u8 bgo, .int .u64 tg, .int .u64 bgt], .bool true]) rfl rfl (fun y => by simp only [put_size, hs, Nat.reduceLT]) (fun y => by simp only [eval_put_ne, eval_put_self, put_size, hs, ne_eq, not_false_eq_true, Nat.reduceEqDiff, Nat.reduceLT]) rfl ?_
          refine rs_allocItem w11 rfl rfl rfl (fun y => by simp only [put_size, hs, Nat.reduceLT]) ?_
          refine FreeTw.RelSeq.nil_ fun x w12 hw hf _ => ?_
          obtain ⟨gy, e8, hgy, hBy⟩ := hf _ (.head _)
          have U12 := ((U11.grow hw).moreBlk hBy (Nat.le_trans U11.size hgy) (fun d hd hq => by have := U11.lt hd hq; omega)).putAll 0 rfl [.bool bg, .int .u8 bo, .int .u64 bsq, .int .u64 btm, .string bru, .slice Bl bps.length bcl, .int .u8 bst, .int .u8 bpr, .int .i64 bva, .int .u8 bow, .int .u8 bgo, .int .u64 tg, .int .u64 bgt] rfl
          simp only [List.eraseIdx_cons_zero] at U12
          simp only [e8]
          refine FreeTw.TailSeq.stm_ 36 (.tmp 24) (.tmp 158) rfl gy 0 #[.bool bg, .int .u8 bo, .int .u64 bsq, .int .u64 btm, .string bru, .slice Bl bps.length bcl, .int .u8 bst, .int .u8 bpr, .int .i64 bva, .int .u8 bow, .int .u8 bgo, .int .u64 tg, .int .u64 bgt] (by simp only [eval_put_self, put_size, hs, Nat.reduceLT]) (by simp only [eval_put_ne, eval_put_self, put_size, hs, ne_eq, not_false_eq_true, Nat.reduceEqDiff, Nat.reduceLT]) (Blk.there hBy 0 13 (by decide)) (by kernel_rfl) (by simp [Value.oneCell']) (.inr trivial) ?_
          refine FreeTw.TailSeq.asg_ rfl (by simp only [put_size, hs, Nat.reduceLT]) (v := .bool true) (by simp only [eval_put_ne, eval_put_self, put_size, hs, ne_eq, not_false_eq_true, Nat.reduceEqDiff, Nat.reduceLT]) (.inl rfl) ?_
          refine FreeTw.TailSeq.nil_ ?_
          clear KH KA hs h7 h15 h18 hB hf hBy hgy hw hok11 e8
          have hA := HA.out
          clear HA
          subst hA
          simp only [Act.put, List.setIfInBounds_toArray]
          refine exit_frame (b := ⟨List.toArray (_ :: _ :: _ :: _ :: _ :: _ :: _ :: _ :: _ :: _ :: _ :: _ :: _ :: _ :: _ :: _ :: _ :: _ :: _ :: _ :: _ :: _ :: _ :: _ :: _ :: _ :: _ :: _ :: _ :: _ :: _ :: _ :: _ :: _ :: _ :: _ :: _ :: _ :: _ :: _ :: _ :: _ :: _ :: _ :: _ :: _ :: _ :: _ :: _ :: _ :: _ :: _ :: _ :: _ :: _ :: _ :: _ :: _ :: _ :: _ :: _ :: _ :: _ :: _ :: _ :: _ :: _ :: _ :: _ :: _ :: _ :: _ :: _ :: _ :: _ :: _ :: _ :: _ :: _ :: _ :: _ :: _ :: _ :: _ :: _ :: _ :: _ :: _ :: _ :: _ :: _ :: _ :: _ :: _ :: _ :: _ :: _ :: _ :: _ :: _ :: _ :: _ :: _ :: _ :: _ :: _ :: _ :: _ :: _ :: _ :: _ :: _ :: _ :: _ :: _ :: _ :: _ :: _ :: _ :: _ :: _ :: _ :: _ :: _ :: _ :: _ :: _ :: _ :: _ :: _ :: _ :: _ :: _ :: _ :: _ :: _ :: _ :: _ :: _ :: _ :: _ :: _ :: _ :: _ :: _ :: _ :: _ :: _ :: _ :: _ :: _ :: _ :: _ :: _ :: _ :: _ :: _ :: _ :: _ :: _ :: _ :: _ :: _ :: _ :: _ :: _ :: _ :: _ :: _ :: _ :: _ :: _ :: _ :: _ :: _ :: _ :: _ :: _ :: _ :: _ :: _ :: _ :: _ :: _ :: _ :: _ :: _ :: _ :: _ :: _ :: _ :: _ :: _ :: _ :: _ :: _ :: _ :: _ :: _ :: _ :: _ :: _ :: _ :: _ :: _ :: _ :: _ :: _ :: _ :: _ :: _ :: _ :: _ :: _ :: _ :: _ :: _ :: _ :: _ :: _ :: _ :: _ :: _ :: _ :: _ :: _ :: _ :: _ :: _ :: _ :: _ :: _ :: _ :: _ :: _ :: _ :: _ :: _ :: _ :: _ :: _ :: _ :: _ :: _ :: _ :: _ :: _ :: _ :: _ :: _ :: _ :: _ :: _ :: _ :: _ :: _ :: _ :: _ :: _ :: _ :: _ :: _ :: _ :: _ :: _ :: _ :: _ :: _ :: _ :: _ :: _ :: _ :: _ :: _ :: _ :: _ :: _ :: _ :: _ :: _ :: _ :: _ :: _ :: _ :: _ :: _ :: _ :: _ :: _ :: _ :: _ :: _ :: _ :: _ :: _ :: _ :: _ :: _ :: _ :: _ :: []), _⟩) rfl ?_
          refine exit_world fun w13 hw13 => ?_
          have U12 := U12.same hw13
          clear hw13
          have HU12 := Lib.hid U12
          clear U12 U11
          have hrz : w13.rangeAt gz 0 [.bool bg, .int .u8 bo, .int .u64 bsq, .int .u64 btm, .string bru, .slice Bl bps.length bcl, .int .u8 bst, .int .u8 bpr, .int .i64 bva, .int .u8 bow, .int .u8 bgo, .int .u64 tg, .int .u64 bgt] := (HU12.out.blk 1 rfl).range 0 _ (fun j u hu => by rw [List.getElem?_toArray, Nat.zero_add]; exact hu)
          have hry : w13.rangeAt gy 0 [.bool bg, .int .u8 bo, .int .u64 bsq, .int .u64 btm, .string bru, .slice Bl bps.length bcl, .int .u8 bst, .int .u8 bpr, .int .i64 bva, .int .u8 bow, .int .u8 bgo, .int .u64 tg, .int .u64 bgt] := (HU12.out.blk 0 rfl).range 0 _ (fun j u hu => by rw [List.getElem?_toArray, Nat.zero_add]; exact hu)
          have KE := sameItemN (⟨bg, bo, bsq, btm, bru, .slice Bl bps.length bcl, bps, bst, bpr, bva, bow, bgo, tg, bgt⟩ : ItV) (⟨bg, bo, bsq, btm, bru, .slice Bl bps.length bcl, bps, bst, bpr, bva, bow, bgo, tg, bgt⟩ : ItV) w13 (HOT.out w13 (HXO.out _ _ (HU12.out.pick [4] (by decide)))) (HOT.out w13 (HXO.out _ _ (HU12.out.pick [4] (by decide)))).rd rfl
          go_upto_region 40 with fail
          refine wp_at fun A hA => ?_
          have hs : A.tmps.size = 300 := by rw [hA]; rfl
          have h22 : A.eval (.tmp 22) = .pointer (some ⟨gz, 0, none⟩) := by rw [hA]; rfl
          have h24 : A.eval (.tmp 24) = .pointer (some ⟨gy, 0, none⟩) := by rw [hA]; rfl
          have HA := Lib.hid hA
          clear hA
          refine wp_region_lit ?_
          refine PL.ldm_ gz 0 [.bool bg, .int .u8 bo, .int .u64 bsq, .int .u64 btm, .string bru, .slice Bl bps.length bcl, .int .u8 bst, .int .u8 bpr, .int .i64 bva, .int .u8 bow, .int .u8 bgo, .int .u64 tg, .int .u64 bgt] _ (by simp only [h22]) hrz Tryz.underlying36 rfl (by kernel_rfl) ?_
          refine PL.ldm_ gy 0 [.bool bg, .int .u8 bo, .int .u64 bsq, .int .u64 btm, .string bru, .slice Bl bps.length bcl, .int .u8 bst, .int .u8 bpr, .int .i64 bva, .int .u8 bow, .int .u8 bgo, .int .u64 tg, .int .u64 bgt] _ (by simp only [eval_put_ne, ne_eq, not_false_eq_true, Nat.reduceEqDiff, h24]) hry Tryz.underlying36 rfl (by kernel_rfl) ?_
          refine PL.call_ (c := .bool true) #[.agg #[.bool bg, .int .u8 bo, .int .u64 bsq, .int .u64 btm, .string bru, .slice Bl bps.length bcl, .int .u8 bst, .int .u8 bpr, .int .i64 bva, .int .u8 bow, .int .u8 bgo, .int .u64 tg, .int .u64 bgt], .agg #[.bool bg, .int .u8 bo, .int .u64 bsq, .int .u64 btm, .string bru, .slice Bl bps.length bcl, .int .u8 bst, .int .u8 bpr, .int .i64 bva, .int .u8 bow, .int .u8 bgo, .int .u64 tg, .int .u64 bgt]] (by simp [eval_put_ne, eval_put_self, put_size, hs, ne_eq, not_false_eq_true, Nat.reduceLT]) (fun w' => cf_same _ w') (R := fun w' => Below w13.heap.size w13 w') KE fun w14 hb14 => ?_
          have U14 := HU12.out.grow hb14
          refine pl_not (b := true) (by simp only [eval_put_self, put_size, hs, Nat.reduceLT]) ?_
          refine wpList_nil ?_
          clear KE hb14 hry hrz hs h22 h24
          have hA := HA.out
          clear HA
          subst hA
          simp only [Act.put, List.setIfInBounds_toArray]
          refine exit_frame (b := ⟨List.toArray (_ :: _ :: _ :: _ :: _ :: _ :: _ :: _ :: _ :: _ :: _ :: _ :: _ :: _ :: _ :: _ :: _ :: _ :: _ :: _ :: _ :: _ :: _ :: _ :: _ :: _ :: _ :: _ :: _ :: _ :: _ :: _ :: _ :: _ :: _ :: _ :: _ :: _ :: _ :: _ :: _ :: _ :: _ :: _ :: _ :: _ :: _ :: _ :: _ :: _ :: _ :: _ :: _ :: _ :: _ :: _ :: _ :: _ :: _ :: _ :: _ :: _ :: _ :: _ :: _ :: _ :: _ :: _ :: _ :: _ :: _ :: _ :: _ :: _ :: _ :: _ :: _ :: _ :: _ :: _ :: _ :: _ :: _ :: _ :: _ :: _ :: _ :: _ :: _ :: _ :: _ :: _ :: _ :: _ :: _ :: _ :: _ :: _ :: _ :: _ :: _ :: _ :: _ :: _ :: _ :: _ :: _ :: _ :: _ :: _ :: _ :: _ :: _ :: _ :: _ :: _ :: _ :: _ :: _ :: _ :: _ :: _ :: _ :: _ :: _ :: _ :: _ :: _ :: _ :: _ :: _ :: _ :: _ :: _ :: _ :: _ :: _ :: _ :: _ :: _ :: _ :: _ :: _ :: _ :: _ :: _ :: _ :: _ :: _ :: _ :: _ :: _ :: _ :: _ :: _ :: _ :: _ :: _ :: _ :: _ :: _ :: _ :: _ :: _ :: _ :: _ :: _ :: _ :: _ :: _ :: _ :: _ :: _ :: _ :: _ :: _ :: _ :: _ :: _ :: _ :: _ :: _ :: _ :: _ :: _ :: _ :: _ :: _ :: _ :: _ :: _ :: _ :: _ :: _ :: _ :: _ :: _ :: _ :: _ :: _ :: _ :: _ :: _ :: _ :: _ :: _ :: _ :: _ :: _ :: _ :: _ :: _ :: _ :: _ :: _ :: _ :: _ :: _ :: _ :: _ :: _ :: _ :: _ :: _ :: _ :: _ :: _ :: _ :: _ :: _ :: _ :: _ :: _ :: _ :: _ :: _ :: _ :: _ :: _ :: _ :: _ :: _ :: _ :: _ :: _ :: _ :: _ :: _ :: _ :: _ :: _ :: _ :: _ :: _ :: _ :: _ :: _ :: _ :: _ :: _ :: _ :: _ :: _ :: _ :: _ :: _ :: _ :: _ :: _ :: _ :: _ :: _ :: _ :: _ :: _ :: _ :: _ :: _ :: _ :: _ :: _ :: _ :: _ :: _ :: _ :: _ :: _ :: _ :: _ :: _ :: _ :: _ :: _ :: _ :: _ :: _ :: _ :: _ :: _ :: _ :: []), _⟩) rfl ?_
          have HU14 := Lib.hid U14
          clear U14
          go_upto_region 42 with fail
          refine wp_at fun A hA => ?_
          have hs : A.tmps.size = 300 := by rw [hA]; rfl
          have h7 : A.eval (.tmp 7) = .slice Am mn cm := by rw [hA]; rfl
          have h14 : A.eval (.tmp 14) = .int .u64 an := by rw [hA]; rfl
          have h24 : A.eval (.tmp 24) = .pointer (some ⟨gy, 0, none⟩) := by rw [hA]; rfl
          have HA := Lib.hid hA
          clear hA
          have hry : w14.rangeAt gy 0 [.bool bg, .int .u8 bo, .int .u64 bsq, .int .u64 btm, .string bru, .slice Bl bps.length bcl, .int .u8 bst, .int .u8 bpr, .int .i64 bva, .int .u8 bow, .int .u8 bgo, .int .u64 tg, .int .u64 bgt] := (HU14.out.blk 0 rfl).range 0 _ (fun j u hu => by rw [List.getElem?_toArray, Nat.zero_add]; exact hu)
          refine wp_region_lit ?_
          refine PL.mov_ (v := .slice Am mn cm) (by simp only [h7]) ?_
          refine PL.mov_ (v := .int .u64 an) (by simp only [eval_put_ne, ne_eq, not_false_eq_true, Nat.reduceEqDiff, h14]) ?_
          refine PL.ldm_ gy 0 [.bool bg, .int .u8 bo, .int .u64 bsq, .int .u64 btm, .string bru, .slice Bl bps.length bcl, .int .u8 bst, .int .u8 bpr, .int .i64 bva, .int .u8 bow, .int .u8 bgo, .int .u64 tg, .int .u64 bgt] _ (by simp only [eval_put_ne, ne_eq, not_false_eq_true, Nat.reduceEqDiff, h24]) hry Tryz.underlying36 rfl (by kernel_rfl) ?_
          refine pl_buildEnt (d := 167) (x := 165) (y := 166) an bg bo bsq btm bru Bl bps.length bcl bst bpr bva bow bgo tg bgt ?_ ?_ ?_
          · simp only [eval_put_ne, eval_put_self, put_size, hs, ne_eq, not_false_eq_true, Nat.reduceEqDiff, Nat.reduceLT]
          · simp only [eval_put_self, put_size, hs, Nat.reduceLT]
          refine pl_mkEnt (d := 168) (x := 167) an bg bo bsq btm bru Bl bps.length bcl bst bpr bva bow bgo tg bgt ?_ ?_
          · simp only [eval_put_self, put_size, hs, Nat.reduceLT]
          have T1 := HU14.out.alloc #[.int .u64 an, .bool bg, .int .u8 bo, .int .u64 bsq, .int .u64 btm, .string bru, .slice Bl bps.length bcl, .int .u8 bst, .int .u8 bpr, .int .i64 bva, .int .u8 bow, .int .u8 bgo, .int .u64 tg, .int .u64 bgt] 41
          refine wpl_append_m rfl (.tmp 164) (.tmp 168) 24 rfl 41 i0 _ 14 128 Tryz.underlying24 hi hz0 hz1 hz2 rfl (by decide) (.slice Am mn cm) mn _ (by simp only [eval_put_ne, eval_put_self, hs, ne_eq, not_false_eq_true, Nat.reduceEqDiff, Nat.reduceLT]) (T1.get 7 rfl) w14.heap.size 1 1 [.int .u64 an, .bool bg, .int .u8 bo, .int .u64 bsq, .int .u64 btm, .string bru, .slice Bl bps.length bcl, .int .u8 bst, .int .u8 bpr, .int .i64 bva, .int .u8 bow, .int .u8 bgo, .int .u64 tg, .int .u64 bgt] (by decide) (by simp only [eval_put_self, put_size, hs, Nat.reduceLT]) (by decide) (by decide) rfl ((T1.blk 0 rfl).range 0 _ (fun j u hu => by rw [List.getElem?_toArray, Nat.zero_add]; exact hu)) (by intro u hu; simp at hu; rcases hu with rfl | rfl | rfl | rfl | rfl | rfl | rfl | rfl | rfl | rfl | rfl | rfl | rfl | rfl <;> rfl) (by unfold maxLen; omega) (by omega) fun A5 c5 w15 hU5 => ?_
          refine PL.asg_ (v := .slice A5 (mn + 1) c5) (by simp only [eval_put_self, put_size, hs, Nat.reduceLT]) ?_
          refine wpList_nil ?_
          clear hs h7 h14 h24 hry
          have hA := HA.out
          clear HA
          subst hA
          simp only [Act.put, List.setIfInBounds_toArray]
          refine exit_frame (b := ⟨List.toArray (_ :: _ :: _ :: _ :: _ :: _ :: _ :: _ :: _ :: _ :: _ :: _ :: _ :: _ :: _ :: _ :: _ :: _ :: _ :: _ :: _ :: _ :: _ :: _ :: _ :: _ :: _ :: _ :: _ :: _ :: _ :: _ :: _ :: _ :: _ :: _ :: _ :: _ :: _ :: _ :: _ :: _ :: _ :: _ :: _ :: _ :: _ :: _ :: _ :: _ :: _ :: _ :: _ :: _ :: _ :: _ :: _ :: _ :: _ :: _ :: _ :: _ :: _ :: _ :: _ :: _ :: _ :: _ :: _ :: _ :: _ :: _ :: _ :: _ :: _ :: _ :: _ :: _ :: _ :: _ :: _ :: _ :: _ :: _ :: _ :: _ :: _ :: _ :: _ :: _ :: _ :: _ :: _ :: _ :: _ :: _ :: _ :: _ :: _ :: _ :: _ :: _ :: _ :: _ :: _ :: _ :: _ :: _ :: _ :: _ :: _ :: _ :: _ :: _ :: _ :: _ :: _ :: _ :: _ :: _ :: _ :: _ :: _ :: _ :: _ :: _ :: _ :: _ :: _ :: _ :: _ :: _ :: _ :: _ :: _ :: _ :: _ :: _ :: _ :: _ :: _ :: _ :: _ :: _ :: _ :: _ :: _ :: _ :: _ :: _ :: _ :: _ :: _ :: _ :: _ :: _ :: _ :: _ :: _ :: _ :: _ :: _ :: _ :: _ :: _ :: _ :: _ :: _ :: _ :: _ :: _ :: _ :: _ :: _ :: _ :: _ :: _ :: _ :: _ :: _ :: _ :: _ :: _ :: _ :: _ :: _ :: _ :: _ :: _ :: _ :: _ :: _ :: _ :: _ :: _ :: _ :: _ :: _ :: _ :: _ :: _ :: _ :: _ :: _ :: _ :: _ :: _ :: _ :: _ :: _ :: _ :: _ :: _ :: _ :: _ :: _ :: _ :: _ :: _ :: _ :: _ :: _ :: _ :: _ :: _ :: _ :: _ :: _ :: _ :: _ :: _ :: _ :: _ :: _ :: _ :: _ :: _ :: _ :: _ :: _ :: _ :: _ :: _ :: _ :: _ :: _ :: _ :: _ :: _ :: _ :: _ :: _ :: _ :: _ :: _ :: _ :: _ :: _ :: _ :: _ :: _ :: _ :: _ :: _ :: _ :: _ :: _ :: _ :: _ :: _ :: _ :: _ :: _ :: _ :: _ :: _ :: _ :: _ :: _ :: _ :: _ :: _ :: _ :: _ :: _ :: _ :: _ :: _ :: _ :: _ :: _ :: _ :: _ :: _ :: _ :: _ :: _ :: _ :: _ :: _ :: []), _⟩) rfl ?_
          have T2 := (T1.turn 7 rfl hU5).pick [4, 0, 6] (by decide)
          simp only [List.filterMap_cons, List.filterMap_nil, List.getElem?_cons_zero, List.getElem?_cons_succ, List.cons_append, List.nil_append, List.eraseIdx_cons_succ, List.eraseIdx_cons_zero] at T2
          have HT2 := Lib.hid T2
          clear T1 hU5 T2 HU14 HU12
          have emi := HEMI.out
          have emx := HEMX.out
          go_wp2_with fail
          go_meet
          case rel =>
            have HP := HPW.out
            have hpo := HPO.out
            have h5 := HT2.out
            have ht := trimA_span hlt2
            rw [HETR.out] at ht
            have hst : runS s0L (rs ++ [Ln.ent (an, nrmI (⟨bg, bo, bsq, btm, bru, .slice Bl bps.length bcl, bps, bst, bpr, bva, bow, bgo, tg, bgt⟩ : ItV))]) = stepS (runS s0L rs) (Ln.ent (an, nrmI (⟨bg, bo, bsq, btm, bru, .slice Bl bps.length bcl, bps, bst, bpr, bva, bow, bgo, tg, bgt⟩ : ItV))) := runS_snoc _ _ _
            have hh : (runS s0L (rs ++ [Ln.ent (an, nrmI (⟨bg, bo, bsq, btm, bru, .slice Bl bps.length bcl, bps, bst, bpr, bva, bow, bgo, tg, bgt⟩ : ItV))])).h = fun p => if p = spanO (⟨bg, bo, bsq, btm, bru, .slice Bl bps.length bcl, bps, bst, bpr, bva, bow, bgo, bgf, bgt⟩ : ItV) then spanT (⟨bg, bo, bsq, btm, bru, .slice Bl bps.length bcl, bps, bst, bpr, bva, bow, bgo, bgf, bgt⟩ : ItV) else (runS s0L rs).h p := by
              rw [hst]
              funext p
              show (if p = spanO (nrmI (⟨bg, bo, bsq, btm, bru, .slice Bl bps.length bcl, bps, bst, bpr, bva, bow, bgo, tg, bgt⟩ : ItV)) then spanT (nrmI (⟨bg, bo, bsq, btm, bru, .slice Bl bps.length bcl, bps, bst, bpr, bva, bow, bgo, tg, bgt⟩ : ItV)) else (runS s0L rs).h p) = _
              rw [(nrmI_span _).1, (nrmI_span _).2.2.1, ht.1, ht.2.1]
            have hln : (M ++ [(an, (⟨bg, bo, bsq, btm, bru, .slice Bl bps.length bcl, bps, bst, bpr, bva, bow, bgo, tg, bgt⟩ : ItV))]).length = mn + 1 := by rw [List.length_append, ← HMN.out]; rfl
            refine ⟨rfl, g, j, rs ++ [Ln.ent (an, nrmI (⟨bg, bo, bsq, btm, bru, .slice Bl bps.length bcl, bps, bst, bpr, bva, bow, bgo, tg, bgt⟩ : ItV))], sN, mx, M ++ [(an, (⟨bg, bo, bsq, btm, bru, .slice Bl bps.length bcl, bps, bst, bpr, bva, bow, bgo, tg, bgt⟩ : ItV))], es ++ [(an, { (⟨bg, bo, bsq, btm, bru, .slice Bl bps.length bcl, bps, bst, bpr, bva, bow, bgo, tg, bgt⟩ : ItV) with lv := .slice A4 bps.length c4 })], A5, c5, lv', Ls2, kk + ((recL an (⟨bg, bo, bsq, btm, bru, .slice Bl bps.length bcl, bps, bst, bpr, bva, bow, bgo, tg, bgt⟩ : ItV)).length + 8), ks, fs', rfl, rfl, by rw [hln], ?_, ?_, rfl, hpo.1, ?_, ?_, ?_, ?_, ?_, ?_, ?_⟩
            · rw [List.take_append_of_le_length HP.pi.sn]
            · rw [hst]; rfl
            · rw [List.map_append, List.map_append, HP.hes]; exact congrArg (fun z => M.map nrmS ++ [z]) (nrmS_lv an (⟨bg, bo, bsq, btm, bru, .slice Bl bps.length bcl, bps, bst, bpr, bva, bow, bgo, tg, bgt⟩ : ItV) _)
            · intro x hx
              rcases List.mem_append.1 hx with hx | hx
              · exact HP.nb x hx
              · rw [List.mem_singleton.1 hx]
                have h9 := (hpo.1.nb (an, (⟨bg, bo, bsq, btm, bru, .slice Bl bps.length bcl, bps, bst, bpr, bva, bow, bgo, tg, bgt⟩ : ItV)) (List.mem_append_right _ (.head _))).2
                exact ⟨⟨h9.1.o, h9.1.sq, h9.1.tm, h9.1.ru, h9.1.pz, h9.1.st, h9.1.pr, h9.1.va, h9.1.ow, h9.1.go, h9.1.gf, h9.1.gt⟩, h9.2⟩
            · rw [List.map_append]
              show hasJ fs' nmL (layAll (rs.map lnB ++ [lnB (Ln.ent (an, nrmI (⟨bg, bo, bsq, btm, bru, .slice Bl bps.length bcl, bps, bst, bpr, bva, bow, bgo, tg, bgt⟩ : ItV)))])) ks
              rw [nrm_rec, layAll_snoc]; exact HJ.out
            · rw [List.take_append_of_le_length HP.pi.sn]; exact HP.hks
            · have := hpo.2; omega
            · intro x hx
              rcases List.mem_append.1 hx with hx | hx
              · exact (HP.lab x hx).imp id (HLS.out _)
              · rw [List.mem_singleton.1 hx]; exact HXL.out
            · rw [hh, hst, hln, List.flatMap_append]; exact h5
        · as_aux_lemma =>
          have KA := admitErr g (.pointer (some ⟨j, 0, none⟩)) lv (runS s0L rs).h (runS s0L rs).li (runS s0L rs).la an (⟨bg, bo, bsq, btm, bru, .slice Bl bps.length bcl, bps, bst, bpr, bva, bow, bgo, bgf, bgt⟩ : ItV) wc ((two_open (two_open (two_open (HU9.out.get 3 rfl) |>.get 0 rfl) |>.get 0 rfl)).blk 0 rfl) hok9 (by have := hhs.2 (spanO (⟨bg, bo, bsq, btm, bru, .slice Bl bps.length bcl, bps, bst, bpr, bva, bow, bgo, bgf, bgt⟩ : ItV)); omega) (by rw [← hfv]; exact hf)
          rw [← hfv] at KA
          have q0 : ((fv : Int) == 0) = false := by simp; omega
          have q1 : ((fv : Int) != (fv : Int)) = false := by simp
          clear hfv hok9 hhs
          go_wp2_with fail
          (with_reducible refine (show Calls _ _ #[.pointer (some ⟨g, 0, none⟩), .int .u64 an, .agg #[.bool bg, .int .u8 bo, .int .u64 bsq, .int .u64 btm, .string bru, .slice Bl bps.length bcl, .int .u8 bst, .int .u8 bpr, .int .i64 bva, .int .u8 bow, .int .u8 bgo, .int .u64 bgf, .int .u64 bgt]] _ _ from KA).mono ?_)
          rintro e w10 ⟨rfl, hb10⟩
          have U10 := (((HU9.out.grow hb10).alloc #[.bool false, .int .u8 0, .int .u64 0, .int .u64 0, .string ⟨#[]⟩, .slice none 0 0, .int .u8 0, .int .u8 0, .int .i64 0, .int .u8 0, .int .u8 0, .int .u64 0, .int .u64 0] 36).pick [4, 5, 2] (by decide))
          simp only [List.filterMap_cons, List.filterMap_nil, List.getElem?_cons_zero, List.getElem?_cons_succ] at U10
          have HU10 := Lib.hid U10
          clear KA hb10 U10 y0 y1 y2 y3 y4 y5 y6 y7 y8 y9 y10 y11 y12
          go_wp2_with fail
          go_meet
          case rel =>
            have HP := HPW.out
            have h5 := HU10.out
            rw [HMN.out] at h5
            exact ⟨rfl, g, j, rs, sN, nw + a3, M, es, Am, cm, lv, Ls2, kk, ks, fs, rfl, rfl, by rw [HMN.out], rfl, rfl, rfl, HP.pi.up hnw, HP.hes, HP.nb, HP.hj, HP.hks, by have := HP.hkk; omega, fun x hx => (HP.lab x hx).imp id (HLS.out _), h5⟩

      case rest =>
        as_aux_lemma =>
        obtain ⟨rfl, g, j, rs, sN, nw, M, es, Am, cm, lv, Ls, kk, ks, fs, rfl, rfl, rfl, rfl, rfl, rfl, HP⟩ := hcut
        have U3 := HP.upd
        have hne : M.length = es.length := by
          have h5 := congrArg List.length HP.hes
          simp only [List.length_map] at h5
          exact h5.symm
        have hml : M.length ≤ 1000 := by have := HP.pi.mlen; omega
        have hlvs := (two_open (two_open (two_open (U3.get 0 rfl) |>.get 0 rfl) |>.get 0 rfl)).row 1 rfl
        obtain ⟨Alv, clv, rfl⟩ := owns_slice hlvs
        obtain ⟨mn, hmn⟩ : ∃ mn, mn = M.length := ⟨_, rfl⟩
        have hM3 := (show mAt _ _ _ _ _ wc from U3.get 1 rfl)
        have HMR := Lib.hid hM3.rd
        rw [← hmn] at hne hml U3 HMR ⊢
        have HP := Lib.hid HP
        have HMN := Lib.hid hmn
        have HNE := Lib.hid hne
        clear HPW hlvs hM3 hmn hne
        go_upto_if 219 with fail
        go_cut [26, 46] from 46 to 297 (fun la i wx => wx = wc ∧ i = .int .i64 k ∧ la = .int .u64 (lastL M))
        case first =>
          as_aux_lemma =>
          rcases Nat.eq_zero_or_pos mn with h0 | h0
          · have e1 : M = [] := List.eq_nil_of_length_eq_zero (by rw [← HMN.out]; exact h0)
            subst h0 e1
            go_wp2_with fail
            go_meet
            case rel => exact ⟨rfl, rfl, rfl⟩
          · have hx := HMR.out
            obtain ⟨Aq, cq, he, hxl, hx2, hx3, hx4⟩ := hx
            cases he
            obtain ⟨bq, oq, rfl, hat⟩ := hx4 h0
            obtain ⟨x, hx⟩ : ∃ x, M[mn - 1]? = some x := ⟨_, List.getElem?_eq_getElem (by rw [← HMN.out]; omega)⟩
            have hR := hat.el (f := en14) (n := 14) (fun _ => rfl) (mn - 1) x hx
            have hlast : lastL M = x.1 := by
              unfold lastL
              rw [List.getLast?_eq_getElem?, ← HMN.out, hx]; rfl
            have c0 : wc.cell? ⟨bq, oq + (mn - 1) * 14, none⟩ = some (.int .u64 x.1) := hR 0 _ rfl
            have d0 : decide ((0 : Int) < (mn : Int)) = true := by simp; omega
            have q0 : IntKind.i64.wrap ((mn : Int) - 1) = ((mn - 1 : Nat) : Int) := by rw [IntKind.wrap_i64]; omega
            have q1 : 0 ≤ ((mn - 1 : Nat) : Int) ∧ ((mn - 1 : Nat) : Int) < (mn : Int) := by omega
            clear hat hx hxl hR
            go_wp2_with fail
            go_meet
            case rel => exact ⟨rfl, rfl, by rw [hlast]⟩
        case rest =>
        as_aux_lemma =>
        obtain ⟨rfl, rfl, rfl⟩ := hcut
        have HPI := Lib.hid HP.out.pi
        have hnbE := HP.out.nb
        have KL := lList g mn (.pointer (some ⟨j, 0, none⟩)) (.slice Alv es.length clv) (runS s0L rs) es wc HNE.out (two_open (U3.get 0 rfl) |>.get 0 rfl) (by omega) (fun x hx => by have := (hnbE x hx).2; omega)
        have HNBE := Lib.hid hnbE
        clear hnbE
        go_wp2_with fail
        (with_reducible refine KL.mono ?_)
        rintro e w4 ⟨A4, c4, es4, rfl, hst4, hU4⟩
        have U4 := U3.call hU4
        simp only [List.cons_append, List.nil_append] at U4
        have hes4 : es4.map nrmS = M.map nrmS := (nrmS_of_strips2 hst4).trans HP.out.hes
        have hn4 : mn = es4.length := by
          have h5 := congrArg List.length hes4
          simp only [List.length_map] at h5
          rw [h5]; exact HMN.out
        have hlabM : ∀ w', Upd [] w [chL g j d_ m b (.slice Alv es.length clv) (runS s0L rs).h (runS s0L rs).li (runS s0L rs).la es kk fs, chM 41 14 (.slice Am mn cm) mn (M.flatMap en14), chAll Ls] w' → ∀ x ∈ M, Rd w' 2 x.2.lv x.2.ps.length (pairCells x.2.ps) := fun w' hU x hx => by
          rcases HP.out.lab x hx with h | h
          · exact hU.rd0 h
          · exact rd_of_owns (show w'.ownsRow 0 137 2 x.2.lv x.2.ps.length (pairCells x.2.ps) from hU.all 2 rfl (labRow x) h)
        have HLM := Lib.hid hlabM
        have KS := lSameN A4 Am mn c4 cm es4 M w4 hn4 hes4 (by have := rd_of_owns (U4.row 0 rfl); rw [← hn4] at this; exact this) (show mAt _ _ _ _ _ w4 from U4.get 3 rfl).rd
          (fun x hx => ((nb_strips hst4 (fun y hy => by
            obtain ⟨z, hz, rfl⟩ := List.mem_map.1 hy
            exact strip_nb (HNBE.out z hz))) x hx).1.ok (labs_rd (U4.all 1 rfl) x hx)) (HLM.out w4 (U4.pick [2, 3, 4] (by decide))) (by omega)
        clear KL hU4 hst4 hes4 hn4 U3 hlabM
        go_wp2_with fail
        (with_reducible refine KS.mono ?_)
        rintro e w5 ⟨rfl, hb5⟩
        have U5 := ((U4.pick [2, 3, 4] (by decide))).grow hb5
        simp only [List.filterMap_cons, List.filterMap_nil, List.getElem?_cons_zero, List.getElem?_cons_succ] at U5
        clear KS hb5 U4
        have hB5 := (two_open (two_open (two_open (U5.get 0 rfl) |>.get 0 rfl) |>.get 0 rfl)).blk 0 rfl
        have KN := lLen g es.length (.pointer (some ⟨j, 0, none⟩)) Alv clv (runS s0L rs).h (runS s0L rs).li (runS s0L rs).la w5 hB5
        rw [← HNE.out] at KN
        have KF := lLife g (.pointer (some ⟨j, 0, none⟩)) (.slice Alv es.length clv) (runS s0L rs).h (runS s0L rs).li (runS s0L rs).la w5 hB5
        have KA := lLast g (.pointer (some ⟨j, 0, none⟩)) (.slice Alv es.length clv) (runS s0L rs).h (runS s0L rs).li (runS s0L rs).la w5 hB5
        rw [← HPI.out.last] at KA
        have KL := lList g mn (.pointer (some ⟨j, 0, none⟩)) (.slice Alv es.length clv) (runS s0L rs) es w5 HNE.out (two_open (U5.get 0 rfl) |>.get 0 rfl) (by omega) (fun x hx => by have := (HNBE.out x hx).2; omega)
        clear hB5
        go_wp2_with fail
        (with_reducible refine KN.mono ?_)
        rintro e w6 ⟨rfl, rfl⟩
        clear KN
        go_wp2_with fail
        (with_reducible refine KF.mono ?_)
        rintro e w7 ⟨rfl, rfl⟩
        clear KF
        go_wp2_with fail
        (with_reducible refine KA.mono ?_)
        rintro e w8 ⟨rfl, rfl⟩
        clear KA
        go_wp2_with fail
        (with_reducible refine KL.mono ?_)
        rintro e w9 ⟨A9, c9, es9, rfl, hst9, hU9⟩
        have U9 := U5.call hU9
        simp only [List.cons_append, List.nil_append] at U9
        have hes9 : es9.map nrmS = M.map nrmS := (nrmS_of_strips2 hst9).trans HP.out.hes
        have hn9 : mn = es9.length := by
          have h5 := congrArg List.length hes9
          simp only [List.length_map] at h5
          rw [h5]; exact HMN.out
        have hnb9 := nb_strips hst9 (fun y hy => by
            obtain ⟨z, hz, rfl⟩ := List.mem_map.1 hy
            exact strip_nb (HNBE.out z hz))
        have KW := ledWhole (.slice A9 mn c9) es9 w9 (by have := rd_of_owns (U9.row 0 rfl); exact this) (fun x hx => ⟨by
            obtain ⟨y, hy, he⟩ : ∃ y ∈ M, x.1 = y.1 := by
              have : nrmS x ∈ es9.map nrmS := List.mem_map_of_mem hx
              rw [hes9] at this
              obtain ⟨y, hy, he⟩ := List.mem_map.1 this
              exact ⟨y, hy, (congrArg (fun z : Nat × ItV => z.1) he).symm⟩
            have := (HPI.out.nb y hy).1
            omega, (hnb9 x hx).1.ok (labs_rd (U9.all 1 rfl) x hx)⟩) (by omega)
        rw [HPI.out.whole hes9] at KW
        clear KL hU9 hst9 hes9 hn9 hnb9 U5
        go_wp2_with fail
        (with_reducible refine KW.mono ?_)
        rintro e w10 ⟨rfl, hb10⟩
        have U10 := ((U9.pick [2, 3, 4] (by decide))).grow hb10
        simp only [List.filterMap_cons, List.filterMap_nil, List.getElem?_cons_zero, List.getElem?_cons_succ] at U10
        clear KW hb10 U9
        go_wp2_with fail
        go_loopw [257] (fun q wx => ∃ o : Nat, o ≤ 4 ∧ q = .int .u8 o ∧ Upd [] w [chL g j d_ m b (.slice Alv es.length clv) (runS s0L rs).h (runS s0L rs).li (runS s0L rs).la es kk fs, chM 41 14 (.slice Am mn cm) mn (M.flatMap en14), chAll Ls] wx) (fun q _ => 4 - (intOf q).toNat)
        case atStart => exact ⟨0, by omega, rfl, U10⟩
        case round =>
          obtain ⟨q0, hq0, rfl, R2⟩ := hrel
          clear U10
          by_cases hq4 : q0 < 4
          · have dq : decide ((q0 : Int) < 4) = true := by simp; omega
            go_wp2_with fail
            go_loopw [28, 262] (fun ov i wx => ∃ q : Nat, q ≤ mn ∧ i = .int .i64 q ∧ Upd [] w [chRow 41 14 ov ((M.take q).filter fun x => spanO x.2 == q0).length (((M.take q).filter fun x => spanO x.2 == q0).flatMap en14), chL g j d_ m b (.slice Alv es.length clv) (runS s0L rs).h (runS s0L rs).li (runS s0L rs).la es kk fs, chM 41 14 (.slice Am mn cm) mn (M.flatMap en14), chAll Ls] wx) (fun _ i _ => mn - (intOf i).toNat)
            case atStart => exact ⟨0, Nat.zero_le _, rfl, R2.nilRow 41 14⟩
            case round =>
              obtain ⟨q, hq, rfl, R3⟩ := hrel
              clear R2
              by_cases hqn : q < mn
              · as_aux_lemma =>
                obtain ⟨Ao, co, rfl⟩ := owns_slice (R3.row 0 rfl)
                obtain ⟨x, hx⟩ : ∃ x, M[q]? = some x := ⟨_, List.getElem?_eq_getElem (by rw [← HMN.out]; exact hqn)⟩
                have hxm := List.mem_of_getElem? hx
                have hx4 := (show mAt _ _ _ _ _ wr from R3.get 2 rfl).rd
                obtain ⟨Aq, cq, he, hxl, hx2, hx3, hx4⟩ := hx4
                cases he
                obtain ⟨bm, om, rfl, hat⟩ := hx4 (by omega)
                have hok : x.2.ok wr := (HPI.out.nb x hxm).2.1.ok (HLM.out wr (R3.pick [1, 2, 3] (by decide)) x hxm)
                have hR0 := hat.el (f := en14) (n := 14) (fun _ => rfl) q x hx
                have HTF := Lib.hid (take_filter_snoc (fun x : Nat × ItV => spanO x.2 == q0) hx)
                have HNT := Lib.hid (show ((M.take q).filter fun x => spanO x.2 == q0).length ≤ 1000 from Nat.le_trans (List.length_filter_le _ _) (by rw [List.length_take]; omega))
                obtain ⟨Al2, acl2, hal2, _⟩ := hok.rd
                obtain ⟨ti2, ag2, ao2, asq2, atm2, aru2, alv2, aps2, ast2, apr2, ava2, aow2, ago2, agf2, agt2⟩ := x
                simp only at hal2
                subst hal2
                have hR3 : wr.rangeAt bm (om + q * 14) [.int .u64 ti2, .bool ag2, .int .u8 ao2, .int .u64 asq2, .int .u64 atm2, .string aru2, .slice Al2 aps2.length acl2, .int .u8 ast2, .int .u8 apr2, .int .i64 ava2, .int .u8 aow2, .int .u8 ago2, .int .u64 agf2, .int .u64 agt2] := hR0
                clear hx hxm hat hxl hR0
                go_upto_region 71 with (first | ((with_reducible refine wpList_load_mid ?l3a 41 (.tmp 264) ?l3b (bm) (om + q * 14) ?l3c _ _ hR3 Tryz.underlying41 ?l3d ?l3e ?l3f); (focus (case l3a => rfl)); (focus (case l3b => rfl)); (focus (case l3c => rfl)); (focus (case l3d => rfl)); (focus (case l3e => kernel_rfl))) | ((with_reducible refine wpList_store_mid ?s4a 41 (.tmp 30) (.tmp 265) ?s4b (wr.heap.size) 0 ?s4z ?s4c ?s4d ?s4e ?s4f ?s4g ?s4h); (case s4a => rfl); (case s4b => rfl); (case s4c => rfl); (case s4d => rfl); (case s4e => exact Blk.there (Blk.new _ _ _) 0 14 (by decide)); (case s4f => kernel_rfl); (case s4g => simp [Value.oneCell'])))
                refine wp_gen fun w11 hw11 => ?_
                have U11 := ((R3.alloc #[.int .u64 0, .bool false, .int .u8 0, .int .u64 0, .int .u64 0, .string ⟨#[]⟩, .slice none 0 0, .int .u8 0, .int .u8 0, .int .i64 0, .int .u8 0, .int .u8 0, .int .u64 0, .int .u64 0] 41).putAll 0 rfl [.int .u64 ti2, .bool ag2, .int .u8 ao2, .int .u64 asq2, .int .u64 atm2, .string aru2, .slice Al2 aps2.length acl2, .int .u8 ast2, .int .u8 apr2, .int .i64 ava2, .int .u8 aow2, .int .u8 ago2, .int .u64 agf2, .int .u64 agt2] rfl).same hw11
                simp only [List.eraseIdx_cons_zero] at U11
                have hok11 := hok.below ((Upd.nil [] wr).alloc #[.int .u64 0, .bool false, .int .u8 0, .int .u64 0, .int .u64 0, .string ⟨#[]⟩, .slice none 0 0, .int .u8 0, .int .u8 0, .int .i64 0, .int .u8 0, .int .u8 0, .int .u64 0, .int .u64 0] 41 |>.putAll 0 rfl [.int .u64 ti2, .bool ag2, .int .u8 ao2, .int .u64 asq2, .int .u64 atm2, .string aru2, .slice Al2 aps2.length acl2, .int .u8 ast2, .int .u8 apr2, .int .i64 ava2, .int .u8 aow2, .int .u8 ago2, .int .u64 agf2, .int .u64 agt2] rfl |>.same hw11 |>.below)
                clear R3 hw11 hR3 hok
                obtain ⟨gx, hgx⟩ : ∃ gx, gx = wr.heap.size := ⟨_, rfl⟩
                rw [← hgx] at U11 ⊢
                clear hgx
                have hB11 := U11.blk 0 rfl
                have hR1 : w11.rangeAt gx 1 [.bool ag2, .int .u8 ao2, .int .u64 asq2, .int .u64 atm2, .string aru2, .slice Al2 aps2.length acl2, .int .u8 ast2, .int .u8 apr2, .int .i64 ava2, .int .u8 aow2, .int .u8 ago2, .int .u64 agf2, .int .u64 agt2] := hB11.range 1 _ (fun j u hu => by rw [List.getElem?_toArray, Nat.add_comm, List.getElem?_cons_succ]; exact hu)
                have KSP := refSpan _ w11 hok11
                have HR14 := Lib.hid (show w11.rangeAt gx 0 [.int .u64 ti2, .bool ag2, .int .u8 ao2, .int .u64 asq2, .int .u64 atm2, .string aru2, .slice Al2 aps2.length acl2, .int .u8 ast2, .int .u8 apr2, .int .i64 ava2, .int .u8 aow2, .int .u8 ago2, .int .u64 agf2, .int .u64 agt2] from hB11.range 0 _ (fun j u hu => by rw [List.getElem?_toArray, Nat.zero_add]; exact hu))
                clear hB11 hok11
                go_wp2_with (first | ((with_reducible refine wpList_load_mid ?l2a 36 (.tmp 267) ?l2b (gx) (1) ?l2c _ _ hR1 Tryz.underlying36 ?l2d ?l2e ?l2f); (focus (case l2a => rfl)); (focus (case l2b => rfl)); (focus (case l2c => rfl)); (focus (case l2d => rfl)); (focus (case l2e => kernel_rfl))))
                (with_reducible refine (show Calls _ _ #[.agg #[.bool ag2, .int .u8 ao2, .int .u64 asq2, .int .u64 atm2, .string aru2, .slice Al2 aps2.length acl2, .int .u8 ast2, .int .u8 apr2, .int .i64 ava2, .int .u8 aow2, .int .u8 ago2, .int .u64 agf2, .int .u64 agt2]] _ _ from KSP).mono ?_)
                rintro e w12 ⟨rfl, hb12⟩
                have U12 := U11.grow hb12
                have hR14 : w12.rangeAt gx 0 [.int .u64 ti2, .bool ag2, .int .u8 ao2, .int .u64 asq2, .int .u64 atm2, .string aru2, .slice Al2 aps2.length acl2, .int .u8 ast2, .int .u8 apr2, .int .i64 ava2, .int .u8 aow2, .int .u8 ago2, .int .u64 agf2, .int .u64 agt2] := fun j u hu => by
                  have := HR14.out j u hu
                  exact ((U12.blk 0 rfl).range 0 _ (fun j u hu => by rw [List.getElem?_toArray, Nat.zero_add]; exact hu)) j u hu
                clear KSP hb12 U11 HR14 hR1
                obtain ⟨so, hso⟩ : ∃ so, so = spanO (⟨ag2, ao2, asq2, atm2, aru2, .slice Al2 aps2.length acl2, aps2, ast2, apr2, ava2, aow2, ago2, agf2, agt2⟩ : ItV) := ⟨_, rfl⟩
                rw [← hso] at ⊢
                have HSO := Lib.hid hso
                clear hso
                by_cases heq : so = q0
                · subst heq
                  go_upto_region 73 with fail
                  refine wp_at fun A hA => ?_
                  have hs : A.tmps.size = 300 := by rw [hA]; rfl
                  have h28 : A.eval (.tmp 28) = .slice Ao ((M.take q).filter fun x => spanO x.2 == so).length co := by rw [hA]; rfl
                  have h30 : A.eval (.tmp 30) = .pointer (some ⟨gx, 0, none⟩) := by rw [hA]; rfl
                  have HA := Lib.hid hA
                  clear hA
                  refine wp_region_lit ?_
                  refine PL.mov_ (by simp only [h28]; with_reducible rfl) ?_
                  refine PL.ldm_ gx 0 [.int .u64 ti2, .bool ag2, .int .u8 ao2, .int .u64 asq2, .int .u64 atm2, .string aru2, .slice Al2 aps2.length acl2, .int .u8 ast2, .int .u8 apr2, .int .i64 ava2, .int .u8 aow2, .int .u8 ago2, .int .u64 agf2, .int .u64 agt2] _ (by simp only [eval_put_ne, ne_eq, not_false_eq_true, Nat.reduceEqDiff, h30]) hR14 Tryz.underlying41 rfl (by kernel_rfl) ?_
                  refine pl_mkEnt (d := 278) (x := 277) ti2 ag2 ao2 asq2 atm2 aru2 Al2 aps2.length acl2 ast2 apr2 ava2 aow2 ago2 agf2 agt2 ?_ ?_
                  · simp only [eval_put_self, put_size, hs, Nat.reduceLT]
                  have T1 := U12.alloc #[.int .u64 ti2, .bool ag2, .int .u8 ao2, .int .u64 asq2, .int .u64 atm2, .string aru2, .slice Al2 aps2.length acl2, .int .u8 ast2, .int .u8 apr2, .int .i64 ava2, .int .u8 aow2, .int .u8 ago2, .int .u64 agf2, .int .u64 agt2] 41
                  refine wpl_append_rd rfl (.tmp 276) (.tmp 278) 24 rfl 0 41 i0 _ 14 128 Tryz.underlying24 hi hz0 hz1 hz2 rfl (by decide) (.slice Ao ((M.take q).filter fun x => spanO x.2 == so).length co) ((M.take q).filter fun x => spanO x.2 == so).length _ (by simp only [eval_put_ne, eval_put_self, hs, ne_eq, not_false_eq_true, Nat.reduceEqDiff, Nat.reduceLT]) (T1.row 2 rfl) (.slice (some ⟨w12.heap.size, 0, none⟩) 1 1) 1 _ (by simp only [eval_put_self, put_size, hs, Nat.reduceLT]) (rd_one (T1.blk 0 rfl) (n := 14) rfl) (by intro u hu; simp at hu; rcases hu with rfl | rfl | rfl | rfl | rfl | rfl | rfl | rfl | rfl | rfl | rfl | rfl | rfl | rfl <;> rfl) (by have := HNT.out; unfold maxLen; omega) (by have := HNT.out; omega) (Nat.zero_le _) fun v4 w4 hown4 hgr4 hv4 => ?_
                  have T2 := (T1.app 2 rfl hown4 hgr4 hv4).pick [0, 3, 4, 5] (by decide)
                  simp only [List.filterMap_cons, List.filterMap_nil, List.getElem?_cons_succ, List.getElem?_cons_zero, List.eraseIdx_cons_succ, List.eraseIdx_cons_zero] at T2
                  obtain ⟨A5, c5, rfl⟩ := owns_slice hown4
                  refine PL.asg_ (v := .slice A5 (((M.take q).filter fun x => spanO x.2 == so).length + 1) c5) (by simp only [eval_put_self, put_size, hs, Nat.reduceLT]) ?_
                  refine wpList_nil ?_
                  have HT2 := Lib.hid T2
                  clear hown4 hgr4 hv4 T1 T2 hs h28 h30 hR14 U12
                  have hA := HA.out
                  clear HA
                  subst hA
                  simp only [Act.put, List.setIfInBounds_toArray]
                  refine exit_frame (b := ⟨List.toArray (_ :: _ :: _ :: _ :: _ :: _ :: _ :: _ :: _ :: _ :: _ :: _ :: _ :: _ :: _ :: _ :: _ :: _ :: _ :: _ :: _ :: _ :: _ :: _ :: _ :: _ :: _ :: _ :: _ :: _ :: _ :: _ :: _ :: _ :: _ :: _ :: _ :: _ :: _ :: _ :: _ :: _ :: _ :: _ :: _ :: _ :: _ :: _ :: _ :: _ :: _ :: _ :: _ :: _ :: _ :: _ :: _ :: _ :: _ :: _ :: _ :: _ :: _ :: _ :: _ :: _ :: _ :: _ :: _ :: _ :: _ :: _ :: _ :: _ :: _ :: _ :: _ :: _ :: _ :: _ :: _ :: _ :: _ :: _ :: _ :: _ :: _ :: _ :: _ :: _ :: _ :: _ :: _ :: _ :: _ :: _ :: _ :: _ :: _ :: _ :: _ :: _ :: _ :: _ :: _ :: _ :: _ :: _ :: _ :: _ :: _ :: _ :: _ :: _ :: _ :: _ :: _ :: _ :: _ :: _ :: _ :: _ :: _ :: _ :: _ :: _ :: _ :: _ :: _ :: _ :: _ :: _ :: _ :: _ :: _ :: _ :: _ :: _ :: _ :: _ :: _ :: _ :: _ :: _ :: _ :: _ :: _ :: _ :: _ :: _ :: _ :: _ :: _ :: _ :: _ :: _ :: _ :: _ :: _ :: _ :: _ :: _ :: _ :: _ :: _ :: _ :: _ :: _ :: _ :: _ :: _ :: _ :: _ :: _ :: _ :: _ :: _ :: _ :: _ :: _ :: _ :: _ :: _ :: _ :: _ :: _ :: _ :: _ :: _ :: _ :: _ :: _ :: _ :: _ :: _ :: _ :: _ :: _ :: _ :: _ :: _ :: _ :: _ :: _ :: _ :: _ :: _ :: _ :: _ :: _ :: _ :: _ :: _ :: _ :: _ :: _ :: _ :: _ :: _ :: _ :: _ :: _ :: _ :: _ :: _ :: _ :: _ :: _ :: _ :: _ :: _ :: _ :: _ :: _ :: _ :: _ :: _ :: _ :: _ :: _ :: _ :: _ :: _ :: _ :: _ :: _ :: _ :: _ :: _ :: _ :: _ :: _ :: _ :: _ :: _ :: _ :: _ :: _ :: _ :: _ :: _ :: _ :: _ :: _ :: _ :: _ :: _ :: _ :: _ :: _ :: _ :: _ :: _ :: _ :: _ :: _ :: _ :: _ :: _ :: _ :: _ :: _ :: _ :: _ :: _ :: _ :: _ :: _ :: _ :: _ :: _ :: _ :: _ :: _ :: _ :: _ :: _ :: _ :: _ :: _ :: []), _⟩) rfl ?_
                  go_wp2_with fail
                  go_roundw
                  case rel =>
                    refine ⟨q + 1, by omega, by go_num, ?_⟩
                    rw [HTF.out, if_pos (by rw [HSO.out]; exact beq_self_eq_true _), List.length_append, List.flatMap_append, List.flatMap_singleton]
                    exact HT2.out
                  case measure => simp [intOf]; omega
                · have hne2 : ((so : Int) == (q0 : Int)) = false := by simp; omega
                  have T2 := U12.drop 0
                  simp only [List.eraseIdx_cons_zero] at T2
                  have HT2 := Lib.hid T2
                  clear U12 hR14 T2
                  go_wp2_with fail
                  go_roundw
                  case rel =>
                    refine ⟨q + 1, by omega, by go_num, ?_⟩
                    rw [HTF.out, if_neg (by rw [← HSO.out]; simpa using heq), List.append_nil]
                    exact HT2.out
                  case measure => simp [intOf]; omega
              · as_aux_lemma =>
                obtain rfl : q = mn := by omega
                have htk : M.take q = M := by rw [HMN.out]; exact List.take_length
                rw [htk] at R3
                obtain ⟨Ao, co, rfl⟩ := owns_slice (R3.row 0 rfl)
                have hB3 := (two_open (two_open (two_open (R3.get 1 rfl) |>.get 0 rfl) |>.get 0 rfl)).blk 0 rfl
                have KH := lHigh g (.pointer (some ⟨j, 0, none⟩)) (.slice Alv es.length clv) (runS s0L rs).h (runS s0L rs).li (runS s0L rs).la wr hB3 q0 (by omega)
                rw [← HPI.out.high q0] at KH
                have KG := lawHigh (.slice Am q cm) M q0 wr (by have := (show mAt _ _ _ _ _ wr from R3.get 2 rfl).rd; rw [HMN.out] at this ⊢; exact this) (fun x hx => ⟨by have := (HPI.out.nb x hx).1; omega, (HPI.out.nb x hx).2.1.ok (HLM.out wr (R3.pick [1, 2, 3] (by decide)) x hx)⟩) (by rw [← HMN.out]; omega)
                clear hB3 htk hqn
                go_wp2_with fail
                (with_reducible refine KH.mono ?_)
                rintro e w11 ⟨rfl, rfl⟩
                clear KH
                go_wp2_with fail
                (with_reducible refine KG.mono ?_)
                rintro e w12 ⟨rfl, hb12⟩
                have U12 := R3.grow hb12
                clear KG hb12 R3
                have KO := lOf g q q0 (.pointer (some ⟨j, 0, none⟩)) (.slice Alv es.length clv) (runS s0L rs) es w12 HNE.out (two_open (U12.get 1 rfl) |>.get 0 rfl) (by omega) (fun x hx => ⟨(HNBE.out x hx).1, by have := (HNBE.out x hx).2; omega⟩)
                go_wp2_with fail
                (with_reducible refine KO.mono ?_)
                rintro e w13 ⟨A5, c5, es5, rfl, hst5, hU5⟩
                have U13 := U12.call hU5
                simp only [List.cons_append, List.nil_append] at U13
                have hes5 : es5.map nrmS = M.map nrmS := (nrmS_of_strips2 hst5).trans HP.out.hes
                have hfil := filter_nrm hes5 q0
                have hnb5 := nb_strips hst5 (fun y hy => by
                  obtain ⟨z, hz, rfl⟩ := List.mem_map.1 hy
                  exact strip_nb (HNBE.out z hz))
                have hlen5 : (M.filter fun x => spanO x.2 == q0).length = (es5.filter fun x => spanO x.2 == q0).length := by
                  have h5 := congrArg List.length hfil
                  simp only [List.length_map] at h5
                  exact h5.symm
                rw [hlen5] at U13 ⊢
                obtain ⟨n5, hn5⟩ : ∃ n5, n5 = (es5.filter fun x => spanO x.2 == q0).length := ⟨_, rfl⟩
                have hn5l : n5 ≤ q := by
                  rw [hn5, ← hlen5, HMN.out]; exact List.length_filter_le _ _
                rw [← hn5] at U13 ⊢
                have KS := lSameN A5 Ao n5 c5 co (es5.filter fun x => spanO x.2 == q0) (M.filter fun x => spanO x.2 == q0) w13 hn5 hfil (U13.get 0 rfl) (rd_of_owns (U13.row 2 rfl))
                  (fun x hx => (hnb5 x ((List.mem_filter.1 hx).1)).1.ok (labs_rd (U13.all 1 rfl) x ((List.mem_filter.1 hx).1))) (fun x hx => HLM.out w13 (U13.pick [3, 4, 5] (by decide)) x ((List.mem_filter.1 hx).1)) (by omega)
                clear KO hU5 hst5 hes5 hfil hnb5 hlen5 hn5 U12
                have wq : IntKind.u8.wrap ((q0 : Int) + 1) = ((q0 + 1 : Nat) : Int) := by rw [IntKind.wrap_u8]; omega
                go_wp2_with fail
                (with_reducible refine KS.mono ?_)
                rintro e w14 ⟨rfl, hb14⟩
                have U14 := (U13.pick [3, 4, 5] (by decide)).grow hb14
                simp only [List.filterMap_cons, List.filterMap_nil, List.getElem?_cons_zero, List.getElem?_cons_succ] at U14
                have HU14 := Lib.hid U14
                clear KS hb14 U13 U14
                go_wp2_with fail
                go_roundw
                case rel => exact ⟨q0 + 1, by omega, rfl, HU14.out⟩
                case measure => simp [intOf]; omega
          · as_aux_lemma =>
            obtain rfl : q0 = 4 := by omega
            have HU := Lib.hid R2
            clear R2
            go_wp2_with fail
            go_roundw
            case rel => exact ⟨k + 1, by omega, by omega, by go_num, g, j, rs, sN, nw, M, es, Am, cm, .slice Alv es.length clv, Ls, kk, ks, fs, rfl, rfl, by rw [HMN.out], rfl, rfl, rfl, { HP.out with upd := by have h5 := HU.out; rw [HMN.out] at h5; exact h5 }⟩
            case measure => simp [intOf]; omega
    · as_aux_lemma =>
      obtain rfl : k = n := by omega
      have hB := R1.below
      clear R1 HPW
      go_wp2_with fail
      go_ret
      exact ⟨rfl, hB⟩
end Go.Proofs.YtdmdfccadjfpiaaGreat
