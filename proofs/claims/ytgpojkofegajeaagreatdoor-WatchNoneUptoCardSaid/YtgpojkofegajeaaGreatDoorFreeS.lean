/-
  A REGION THAT DRAWS ITS ORDER, WITHOUT A WALK FOR EACH ORDER: where each operation gives one value in every world that an invariant admits and makes new memory at most (but for a tail that comes in the text's order), the region may be walked once, in the text's order. Conditions: a closed look at the region's own operations (freeOk).
-/
import Derived.Orders
import Derived.Below
namespace Go.Proofs.YtgpojkofegajeaaGreatDoor.FreeSl
open Go.RowKit

def NoQ : Exit → Act → World → Prop := fun _ _ _ => False
/-- What an operation has left in its slot. -/
def out (o : Oper) (a : Act) : Value := match o.dst with | some d => a.tmps.getD d undef | none => undef
/-- The operation runs to its end, and what it gives, and the world behind it, meet G. -/
def Sure (P : Program) (ops : Array Oper) (o : Oper) (a : Act) (w : World) (G : Value → World → Prop) : Prop :=
  if Region.wanted o (yielded ops a.tmps) = true then o.wp P a w (fun a' w' => a'.defers = a.defers ∧ G (out o a') w') NoQ else G undef w

theorem out_put (o : Oper) (a : Act) (v : Value) (h : ∀ d, o.dst = some d → d < a.tmps.size) : out o (a.put o.dst v) = v ∨ o.dst = none := by
  cases hd : o.dst with
  | none => exact .inr rfl
  | some d =>
    left
    have := h d hd
    simp [out, hd, Act.put, this]

/-- Two frames agree at some slots. -/
def Agree (l : List Nat) (a b : Act) : Prop := ∀ t ∈ l, a.tmps[t]? = b.tmps[t]?

theorem eval_agree {l : List Nat} {a b : Act} (h : Agree l a b) (x : Operand) (hx : ∀ t, x = .tmp t → t ∈ l) : a.eval x = b.eval x := by
  cases x with
  | tmp t => have := h t (hx t rfl); simp [Act.eval, this]
  | _ => rfl

theorem exec_agree {ops : Array Oper} {o : Oper} {a b : Act} (hs : ∀ cs c, o.op ≠ .select cs c) (h : Agree (o.looksAt ops) a b) : execOp a.eval o = execOp b.eval o :=
  execOp_congr o hs fun x hx => eval_agree h x fun t ht => by
    subst ht
    exact List.mem_append_left _ (List.mem_filterMap.2 ⟨.tmp t, by simpa using hx, rfl⟩)

theorem wanted_agree {ops : Array Oper} {o : Oper} {a b : Act} (h : Agree (o.looksAt ops) a b) : Region.wanted o (yielded ops a.tmps) = Region.wanted o (yielded ops b.tmps) := by
  unfold Region.wanted
  cases hg : o.guard with
  | none => rfl
  | some gw =>
    obtain ⟨g, want⟩ := gw
    have hy : yielded ops a.tmps g = yielded ops b.tmps g := by
      unfold yielded
      cases ht : (ops[g]?).bind (·.dst) with
      | none => rfl
      | some t =>
        have := h t (by simp [Oper.looksAt, hg, ht])
        simp [this]
    simp only [hy]

def plainOp : Op → Bool
  | .select .. => false
  | _ => true

theorem put_defers' (a : Act) (d : Option Tmp) (v : Value) : (a.put d v).defers = a.defers := by cases d <;> rfl

theorem sure_wpOp {P : Program} {ops : Array Oper} {i : Nat} {o : Oper} {a b : Act} {w : World} {G : Value → World → Prop} {K : Act → World → Prop} {Q : Exit → Act → World → Prop}
    (hi : ops[i]? = some o) (hp : plainOp o.op = true) (hd : ∀ d, o.dst = some d → d < a.tmps.size) (hab : Agree (o.looksAt ops) a b)
    (h : Sure P ops o a w G) (hK : ∀ v w', G v w' → K (b.put o.dst v) w') : wpOp P ops Q i K b w := by
  have hnone : ∀ v w', G (out o (a.put o.dst v)) w' → K (b.put o.dst v) w' := by
    intro v w' hg
    rcases out_put o a v hd with e | e
    · rw [e] at hg; exact hK _ _ hg
    · have := hK _ _ hg
      rw [e] at this ⊢
      exact this
  unfold wpOp Sure at *
  simp only [hi]
  rw [← wanted_agree hab]
  split
  · rename_i hw
    rw [if_pos hw] at h
    left
    unfold Oper.wp at *
    rw [← exec_agree (fun cs c e => by rw [e] at hp; cases hp) hab]
    generalize hr : (execOp a.eval o).run P w = r at *
    cases r with
    | ok n w' =>
      cases n <;> simp only [Oper.upon] at h ⊢
      case value v => exact hnone v w' h.2
      case skip => exact hnone undef w' h.2
      case defer d =>
        have := h.1
        rw [put_defers'] at this
        have := congrArg List.length this
        simp at this
      case enter f args =>
        refine Calls.mono h fun e w'' he => ?_
        cases e with
        | returned v => exact hnone v w'' he.2
        | panicked c => exact he.elim
        | outgrown => obtain ⟨_, _, hq⟩ := he; exact hq.elim
      case row row args => exact Rows.mono h fun v w'' he => hnone v w'' he.2
    | halt x w' =>
      cases x <;> simp only [Oper.upon] at h ⊢
      case panic u => exact h.elim
  · rename_i hw
    rw [if_neg hw] at h
    exact hK _ _ h

/-! ### The closed look at a region -/
def dstOf (ops : Array Oper) (i : Nat) : Option Nat := (ops[i]?).bind (·.dst)
def looks (ops : Array Oper) (i : Nat) : List Nat := match ops[i]? with | some o => o.looksAt ops | none => []
def pre (ops : Array Oper) (i : Nat) : List Nat := match ops[i]? with | some o => (o.after.toList.filter (Region.binds .any)).map (·.on) | none => []
/-- Operations whose result hangs on their operands alone. -/
def pureOp : Op → Bool
  | .move _ | .assign _ | .pick .. | .binOp .. | .unOp .. | .fieldAddr .. | .field .. | .build .. | .extract .. | .slice .. => true
  | .call { callee := .builtin .len, .. } => true
  | _ => false
def detsOf (ops : Array Oper) (ts : List Nat) : List Nat := (List.range ops.size).filter fun i => !ts.contains i
/-- A: for each operation the set of those that surely run before it, as bits. -/
def bitsOk (ops : Array Oper) (A : Array Nat) : Bool := (List.range ops.size).all fun i =>
  (pre ops i).all (fun j => decide (j < i)) && (((pre ops i).foldl (fun s j => s ||| 2 ^ j ||| A.getD j 0) 0) ||| A.getD i 0 == ((pre ops i).foldl (fun s j => s ||| 2 ^ j ||| A.getD j 0) 0))
def slotsOk (ops : Array Oper) (A : Array Nat) (ts : List Nat) (n : Nat) : Bool := (List.range ops.size).all fun i =>
  (match ops[i]? with | some o => plainOp o.op | none => false) && (match dstOf ops i with | some d => decide (d < n) | none => true) &&
  (List.range ops.size).all fun j => i == j ||
    (((match dstOf ops i with | some d => dstOf ops j != some d | none => true)) &&
     ((match dstOf ops j with | some d => !(looks ops i).contains d | none => true) ||
      (if ts.contains i then ts.contains j || (A.getD i 0).testBit j
       else if ts.contains j then (A.getD j 0).testBit i else if j < i then (A.getD i 0).testBit j else (A.getD j 0).testBit i)))
def tailsOk (ops : Array Oper) (A : Array Nat) : List Nat → Bool
  | [] => true
  | i :: r => decide (i < ops.size) && (r.all fun x => (A.getD x 0).testBit i && x != i) && tailsOk ops A r
/-- Not taken for pure: the operations of rs. -/
def pureAt (ops : Array Oper) (rs : List Nat) (i : Nat) : Bool := match ops[i]? with | some o => pureOp o.op && !rs.contains i | none => false
def openOk (ops : Array Oper) (A : Array Nat) (rs ts : List Nat) : Bool :=
  ts.all fun x => (detsOf ops ts).all fun j => pureAt ops rs j || (A.getD x 0).testBit j
def freeOk (ops : Array Oper) (A : Array Nat) (rs ts : List Nat) (n : Nat) : Bool :=
  bitsOk ops A && slotsOk ops A ts n && tailsOk ops A ts && openOk ops A rs ts

/-! ### What is owed -/
/-- The facts on which operation i may lean: those of what surely has run before it. -/
def Facts (ops : Array Oper) (i : Nat) (fa : List (Nat × ((Nat → Value) → World → Prop))) (x : Nat → Value) (w : World) : Prop :=
  ∀ e ∈ fa, ((Region.before ops).getD i 0).testBit e.1 = true → e.2 x w
def StepC (P : Program) (ops : Array Oper) (Inv : World → Prop) (rs : List Nat) (i : Nat) (o : Oper) (fr : (Nat → Value) → Act) (fa : List (Nat × ((Nat → Value) → World → Prop))) (c : Value) : Prop :=
  if pureAt ops rs i = true then ∀ x w, Sure P ops o (fr x) w (fun v w' => v = c ∧ w' = w)
  else ∀ x w, Inv w → Facts ops i fa x w → Sure P ops o (fr x) w (fun v w' => v = c ∧ Inv w' ∧ Below w.heap.size w w')
/-- Marked among rs (as i + 1000000): an operation that makes a block and hands back its address. -/
def isNew (rs : List Nat) (i : Nat) : Bool := rs.contains (i + 1000000)
/-- Addresses of unlike blocks. -/
def Apart (v u : Value) : Prop := ∀ b b' : Nat, v = .pointer (some ⟨b, 0, none⟩) → u = .pointer (some ⟨b', 0, none⟩) → b ≠ b'
def StepR (P : Program) (ops : Array Oper) (Inv : World → Prop) (rs : List Nat) (i : Nat) (o : Oper) (fr : (Nat → Value) → Act) (fa : List (Nat × ((Nat → Value) → World → Prop))) (Φ : Value → World → Prop) : Prop :=
  (∀ v w w', Φ v w → Below w.heap.size w w' → Φ v w') ∧ ∀ x w, Inv w → Facts ops i fa x w → Sure P ops o (fr x) w (fun v w' => (Φ v w' ∧ (isNew rs i = true → ∃ b : Nat, v = .pointer (some ⟨b, 0, none⟩) ∧ w.heap.size ≤ b ∧ b < w'.heap.size)) ∧ Inv w' ∧ Below w.heap.size w w')
def RelSeq (P : Program) (ops : Array Oper) (Inv : World → Prop) (rs : List Nat) : List Nat → ((Nat → Value) → Act) → List (Nat × ((Nat → Value) → World → Prop)) → (((Nat → Value) → Act) → List (Nat × ((Nat → Value) → World → Prop)) → Prop) → Prop
  | [], fr, fa, K => K fr fa
  | i :: r, fr, fa, K => ∃ o, ops[i]? = some o ∧
      ((∃ c, StepC P ops Inv rs i o fr fa c ∧ RelSeq P ops Inv rs r (fun x => (fr x).put o.dst c) fa K) ∨
       (rs.contains i = true ∧ ∃ Φ, StepR P ops Inv rs i o fr fa Φ ∧ RelSeq P ops Inv rs r (fun x => (fr x).put o.dst (x i)) (fa ++ [(i, fun x w => Φ (x i) w)]) K))
def TailSeq (P : Program) (ops : Array Oper) (Q : Exit → Act → World → Prop) : List Nat → Act → World → Prop
  | [], a, w => Q .normal a w
  | i :: r, a, w => ∃ o, ops[i]? = some o ∧ Sure P ops o a w (fun v w' => TailSeq P ops Q r (a.put o.dst v) w')

/-! ### Frames -/
def putAll (ops : Array Oper) (vals : Nat → Value) (l : List Nat) (a : Act) : Act := l.foldl (fun a i => a.put (dstOf ops i) (vals i)) a
theorem putAll_size (ops : Array Oper) (vals : Nat → Value) (l : List Nat) (a : Act) : (putAll ops vals l a).tmps.size = a.tmps.size ∧ (putAll ops vals l a).defers = a.defers := by
  induction l generalizing a with
  | nil => exact ⟨rfl, rfl⟩
  | cons i r ih =>
    have := ih (a.put (dstOf ops i) (vals i))
    refine ⟨this.1.trans ?_, this.2.trans (put_defers' _ _ _)⟩
    cases dstOf ops i <;> simp [Act.put]
theorem putAll_other {ops : Array Oper} {vals : Nat → Value} {l : List Nat} {a : Act} {t : Nat} (h : ∀ i ∈ l, dstOf ops i ≠ some t) : (putAll ops vals l a).tmps[t]? = a.tmps[t]? := by
  induction l generalizing a with
  | nil => rfl
  | cons i r ih =>
    refine (ih (a := a.put (dstOf ops i) (vals i)) (fun j hj => h j (.tail _ hj))).trans ?_
    have := h i (.head _)
    cases hd : dstOf ops i with
    | none => rfl
    | some d =>
      have hne : d ≠ t := fun e => this (by rw [hd, e])
      simp [Act.put, Array.getElem?_setIfInBounds_ne hne]
theorem putAll_hit {ops : Array Oper} {vals : Nat → Value} {l : List Nat} {a : Act} {t i : Nat} (hi : i ∈ l) (hd : dstOf ops i = some t) (ht : t < a.tmps.size) (hu : ∀ j ∈ l, dstOf ops j = some t → j = i) :
    (putAll ops vals l a).tmps[t]? = some (vals i) := by
  induction l generalizing a with
  | nil => cases hi
  | cons k r ih =>
    by_cases hr : i ∈ r
    · refine ih (a := a.put (dstOf ops k) (vals k)) hr ?_ (fun j hj => hu j (.tail _ hj))
      cases dstOf ops k <;> simpa [Act.put] using ht
    · have hk : i = k := by cases hi with | head => rfl | tail _ h => exact absurd h hr
      subst hk
      refine (putAll_other (a := a.put (dstOf ops i) (vals i)) (fun j hj e => hr ((hu j (.tail _ hj) e) ▸ hj))).trans ?_
      rw [hd]
      simp [Act.put, ht]
theorem putAll_congr {ops : Array Oper} {vals vals' : Nat → Value} {l : List Nat} {a : Act} (h : ∀ i ∈ l, vals i = vals' i) : putAll ops vals l a = putAll ops vals' l a := by
  induction l generalizing a with
  | nil => rfl
  | cons i r ih =>
    show putAll ops vals r (a.put (dstOf ops i) (vals i)) = putAll ops vals' r (a.put (dstOf ops i) (vals' i))
    rw [h i (.head _)]
    exact ih fun j hj => h j (.tail _ hj)

/-- The values of a text-order frame: constants, and where R says so the values at hand. -/
def sel (R : Nat → Bool) (c x : Nat → Value) : Nat → Value := fun j => if R j = true then x j else c j
def factsOf (R : Nat → Bool) (Φ : Nat → Value → World → Prop) (l : List Nat) : List (Nat × ((Nat → Value) → World → Prop)) := (l.filter R).map fun j => (j, fun x w => Φ j (x j) w)

theorem factsOf_congr {R R' : Nat → Bool} {Φ Φ' : Nat → Value → World → Prop} {l : List Nat} (h : ∀ j ∈ l, R j = R' j ∧ Φ j = Φ' j) : factsOf R Φ l = factsOf R' Φ' l := by
  unfold factsOf
  induction l with
  | nil => rfl
  | cons i r ih =>
    obtain ⟨h1, h2⟩ := h i (.head _)
    have := ih fun j hj => h j (.tail _ hj)
    rw [List.filter_cons, List.filter_cons, h1]
    split
    · rw [List.map_cons, List.map_cons, this, h2]
    · exact this

theorem RelSeq.open {P : Program} {ops : Array Oper} {Inv : World → Prop} {rs l : List Nat} {fr : (Nat → Value) → Act} {fa : List (Nat × ((Nat → Value) → World → Prop))} {K : ((Nat → Value) → Act) → List (Nat × ((Nat → Value) → World → Prop)) → Prop} (hn : l.Nodup) (h : RelSeq P ops Inv rs l fr fa K) :
    ∃ (R : Nat → Bool) (c : Nat → Value) (Φ : Nat → Value → World → Prop), (∀ l1 i l2, l = l1 ++ i :: l2 → ∃ o, ops[i]? = some o ∧
        (R i = false → StepC P ops Inv rs i o (fun x => putAll ops (sel R c x) l1 (fr x)) (fa ++ factsOf R Φ l1) (c i)) ∧
        (R i = true → rs.contains i = true ∧ StepR P ops Inv rs i o (fun x => putAll ops (sel R c x) l1 (fr x)) (fa ++ factsOf R Φ l1) (Φ i))) ∧
      K (fun x => putAll ops (sel R c x) l (fr x)) (fa ++ factsOf R Φ l) := by
  induction l generalizing fr fa with
  | nil => exact ⟨fun _ => false, fun _ => undef, fun _ _ _ => True, (fun l1 i l2 e => by simp at e), by simpa [factsOf, putAll, RelSeq] using h⟩
  | cons i r ih =>
    obtain ⟨o, ho, h⟩ := h
    obtain ⟨hni, hnr⟩ := List.nodup_cons.1 hn
    have hdo : dstOf ops i = o.dst := by simp [dstOf, ho]
    rcases h with ⟨c0, hs, hr⟩ | ⟨hrs, Φ0, hs, hr⟩
    · obtain ⟨R, c, Φ, h1, h2⟩ := ih hnr hr
      let R' : Nat → Bool := fun j => if j = i then false else R j
      let c' : Nat → Value := fun j => if j = i then c0 else c j
      have hne : ∀ j ∈ r, j ≠ i := fun j hj e => hni (e ▸ hj)
      have hR : ∀ j ∈ r, R' j = R j := fun j hj => if_neg (hne j hj)
      have hc : ∀ j ∈ r, c' j = c j := fun j hj => if_neg (hne j hj)
      have hRi : R' i = false := if_pos rfl
      have hci : c' i = c0 := if_pos rfl
      have hcons : ∀ l1, (∀ j ∈ l1, j ∈ r) → (fun x => putAll ops (sel R' c' x) (i :: l1) (fr x)) = fun x => putAll ops (sel R c x) l1 ((fr x).put o.dst c0) := by
        intro l1 hl
        funext x
        show putAll ops (sel R' c' x) l1 ((fr x).put (dstOf ops i) (sel R' c' x i)) = _
        rw [hdo, show sel R' c' x i = c0 by simp [sel, hRi, hci]]
        exact putAll_congr fun j hj => by simp [sel, hR j (hl j hj), hc j (hl j hj)]
      have hf : ∀ l1, (∀ j ∈ l1, j ∈ r) → factsOf R' Φ (i :: l1) = factsOf R Φ l1 := by
        intro l1 hl
        have : factsOf R' Φ (i :: l1) = factsOf R' Φ l1 := by simp [factsOf, hRi]
        rw [this]
        exact factsOf_congr fun j hj => ⟨hR j (hl j hj), rfl⟩
      refine ⟨R', c', Φ, ?_, ?_⟩
      · intro l1 k l2 e
        cases l1 with
        | nil =>
          simp only [List.nil_append, List.cons.injEq] at e
          obtain ⟨rfl, _⟩ := e
          exact ⟨o, ho, (fun _ => by rw [hci]; simpa [factsOf, putAll] using hs), (fun h => by rw [hRi] at h; cases h)⟩
        | cons y l1 =>
          simp only [List.cons_append, List.cons.injEq] at e
          obtain ⟨rfl, e⟩ := e
          obtain ⟨o', ho', hs1, hs2⟩ := h1 l1 k l2 e
          have hl : ∀ j ∈ l1, j ∈ r := fun j hj => by rw [e]; simp [hj]
          have hk : k ∈ r := by rw [e]; simp
          refine ⟨o', ho', ?_, ?_⟩
          · rw [hcons l1 hl, hf l1 hl, hR k hk, hc k hk]; exact hs1
          · rw [hcons l1 hl, hf l1 hl, hR k hk]; exact hs2
      · rw [hcons r (fun j hj => hj), hf r (fun j hj => hj)]; exact h2
    · obtain ⟨R, c, Φ, h1, h2⟩ := ih hnr hr
      let R' : Nat → Bool := fun j => if j = i then true else R j
      let Φ' : Nat → Value → World → Prop := fun j => if j = i then Φ0 else Φ j
      have hne : ∀ j ∈ r, j ≠ i := fun j hj e => hni (e ▸ hj)
      have hR : ∀ j ∈ r, R' j = R j := fun j hj => if_neg (hne j hj)
      have hΦ : ∀ j ∈ r, Φ' j = Φ j := fun j hj => if_neg (hne j hj)
      have hRi : R' i = true := if_pos rfl
      have hΦi : Φ' i = Φ0 := if_pos rfl
      have hcons : ∀ l1, (∀ j ∈ l1, j ∈ r) → (fun x => putAll ops (sel R' c x) (i :: l1) (fr x)) = fun x => putAll ops (sel R c x) l1 ((fr x).put o.dst (x i)) := by
        intro l1 hl
        funext x
        show putAll ops (sel R' c x) l1 ((fr x).put (dstOf ops i) (sel R' c x i)) = _
        rw [hdo, show sel R' c x i = x i by simp [sel, hRi]]
        exact putAll_congr fun j hj => by simp [sel, hR j (hl j hj)]
      have hf : ∀ l1, (∀ j ∈ l1, j ∈ r) → fa ++ factsOf R' Φ' (i :: l1) = (fa ++ [(i, fun x w => Φ0 (x i) w)]) ++ factsOf R Φ l1 := by
        intro l1 hl
        have : factsOf R' Φ' (i :: l1) = (i, fun x w => Φ0 (x i) w) :: factsOf R' Φ' l1 := by simp [factsOf, hRi, hΦi]
        rw [this, factsOf_congr fun j hj => ⟨hR j (hl j hj), hΦ j (hl j hj)⟩]
        simp
      refine ⟨R', c, Φ', ?_, ?_⟩
      · intro l1 k l2 e
        cases l1 with
        | nil =>
          simp only [List.nil_append, List.cons.injEq] at e
          obtain ⟨rfl, _⟩ := e
          exact ⟨o, ho, (fun h => by rw [hRi] at h; cases h), fun _ => ⟨hrs, by rw [hΦi]; simpa [factsOf, putAll] using hs⟩⟩
        | cons y l1 =>
          simp only [List.cons_append, List.cons.injEq] at e
          obtain ⟨rfl, e⟩ := e
          obtain ⟨o', ho', hs1, hs2⟩ := h1 l1 k l2 e
          have hl : ∀ j ∈ l1, j ∈ r := fun j hj => by rw [e]; simp [hj]
          have hk : k ∈ r := by rw [e]; simp
          refine ⟨o', ho', ?_, ?_⟩
          · rw [hcons l1 hl, hf l1 hl, hR k hk]; exact hs1
          · rw [hcons l1 hl, hf l1 hl, hR k hk, hΦ k hk]; exact hs2
      · rw [hcons r (fun j hj => hj), hf r (fun j hj => hj)]; exact h2

/-! ### What the closed look gives -/
theorem bits_mem {f : Nat → Nat} {l : List Nat} {k : Nat} : ∀ s, (l.foldl (fun s j => s ||| 2 ^ j ||| f j) s).testBit k = true → s.testBit k = true ∨ ∃ j ∈ l, j = k ∨ (f j).testBit k = true := by
  induction l with
  | nil => intro s h; exact .inl h
  | cons j r ih =>
    intro s h
    rcases ih _ h with h1 | ⟨i, hi, h1⟩
    · rw [Nat.testBit_or, Nat.testBit_or, Bool.or_eq_true, Bool.or_eq_true, Nat.testBit_two_pow] at h1
      rcases h1 with (h1 | h1) | h1
      · exact .inl h1
      · exact .inr ⟨j, .head _, .inl (by simpa using h1)⟩
      · exact .inr ⟨j, .head _, .inr h1⟩
    · exact .inr ⟨i, .tail _ hi, h1⟩

def Closed (ops : Array Oper) (L : Array Bool) : Prop := ∀ i < ops.size, L.getD i false = true → ∀ j ∈ pre ops i, L.getD j false = true

theorem pre_lt {ops : Array Oper} {A : Array Nat} (h : bitsOk ops A = true) {i j : Nat} (hi : i < ops.size) (hj : j ∈ pre ops i) : j < i := by
  have := List.all_eq_true.1 h i (List.mem_range.2 hi)
  rw [Bool.and_eq_true] at this
  simpa using List.all_eq_true.1 this.1 j hj

/-- All that surely runs before i has run, if what i waits for has. -/
theorem anc_run {ops : Array Oper} {A : Array Nat} (h : bitsOk ops A = true) {L : Array Bool} (hc : Closed ops L) : ∀ i, i < ops.size → (∀ j ∈ pre ops i, L.getD j false = true) → ∀ k, (A.getD i 0).testBit k = true → L.getD k false = true := by
  intro i
  induction i using Nat.strongRecOn with
  | ind i ih =>
    intro hi hp k hk
    have h1 := List.all_eq_true.1 h i (List.mem_range.2 hi)
    rw [Bool.and_eq_true] at h1
    have h2 := beq_iff_eq.1 h1.2
    have h3 : ((pre ops i).foldl (fun s j => s ||| 2 ^ j ||| A.getD j 0) 0).testBit k = true := by
      rw [← h2, Nat.testBit_or, hk]; simp
    rcases bits_mem _ h3 with h4 | ⟨j, hj, rfl | h4⟩
    · simp at h4
    · exact hp j hj
    · have hlt := pre_lt h hi hj
      exact ih j hlt (by omega) (fun m hm => hc j (by omega) (hp j hj) m hm) k h4

theorem ready_iff {ops : Array Oper} {L : Array Bool} (hs : L.size = ops.size) {i : Nat} : i ∈ Region.ready .any ops L ↔ i < ops.size ∧ L.getD i false = false ∧ ∀ j ∈ pre ops i, L.getD j false = true := by
  rw [mem_ready]
  constructor
  · rintro ⟨h1, o, ho, h2⟩
    have hi := (Array.getElem?_eq_some_iff.1 ho).1
    refine ⟨hi, ?_, ?_⟩
    · have : i < L.size := by omega
      simpa [this] using h1
    · intro j hj
      simp only [pre, ho, List.mem_map, List.mem_filter] at hj
      obtain ⟨e, ⟨he, hb⟩, rfl⟩ := hj
      exact h2 e (by simpa using he) hb
  · rintro ⟨hi, h1, h2⟩
    refine ⟨?_, ops[i], Array.getElem?_eq_getElem hi, ?_⟩
    · have : i < L.size := by omega
      simpa [this] using h1
    · intro e he hb
      refine h2 e.on ?_
      simp only [pre, Array.getElem?_eq_getElem hi, List.mem_map, List.mem_filter]
      exact ⟨e, ⟨by simpa using he, hb⟩, rfl⟩

section
variable {P : Program} {ops : Array Oper} {A : Array Nat} {Inv : World → Prop} {Q : Exit → Act → World → Prop} {ts rs : List Nat} {a : Act} {R : Nat → Bool} {c : Nat → Value} {Φ : Nat → Value → World → Prop}

theorem slots_at {n : Nat} {ts : List Nat} (h : slotsOk ops A ts n = true) {i : Nat} (hi : i < ops.size) :
    (∀ o, ops[i]? = some o → plainOp o.op = true) ∧ (∀ d, dstOf ops i = some d → d < n) ∧
    ∀ j, j < ops.size → j ≠ i → (∀ d, dstOf ops i = some d → dstOf ops j ≠ some d) ∧
      ∀ d, dstOf ops j = some d → d ∈ looks ops i →
        if ts.contains i = true then ts.contains j = true ∨ (A.getD i 0).testBit j = true
        else if ts.contains j = true then (A.getD j 0).testBit i = true else if j < i then (A.getD i 0).testBit j = true else (A.getD j 0).testBit i = true := by
  have h1 := List.all_eq_true.1 h i (List.mem_range.2 hi)
  rw [Bool.and_eq_true, Bool.and_eq_true] at h1
  obtain ⟨⟨h2, h3⟩, h4⟩ := h1
  refine ⟨?_, ?_, ?_⟩
  · intro o ho; simpa [ho] using h2
  · intro d hd; simpa [hd] using h3
  · intro j hj hne
    have h5 := List.all_eq_true.1 h4 j (List.mem_range.2 hj)
    rw [Bool.or_eq_true] at h5
    rcases h5 with h5 | h5
    · exact absurd (beq_iff_eq.1 h5).symm hne
    · rw [Bool.and_eq_true, Bool.or_eq_true] at h5
      refine ⟨fun d hd => ?_, fun d hd hl => ?_⟩
      · have := h5.1; rw [hd] at this; simpa using this
      · rcases h5.2 with h6 | h6
        · rw [hd] at h6
          simp [hl] at h6
        · split <;> rename_i h7
          · rw [if_pos h7, Bool.or_eq_true] at h6; exact h6
          · rw [if_neg h7] at h6
            split <;> rename_i h8
            · rw [if_pos h8] at h6; exact h6
            · rw [if_neg h8] at h6
              split <;> rename_i h9
              · rw [if_pos h9] at h6; exact h6
              · rw [if_neg h9] at h6; exact h6

/-- A frame in which just the listed operations have written. -/
structure Real (ops : Array Oper) (a : Act) (v : Nat → Value) (L : Array Bool) (b : Act) : Prop where
  defers : b.defers = a.defers
  size : b.tmps.size = a.tmps.size
  hit : ∀ i t, i < ops.size → L.getD i false = true → dstOf ops i = some t → b.tmps[t]? = some (v i)
  other : ∀ t, (∀ i, i < ops.size → L.getD i false = true → dstOf ops i ≠ some t) → b.tmps[t]? = a.tmps[t]?

/-- What is known of the addresses of what was made. -/
def NewOk (rs ds : List Nat) (R : Nat → Bool) (L : Array Bool) (v : Nat → Value) (w : World) : Prop :=
  (∀ j ∈ ds, R j = true → isNew rs j = true → L.getD j false = true → ∃ b : Nat, v j = .pointer (some ⟨b, 0, none⟩) ∧ b < w.heap.size) ∧
  (∀ j ∈ ds, ∀ k ∈ ds, j ≠ k → R j = true → R k = true → isNew rs j = true → isNew rs k = true → L.getD j false = true → L.getD k false = true → Apart (v j) (v k))
theorem NewOk.keep {rs ds : List Nat} {R : Nat → Bool} {L L' : Array Bool} {v : Nat → Value} {w w' : World} (h : NewOk rs ds R L v w) (hl : ∀ j, R j = true → L'.getD j false = true → L.getD j false = true) (hs : w.heap.size ≤ w'.heap.size) : NewOk rs ds R L' v w' :=
  ⟨fun j hj hR hn hL => let ⟨b, h1, h2⟩ := h.1 j hj hR hn (hl j hR hL); ⟨b, h1, by omega⟩,
   fun j hj k hk hne hRj hRk hnj hnk hLj hLk => h.2 j hj k hk hne hRj hRk hnj hnk (hl j hRj hLj) (hl k hRk hLk)⟩
theorem NewOk.add {rs ds : List Nat} {R : Nat → Bool} {L L' : Array Bool} {v v' : Nat → Value} {w w' : World} {i : Nat} (h : NewOk rs ds R L v w) (hl : ∀ j, j ≠ i → L'.getD j false = true → L.getD j false = true) (hv : ∀ j, j ≠ i → v' j = v j) (hs : w.heap.size ≤ w'.heap.size)
    (hn : isNew rs i = true → ∃ b : Nat, v' i = .pointer (some ⟨b, 0, none⟩) ∧ w.heap.size ≤ b ∧ b < w'.heap.size) : NewOk rs ds R L' v' w' := by
  refine ⟨fun j hj hR hN hL => ?_, fun j hj k hk hne hRj hRk hnj hnk hLj hLk => ?_⟩
  · by_cases e : j = i
    · subst e
      obtain ⟨b, h1, _, h3⟩ := hn hN
      exact ⟨b, h1, h3⟩
    · obtain ⟨b, h1, h2⟩ := h.1 j hj hR hN (hl j e hL)
      exact ⟨b, by rw [hv j e]; exact h1, by omega⟩
  · by_cases e : j = i
    · subst e
      have e2 : k ≠ j := fun e => hne e.symm
      obtain ⟨b, h1, h2, _⟩ := hn hnj
      obtain ⟨b', h3, h4⟩ := h.1 k hk hRk hnk (hl k e2 hLk)
      intro c c' h5 h6
      rw [h1] at h5
      rw [hv k e2, h3] at h6
      cases h5; cases h6
      omega
    · by_cases e2 : k = i
      · subst e2
        obtain ⟨b, h1, h2, _⟩ := hn hnk
        obtain ⟨b', h3, h4⟩ := h.1 j hj hRj hnj (hl j e hLj)
        intro c c' h5 h6
        rw [h1] at h6
        rw [hv j e, h3] at h5
        cases h5; cases h6
        omega
      · rw [hv j e, hv k e2]
        exact h.2 j hj k hk hne hRj hRk hnj hnk (hl j e hLj) (hl k e2 hLk)
def Good (P : Program) (ops : Array Oper) (Inv : World → Prop) (Q : Exit → Act → World → Prop) (rs ts : List Nat) (a : Act) (R : Nat → Bool) (c : Nat → Value) (Φ : Nat → Value → World → Prop) (L : Array Bool) (b : Act) (w : World) : Prop :=
  L.size = ops.size ∧ Closed ops L ∧ ∃ (td tr : List Nat) (v : Nat → Value), ts = td ++ tr ∧ (∀ x ∈ td, L.getD x false = true) ∧ (∀ x ∈ tr, L.getD x false = false) ∧
    (∀ i ∈ detsOf ops ts, R i = false → v i = c i) ∧ Real ops a v L b ∧
    ((td = [] ∧ Inv w ∧ (∀ j ∈ detsOf ops ts, R j = true → L.getD j false = true → Φ j (v j) w) ∧ NewOk rs (detsOf ops ts) R L v w) ∨
     ((∀ j ∈ detsOf ops ts, pureAt ops rs j = true ∨ L.getD j false = true) ∧ TailSeq P ops Q tr (putAll ops v (detsOf ops ts ++ td) a) w))

theorem mem_dets {ts : List Nat} {i : Nat} : i ∈ detsOf ops ts ↔ i < ops.size ∧ ts.contains i = false := by
  unfold detsOf; rw [List.mem_filter, List.mem_range]; simp

theorem getD_set {L : Array Bool} {i j : Nat} (hi : i < L.size) : (L.setIfInBounds i true).getD j false = if j = i then true else L.getD j false := by
  by_cases h : j = i
  · subst h; simp [hi]
  · simp only [Array.getD_eq_getD_getElem?, Array.getElem?_setIfInBounds_ne (Ne.symm h), if_neg h]

/-- Where a listed operation, and it alone, writes t. -/
theorem Real.put {v : Nat → Value} {L : Array Bool} {b : Act} (hn : slotsOk ops A ts a.tmps.size = true) (hL : L.size = ops.size) (hr : Real ops a v L b) {i : Nat} (hi : i < ops.size) (hu : L.getD i false = false) {v' : Nat → Value} (hv : ∀ j, j ≠ i → v' j = v j) :
    Real ops a v' (L.setIfInBounds i true) (b.put (dstOf ops i) (v' i)) := by
  have hs := slots_at hn hi
  refine ⟨(put_defers' _ _ _).trans hr.defers, ?_, ?_, ?_⟩
  · cases dstOf ops i <;> simp [Act.put, hr.size]
  · intro j t hj hl hd
    rw [getD_set (by omega)] at hl
    by_cases hji : j = i
    · subst hji
      rw [hd]
      have : t < b.tmps.size := by rw [hr.size]; exact hs.2.1 t hd
      simp [Act.put, this]
    · rw [if_neg hji] at hl
      have h0 := hr.hit j t hj hl hd
      rw [hv j hji]
      cases hdi : dstOf ops i with
      | none => exact h0
      | some d =>
        have hne : d ≠ t := fun e => (hs.2.2 j hj hji).1 d hdi (by rw [hd, e])
        simp only [Act.put, Array.getElem?_setIfInBounds_ne hne]
        exact h0
  · intro t ht
    have hti : dstOf ops i ≠ some t := ht i hi (by rw [getD_set (by omega), if_pos rfl])
    have h0 := hr.other t (fun j hj hl => ht j hj (by
      rw [getD_set (by omega)]
      split
      · rfl
      · exact hl))
    cases hdi : dstOf ops i with
    | none => exact h0
    | some d =>
      have hne : d ≠ t := fun e => hti (by rw [hdi, e])
      simp only [Act.put, Array.getElem?_setIfInBounds_ne hne]
      exact h0

/-- A frame made in the text's order, and the real one, at what an operation looks at. -/
theorem agree_of {v v2 : Nat → Value} {L : Array Bool} {b : Act} (hn : slotsOk ops A ts a.tmps.size = true) (hr : Real ops a v L b) {i : Nat} (hi : i < ops.size) (hu : L.getD i false = false) (l : List Nat) (hl : ∀ j ∈ l, j < ops.size)
    (hil : i ∉ l) (h : ∀ j, j < ops.size → j ≠ i → (∃ t, dstOf ops j = some t ∧ t ∈ looks ops i) → (j ∈ l ∧ L.getD j false = true ∧ v2 j = v j) ∨ (j ∉ l ∧ L.getD j false = false)) :
    Agree (looks ops i) (putAll ops v2 l a) b := by
  intro t ht
  by_cases hx : ∃ j, j < ops.size ∧ dstOf ops j = some t
  · obtain ⟨j, hj, hd⟩ := hx
    have uniq : ∀ k, k < ops.size → dstOf ops k = some t → k = j := by
      intro k hk hdk
      rcases Nat.decEq k j with hne | he
      · exact absurd hdk ((slots_at hn hj).2.2 k hk hne |>.1 t hd)
      · exact he
    have hcase : (j ∈ l ∧ L.getD j false = true ∧ v2 j = v j) ∨ (j ∉ l ∧ L.getD j false = false) := by
      by_cases hji : j = i
      · subst hji; exact .inr ⟨hil, hu⟩
      · exact h j hj hji ⟨t, hd, ht⟩
    rcases hcase with ⟨h1, h2, h3⟩ | ⟨h1, h2⟩
    · rw [putAll_hit h1 hd ((slots_at hn hj).2.1 t hd) (fun k hk hdk => uniq k (hl k hk) hdk), hr.hit j t hj h2 hd, h3]
    · rw [putAll_other (fun k hk hdk => h1 ((uniq k (hl k hk) hdk) ▸ hk)), hr.other t (fun k hk hkl hdk => by rw [uniq k hk hdk, h2] at hkl; cases hkl)]
  · rw [putAll_other (fun k hk hdk => hx ⟨k, hl k hk, hdk⟩), hr.other t (fun k hk _ hdk => hx ⟨k, hk, hdk⟩)]

theorem looks_eq {i : Nat} {o : Oper} (h : ops[i]? = some o) : looks ops i = o.looksAt ops := by simp [looks, h]
theorem dstOf_eq {i : Nat} {o : Oper} (h : ops[i]? = some o) : dstOf ops i = o.dst := by simp [dstOf, h]

theorem tails_at {l : List Nat} (h : tailsOk ops A l = true) : ∀ td tr x, l = td ++ x :: tr → x < ops.size ∧ ∀ y ∈ tr, (A.getD y 0).testBit x = true ∧ y ≠ x := by
  induction l with
  | nil => intro td tr x e; simp at e
  | cons z l ih =>
    intro td tr x e
    simp only [tailsOk, Bool.and_eq_true, decide_eq_true_eq] at h
    cases td with
    | nil =>
      simp only [List.nil_append, List.cons.injEq] at e
      obtain ⟨rfl, rfl⟩ := e
      refine ⟨h.1.1, fun y hy => ?_⟩
      have := List.all_eq_true.1 h.1.2 y hy
      simpa using this
    | cons y td =>
      simp only [List.cons_append, List.cons.injEq] at e
      exact ih h.2 td tr x e.2

theorem sorted_dets (ts : List Nat) : (detsOf ops ts).Pairwise (· < ·) := List.Pairwise.filter _ List.pairwise_lt_range

theorem sel_eq {v : Nat → Value} {j : Nat} (h : R j = false → v j = c j) : sel R c v j = v j := by
  unfold sel
  cases hR : R j with
  | true => simp
  | false => simp [h hR]

/-- What is known of each operation but those of the tail. -/
def Owed (P : Program) (ops : Array Oper) (Inv : World → Prop) (rs ts : List Nat) (a : Act) (R : Nat → Bool) (c : Nat → Value) (Φ : Nat → Value → World → Prop) : Prop :=
  ∀ l1 i l2, detsOf ops ts = l1 ++ i :: l2 → ∃ o, ops[i]? = some o ∧
    (R i = false → StepC P ops Inv rs i o (fun x => putAll ops (sel R c x) l1 a) (factsOf R Φ l1) (c i)) ∧
    (R i = true → rs.contains i = true ∧ StepR P ops Inv rs i o (fun x => putAll ops (sel R c x) l1 a) (factsOf R Φ l1) (Φ i))

theorem Owed.stable (h : Owed P ops Inv rs ts a R c Φ) {j : Nat} (hj : j ∈ detsOf ops ts) (hR : R j = true) : ∀ v w w', Φ j v w → Below w.heap.size w w' → Φ j v w' := by
  obtain ⟨l1, l2, hsp⟩ := List.append_of_mem hj
  obtain ⟨o, _, _, h2⟩ := h l1 j l2 hsp
  exact (h2 hR).2.1
theorem Owed.nonpure (h : Owed P ops Inv rs ts a R c Φ) {j : Nat} (hj : j ∈ detsOf ops ts) (hR : R j = true) : pureAt ops rs j = false := by
  obtain ⟨l1, l2, hsp⟩ := List.append_of_mem hj
  obtain ⟨o, ho, _, h2⟩ := h l1 j l2 hsp
  have := (h2 hR).1
  simp only [pureAt, ho, this]
  simp

def Last (P : Program) (ops : Array Oper) (Inv : World → Prop) (Q : Exit → Act → World → Prop) (rs ts : List Nat) (a : Act) (R : Nat → Bool) (c : Nat → Value) (Φ : Nat → Value → World → Prop) : Prop :=
  ∀ x w', Inv w' → (∀ e ∈ factsOf R Φ (detsOf ops ts), e.2 x w') → (∀ j k, j ≠ k → isNew rs j = true → isNew rs k = true → j ∈ (factsOf R Φ (detsOf ops ts)).map (·.1) → k ∈ (factsOf R Φ (detsOf ops ts)).map (·.1) → Apart (x j) (x k)) → TailSeq P ops Q ts (putAll ops (sel R c x) (detsOf ops ts) a) w'

theorem Last.at_ (h : Last P ops Inv Q rs ts a R c Φ) {v : Nat → Value} {w : World} {L : Array Bool} (hI : Inv w) (hvd : ∀ i ∈ detsOf ops ts, R i = false → v i = c i)
    (hf : ∀ j ∈ detsOf ops ts, R j = true → L.getD j false = true → Φ j (v j) w) (hall : ∀ j ∈ detsOf ops ts, R j = true → L.getD j false = true) (hN : NewOk rs (detsOf ops ts) R L v w) :
    TailSeq P ops Q ts (putAll ops v (detsOf ops ts) a) w := by
  have h1 := h v w hI (fun e he => by
    unfold factsOf at he
    obtain ⟨j, hj, rfl⟩ := List.mem_map.1 he
    obtain ⟨hj1, hj2⟩ := List.mem_filter.1 hj
    exact hf j hj1 hj2 (hall j hj1 hj2)) (fun j k hne hnj hnk hj hk => by
    have mem : ∀ j, j ∈ (factsOf R Φ (detsOf ops ts)).map (·.1) → j ∈ detsOf ops ts ∧ R j = true := by
      intro j hj
      obtain ⟨e, he, rfl⟩ := List.mem_map.1 hj
      unfold factsOf at he
      obtain ⟨k, hk, rfl⟩ := List.mem_map.1 he
      exact List.mem_filter.1 hk
    obtain ⟨hj1, hj2⟩ := mem j hj
    obtain ⟨hk1, hk2⟩ := mem k hk
    exact hN.2 j hj1 k hk1 hne hj2 hk2 hnj hnk (hall j hj1 hj2) (hall k hk1 hk2))
  rwa [putAll_congr fun j hj => sel_eq (hvd j hj)] at h1

theorem good_step (hb : bitsOk ops (Region.before ops) = true) (hn : slotsOk ops (Region.before ops) ts a.tmps.size = true) (ht : tailsOk ops (Region.before ops) ts = true) (ho : openOk ops (Region.before ops) rs ts = true)
    (hst : Owed P ops Inv rs ts a R c Φ) (hK : Last P ops Inv Q rs ts a R c Φ)
    {L : Array Bool} {b : Act} {w : World} (hg : Good P ops Inv Q rs ts a R c Φ L b w) {i : Nat} (hi : i ∈ Region.ready .any ops L) :
    wpOp P ops Q i (fun b' w' => Good P ops Inv Q rs ts a R c Φ (L.setIfInBounds i true) b' w') b w := by
  obtain ⟨hL, hc, td, tr, v, htl, htd, htr, hvd, hr, hw⟩ := hg
  obtain ⟨hin, hu, hp⟩ := (ready_iff hL).1 hi
  have hanc := anc_run hb hc i hin hp
  have hnot : ∀ j, j < ops.size → ((Region.before ops).getD j 0).testBit i = true → L.getD j false = false := by
    intro j hj hbit
    cases hl : L.getD j false with
    | false => rfl
    | true =>
      have := anc_run hb hc j hj (hc j hj hl) i hbit
      rw [hu] at this; cases this
  have hL' : (L.setIfInBounds i true).size = ops.size := by simpa using hL
  have hc' : Closed ops (L.setIfInBounds i true) := by
    intro k hk hl j hj
    rw [getD_set (by omega)] at hl ⊢
    split
    · rfl
    · by_cases hki : k = i
      · subst hki; exact hp j hj
      · rw [if_neg hki] at hl; exact hc k hk hl j hj
  obtain ⟨hpl, hdr, _⟩ := slots_at hn hin
  by_cases hti : ts.contains i = true
  · -- an operation of the tail: the next one
    have hmem : i ∈ ts := by simpa using hti
    have hir : i ∈ tr := by
      rw [htl] at hmem
      rcases List.mem_append.1 hmem with h | h
      · have := htd i h; rw [hu] at this; cases this
      · exact h
    cases tr with
    | nil => cases hir
    | cons y r =>
      have hy := tails_at ht td r y htl
      have hyi : y = i := by
        cases hir with
        | head => rfl
        | tail _ hr' =>
          have h1 := (hy.2 i hr').1
          have h2 := hanc _ h1
          rw [htr y (.head _)] at h2; cases h2
      subst hyi
      have htl2 : ts = (td ++ [y]) ++ r := by rw [htl]; simp
      have hnd : y ∉ detsOf ops ts ++ td := by
        intro h
        rcases List.mem_append.1 h with h | h
        · have := (mem_dets.1 h).2; rw [hti] at this; cases this
        · have := htd y h; rw [hu] at this; cases this
      have hlt : ∀ j ∈ detsOf ops ts ++ td, j < ops.size := by
        intro j hj
        rcases List.mem_append.1 hj with h | h
        · exact (mem_dets.1 h).1
        · obtain ⟨s1, s2, hs⟩ := List.append_of_mem h
          have h3 : ts = s1 ++ j :: (s2 ++ y :: r) := by rw [htl, hs]; simp
          exact (tails_at ht s1 _ j h3).1
      have hdone : ∀ j ∈ detsOf ops ts, pureAt ops rs j = true ∨ L.getD j false = true := by
        intro j hj
        have h8 := List.all_eq_true.1 ho y hmem
        have h9 := List.all_eq_true.1 h8 j hj
        rw [Bool.or_eq_true] at h9
        exact h9.imp id fun h => hanc j h
      have hT : TailSeq P ops Q (y :: r) (putAll ops v (detsOf ops ts ++ td) a) w := by
        rcases hw with ⟨h0, h1, h2, hN⟩ | ⟨_, h2⟩
        · subst h0
          rw [List.append_nil]
          have := hK.at_ h1 hvd h2 (fun j hj hR => (hdone j hj).resolve_left (by rw [hst.nonpure hj hR]; decide)) hN
          rwa [show ts = y :: r by simpa using htl] at this ⊢
        · exact h2
      obtain ⟨o, hoi, hsure⟩ := hT
      have hag : Agree (looks ops y) (putAll ops v (detsOf ops ts ++ td) a) b := by
        refine agree_of hn hr hin hu _ hlt hnd fun j hj hne ⟨t, hd, htl3⟩ => ?_
        have hcase := ((slots_at hn hin).2.2 j hj hne).2 t hd htl3
        rw [if_pos hti] at hcase
        by_cases hjt : ts.contains j = true
        · have hjm : j ∈ ts := by simpa using hjt
          have hjd : j ∉ detsOf ops ts := fun h => by have h0 := (mem_dets.1 h).2; rw [hjt] at h0; cases h0
          rw [htl] at hjm
          rcases List.mem_append.1 hjm with h | h
          · exact .inl ⟨List.mem_append_right _ h, htd j h, rfl⟩
          · refine .inr ⟨fun hm => ?_, htr j h⟩
            rcases List.mem_append.1 hm with h2 | h2
            · exact hjd h2
            · have h4 := htd j h2
              have h5 := htr j h
              rw [h4] at h5; cases h5
        · have hbit := hcase.resolve_left hjt
          exact .inl ⟨List.mem_append_left _ (mem_dets.2 ⟨hj, by simpa using hjt⟩), hanc j hbit, rfl⟩
      rw [looks_eq hoi] at hag
      refine sure_wpOp hoi (hpl o hoi) (fun d hd => by rw [(putAll_size _ _ _ _).1]; exact hdr d (by rw [dstOf_eq hoi, hd])) hag hsure fun v' w' hG => ?_
      let v2 : Nat → Value := fun j => if j = y then v' else v j
      have hv2 : ∀ j, j ≠ y → v2 j = v j := fun j hj => if_neg hj
      have hv2i : v2 y = v' := if_pos rfl
      have hput := hr.put hn hL hin hu hv2
      rw [hv2i, dstOf_eq hoi] at hput
      have hak : putAll ops v2 (detsOf ops ts ++ (td ++ [y])) a = (putAll ops v (detsOf ops ts ++ td) a).put o.dst v' := by
        rw [← List.append_assoc]
        have h6 : putAll ops v2 (detsOf ops ts ++ td) a = putAll ops v (detsOf ops ts ++ td) a :=
          putAll_congr fun j hj => hv2 j (fun e => hnd (e ▸ hj))
        rw [← h6, ← hv2i, ← dstOf_eq hoi]
        simp [putAll, List.foldl_append]
      refine ⟨hL', hc', td ++ [y], r, v2, htl2, ?_, ?_, ?_, hput, .inr ⟨fun j hj => ?_, by rw [hak]; exact hG⟩⟩
      · intro z hz
        rw [getD_set (by omega)]
        split
        · rfl
        · rcases List.mem_append.1 hz with h | h
          · exact htd z h
          · rw [List.mem_singleton] at h; subst h; rename_i h7; exact absurd rfl h7
      · intro z hz
        rw [getD_set (by omega), if_neg (hy.2 z hz).2]
        exact htr z (.tail _ hz)
      · intro j hj
        rw [hv2 j (fun e => hnd (List.mem_append_left _ (e ▸ hj)))]
        exact hvd j hj
      · refine (hdone j hj).imp id fun h => ?_
        rw [getD_set (by omega)]
        split
        · rfl
        · exact h
  · -- an operation ahead of the tail
    have hid : i ∈ detsOf ops ts := mem_dets.2 ⟨hin, by simpa using hti⟩
    obtain ⟨l1, l2, hsp⟩ := List.append_of_mem hid
    obtain ⟨o, hoi, hsc, hsr⟩ := hst l1 i l2 hsp
    have hpw := sorted_dets (ops := ops) ts
    rw [hsp, List.pairwise_append] at hpw
    have hl1 : ∀ j ∈ l1, j < i := fun j hj => hpw.2.2 j hj i (.head _)
    have hl1d : ∀ j ∈ l1, j ∈ detsOf ops ts := fun j hj => by rw [hsp]; exact List.mem_append_left _ hj
    have hin1 : ∀ j ∈ detsOf ops ts, j < i → j ∈ l1 := by
      intro j hj hlt
      rw [hsp] at hj
      rcases List.mem_append.1 hj with h | h
      · exact h
      · rcases List.mem_cons.1 h with h | h
        · omega
        · have := (List.pairwise_cons.1 hpw.2.1).1 j h; omega
    have hag : Agree (looks ops i) (putAll ops (sel R c v) l1 a) b := by
      refine agree_of hn hr hin hu _ (fun j hj => by have := hl1 j hj; omega) (fun h => by have := hl1 i h; omega) fun j hj hne ⟨t, hd, htl3⟩ => ?_
      have hcase := ((slots_at hn hin).2.2 j hj hne).2 t hd htl3
      rw [if_neg hti] at hcase
      by_cases hjt : ts.contains j = true
      · rw [if_pos hjt] at hcase
        exact .inr ⟨(fun h => by have h0 := (mem_dets.1 (hl1d j h)).2; rw [hjt] at h0; cases h0), hnot j hj hcase⟩
      · rw [if_neg hjt] at hcase
        have hjd : j ∈ detsOf ops ts := mem_dets.2 ⟨hj, by simpa using hjt⟩
        by_cases hji : j < i
        · rw [if_pos hji] at hcase
          exact .inl ⟨hin1 j hjd hji, hanc j hcase, sel_eq (hvd j hjd)⟩
        · rw [if_neg hji] at hcase
          exact .inr ⟨fun h => hji (hl1 j h), hnot j hj hcase⟩
    rw [looks_eq hoi] at hag
    have hrange : ∀ d, o.dst = some d → d < (putAll ops (sel R c v) l1 a).tmps.size := fun d hd => by rw [(putAll_size _ _ _ _).1]; exact hdr d (by rw [dstOf_eq hoi, hd])
    have hfacts : (∀ j ∈ detsOf ops ts, R j = true → L.getD j false = true → Φ j (v j) w) → Facts ops i (factsOf R Φ l1) v w := by
      intro hf e he hbit
      unfold factsOf at he
      obtain ⟨j, hj, rfl⟩ := List.mem_map.1 he
      obtain ⟨hj1, hj2⟩ := List.mem_filter.1 hj
      exact hf j (hl1d j hj1) hj2 (hanc j hbit)
    have htd' : ∀ z ∈ td, (L.setIfInBounds i true).getD z false = true := by
      intro z hz
      rw [getD_set (by omega)]
      split
      · rfl
      · exact htd z hz
    have htr' : ∀ z ∈ tr, (L.setIfInBounds i true).getD z false = false := by
      intro z hz
      rw [getD_set (by omega), if_neg (fun e => hti (by
        have : i ∈ ts := by rw [htl, ← e]; exact List.mem_append_right _ hz
        simpa using this))]
      exact htr z hz
    cases hRi : R i with
    | false =>
      have hsc := hsc hRi
      have hput := hr.put hn hL hin hu (v' := v) (fun j _ => rfl)
      rw [hvd i hid hRi, dstOf_eq hoi] at hput
      unfold StepC at hsc
      split at hsc
      · rename_i hpure
        refine sure_wpOp hoi (hpl o hoi) hrange hag (hsc v w) fun v' w' hG => ?_
        obtain ⟨rfl, rfl⟩ := hG
        refine ⟨hL', hc', td, tr, v, htl, htd', htr', hvd, hput, ?_⟩
        rcases hw with ⟨h1, h2, h3, hN⟩ | ⟨h4, h5⟩
        · have hkeep : ∀ j, R j = true → (L.setIfInBounds i true).getD j false = true → L.getD j false = true := by
            intro j hR hl
            rw [getD_set (by omega)] at hl
            split at hl
            · rename_i he; subst he; rw [hRi] at hR; cases hR
            · exact hl
          exact .inl ⟨h1, h2, fun j hj hR hl => h3 j hj hR (hkeep j hR hl), hN.keep hkeep (Nat.le_refl _)⟩
        · refine .inr ⟨fun j hj => (h4 j hj).imp id fun h => ?_, h5⟩
          rw [getD_set (by omega)]
          split
          · rfl
          · exact h
      · rename_i hpure
        rcases hw with ⟨h1, h2, h3, hN⟩ | ⟨h4, _⟩
        · refine sure_wpOp hoi (hpl o hoi) hrange hag (hsc v w h2 (hfacts h3)) fun v' w' hG => ?_
          obtain ⟨rfl, hI', hb'⟩ := hG
          have hkeep : ∀ j, R j = true → (L.setIfInBounds i true).getD j false = true → L.getD j false = true := by
            intro j hR hl
            rw [getD_set (by omega)] at hl
            split at hl
            · rename_i he; subst he; rw [hRi] at hR; cases hR
            · exact hl
          exact ⟨hL', hc', td, tr, v, htl, htd', htr', hvd, hput, .inl ⟨h1, hI', fun j hj hR hl => hst.stable hj hR _ _ _ (h3 j hj hR (hkeep j hR hl)) hb', hN.keep hkeep hb'.size⟩⟩
        · rcases h4 i hid with h6 | h6
          · exact absurd h6 hpure
          · rw [hu] at h6; cases h6
    | true =>
      obtain ⟨hrs, _, hsr⟩ := hsr hRi
      rcases hw with ⟨h1, h2, h3, hN⟩ | ⟨h4, _⟩
      · refine sure_wpOp hoi (hpl o hoi) hrange hag (hsr v w h2 (hfacts h3)) fun v' w' hG => ?_
        obtain ⟨⟨hΦ, hNew⟩, hI', hb'⟩ := hG
        let v2 : Nat → Value := fun j => if j = i then v' else v j
        have hv2 : ∀ j, j ≠ i → v2 j = v j := fun j hj => if_neg hj
        have hv2i : v2 i = v' := if_pos rfl
        have hput := hr.put hn hL hin hu hv2
        rw [hv2i, dstOf_eq hoi] at hput
        refine ⟨hL', hc', td, tr, v2, htl, htd', htr', fun j hj hR => ?_, hput, .inl ⟨h1, hI', fun j hj hR hl => ?_, hN.add (i := i) (fun j he hl => by rw [getD_set (by omega), if_neg he] at hl; exact hl) hv2 hb'.size (by rw [hv2i]; exact hNew)⟩⟩
        · rw [hv2 j (fun e => by rw [e, hRi] at hR; cases hR)]; exact hvd j hj hR
        · by_cases he : j = i
          · subst he; rw [hv2i]; exact hΦ
          · rw [getD_set (by omega), if_neg he] at hl
            rw [hv2 j he]
            exact hst.stable hj hR _ _ _ (h3 j hj hR hl) hb'
      · rcases h4 i hid with h6 | h6
        · rw [hst.nonpure hid hRi] at h6; cases h6
        · rw [hu] at h6; cases h6

theorem good_end (hb : bitsOk ops (Region.before ops) = true) (hn : slotsOk ops (Region.before ops) ts a.tmps.size = true) (ht : tailsOk ops (Region.before ops) ts = true) (hK : Last P ops Inv Q rs ts a R c Φ)
    {L : Array Bool} {b : Act} {w : World} (hg : Good P ops Inv Q rs ts a R c Φ L b w) (hall : Region.ready .any ops L = []) : Q .normal b w := by
  obtain ⟨hL, hc, td, tr, v, htl, htd, htr, hvd, hr, hw⟩ := hg
  have hdone : ∀ i, i < ops.size → L.getD i false = true := by
    intro i
    induction i using Nat.strongRecOn with
    | ind i ih =>
      intro hi
      cases hl : L.getD i false with
      | true => rfl
      | false =>
        have : i ∈ Region.ready .any ops L := (ready_iff hL).2 ⟨hi, hl, fun j hj => ih j (pre_lt hb hi hj) (by have := pre_lt hb hi hj; omega)⟩
        rw [hall] at this; cases this
  have hlt : ∀ z ∈ ts, z < ops.size := by
    intro z hz
    obtain ⟨s1, s2, hs⟩ := List.append_of_mem hz
    exact (tails_at ht s1 s2 z hs).1
  have htr0 : tr = [] := by
    cases tr with
    | nil => rfl
    | cons y r =>
      have h1 := htr y (.head _)
      rw [hdone y (hlt y (by rw [htl]; simp))] at h1; cases h1
  subst htr0
  rw [List.append_nil] at htl
  have hT : TailSeq P ops Q [] (putAll ops v (detsOf ops ts ++ td) a) w := by
    rcases hw with ⟨h0, h1, h2, hN⟩ | ⟨_, h2⟩
    · have := hK.at_ h1 hvd h2 (fun j hj _ => hdone j (mem_dets.1 hj).1) hN
      rw [h0] at htl ⊢
      rw [htl] at this ⊢
      simpa using this
    · exact h2
  have hmem : ∀ j, j < ops.size → j ∈ detsOf ops ts ++ td := by
    intro j hj
    by_cases h : ts.contains j = true
    · exact List.mem_append_right _ (by rw [← htl]; simpa using h)
    · exact List.mem_append_left _ (mem_dets.2 ⟨hj, by simpa using h⟩)
  have hlt2 : ∀ j ∈ detsOf ops ts ++ td, j < ops.size := by
    intro j hj
    rcases List.mem_append.1 hj with h | h
    · exact (mem_dets.1 h).1
    · exact hlt j (by rw [htl]; exact h)
  have hba : putAll ops v (detsOf ops ts ++ td) a = b := by
    have h1 := putAll_size ops v (detsOf ops ts ++ td) a
    have h2 : (putAll ops v (detsOf ops ts ++ td) a).tmps = b.tmps := by
      refine Array.ext_getElem? fun t => ?_
      by_cases hx : ∃ j, j < ops.size ∧ dstOf ops j = some t
      · obtain ⟨j, hj, hd⟩ := hx
        have uniq : ∀ k, k < ops.size → dstOf ops k = some t → k = j := by
          intro k hk hdk
          rcases Nat.decEq k j with hne | he
          · exact absurd hdk ((slots_at hn hj).2.2 k hk hne |>.1 t hd)
          · exact he
        rw [putAll_hit (hmem j hj) hd ((slots_at hn hj).2.1 t hd) (fun k hk hdk => uniq k (hlt2 k hk) hdk), hr.hit j t hj (hdone j hj) hd]
      · rw [putAll_other (fun k hk hdk => hx ⟨k, hlt2 k hk, hdk⟩), hr.other t (fun k hk _ hdk => hx ⟨k, hk, hdk⟩)]
    have h3 := h1.2.trans hr.defers.symm
    cases b
    cases hq : putAll ops v (detsOf ops ts ++ td) a
    rw [hq] at h2 h3
    simp only at h2 h3
    rw [h2, h3]
  rw [← hba]
  exact hT

theorem count_set {L : Array Bool} {i : Nat} (hi : i < L.size) (hu : L.getD i false = false) : (L.setIfInBounds i true).toList.count false + 1 = L.toList.count false := by
  have hlt : i < L.toList.length := by simpa using hi
  have hv : L.toList[i] = false := by
    have : L[i] = false := by simpa [hi] using hu
    simpa using this
  have hpos : 0 < L.toList.count false := List.count_pos_iff.2 (hv ▸ List.getElem_mem hlt)
  have e1 : (L.setIfInBounds i true).toList = L.toList.set i true := by simp
  have e2 : (L.toList.set i true).count false = L.toList.count false - 1 := by
    rw [List.count_set hlt, hv]; simp
  rw [e1, e2]
  omega

theorem good_any (hb : bitsOk ops (Region.before ops) = true) (hn : slotsOk ops (Region.before ops) ts a.tmps.size = true) (ht : tailsOk ops (Region.before ops) ts = true) (ho : openOk ops (Region.before ops) rs ts = true)
    (hst : Owed P ops Inv rs ts a R c Φ) (hK : Last P ops Inv Q rs ts a R c Φ) :
    ∀ (fuel : Nat) (L : Array Bool) (b : Act) (w : World), L.toList.count false ≤ fuel → Good P ops Inv Q rs ts a R c Φ L b w → wpAny P .any ops Q fuel L b w := by
  intro fuel
  induction fuel with
  | zero =>
    intro L b w hcnt hg
    have hnil : Region.ready .any ops L = [] := by
      refine List.eq_nil_iff_forall_not_mem.2 fun i hi => ?_
      obtain ⟨hin, hu, _⟩ := (ready_iff hg.1).1 hi
      have := count_set (L := L) (i := i) (by rw [hg.1]; exact hin) hu
      omega
    exact ⟨hnil, good_end hb hn ht hK hg hnil⟩
  | succ fuel ih =>
    intro L b w hcnt hg
    refine ⟨fun h => good_end hb hn ht hK hg h, fun i hi => ?_⟩
    refine wpOp_mono (fun b' w' hg' => ih _ b' w' ?_ hg') (good_step hb hn ht ho hst hK hg hi)
    obtain ⟨hin, hu, _⟩ := (ready_iff hg.1).1 hi
    have := count_set (L := L) (i := i) (by rw [hg.1]; exact hin) hu
    omega

/-- A region that draws its order. rs: operations whose values are not known beforehand, only by a predicate (or which lean on such); ts: the operations that change old memory, in the text's order; ds: all others. -/
theorem region_free {id : Nat} {w : World} (Inv : World → Prop) (rs ts ds : List Nat) (hm : P.follows .mixedOrders = true)
    (hc : freeOk ops (Region.before ops) rs ts a.tmps.size = true) (hds : detsOf ops ts = ds) (hI : Inv w.drew)
    (h : RelSeq P ops Inv rs ds (fun _ => a) [] (fun fr fa => ∀ x w', Inv w' → (∀ e ∈ fa, e.2 x w') → (∀ j k, j ≠ k → isNew rs j = true → isNew rs k = true → j ∈ fa.map (·.1) → k ∈ fa.map (·.1) → Apart (x j) (x k)) → TailSeq P ops Q ts (fr x) w')) : (Code.region id ops true).wp P Q a w := by
  subst hds
  unfold freeOk at hc
  rw [Bool.and_eq_true, Bool.and_eq_true, Bool.and_eq_true] at hc
  obtain ⟨⟨⟨hb, hn⟩, ht⟩, ho⟩ := hc
  obtain ⟨R, c, Φ, h1, h2⟩ := h.open (List.Pairwise.imp (fun h => Nat.ne_of_lt h) (sorted_dets _))
  simp only [List.nil_append] at h1 h2
  refine wp_region_any hm (good_any hb hn ht ho h1 h2 ops.size _ _ _ ?_ ?_)
  · simp
  · have hf : ∀ i, (Array.replicate ops.size false).getD i false = false := by
      intro i
      rw [Array.getD_eq_getD_getElem?, Array.getElem?_replicate]
      split <;> rfl
    let v0 : Nat → Value := c
    refine ⟨by simp, (fun i _ hl => by rw [hf] at hl; cases hl), [], ts, v0, rfl, by simp, fun x _ => hf _, fun _ _ _ => rfl, ⟨rfl, rfl, (fun i t _ hl => by rw [hf] at hl; cases hl), fun _ _ => rfl⟩, .inl ⟨rfl, hI, (fun j _ _ hl => by rw [hf] at hl; cases hl), (fun j _ _ _ hl => by rw [hf] at hl; cases hl), (fun j _ k _ _ _ _ _ _ hl _ => by rw [hf] at hl; cases hl)⟩⟩
end

section
variable {P : Program} {ops : Array Oper} {Inv : World → Prop} {Q : Exit → Act → World → Prop} {rs : List Nat} {fr : (Nat → Value) → Act} {fa : List (Nat × ((Nat → Value) → World → Prop))} {K : ((Nat → Value) → Act) → List (Nat × ((Nat → Value) → World → Prop)) → Prop}
  {i : Nat} {r : List Nat} {d : Option Tmp} {op : Op} {ty : TypeId} {pos : String} {af : Array Edge} {g : Nat × Bool} {c : Value}
theorem sure_plain {a : Act} {w : World} {G : Value → World → Prop} (h : (⟨d, op, ty, pos, af, none⟩ : Oper).wp P a w (fun a' w' => a'.defers = a.defers ∧ G (out ⟨d, op, ty, pos, af, none⟩ a') w') NoQ) : Sure P ops ⟨d, op, ty, pos, af, none⟩ a w G := by
  unfold Sure; rw [if_pos (by simp [Region.wanted])]; exact h
theorem sure_guarded {a : Act} {w : World} {G : Value → World → Prop} (hw : (yielded ops a.tmps g.1 == some g.2) = true) (h : (⟨d, op, ty, pos, af, some g⟩ : Oper).wp P a w (fun a' w' => a'.defers = a.defers ∧ G (out ⟨d, op, ty, pos, af, some g⟩ a') w') NoQ) : Sure P ops ⟨d, op, ty, pos, af, some g⟩ a w G := by
  unfold Sure; rw [if_pos (by simp only [Region.wanted]; exact hw)]; exact h
theorem sure_skip {a : Act} {w : World} {G : Value → World → Prop} (hw : (yielded ops a.tmps g.1 == some g.2) = false) (h : G undef w) : Sure P ops ⟨d, op, ty, pos, af, some g⟩ a w G := by
  unfold Sure; rw [if_neg (by simp only [Region.wanted]; rw [hw]; decide)]; exact h
/-- One value, whatever the world. -/
theorem RelSeq.pure_ (ho : ops[i]? = some ⟨d, op, ty, pos, af, none⟩) (hp : (pureOp op && !rs.contains i) = true)
    (h : ∀ x w, (⟨d, op, ty, pos, af, none⟩ : Oper).wp P (fr x) w (fun a' w' => a'.defers = (fr x).defers ∧ (out ⟨d, op, ty, pos, af, none⟩ a' = c ∧ w' = w)) NoQ)
    (hr : RelSeq P ops Inv rs r (fun x => (fr x).put d c) fa K) : RelSeq P ops Inv rs (i :: r) fr fa K :=
  ⟨_, ho, .inl ⟨c, by unfold StepC; rw [if_pos (by simp only [pureAt, ho]; exact hp)]; exact fun x w => sure_plain (h x w), hr⟩⟩
/-- One value in each world that meets Inv; new memory may be made. -/
theorem RelSeq.grow_ (ho : ops[i]? = some ⟨d, op, ty, pos, af, none⟩) (hp : (pureOp op && !rs.contains i) = false)
    (h : ∀ x w, Inv w → Facts ops i fa x w → (⟨d, op, ty, pos, af, none⟩ : Oper).wp P (fr x) w (fun a' w' => a'.defers = (fr x).defers ∧ (out ⟨d, op, ty, pos, af, none⟩ a' = c ∧ Inv w' ∧ Below w.heap.size w w')) NoQ)
    (hr : RelSeq P ops Inv rs r (fun x => (fr x).put d c) fa K) : RelSeq P ops Inv rs (i :: r) fr fa K :=
  ⟨_, ho, .inl ⟨c, by unfold StepC; rw [if_neg (by simp only [pureAt, ho]; rw [hp]; decide)]; exact fun x w hI hf => sure_plain (h x w hI hf), hr⟩⟩
/-- A value that meets Φ. -/
theorem RelSeq.rel_ (Φ : Value → World → Prop) (ho : ops[i]? = some ⟨d, op, ty, pos, af, none⟩) (hp : rs.contains i = true) (hs : ∀ v w w', Φ v w → Below w.heap.size w w' → Φ v w')
    (h : ∀ x w, Inv w → Facts ops i fa x w → (⟨d, op, ty, pos, af, none⟩ : Oper).wp P (fr x) w (fun a' w' => a'.defers = (fr x).defers ∧ ((Φ (out ⟨d, op, ty, pos, af, none⟩ a') w' ∧ (isNew rs i = true → ∃ b : Nat, out ⟨d, op, ty, pos, af, none⟩ a' = .pointer (some ⟨b, 0, none⟩) ∧ w.heap.size ≤ b ∧ b < w'.heap.size)) ∧ Inv w' ∧ Below w.heap.size w w')) NoQ)
    (hr : RelSeq P ops Inv rs r (fun x => (fr x).put d (x i)) (fa ++ [(i, fun x w => Φ (x i) w)]) K) : RelSeq P ops Inv rs (i :: r) fr fa K :=
  ⟨_, ho, .inr ⟨hp, Φ, ⟨hs, fun x w hI hf => sure_plain (h x w hI hf)⟩, hr⟩⟩
/-- A guard keeps it from running. -/
theorem RelSeq.skip_ (ho : ops[i]? = some ⟨d, op, ty, pos, af, some g⟩) (hw : ∀ x, (yielded ops (fr x).tmps g.1 == some g.2) = false)
    (hr : RelSeq P ops Inv rs r (fun x => (fr x).put d undef) fa K) : RelSeq P ops Inv rs (i :: r) fr fa K :=
  ⟨_, ho, .inl ⟨undef, by
    unfold StepC
    split
    · exact fun x w => sure_skip (hw x) ⟨rfl, rfl⟩
    · exact fun x w hI _ => sure_skip (hw x) ⟨rfl, hI, Below.refl _ _⟩, hr⟩⟩
/-- The same where a guard lets it run. -/
theorem RelSeq.pureG_ (ho : ops[i]? = some ⟨d, op, ty, pos, af, some g⟩) (hw : ∀ x, (yielded ops (fr x).tmps g.1 == some g.2) = true) (hp : (pureOp op && !rs.contains i) = true)
    (h : ∀ x w, (⟨d, op, ty, pos, af, some g⟩ : Oper).wp P (fr x) w (fun a' w' => a'.defers = (fr x).defers ∧ (out ⟨d, op, ty, pos, af, some g⟩ a' = c ∧ w' = w)) NoQ)
    (hr : RelSeq P ops Inv rs r (fun x => (fr x).put d c) fa K) : RelSeq P ops Inv rs (i :: r) fr fa K :=
  ⟨_, ho, .inl ⟨c, by unfold StepC; rw [if_pos (by simp only [pureAt, ho]; exact hp)]; exact fun x w => sure_guarded (hw x) (h x w), hr⟩⟩
theorem RelSeq.growG_ (ho : ops[i]? = some ⟨d, op, ty, pos, af, some g⟩) (hw : ∀ x, (yielded ops (fr x).tmps g.1 == some g.2) = true) (hp : (pureOp op && !rs.contains i) = false)
    (h : ∀ x w, Inv w → Facts ops i fa x w → (⟨d, op, ty, pos, af, some g⟩ : Oper).wp P (fr x) w (fun a' w' => a'.defers = (fr x).defers ∧ (out ⟨d, op, ty, pos, af, some g⟩ a' = c ∧ Inv w' ∧ Below w.heap.size w w')) NoQ)
    (hr : RelSeq P ops Inv rs r (fun x => (fr x).put d c) fa K) : RelSeq P ops Inv rs (i :: r) fr fa K :=
  ⟨_, ho, .inl ⟨c, by unfold StepC; rw [if_neg (by simp only [pureAt, ho]; rw [hp]; decide)]; exact fun x w hI hf => sure_guarded (hw x) (h x w hI hf), hr⟩⟩
theorem RelSeq.nil_ (h : K fr fa) : RelSeq P ops Inv rs [] fr fa K := h
theorem TailSeq.cons_ {a : Act} {w : World} (ho : ops[i]? = some ⟨d, op, ty, pos, af, none⟩)
    (h : (⟨d, op, ty, pos, af, none⟩ : Oper).wp P a w (fun a' w' => a'.defers = a.defers ∧ TailSeq P ops Q r (a.put d (out ⟨d, op, ty, pos, af, none⟩ a')) w') NoQ) : TailSeq P ops Q (i :: r) a w :=
  ⟨_, ho, sure_plain h⟩
theorem TailSeq.nil_gen {a : Act} {w : World} (h : ∀ w', w' = w → Q .normal a w') : TailSeq P ops Q [] a w := h w rfl
theorem TailSeq.nil_ {a : Act} {w : World} (h : Q .normal a w) : TailSeq P ops Q [] a w := h
end
end Go.Proofs.YtgpojkofegajeaaGreatDoor.FreeSl
