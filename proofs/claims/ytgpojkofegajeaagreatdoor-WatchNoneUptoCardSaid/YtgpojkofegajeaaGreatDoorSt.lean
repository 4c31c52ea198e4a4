/-
  Parts of memory that do not meet: a call's own blocks, as a list; how the list goes on while the call writes.
-/
import Derived.Test.YtgpojkofegajeaaGreatDoorApp
namespace Go.Proofs.YtgpojkofegajeaaGreatDoor
open Go.RowKit
set_option maxRecDepth 100000

/-- The cells of rows of structs. -/
theorem flat_at {α : Type} (f : α → List Value) (n : Nat) (hn : ∀ x, (f x).length = n) : ∀ (l : List α) (k : Nat) (x : α), l[k]? = some x → ∀ j, j < n → (l.flatMap f)[k * n + j]? = (f x)[j]? := by
  intro l
  induction l with
  | nil => intro k x h; simp at h
  | cons a r ih =>
    intro k x h j hj
    rw [List.flatMap_cons]
    cases k with
    | zero =>
      simp only [List.getElem?_cons_zero, Option.some.injEq] at h
      subst h
      rw [Nat.zero_mul, Nat.zero_add, List.getElem?_append_left (by rw [hn]; exact hj)]
    | succ k =>
      simp only [List.getElem?_cons_succ] at h
      rw [List.getElem?_append_right (by rw [hn, Nat.succ_mul]; omega), hn, show (k + 1) * n + j - n = k * n + j by rw [Nat.succ_mul]; omega]
      exact ih k x h j hj
theorem flat_len {α : Type} (f : α → List Value) (n : Nat) (hn : ∀ x, (f x).length = n) (l : List α) : (l.flatMap f).length = l.length * n := by
  induction l with
  | nil => simp
  | cons a r ih => rw [List.flatMap_cons, List.length_append, hn, ih, List.length_cons, Nat.succ_mul]; omega
/-- A part of memory: its blocks, and what is said of them. -/
structure Chunk where
  fp : List Nat
  P : World → Prop
  loc : ∀ w w' : World, (∀ b ∈ fp, w'.heap[b]? = w.heap[b]?) → P w → P w'
  inn : ∀ w, P w → ∀ b ∈ fp, b < w.heap.size

/-- From w0 on only blocks of S were written, and new ones made; at w the parts hold; each lies in S or is new; no two meet. -/
structure Upd (S : List Nat) (w0 : World) (C : List Chunk) (w : World) : Prop where
  os : w.os = w0.os
  tape : w.tape = w0.tape
  output : w.output = w0.output
  size : w0.heap.size ≤ w.heap.size
  block : ∀ k, k < w0.heap.size → k ∉ S → w.heap[k]? = w0.heap[k]?
  holds : ∀ c ∈ C, c.P w
  own : ∀ c ∈ C, ∀ b ∈ c.fp, b ∈ S ∨ w0.heap.size ≤ b
  apart : C.Pairwise fun c d => ∀ b ∈ c.fp, b ∉ d.fp

def chBlk (g : Nat) (cs : Array Value) (t : TypeId) : Chunk :=
  ⟨[g], fun w => Blk w g cs t, fun w w' h hP => (h g (.head _)).trans hP, fun w hP b hb => by rw [List.mem_singleton.1 hb]; exact hP.lt⟩
def chRow (e : TypeId) (size : Nat) (v : Value) (n : Nat) (xs : List Value) : Chunk :=
  ⟨v.ownBlock.toList, fun w => w.ownsRow 0 e size v n xs, fun w w' h hP => by
    obtain ⟨hl, hP⟩ := hP
    refine ⟨hl, hP.imp id ?_⟩
    rintro ⟨g, cap, cur, rfl, hb, hh, r⟩
    exact ⟨g, cap, cur, rfl, hb, (h g (.head _)).trans hh, r⟩, fun w hP b hb => by
    rcases hP.2 with ⟨rfl, _⟩ | ⟨g, cap, cur, rfl, _, hh, _⟩
    · cases hb
    · have : b = g := List.mem_singleton.1 hb
      rw [this]; exact (Array.getElem?_eq_some_iff.1 hh).1⟩
theorem owns_base {w : World} {base base' : Nat} {e : TypeId} {size : Nat} {v : Value} {n : Nat} {xs : List Value} (h : w.ownsRow base e size v n xs) (hb : ∀ g, v.ownBlock = some g → base' ≤ g) : w.ownsRow base' e size v n xs := by
  obtain ⟨hl, h⟩ := h
  refine ⟨hl, h.imp id ?_⟩
  rintro ⟨g, cap, cur, rfl, _, r⟩
  exact ⟨g, cap, cur, rfl, hb g rfl, r⟩
theorem owns_ge {w : World} {base : Nat} {e : TypeId} {size : Nat} {v : Value} {n : Nat} {xs : List Value} (h : w.ownsRow base e size v n xs) : ∀ g, v.ownBlock = some g → base ≤ g := by
  rcases h.2 with ⟨rfl, _⟩ | ⟨g, cap, cur, rfl, hb, _⟩
  · intro g hg; cases hg
  · intro q hq; cases hq; exact hb
/-- A slice that can be read, of new memory or of S. -/
def rdFp (v : Value) (n : Nat) : List Nat := if n = 0 then [] else v.ownBlock.toList
def chRd (size : Nat) (v : Value) (n : Nat) (xs : List Value) (hs : 0 < size) : Chunk :=
  ⟨rdFp v n, fun w => Rd w size v n xs, fun w w' h hP => by
    obtain ⟨A, c, rfl, h1, h2, h3, h4⟩ := hP
    refine ⟨A, c, rfl, h1, h2, h3, fun hn => ?_⟩
    obtain ⟨b, o, rfl, hr⟩ := h4 hn
    refine ⟨b, o, rfl, fun j u hu => ?_⟩
    rw [World.cell?_of_block (h b (by unfold rdFp; rw [if_neg (by omega)]; exact .head _))]
    exact hr j u hu, fun w hP b hb => by
    obtain ⟨A, c, rfl, h1, h2, h3, h4⟩ := hP
    unfold rdFp at hb
    split at hb
    · cases hb
    · rename_i hn
      obtain ⟨g, o, rfl, hr⟩ := h4 (by omega)
      have : b = g := List.mem_singleton.1 hb
      subst this
      have hx : 0 < xs.length := by rw [h1]; exact Nat.mul_pos (by omega) hs
      exact World.block_lt_of_cell? w _ (hr 0 xs[0] (List.getElem?_eq_getElem hx))⟩

theorem Upd.nil (S : List Nat) (w : World) : Upd S w [] w := ⟨rfl, rfl, rfl, Nat.le_refl _, fun _ _ _ => rfl, (fun _ h => nomatch h), (fun _ h => nomatch h), List.Pairwise.nil⟩
theorem Upd.one (c : Chunk) (w : World) (h : c.P w) : Upd c.fp w [c] w :=
  ⟨rfl, rfl, rfl, Nat.le_refl _, fun _ _ _ => rfl, fun d hd => by rw [List.mem_singleton.1 hd]; exact h, fun d hd b hb => by rw [List.mem_singleton.1 hd] at hb; exact .inl hb, by simp⟩
theorem Upd.below {w0 w : World} {C : List Chunk} (h : Upd [] w0 C w) : Below w0.heap.size w0 w := ⟨h.os, h.tape, h.output, h.size, fun k hk => h.block k hk (by simp)⟩
theorem Upd.of_below {w w' : World} (h : Below w.heap.size w w') : Upd [] w [] w' := ⟨h.os, h.tape, h.output, h.size, fun k hk _ => h.block k hk, (fun _ h => nomatch h), (fun _ h => nomatch h), List.Pairwise.nil⟩
theorem Upd.get {S : List Nat} {w0 w : World} {C : List Chunk} (h : Upd S w0 C w) (i : Nat) {c : Chunk} (hi : C[i]? = some c) : c.P w := h.holds c (List.mem_of_getElem? hi)
theorem Upd.blk {S : List Nat} {w0 w : World} {C : List Chunk} (h : Upd S w0 C w) (i : Nat) {g : Nat} {cs : Array Value} {t : TypeId} (hi : C[i]? = some (chBlk g cs t)) : Blk w g cs t := h.get i hi
theorem Upd.row {S : List Nat} {w0 w : World} {C : List Chunk} (h : Upd S w0 C w) (i : Nat) {e : TypeId} {size : Nat} {v : Value} {n : Nat} {xs : List Value} (hi : C[i]? = some (chRow e size v n xs)) : w.ownsRow 0 e size v n xs := h.get i hi
theorem Upd.lt {S : List Nat} {w0 w : World} {C : List Chunk} (h : Upd S w0 C w) {c : Chunk} (hc : c ∈ C) {b : Nat} (hb : b ∈ c.fp) : b < w.heap.size := c.inn w (h.holds c hc) b hb

theorem pw_idx {α : Type} {R : α → α → Prop} (hR : ∀ x y, R x y → R y x) : ∀ {l : List α} {i : Nat} {a : α}, l.Pairwise R → l[i]? = some a → ∀ b ∈ l.eraseIdx i, R a b := by
  intro l
  induction l with
  | nil => intro i a _ h; simp at h
  | cons x r ih =>
    intro i a hp hi b hb
    rw [List.pairwise_cons] at hp
    cases i with
    | zero =>
      simp only [List.getElem?_cons_zero, Option.some.injEq] at hi
      subst hi
      exact hp.1 b (by simpa using hb)
    | succ i =>
      simp only [List.getElem?_cons_succ] at hi
      simp only [List.eraseIdx_cons_succ, List.mem_cons] at hb
      rcases hb with rfl | hb
      · exact hR _ _ (hp.1 a (List.mem_of_getElem? hi))
      · exact ih hp.2 hi b hb
theorem perm_erase {α : Type} : ∀ {l : List α} {i : Nat} {a : α}, l[i]? = some a → (a :: l.eraseIdx i).Perm l := by
  intro l
  induction l with
  | nil => intro i a h; simp at h
  | cons x r ih =>
    intro i a hi
    cases i with
    | zero =>
      simp only [List.getElem?_cons_zero, Option.some.injEq] at hi
      subst hi
      simp
    | succ i =>
      simp only [List.getElem?_cons_succ] at hi
      rw [List.eraseIdx_cons_succ]
      exact (List.Perm.swap x a _).trans ((ih hi).cons x)
theorem mem_erase {α : Type} {l : List α} {i : Nat} {b : α} (h : b ∈ l.eraseIdx i) : b ∈ l := (List.eraseIdx_sublist l i).subset h
/-- A call that turns part i alone (and makes new memory): what it gives stands in its place. -/
theorem Upd.turn {S : List Nat} {w0 w w' : World} {C R : List Chunk} (h : Upd S w0 C w) (i : Nat) {c : Chunk} (hi : C[i]? = some c) (hu : Upd c.fp w R w') : Upd S w0 (R ++ C.eraseIdx i) w' := by
  have hc := List.mem_of_getElem? hi
  have hap := pw_idx (fun x y (hxy : ∀ b ∈ x.fp, b ∉ y.fp) b hb hb' => hxy b hb' hb) h.apart hi
  refine ⟨hu.os.trans h.os, hu.tape.trans h.tape, hu.output.trans h.output, Nat.le_trans h.size hu.size, fun k hk hS => ?_, fun d hd => ?_, fun d hd b hb => ?_, ?_⟩
  · refine (hu.block k (Nat.lt_of_lt_of_le hk h.size) fun hm => ?_).trans (h.block k hk hS)
    rcases h.own c hc k hm with h1 | h1
    · exact hS h1
    · omega
  · rcases List.mem_append.1 hd with hd | hd
    · exact hu.holds d hd
    · refine d.loc w w' (fun b hb => hu.block b (h.lt (mem_erase hd) hb) fun hm => ?_) (h.holds d (mem_erase hd))
      exact hap d hd b hm hb
  · rcases List.mem_append.1 hd with hd | hd
    · rcases hu.own d hd b hb with h1 | h1
      · exact h.own c hc b h1
      · exact .inr (Nat.le_trans h.size h1)
    · exact h.own d (mem_erase hd) b hb
  · rw [List.pairwise_append]
    refine ⟨hu.apart, h.apart.sublist (List.eraseIdx_sublist _ _), fun a ha d hd b hb hb' => ?_⟩
    rcases hu.own a ha b hb with h1 | h1
    · exact hap d hd b h1 hb'
    · have := h.lt (mem_erase hd) hb'; omega
/-- A call that makes new memory alone. -/
theorem Upd.call {S : List Nat} {w0 w w' : World} {C R : List Chunk} (h : Upd S w0 C w) (hu : Upd [] w R w') : Upd S w0 (R ++ C) w' := by
  refine ⟨hu.os.trans h.os, hu.tape.trans h.tape, hu.output.trans h.output, Nat.le_trans h.size hu.size, fun k hk hS => (hu.block k (Nat.lt_of_lt_of_le hk h.size) (by simp)).trans (h.block k hk hS), fun d hd => ?_, fun d hd b hb => ?_, ?_⟩
  · rcases List.mem_append.1 hd with hd | hd
    · exact hu.holds d hd
    · exact d.loc w w' (fun b hb => hu.block b (h.lt hd hb) (by simp)) (h.holds d hd)
  · rcases List.mem_append.1 hd with hd | hd
    · rcases hu.own d hd b hb with h1 | h1
      · cases h1
      · exact .inr (Nat.le_trans h.size h1)
    · exact h.own d hd b hb
  · rw [List.pairwise_append]
    refine ⟨hu.apart, h.apart, fun a ha d hd b hb hb' => ?_⟩
    rcases hu.own a ha b hb with h1 | h1
    · cases h1
    · have := h.lt hd hb'; omega
theorem Upd.grow {S : List Nat} {w0 w w' : World} {C : List Chunk} (h : Upd S w0 C w) (hb : Below w.heap.size w w') : Upd S w0 C w' := h.call (Upd.of_below hb)
theorem Upd.add {S : List Nat} {w0 w w' : World} {C : List Chunk} (h : Upd S w0 C w) (hb : Below w.heap.size w w') (c : Chunk) (hc : c.P w') (hn : ∀ b ∈ c.fp, w.heap.size ≤ b) : Upd S w0 (c :: C) w' := by
  have : Upd [] w [c] w' := ⟨hb.os, hb.tape, hb.output, hb.size, fun k hk _ => hb.block k hk, fun d hd => by rw [List.mem_singleton.1 hd]; exact hc, fun d hd b hb => by rw [List.mem_singleton.1 hd] at hb; exact .inr (hn b hb), by simp⟩
  exact h.call this
theorem Upd.addRow {S : List Nat} {w0 w w' : World} {C : List Chunk} (h : Upd S w0 C w) (hb : Below w.heap.size w w') {base : Nat} {e : TypeId} {size : Nat} {v : Value} {n : Nat} {xs : List Value} (hr : w'.ownsRow base e size v n xs) (hn : w.heap.size ≤ base) : Upd S w0 (chRow e size v n xs :: C) w' :=
  h.add hb (chRow e size v n xs) (owns_base hr fun _ _ => Nat.zero_le _) fun b hb => Nat.le_trans hn (owns_ge hr b (by simpa [chRow] using hb))
theorem Upd.nilRow {S : List Nat} {w0 w : World} {C : List Chunk} (h : Upd S w0 C w) (e : TypeId) (size : Nat) : Upd S w0 (chRow e size (.slice none 0 0) 0 [] :: C) w :=
  h.addRow (Below.refl _ _) (World.ownsRow_nil w w.heap.size e size) (Nat.le_refl _)
theorem Upd.alloc {S : List Nat} {w0 w : World} {C : List Chunk} (h : Upd S w0 C w) (cs : Array Value) (t : TypeId) : Upd S w0 (chBlk w.heap.size cs t :: C) (w.alloc (.cells cs t)) :=
  h.add ((Below.refl _ _).alloc (Nat.le_refl _) _) (chBlk w.heap.size cs t) (Blk.new _ _ _) fun b hb => by rw [List.mem_singleton.1 hb]; exact Nat.le_refl _
theorem Upd.drew {S : List Nat} {w0 w : World} {C : List Chunk} (h : Upd S w0 C w) : Upd S w0 C w.drew :=
  ⟨h.os, h.tape, h.output, h.size, h.block, fun c hc => c.loc w _ (fun _ _ => rfl) (h.holds c hc), h.own, h.apart⟩
theorem Upd.put {S : List Nat} {w0 w : World} {C : List Chunk} (h : Upd S w0 C w) (i : Nat) {g : Nat} {cs : Array Value} {t : TypeId} (hi : C[i]? = some (chBlk g cs t)) (j : Nat) (v : Value) :
    Upd S w0 (chBlk g (cs.setIfInBounds j v) t :: C.eraseIdx i) (w.setCell ⟨g, j, none⟩ v) := by
  have hB := h.blk i hi
  have : Upd (chBlk g cs t).fp w [chBlk g (cs.setIfInBounds j v) t] (w.setCell ⟨g, j, none⟩ v) :=
    ⟨rfl, rfl, rfl, by simp, fun k _ hne => Below.heap_setCell w _ v k (by simpa [chBlk] using hne), fun d hd => by rw [List.mem_singleton.1 hd]; exact hB.set_ j v, fun d hd b hb => by rw [List.mem_singleton.1 hd] at hb; exact .inl hb, by simp⟩
  exact h.turn i hi this
/-- append onto the row of part i. -/
theorem Upd.app {S : List Nat} {w0 w w' : World} {C : List Chunk} (h : Upd S w0 C w) (i : Nat) {e : TypeId} {size : Nat} {v v' : Value} {n n' : Nat} {xs xs' : List Value} (hi : C[i]? = some (chRow e size v n xs))
    {base : Nat} (hr : w'.ownsRow base e size v' n' xs') (hg : w.grownBy w' v.ownBlock) (hv : v'.ownBlock = v.ownBlock ∨ v'.ownBlock = some w.heap.size) : Upd S w0 (chRow e size v' n' xs' :: C.eraseIdx i) w' := by
  have : Upd (chRow e size v n xs).fp w [chRow e size v' n' xs'] w' :=
    ⟨hg.os, hg.tape, hg.output, hg.size, fun k hk hne => hg.block k hk (fun he => hne (by simp [chRow, ← he])), fun d hd => by rw [List.mem_singleton.1 hd]; exact owns_base hr fun _ _ => Nat.zero_le _, fun d hd b hb => by
      rw [List.mem_singleton.1 hd] at hb
      rcases hv with hv | hv
      · exact .inl (by simpa [chRow, hv] using hb)
      · refine .inr ?_
        simp only [chRow, hv, Option.toList_some, List.mem_singleton] at hb
        omega, by simp⟩
  exact h.turn i hi this
/-- Fewer parts. -/
theorem Upd.sub {S : List Nat} {w0 w : World} {C C' : List Chunk} (h : Upd S w0 C w) (hs : C'.Sublist C) : Upd S w0 C' w :=
  ⟨h.os, h.tape, h.output, h.size, h.block, fun c hc => h.holds c (hs.subset hc), fun c hc => h.own c (hs.subset hc), h.apart.sublist hs⟩
theorem Upd.drop {S : List Nat} {w0 w : World} {C : List Chunk} (h : Upd S w0 C w) (i : Nat) : Upd S w0 (C.eraseIdx i) w := h.sub (List.eraseIdx_sublist _ _)
theorem Upd.perm {S : List Nat} {w0 w : World} {C C' : List Chunk} (h : Upd S w0 C w) (hp : C.Perm C') : Upd S w0 C' w :=
  ⟨h.os, h.tape, h.output, h.size, h.block, fun c hc => h.holds c (hp.mem_iff.2 hc), fun c hc => h.own c (hp.mem_iff.2 hc), (hp.pairwise_iff fun h b hb hb' => h b hb' hb).1 h.apart⟩
/-- Part i to the front. -/
theorem Upd.front {S : List Nat} {w0 w : World} {C : List Chunk} (h : Upd S w0 C w) (i : Nat) {c : Chunk} (hi : C[i]? = some c) : Upd S w0 (c :: C.eraseIdx i) w := by
  refine h.perm ?_
  exact (perm_erase hi).symm
/-- The first part said otherwise. -/
theorem Upd.say {S : List Nat} {w0 w : World} {c : Chunk} {C : List Chunk} (h : Upd S w0 (c :: C) w) (c' : Chunk) (hc : c'.P w) (hf : ∀ b ∈ c'.fp, b ∈ c.fp) : Upd S w0 (c' :: C) w := by
  have hp := List.pairwise_cons.1 h.apart
  refine ⟨h.os, h.tape, h.output, h.size, h.block, fun d hd => ?_, fun d hd b hb => ?_, List.pairwise_cons.2 ⟨fun d hd b hb => hp.1 d hd b (hf b hb), hp.2⟩⟩
  · rcases List.mem_cons.1 hd with rfl | hd
    · exact hc
    · exact h.holds d (.tail _ hd)
  · rcases List.mem_cons.1 hd with rfl | hd
    · exact h.own c (.head _) b (hf b hb)
    · exact h.own d (.tail _ hd) b hb
/-- The first two parts as one. -/
theorem Upd.join {S : List Nat} {w0 w : World} {c d : Chunk} {C : List Chunk} (h : Upd S w0 (c :: d :: C) w) (e : Chunk) (he : e.P w) (hf : ∀ b ∈ e.fp, b ∈ c.fp ∨ b ∈ d.fp) : Upd S w0 (e :: C) w := by
  have hp := List.pairwise_cons.1 h.apart
  have hq := List.pairwise_cons.1 hp.2
  refine ⟨h.os, h.tape, h.output, h.size, h.block, fun x hx => ?_, fun x hx b hb => ?_, List.pairwise_cons.2 ⟨fun x hx b hb => ?_, hq.2⟩⟩
  · rcases List.mem_cons.1 hx with rfl | hx
    · exact he
    · exact h.holds x (.tail _ (.tail _ hx))
  · rcases List.mem_cons.1 hx with rfl | hx
    · rcases hf b hb with h1 | h1
      · exact h.own c (.head _) b h1
      · exact h.own d (.tail _ (.head _)) b h1
    · exact h.own x (.tail _ (.tail _ hx)) b hb
  · rcases hf b hb with h1 | h1
    · exact hp.1 x (.tail _ hx) b h1
    · exact hq.1 x hx b h1
theorem Upd.same {S : List Nat} {w0 w : World} {C : List Chunk} (h : Upd S w0 C w) {w' : World} (e : w' = w) : Upd S w0 C w' := e ▸ h
theorem Upd.mono {S S' : List Nat} {w0 w : World} {C : List Chunk} (h : Upd S w0 C w) (hS : ∀ b ∈ S, b ∈ S') : Upd S' w0 C w :=
  ⟨h.os, h.tape, h.output, h.size, fun k hk hn => h.block k hk fun hm => hn (hS k hm), h.holds, fun c hc b hb => (h.own c hc b hb).imp (hS b) id, h.apart⟩
end Go.Proofs.YtgpojkofegajeaaGreatDoor
