/-
  Append onto an empty slice that has no room (a copy); what a slice of a readable slice reads as. More on parts of memory: many parts as one; a part laid beside.
-/
import Derived.Test.YtgpojkofegajeaaGreatDoorSt
import Derived.Test.YtgpojkofegajeaaGreatDoorApp
namespace Go.Proofs.YtgpojkofegajeaaGreatDoor
open Go.RowKit
set_option maxRecDepth 100000

/-- Many parts as one. -/
def chAll (l : List Chunk) : Chunk :=
  ⟨l.flatMap Chunk.fp, fun w => ∀ c ∈ l, c.P w, fun w w' h hP c hc => c.loc w w' (fun b hb => h b (List.mem_flatMap.2 ⟨c, hc, hb⟩)) (hP c hc), fun w hP b hb => by
    obtain ⟨c, hc, hb⟩ := List.mem_flatMap.1 hb
    exact c.inn w (hP c hc) b hb⟩
theorem Upd.all {S : List Nat} {w0 w : World} {C : List Chunk} (h : Upd S w0 C w) (i : Nat) {l : List Chunk} (hi : C[i]? = some (chAll l)) : ∀ c ∈ l, c.P w := h.get i hi
/-- No two parts meet. -/
theorem Upd.apartAt {S : List Nat} {w0 w : World} {C : List Chunk} (h : Upd S w0 C w) (i j : Nat) (hij : i ≠ j) {c d : Chunk} (hc : C[i]? = some c) (hd : C[j]? = some d) : ∀ b ∈ c.fp, b ∉ d.fp := by
  have key : ∀ i j : Nat, i < j → ∀ c d : Chunk, C[i]? = some c → C[j]? = some d → ∀ b ∈ c.fp, b ∉ d.fp := by
    intro i j hij c d hc hd
    have hi : i < C.length := by
      rcases Nat.lt_or_ge i C.length with h | h
      · exact h
      · rw [List.getElem?_eq_none h] at hc; cases hc
    have hj : j < C.length := by
      rcases Nat.lt_or_ge j C.length with h | h
      · exact h
      · rw [List.getElem?_eq_none h] at hd; cases hd
    have := List.pairwise_iff_getElem.1 h.apart i j hi hj hij
    rw [List.getElem?_eq_getElem hi] at hc
    rw [List.getElem?_eq_getElem hj] at hd
    cases hc; cases hd
    exact this
  rcases Nat.lt_or_gt_of_ne hij with h1 | h1
  · exact key i j h1 c d hc hd
  · exact fun b hb hb' => key j i h1 d c hd hc b hb' hb
/-- Some of the parts, in another order. -/
theorem Upd.pick {S : List Nat} {w0 w : World} {C : List Chunk} (h : Upd S w0 C w) (is : List Nat) (hn : is.Nodup) : Upd S w0 (is.filterMap fun i => C[i]?) w := by
  have hm : ∀ c ∈ is.filterMap (fun i => C[i]?), c ∈ C := fun c hc => by
    obtain ⟨i, _, hi⟩ := List.mem_filterMap.1 hc
    exact List.mem_of_getElem? hi
  refine ⟨h.os, h.tape, h.output, h.size, h.block, fun c hc => h.holds c (hm c hc), fun c hc => h.own c (hm c hc), ?_⟩
  rw [List.pairwise_filterMap]
  exact hn.imp fun hij c hc d hd => h.apartAt _ _ hij hc hd
theorem chBlk_fp {g : Nat} {cs : Array Value} {t : TypeId} {b : Nat} : b ∈ (chBlk g cs t).fp ↔ b = g := List.mem_singleton
theorem chRow_fp {e : TypeId} {size : Nat} {v : Value} {n : Nat} {xs : List Value} {b : Nat} : b ∈ (chRow e size v n xs).fp ↔ v.ownBlock = some b := by simp [chRow]
end Go.Proofs.YtgpojkofegajeaaGreatDoor
namespace Go.Proofs.YtgpojkofegajeaaGreatDoor
open Go.RowKit
set_option maxRecDepth 100000

theorem grown_none_below' {w w' : World} (h : w.grownBy w' none) : Below w.heap.size w w' := ⟨h.os, h.tape, h.output, h.size, fun k hk => h.block k hk (by simp)⟩
theorem run_append_copy {P : Program} {w : World} (base : Nat) (t ty e : TypeId) (i : TypeInfo) (z : Value) (size bytes : Nat) (ht : P.underlying t = some (.slice e)) (hi : P.info? e = some i) (hz : i.zero = some z)
    (hsize : i.size = size) (hby : i.bytes = bytes) (hzs : z.cells.size = size) (hsz : 0 < size)
    (b : Nat) (hB : Blk w b #[] e) (hb : base ≤ b) (x : Value) (m : Nat) (news : List Value) (hr : Rd w size x m news)
    (h63 : m ≤ maxLen) (hbytes : m * bytes ≤ 140737488355328) :
    ∃ v' w', (Builtin.append_ #[t, t] ty #[.slice (some ⟨b, 0, none⟩) 0 0, x]).run P w = .ok v' w' ∧ w'.ownsRow base e size v' m news ∧ Below w.heap.size w w' := by
  have ad : ∀ b o j : Nat, (⟨b, o, none⟩ : Addr).add j = ⟨b, o + j, none⟩ := fun b o j => by unfold Addr.add; split <;> simp_all
  obtain ⟨A, c, rfl, hl, h2, h3, h4⟩ := hr
  rcases Nat.eq_zero_or_pos m with h0 | h0
  · subst h0
    obtain rfl : news = [] := List.eq_nil_of_length_eq_zero (by simpa using hl)
    refine ⟨.slice (some ⟨b, 0, none⟩) 0 0, w, ?_, ⟨by simp, .inr ⟨b, 0, #[], rfl, hb, hB, Nat.le_refl _, Nat.zero_le _, by simp, by simp⟩⟩, Below.refl _ _⟩
    cases A with
    | none => exact run_append_nothing w t t ty e i ht hi (some ⟨b, 0, none⟩) 0 0 (Nat.le_refl _) _ (hsize ▸ Src.ofNil w ht c)
    | some a => exact run_append_nothing w t t ty e i ht hi (some ⟨b, 0, none⟩) 0 0 (Nat.le_refl _) _ (Src.ofSlice w ht a 0 c [] (by simp) (fun j u hu => by simp at hu) (fun u hu => nomatch hu))
  · obtain ⟨q, o, rfl, hat⟩ := h4 h0
    obtain ⟨v', w', r1, r2, r3⟩ := run_append_arg_grows (P := P) w t ty e i z size bytes ht hi hz hsize hby hzs hsz ⟨b, 0, none⟩ 0 0 [] (by simp) (fun j u hu => by simp at hu) ⟨q, o, none⟩ m c news hl (fun j u hu => by rw [ad]; exact hat j u hu) (by omega) (by omega) (by simpa using hbytes)
    refine ⟨v', w', r1, owns_base (by simpa using r2) fun g hg => ?_, grown_none_below' r3⟩
    have := owns_ge r2 g hg
    have := hB.lt
    omega
theorem wp_append_copy {P : Program} {o : Oper} {a : Act} {w : World} {K : Act → World → Prop} {Q : Exit → Act → World → Prop} (s x : Operand) (t : TypeId)
    (ho : o.op = .call { callee := .builtin .append, args := #[s, x], argTypes := #[t, t] })
    (base : Nat) (e : TypeId) (i : TypeInfo) (z : Value) (size bytes : Nat) (ht : P.underlying t = some (.slice e)) (hi : P.info? e = some i) (hz : i.zero = some z)
    (hsize : i.size = size) (hby : i.bytes = bytes) (hzs : z.cells.size = size) (hsz : 0 < size)
    (b : Nat) (hB : Blk w b #[] e) (hb : base ≤ b) (hs : a.eval s = .slice (some ⟨b, 0, none⟩) 0 0)
    (xv : Value) (m : Nat) (news : List Value) (hx : a.eval x = xv) (hr : Rd w size xv m news) (h63 : m ≤ maxLen) (hbytes : m * bytes ≤ 140737488355328)
    (h : ∀ v' w', w'.ownsRow base e size v' m news → Below w.heap.size w w' → K (a.put o.dst v') w') : o.wp P a w K Q := by
  obtain ⟨v', w', hrun, h2, h3⟩ := run_append_copy (P := P) base t o.type e i z size bytes ht hi hz hsize hby hzs hsz b hB hb xv m news hr h63 hbytes
  unfold Oper.wp execOp
  simp only [ho, resolve, invoke, builtin, Sem.run_bind, Sem.run_pure, Result.andThen_ok, List.map_toArray, List.map_cons, List.map_nil, hs, hx, hrun]
  exact h v' w' h2 h3
end Go.Proofs.YtgpojkofegajeaaGreatDoor
