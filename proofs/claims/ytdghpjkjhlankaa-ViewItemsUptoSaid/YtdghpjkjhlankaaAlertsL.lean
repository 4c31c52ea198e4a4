/-
  What the law ViewAlerts leans on: what is read and not written, alerts of small numbers, sizes of texts; append onto a full slice.
-/
import Derived.Test.YtdghpjkjhlankaaNotice
import Derived.Test.YtdghpjkjhlankaaTopoN
import Derived.Test.YtdghpjkjhlankaaLaw
import Derived.Test.YtdghpjkjhlankaaAwake
namespace Go.Proofs.Ytdghpjkjhlankaa
open Go.RowKit
set_option maxRecDepth 100000

/-- A slice that can be read, none of it in block g. -/
def FreeR (g : Nat) (w : World) (size : Nat) (v : Value) (n : Nat) (xs : List Value) : Prop := Rd w size v n xs ∧ ∀ b ∈ rdFp v n, b ≠ g
theorem FreeR.below {g : Nat} {w w' : World} {size : Nat} {v : Value} {n : Nat} {xs : List Value} (h : FreeR g w size v n xs) (hb : Below w.heap.size w w') : FreeR g w' size v n xs := ⟨h.1.below hb, h.2⟩
theorem FreeR.put {g : Nat} {w : World} {size : Nat} {v : Value} {n : Nat} {xs : List Value} (h : FreeR g w size v n xs) (hs : 0 < size) (j : Nat) (u : Value) : FreeR g (w.setCell ⟨g, j, none⟩ u) size v n xs :=
  ⟨(chRd size v n xs hs).loc w _ (fun b hb => Below.heap_setCell w _ u b (h.2 b hb)) h.1, h.2⟩
theorem FreeR.old {g : Nat} {w w' : World} {size : Nat} {v : Value} {n : Nat} {xs : List Value} (h : Rd w size v n xs) (hs : 0 < size) (hb : Below w.heap.size w w') (hg : w.heap.size ≤ g) : FreeR g w' size v n xs :=
  ⟨h.below hb, fun b hb' => by have := (chRd size v n xs hs).inn w h b hb'; omega⟩
theorem FreeR.new {g : Nat} {w : World} {size : Nat} {v : Value} {n : Nat} {xs : List Value} (h : Rd w size v n xs) (hg : ∀ b, v.ownBlock = some b → g < b) : FreeR g w size v n xs :=
  ⟨h, fun b hb => by
    unfold rdFp at hb
    split at hb
    · cases hb
    · have := hg b (by simpa using hb); omega⟩
structure RO (g : Nat) (w : World) (v0 : Value) (names : List ByteArray) (v : Value) (L : List AlV) : Prop where
  named : ∃ xs, FreeR g w 5 v0 names.length xs ∧ ∀ (i : Nat) (s : ByteArray), names[i]? = some s → xs[i * 5]? = some (.string s)
  row : FreeR g w 7 v L.length (L.flatMap al7)
  labs : ∀ a ∈ L, FreeR g w 2 a.lv a.ps.length (pairCells a.ps)
theorem RO.below {g : Nat} {w w' : World} {v0 v : Value} {names : List ByteArray} {L : List AlV} (h : RO g w v0 names v L) (hb : Below w.heap.size w w') : RO g w' v0 names v L :=
  ⟨let ⟨xs, h1, h2⟩ := h.named; ⟨xs, h1.below hb, h2⟩, h.row.below hb, fun a ha => (h.labs a ha).below hb⟩
theorem RO.put {g : Nat} {w : World} {v0 v : Value} {names : List ByteArray} {L : List AlV} (h : RO g w v0 names v L) (j : Nat) (u : Value) : RO g (w.setCell ⟨g, j, none⟩ u) v0 names v L :=
  ⟨let ⟨xs, h1, h2⟩ := h.named; ⟨xs, h1.put (by decide) j u, h2⟩, h.row.put (by decide) j u, fun a ha => (h.labs a ha).put (by decide) j u⟩
theorem RO.nm {g : Nat} {w : World} {v0 v : Value} {names : List ByteArray} {L : List AlV} (h : RO g w v0 names v L) : Named w v0 names := let ⟨xs, h1, h2⟩ := h.named; ⟨xs, h1.1, h2⟩

structure Al6 where
  o : Nat
  r : Nat
  a : Nat
  b : Nat
  n : Nat
  s : Nat
def al6 (x : Al6) : List Value := [.int .u8 x.o, .int .u8 x.r, .int .u8 x.a, .int .u8 x.b, .int .u8 x.n, .int .u8 x.s]
def Al6.ok (x : Al6) : Prop := x.o < 256 ∧ x.r < 256 ∧ x.a < 256 ∧ x.b < 256 ∧ x.n < 256 ∧ x.s < 256
def alOf (x : Al6) (lv : Value) : AlV := ⟨x.o % 3, ruleB x.r, lv, smallL [x.a, x.b, x.n], stOf x.s, 0, x.s / 4 % 8, x.a⟩
/-- What is known of an alert but for where its labels lie. -/
structure AlV.fit (a : AlV) : Prop where
  o : a.o < 256
  rule : a.rule.size ≤ 1048576
  pz : (textL a.ps).length ≤ 100000000
  st : a.st < 256
  since : a.since < 18446744073709551616
  val : -9223372036854775808 ≤ a.val ∧ a.val ≤ 9223372036854775807
theorem AlV.fit.ok {a : AlV} {w : World} (h : a.fit) (hr : Rd w 2 a.lv a.ps.length (pairCells a.ps)) : a.ok w := ⟨h.o, h.rule, hr, h.pz, h.st, h.since, h.val⟩
theorem stOf_lt (s : Nat) : stOf s < 256 := by
  unfold stOf
  split
  · decide
  split
  · decide
  split <;> decide
theorem ruleB_size (r : Nat) : (ruleB r).size ≤ 5 := by
  unfold ruleB
  split
  · decide
  split <;> decide
theorem alOf_fit (x : Al6) (lv : Value) (hx : x.ok) : (alOf x lv).fit := by
  obtain ⟨h1, h2, h3, h4, h5, h6⟩ := hx
  refine ⟨by show x.o % 3 < 256; omega, ?_, ?_, stOf_lt _, by show 0 < _; decide, ?_⟩
  · have := ruleB_size x.r; show (ruleB x.r).size ≤ _; omega
  · have := text_len x.a x.b x.n; show (textL (smallL [x.a, x.b, x.n])).length ≤ _; omega
  · show -9223372036854775808 ≤ (x.a : Int) ∧ (x.a : Int) ≤ 9223372036854775807; omega
theorem textL_bound (M : Nat) : ∀ ps : List (ByteArray × ByteArray), (∀ p ∈ ps, p.1.size ≤ M ∧ p.2.size ≤ M) → (textL ps).length ≤ ps.length * (2 * M + 2) := by
  intro ps hp
  have key : ∀ k, k ≤ ps.length → (textL (ps.take k)).length ≤ k * (2 * M + 2) := by
    intro k
    induction k with
    | zero => intro _; simp [textL]
    | succ k ih =>
      intro hk
      obtain ⟨p, h⟩ : ∃ p, ps[k]? = some p := ⟨_, List.getElem?_eq_getElem (by omega)⟩
      have h1 := ih (by omega)
      have h2 := hp p (List.mem_of_getElem? h)
      rw [textL_take_succ ps k p h, List.length_append, pairL_len, Nat.succ_mul]
      split
      · simp only [List.length_nil]; omega
      · simp only [List.length_append, List.length_cons, List.length_nil]; omega
  have := key ps.length (Nat.le_refl _)
  rwa [List.take_length] at this
theorem topoNames_size (hs es : List Nat) : ∀ s ∈ topoNames hs es, s.size ≤ 1000000 := by
  intro s hs'
  unfold topoNames at hs'
  rcases List.mem_cons.1 hs' with rfl | h
  · decide
  rcases List.mem_append.1 h with h | h
  · obtain ⟨i, hi, rfl⟩ := List.mem_map.1 h
    have := List.mem_range.1 hi
    have := decB_size i (by omega)
    unfold hubB
    rw [ByteArray.size_append]
    have l : (⟨#[104, 117, 98]⟩ : ByteArray).size = 3 := rfl
    omega
  · obtain ⟨i, hi, rfl⟩ := List.mem_map.1 h
    have := List.mem_range.1 hi
    have := decB_size i (by omega)
    unfold edgeB
    rw [ByteArray.size_append]
    have l : (⟨#[101, 100, 103, 101]⟩ : ByteArray).size = 4 := rfl
    omega
theorem SizeV.ok.below {s : SizeV} {w w' : World} (h : s.ok w) (hb : Below w.heap.size w w') : s.ok w' :=
  ⟨⟨h.hubs.1.below hb, h.hubs.2⟩, ⟨h.edges.1.below hb, h.edges.2⟩, h.quotas.below hb, ⟨h.rules.1.below hb, h.rules.2⟩, ⟨h.routes.1.below hb, fun x hx => ⟨(h.routes.2 x hx).1, (h.routes.2 x hx).2.below hb⟩⟩,
    ⟨h.curbs.1.below hb, fun x hx => ⟨(h.curbs.2 x hx).1, (h.curbs.2 x hx).2.1.below hb, (h.curbs.2 x hx).2.2.below hb⟩⟩, h.small, h.nums⟩

/-- append onto a full slice that can be read: new memory. -/
theorem run_append_fresh {P : Program} {w : World} (t ty e : TypeId) (i : TypeInfo) (z : Value) (size bytes : Nat) (ht : P.underlying t = some (.slice e)) (hi : P.info? e = some i) (hz : i.zero = some z)
    (hsize : i.size = size) (hby : i.bytes = bytes) (hzs : z.cells.size = size) (hsz : 0 < size)
    (A : Option Addr) (n : Nat) (olds : List Value) (hr : Rd w size (.slice A n n) n olds) (b2 m c : Nat) (news : List Value) (hl : news.length = m * size) (hnews : ∀ j u, news[j]? = some u → w.cell? ⟨b2, j, none⟩ = some u) (hm : 0 < m) (h1 : ∀ u ∈ news, u.oneCell' = true)
    (h63 : n + m ≤ maxLen) (hbytes : (n + m) * bytes ≤ 140737488355328) :
    ∃ v' w', (Builtin.append_ #[t, t] ty #[.slice A n n, .slice (some ⟨b2, 0, none⟩) m c]).run P w = .ok v' w' ∧ w'.ownsRow w.heap.size e size v' (n + m) (olds ++ news) ∧ w.grownBy w' none := by
  have ad : ∀ b o j : Nat, (⟨b, o, none⟩ : Addr).add j = ⟨b, o + j, none⟩ := fun b o j => by unfold Addr.add; split <;> simp_all
  obtain ⟨A', c', he, hlo, _, _, h4⟩ := hr
  cases he
  rcases Nat.eq_zero_or_pos n with h0 | h0
  · subst h0
    obtain rfl : olds = [] := List.eq_nil_of_length_eq_zero (by simpa using hlo)
    cases A with
    | none =>
      obtain ⟨v', w', r1, r2, r3, r4, r5⟩ := run_append_own_at (P := P) w w.heap.size t ty e i z size bytes ht hi hz hsize hby hzs hsz (.slice none 0 0) 0 [] (World.ownsRow_nil _ _ _ _) ⟨b2, 0, none⟩ m c news hl (fun j u hu => by rw [ad, Nat.zero_add]; exact hnews j u hu) h1 h63 hbytes (Nat.le_refl _)
      exact ⟨v', w', r1, r2, r3⟩
    | some a =>
      obtain ⟨v', w', r1, r2, r3⟩ := run_append_arg_grows (P := P) w t ty e i z size bytes ht hi hz hsize hby hzs hsz a 0 0 [] (by simp) (fun j u hu => by simp at hu) ⟨b2, 0, none⟩ m c news hl (fun j u hu => by rw [ad, Nat.zero_add]; exact hnews j u hu) (by omega) h63 hbytes
      exact ⟨v', w', r1, r2, r3⟩
  · obtain ⟨b, o, rfl, hat⟩ := h4 h0
    exact run_append_arg_grows (P := P) w t ty e i z size bytes ht hi hz hsize hby hzs hsz ⟨b, o, none⟩ n n olds hlo (fun j u hu => by rw [ad]; exact hat j u hu) ⟨b2, 0, none⟩ m c news hl (fun j u hu => by rw [ad, Nat.zero_add]; exact hnews j u hu) (by omega) h63 hbytes
theorem wp_append_fresh {P : Program} {o : Oper} {a : Act} {w : World} {K : Act → World → Prop} {Q : Exit → Act → World → Prop} (s x : Operand) (t : TypeId)
    (ho : o.op = .call { callee := .builtin .append, args := #[s, x], argTypes := #[t, t] })
    (e : TypeId) (i : TypeInfo) (z : Value) (size bytes : Nat) (ht : P.underlying t = some (.slice e)) (hi : P.info? e = some i) (hz : i.zero = some z)
    (hsize : i.size = size) (hby : i.bytes = bytes) (hzs : z.cells.size = size) (hsz : 0 < size)
    (A : Option Addr) (n : Nat) (olds : List Value) (hs : a.eval s = .slice A n n) (hr : Rd w size (.slice A n n) n olds)
    (b2 m c : Nat) (news : List Value) (hx : a.eval x = .slice (some ⟨b2, 0, none⟩) m c) (hl : news.length = m * size) (hnews : ∀ j u, news[j]? = some u → w.cell? ⟨b2, j, none⟩ = some u) (hm : 0 < m) (h1 : ∀ u ∈ news, u.oneCell' = true)
    (h63 : n + m ≤ maxLen) (hbytes : (n + m) * bytes ≤ 140737488355328)
    (h : ∀ v' w', w'.ownsRow w.heap.size e size v' (n + m) (olds ++ news) → w.grownBy w' none → K (a.put o.dst v') w') : o.wp P a w K Q := by
  obtain ⟨v', w', hrun, h2, h3⟩ := run_append_fresh (P := P) t o.type e i z size bytes ht hi hz hsize hby hzs hsz A n olds hr b2 m c news hl hnews hm h1 h63 hbytes
  unfold Oper.wp execOp
  simp only [ho, resolve, invoke, builtin, Sem.run_bind, Sem.run_pure, Result.andThen_ok, List.map_toArray, List.map_cons, List.map_nil, hs, hx, hrun]
  exact h v' w' h2 h3
theorem grown_none_below {w w' : World} (h : w.grownBy w' none) : Below w.heap.size w w' := ⟨h.os, h.tape, h.output, h.size, fun k hk => h.block k hk (by simp)⟩
theorem rd_grow {w : World} {size n : Nat} {A : Option Addr} {c : Nat} {xs : List Value} (h : Rd w size (.slice A n c) n xs) : Rd w size (.slice A n n) n xs := by
  obtain ⟨_, _, he, h1, h2, h3, h4⟩ := h
  cases he
  exact ⟨_, _, rfl, h1, Nat.le_refl _, by omega, h4⟩
end Go.Proofs.Ytdghpjkjhlankaa
