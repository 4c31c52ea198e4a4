/-
  A map whose keys are structs (or texts): its entries; looking up, putting; as a part of memory.
-/
import Derived.Test.YtgpojkofegajeaaGreatDoorSt
import Derived.MapKept
import Derived.DeepKeys3
import Derived.StringKeys
namespace Go.Proofs.YtgpojkofegajeaaGreatDoor
open Go.RowKit Go.WideMaps
set_option maxRecDepth 100000

/-- How keys of Lean stand for keys of a type. -/
structure KeyEnc (k : TypeId) (κ : Type) [DecidableEq κ] where
  enc : κ → Value
  ok : κ → Prop
  law : KeyLaw Tryz.prog k
  lit : ∀ a, ok a → ∃ l, keyOf Tryz.prog k (enc a) = some l
  inj : ∀ a b, enc a = enc b → a = b
section
variable {κ : Type} [DecidableEq κ] {k : TypeId}
def findK : List (κ × Value) → κ → Option Value
  | [], _ => none
  | p :: r, a => if p.1 = a then some p.2 else findK r a
def putK : List (κ × Value) → κ → Value → List (κ × Value)
  | [], a, v => [(a, v)]
  | p :: r, a, v => if p.1 = a then (a, v) :: r else p :: putK r a v
theorem findK_none {kv : List (κ × Value)} {a : κ} (h : ∀ p ∈ kv, p.1 ≠ a) : findK kv a = none := by
  induction kv with
  | nil => rfl
  | cons p r ih => simp only [findK, if_neg (h p (.head _))]; exact ih fun q hq => h q (.tail _ hq)
theorem putK_none {kv : List (κ × Value)} {a : κ} (v : Value) (h : ∀ p ∈ kv, p.1 ≠ a) : putK kv a v = kv ++ [(a, v)] := by
  induction kv with
  | nil => rfl
  | cons p r ih => simp only [putK, if_neg (h p (.head _)), List.cons_append]; rw [ih fun q hq => h q (.tail _ hq)]
theorem findK_at {kv : List (κ × Value)} {a : κ} {u : Value} {j : Nat} (hn : (kv.map (·.1)).Nodup) (h : kv[j]? = some (a, u)) : findK kv a = some u := by
  induction kv generalizing j with
  | nil => simp at h
  | cons p r ih =>
    rw [List.map_cons, List.nodup_cons] at hn
    cases j with
    | zero =>
      simp only [List.getElem?_cons_zero, Option.some.injEq] at h
      subst h
      simp [findK]
    | succ j =>
      simp only [List.getElem?_cons_succ] at h
      have hne : p.1 ≠ a := fun e => hn.1 (List.mem_map.2 ⟨(a, u), List.mem_of_getElem? h, e.symm⟩)
      simp only [findK, if_neg hne]
      exact ih hn.2 h
theorem putK_at {kv : List (κ × Value)} {a : κ} {u : Value} (v : Value) {j : Nat} (hn : (kv.map (·.1)).Nodup) (h : kv[j]? = some (a, u)) : putK kv a v = kv.set j (a, v) := by
  induction kv generalizing j with
  | nil => simp at h
  | cons p r ih =>
    rw [List.map_cons, List.nodup_cons] at hn
    cases j with
    | zero =>
      simp only [List.getElem?_cons_zero, Option.some.injEq] at h
      subst h
      simp [putK]
    | succ j =>
      simp only [List.getElem?_cons_succ] at h
      have hne : p.1 ≠ a := fun e => hn.1 (List.mem_map.2 ⟨(a, u), List.mem_of_getElem? h, e.symm⟩)
      simp only [putK, if_neg hne, List.set_cons_succ]
      rw [ih hn.2 h]
theorem putK_keys (kv : List (κ × Value)) (a : κ) (v : Value) : (putK kv a v).map (·.1) = if a ∈ kv.map (·.1) then kv.map (·.1) else kv.map (·.1) ++ [a] := by
  induction kv with
  | nil => simp [putK]
  | cons p r ih =>
    simp only [putK]
    by_cases h : p.1 = a
    · simp [h]
    · have h' : ¬ a = p.1 := fun e => h e.symm
      simp only [if_neg h, List.map_cons, ih, List.mem_cons, h', false_or]
      split <;> simp
/-- The map at block m has these entries. -/
def MapAt (E : KeyEnc k κ) (w : World) (m : Nat) (kv : List (κ × Value)) : Prop :=
  ∃ es clock, w.heap[m]? = some (.map es clock) ∧ es.toList.map (fun e => (e.key, e.val)) = kv.map (fun p => (E.enc p.1, p.2)) ∧ MapKept.Stamped es clock ∧ (kv.map (·.1)).Nodup ∧ ∀ p ∈ kv, E.ok p.1
theorem MapAt.lt {E : KeyEnc k κ} {w : World} {m : Nat} {kv : List (κ × Value)} (h : MapAt E w m kv) : m < w.heap.size := by
  obtain ⟨es, c, h, _⟩ := h
  exact (Array.getElem?_eq_some_iff.1 h).1
theorem MapAt.loc {E : KeyEnc k κ} {w w' : World} {m : Nat} {kv : List (κ × Value)} (h : MapAt E w m kv) (e : w'.heap[m]? = w.heap[m]?) : MapAt E w' m kv := by
  obtain ⟨es, c, h1, h2⟩ := h
  exact ⟨es, c, e.trans h1, h2⟩
theorem MapAt.below {E : KeyEnc k κ} {w w' : World} {m : Nat} {kv : List (κ × Value)} (h : MapAt E w m kv) (hb : Below w.heap.size w w') : MapAt E w' m kv := h.loc (hb.block m h.lt)
theorem MapAt.made (E : KeyEnc k κ) (w : World) : MapAt E (w.alloc (.map #[] 0)) w.heap.size [] :=
  ⟨#[], 0, heap_alloc_new w _, rfl, MapKept.stamped_empty 0, List.nodup_nil, fun _ h => nomatch h⟩
def chMap (E : KeyEnc k κ) (m : Nat) (kv : List (κ × Value)) : Chunk :=
  ⟨[m], fun w => MapAt E w m kv, fun _ _ h hP => hP.loc (h m (.head _)), fun w hP b hb => by rw [List.mem_singleton.1 hb]; exact MapAt.lt hP⟩
theorem map_find {E : KeyEnc k κ} {w : World} {kv : List (κ × Value)} {es : List MapEntry} (he : es.map (fun e => (e.key, e.val)) = kv.map (fun p => (E.enc p.1, p.2))) (_hn : (kv.map (·.1)).Nodup) (hk : ∀ p ∈ kv, E.ok p.1) (a : κ) (ha : E.ok a) :
    ((Instr.findKey k (E.enc a) es).run Tryz.prog w = .ok none w ∧ (∀ p ∈ kv, p.1 ≠ a) ∧ ∀ e ∈ es, e.key ≠ E.enc a) ∨
    ∃ j e v, (Instr.findKey k (E.enc a) es).run Tryz.prog w = .ok (some (j, v)) w ∧ es[j]? = some e ∧ e.key = E.enc a ∧ kv[j]? = some (a, v) := by
  obtain ⟨l, hl⟩ := E.lit a ha
  have hall : ∀ e ∈ es, ∃ l, keyOf Tryz.prog k e.key = some l := by
    intro e hm
    have : (e.key, e.val) ∈ kv.map (fun p => (E.enc p.1, p.2)) := by rw [← he]; exact List.mem_map.2 ⟨e, hm, rfl⟩
    obtain ⟨p, hp, hpe⟩ := List.mem_map.1 this
    have : E.enc p.1 = e.key := congrArg Prod.fst hpe
    rw [← this]
    exact E.lit _ (hk p hp)
  rcases E.law.find w hl es hall with ⟨h1, h2⟩ | ⟨j, e, h1, h2, h3⟩
  · refine .inl ⟨h1, fun p hp e1 => ?_, h2⟩
    have : (E.enc p.1, p.2) ∈ es.map (fun e => (e.key, e.val)) := by rw [he]; exact List.mem_map.2 ⟨p, hp, rfl⟩
    obtain ⟨e, hm, hpe⟩ := List.mem_map.1 this
    have hx : e.key = E.enc p.1 := congrArg Prod.fst hpe
    exact h2 e hm (hx.trans (by rw [e1]))
  · refine .inr ⟨j, e, e.val, h1, h2, h3, ?_⟩
    have hj := congrArg (·[j]?) he
    simp only [List.getElem?_map, h2, Option.map_some] at hj
    cases hq : kv[j]? with
    | none => rw [hq] at hj; cases hj
    | some p =>
      rw [hq] at hj
      simp only [Option.map_some, Option.some.injEq, Prod.mk.injEq] at hj
      obtain ⟨e1, e2⟩ := hj
      obtain ⟨p1, p2⟩ := p
      dsimp only at e1 e2
      rw [e2, E.inj p1 a (e1.symm.trans h3)]
section
variable {t e : TypeId} (hu : Tryz.prog.underlying t = some (.map k e)) {z : Value}
include hu
theorem map_look {E : KeyEnc k κ} {w : World} {m : Nat} {kv : List (κ × Value)} (h : MapAt E w m kv) (hz : (zeroValue e).run Tryz.prog w = .ok z w) (a : κ) (ha : E.ok a) (b : Bool) (r : Value) (hb : (findK kv a).isSome = b) (hr : (findK kv a).getD z = r) :
    (Instr.lookup t (.map (some m)) (E.enc a) true).run Tryz.prog w = .ok (.tuple #[r, .bool b]) w := by
  obtain ⟨es, c, hm, he, hs, hn, hk⟩ := h
  obtain ⟨l, hl⟩ := E.lit a ha
  have hc := E.law.check w es.isEmpty hl
  subst hb hr
  rcases map_find (w := w) he hn hk a ha with ⟨h1, h2, _⟩ | ⟨j, en, v, h1, _, _, h4⟩
  · simp [Instr.lookup, Sem.run_bind, run_underlying hu, MapKept.run_getObj_map hm, hc, h1, hz, Result.andThen, findK_none h2]
  · simp [Instr.lookup, Sem.run_bind, run_underlying hu, MapKept.run_getObj_map hm, hc, h1, Result.andThen, findK_at hn h4]
theorem map_look1 {E : KeyEnc k κ} {w : World} {m : Nat} {kv : List (κ × Value)} (h : MapAt E w m kv) (hz : (zeroValue e).run Tryz.prog w = .ok z w) (a : κ) (ha : E.ok a) (r : Value) (hr : (findK kv a).getD z = r) :
    (Instr.lookup t (.map (some m)) (E.enc a) false).run Tryz.prog w = .ok r w := by
  obtain ⟨es, c, hm, he, hs, hn, hk⟩ := h
  obtain ⟨l, hl⟩ := E.lit a ha
  have hc := E.law.check w es.isEmpty hl
  subst hr
  rcases map_find (w := w) he hn hk a ha with ⟨h1, h2, _⟩ | ⟨j, en, v, h1, _, _, h4⟩
  · simp [Instr.lookup, Sem.run_bind, run_underlying hu, MapKept.run_getObj_map hm, hc, h1, hz, Result.andThen, findK_none h2]
  · simp [Instr.lookup, Sem.run_bind, run_underlying hu, MapKept.run_getObj_map hm, hc, h1, Result.andThen, findK_at hn h4]
theorem map_len {E : KeyEnc k κ} {w : World} {m : Nat} {kv : List (κ × Value)} (h : MapAt E w m kv) (ty : TypeId) : (Builtin.len_ #[t] ty #[.map (some m)]).run Tryz.prog w = .ok (.int .i64 (kv.length : Nat)) w := by
  obtain ⟨es, c, hm, he, _⟩ := h
  have hl := congrArg List.length he
  simp only [List.length_map, Array.length_toList] at hl
  simp [Builtin.len_, run_underlying hu, MapKept.run_getObj_map hm, Result.andThen, hl, goInt]
theorem map_put {E : KeyEnc k κ} {w : World} {m : Nat} {kv : List (κ × Value)} (h : MapAt E w m kv) (a : κ) (ha : E.ok a) (v : Value) :
    ∃ w', (Instr.mapUpdate t (.map (some m)) (E.enc a) v).run Tryz.prog w = .ok () w' ∧ MapAt E w' m (putK kv a v) ∧ w.grownBy w' (some m) ∧ w'.heap.size = w.heap.size := by
  obtain ⟨es, c, hm, he, hs, hn, hk⟩ := h
  obtain ⟨l, hl⟩ := E.lit a ha
  have hc := E.law.check w false hl
  have hlt : m < w.heap.size := (Array.getElem?_eq_some_iff.1 hm).1
  have hset : ∀ o, w.grownBy { w with heap := w.heap.setIfInBounds m o } (some m) := fun o => ⟨rfl, rfl, rfl, by simp, fun k _ hne => by
    simp only
    rw [Array.getElem?_setIfInBounds_ne (fun e => hne (by rw [e]))]⟩
  rcases map_find (w := w) he hn hk a ha with ⟨h1, h2, h3⟩ | ⟨j, en, u, h1, h2, h3, h4⟩
  · refine ⟨{ w with heap := w.heap.setIfInBounds m (.map (es.push { key := E.enc a, val := v, born := c }) (c + 1)) }, ?_, ⟨es.push { key := E.enc a, val := v, born := c }, c + 1, by simp [hlt], ?_, MapKept.stamped_push hs h3, ?_, ?_⟩, hset _, by simp⟩
    · simp [Instr.mapUpdate, Sem.run_bind, run_underlying hu, MapKept.run_getObj_map hm, hc, h1, MapKept.run_setObj_map _ hm, Result.andThen]
    · rw [putK_none v h2]
      simp [he]
    · rw [putK_keys, if_neg (fun hmem => by obtain ⟨p, hp, hpe⟩ := List.mem_map.1 hmem; exact h2 p hp hpe)]
      refine List.nodup_append.2 ⟨hn, by simp, fun x hx y hy => ?_⟩
      obtain ⟨p, hp, rfl⟩ := List.mem_map.1 hx
      rw [List.mem_singleton.1 hy]
      exact h2 p hp
    · intro p hp
      rw [putK_none v h2] at hp
      rcases List.mem_append.1 hp with hp | hp
      · exact hk p hp
      · rw [List.mem_singleton.1 hp]; exact ha
  · have hj : es[j]? = some en := by simpa using h2
    have hjl : j < es.size := (Array.getElem?_eq_some_iff.1 hj).1
    have hst := E.law.stays w hl
    refine ⟨{ w with heap := w.heap.setIfInBounds m (.map (es.modify j fun e => { e with key := E.enc a, val := v }) c) }, ?_, ⟨es.modify j fun e => { e with key := E.enc a, val := v }, c, by simp [hlt], ?_, MapKept.stamped_modify hs j _ (fun _ _ => rfl) (fun e' _ he' => by rw [hj] at he'; cases he'; exact h3.symm), ?_, ?_⟩, hset _, by simp⟩
    · simp [Instr.mapUpdate, Sem.run_bind, run_underlying hu, MapKept.run_getObj_map hm, hc, h1, hj, h3, hst, MapKept.run_setObj_map _ hm, Result.andThen]
    · rw [putK_at v hn h4]
      apply List.ext_getElem?
      intro i
      have hi := congrArg (·[i]?) he
      simp only [List.getElem?_map] at hi ⊢
      rw [Array.getElem?_toList, Array.getElem?_modify, List.getElem?_set]
      rw [Array.getElem?_toList] at hi
      by_cases hij : j = i
      · subst hij
        have hjk : j < kv.length := (List.getElem?_eq_some_iff.1 h4).1
        simp only [if_true, hjk, hj]
        simp
      · simp only [if_neg hij]
        exact hi
    · rw [putK_keys, if_pos (List.mem_map.2 ⟨(a, u), List.mem_of_getElem? h4, rfl⟩)]
      exact hn
    · intro p hp
      rw [putK_at v hn h4] at hp
      rcases List.mem_or_eq_of_mem_set hp with hp | rfl
      · exact hk p hp
      · exact ha
end
/-- A put, in a list of parts. -/
theorem Upd.putMap {S : List Nat} {w0 w w' : World} {C : List Chunk} (h : Upd S w0 C w) (i : Nat) {E : KeyEnc k κ} {m : Nat} {kv kv' : List (κ × Value)} (hi : C[i]? = some (chMap E m kv)) (hm : MapAt E w' m kv') (hb : w.grownBy w' (some m)) :
    Upd S w0 (chMap E m kv' :: C.eraseIdx i) w' := by
  have : Upd (chMap E m kv).fp w [chMap E m kv'] w' :=
    ⟨hb.os, hb.tape, hb.output, hb.size, fun q hq hne => hb.block q hq (fun e => hne (by simp [chMap, Option.some.inj e])), fun d hd => by rw [List.mem_singleton.1 hd]; exact hm, fun d hd b hbb => by rw [List.mem_singleton.1 hd] at hbb; exact .inl hbb, by simp⟩
  exact h.turn i hi this
theorem Upd.map {S : List Nat} {w0 w : World} {C : List Chunk} (h : Upd S w0 C w) (i : Nat) {E : KeyEnc k κ} {m : Nat} {kv : List (κ × Value)} (hi : C[i]? = some (chMap E m kv)) : MapAt E w m kv := h.get i hi
theorem Upd.allocMap {S : List Nat} {w0 w : World} {C : List Chunk} (h : Upd S w0 C w) (E : KeyEnc k κ) : Upd S w0 (chMap E w.heap.size [] :: C) (w.alloc (.map #[] 0)) :=
  h.add ((Below.refl _ _).alloc (Nat.le_refl _) _) (chMap E w.heap.size []) (MapAt.made E w) fun b hb => by rw [List.mem_singleton.1 hb]; exact Nat.le_refl _
end
end Go.Proofs.YtgpojkofegajeaaGreatDoor
