/-
  What is handed in, opened piece by piece: cells that read as data. Lifting: a law that returns true and leaves all old memory alone; arguments opened as lists.
-/
import Derived.Test.YtgpojkofegajeaaGreatDoorMem
import Derived.ProofKit
import Derived.OpenShut
import Derived.Lib.SmallJoins
import Derived.ChangeSame
import Derived.JoinedOf
import Derived.JoinedAt
import Derived.Carry
import Derived.Deep.Slices
import Derived.Test.YtgpojkofegajeaaGreatDoorSt
namespace Go.Proofs.YtgpojkofegajeaaGreatDoor
open Go.Joins Go.ChangeShapes Go.WideShapes Go.ChangeAt Go.RowKit Go.Deep
set_option maxRecDepth 100000

theorem addr_add (b off j : Nat) : (⟨b, off, none⟩ : Addr).add j = ⟨b, off + j, none⟩ := by unfold Addr.add; split <;> simp_all
section
variable {H : Type} {enc : TypeId × Value → H} {P : Program}

theorem trodAll_stays {W W' : World} {B : Nat} (hl : laidOutB P = true) (hb : Below W.heap.size W W') (hB : B = W.heap.size) : ∀ {ts : List TypeId} {vs : List Value} {ds : List (DataW H)} {ps : List MemPlace}, (∀ t ∈ ts, P.readableRec t = true ∧ t < P.types.size) →
    DataW.TrodAll enc P W 0 (fun _ => true) true ts vs ds ps → (∀ x ∈ ps, x.block < W.heap.size) → DataW.TrodAll enc P W' 0 (fun b => decide (b < B)) true ts vs ds ps := by
  subst hB
  intro ts
  induction ts with
  | nil =>
    intro vs ds ps _ h _
    cases vs <;> cases ds <;> simp_all [DataW.TrodAll]
  | cons t ts ih =>
    intro vs ds ps ht h hlt
    cases vs with
    | nil => simp [DataW.TrodAll] at h
    | cons v vs =>
      cases ds with
      | nil => simp [DataW.TrodAll] at h
      | cons d ds =>
        obtain ⟨p, q, h1, h2, rfl⟩ := h
        have h0 := ht t (.head _)
        exact ⟨p, q, Below.trod hl h0.1 h0.2 h1 hb (fun x hx => hlt x (List.mem_append_left _ hx)), ih (fun t hm => ht t (.tail _ hm)) h2 (fun x hx => hlt x (List.mem_append_right _ hx)), rfl⟩

/-- A law returned true, and nothing that was there has turned. -/
theorem post_true {f : Func} {s : ChangeSpec} {tb : TypeId} {W W' : World} {args : Array Value} {ds gs : List (DataW H)} {before : List MemPlace} (hl : laidOutB P = true)
    (hts : (f.params.toList.all fun t => P.readableRec t && decide (t < P.types.size)) = true) (hvars : s.vars = [])
    (hW : DataW.Whole enc P f.params.toList s.vars false W args.toList ds gs before) (hsp : s.fn H (ds ++ gs) = { results := [.lit (.bool true)], args := ds })
    (hrt : f.resultTypes = #[tb]) (hub : P.underlying tb = some .bool) (hb : Below W.heap.size W W') :
    s.post enc P f false true false false W args (.bool true) W' := by
  have hlt : ∀ p ∈ before, p.block < W.heap.size := fun p hp => hW.lt p hp
  have hW' := hW
  obtain ⟨p, q, hA, hV, hpq, hfz, hnd⟩ := hW
  rw [hvars] at hV
  obtain ⟨rfl, rfl⟩ := trodVars_none hV
  rw [List.append_nil] at hpq
  subst hpq
  refine ⟨ds, [], before, [], before, [], hW', ?_, ?_, ?_, World.keptBut_mono (fun p hp => ⟨hp, .inr (.inl hp)⟩) (hb.frame (· ∈ before)), fun h => by cases h⟩
  · rw [hsp, hrt]
    exact trodAll_cons_mk (shut_bool hub true) trodAll_mk0
  · rw [hsp]
    refine trodAll_stays hl hb rfl (fun t ht => ?_) hA hlt
    have := List.all_eq_true.1 hts t ht
    simpa using this
  · rw [hsp, hvars]
    rfl

/-- A slice argument's cells. -/
theorem rows_of {W : World} {base : Nat} {t e : TypeId} {v : Value} {d : DataW H} {p : List MemPlace} (ht : P.underlying t = some (.slice e)) (hok : Value.okWide P W .any base t v)
    (h : DataW.Trod enc P W 0 (fun _ => true) true t v d p) : ∃ n, DataW.trod enc P W 0 (fun _ => true) true n t [v] = some (d, p) := by
  obtain ⟨n, h⟩ := h
  obtain ⟨a, l, c, rfl⟩ := okWide_slice ht hok
  exact ⟨n, h⟩
end
section
variable {H : Type} {enc : TypeId × Value → H}
end
end Go.Proofs.YtgpojkofegajeaaGreatDoor
namespace Go.Proofs.YtgpojkofegajeaaGreatDoor
open Go.Joins Go.ChangeShapes Go.WideShapes Go.ChangeAt Go.RowKit Go.Deep
set_option maxRecDepth 100000
section
variable {H : Type} {enc : TypeId × Value → H} {P : Program} {W : World} {base fuel : Nat} {spare : Nat → Bool} {held : Bool} {t : TypeId} {cs : List Value} {x : DataW H × List MemPlace}

theorem op_i64 (ht : P.underlying t = some (.int .i64)) (h : DataW.trod enc P W base spare held fuel t cs = some x) : ∃ n : Int, -9223372036854775808 ≤ n ∧ n ≤ 9223372036854775807 ∧ cs = [.int .i64 n] := by
  obtain ⟨k, e, _, hw⟩ := DataW.trod_int ht h
  have hx : -9223372036854775808 ≤ k ∧ k ≤ 9223372036854775807 := by simpa [Lit.wf, IntKind.min, IntKind.max, IntKind.signed, IntKind.bits] using hw
  exact ⟨k, hx.1, hx.2, e⟩
theorem op_rows {α : Type} (f : α → List Value) (sz : Nat) (hsz : 0 < sz) (hf : ∀ a, (f a).length = sz) {e : TypeId} (ht : P.underlying t = some (.slice e)) (hc : P.cellsOf e = sz)
    (h : DataW.trod enc P W 0 (fun _ => true) true fuel t cs = some x) (Φ : α → Prop) (hΦ : ∀ n cs y, DataW.trod enc P W 0 (fun _ => true) true n e cs = some y → ∃ a, cs = f a ∧ Φ a) :
    ∃ (v : Value) (qs : List α), cs = [v] ∧ Rd W sz v qs.length (qs.flatMap f) ∧ ∀ q ∈ qs, Φ q := by
  rcases open_slice ht h with ⟨h0, _⟩ | ⟨a, len, cap, m, k, D, Pl, h0, _, hl, hm, hmm, _, hx⟩
  · exact ⟨_, [], h0, ⟨_, _, rfl, by simp, Nat.le_refl _, by unfold maxLen; omega, fun h => absurd h (by simp)⟩, fun q hq => by cases hq⟩
  · have hm' : m = cap := by simpa using hmm
    subst hm'
    have hex : ∀ i, i < m → ∃ p : α, Φ p ∧ ∀ j, j < sz → W.cell? ((a.add (i * sz)).add j) = (f p)[j]? := fun i hi => by
      obtain ⟨cs', h1, h2⟩ := hx i hi
      rw [hc] at h1
      obtain ⟨p, rfl, hp⟩ := hΦ _ _ _ h2
      obtain ⟨_, _, h3⟩ := World.cells?_some h1
      exact ⟨p, hp, h3⟩
    rcases Nat.eq_zero_or_pos m with hm0 | hm0
    · subst hm0
      obtain rfl : len = 0 := by omega
      exact ⟨_, [], h0, ⟨_, _, rfl, by simp, Nat.le_refl _, by unfold maxLen; omega, fun h => absurd h (by simp)⟩, fun q hq => by cases hq⟩
    have : Inhabited α := ⟨(hex 0 hm0).choose⟩
    obtain ⟨V, hV⟩ := choose_lt (α := α) hex
    have hqs : ∀ i p, ((List.range len).map V)[i]? = some p → i < len ∧ p = V i := by
      intro i p hp
      have hi : i < len := by
        rcases Nat.lt_or_ge i len with h | h
        · exact h
        · rw [List.getElem?_eq_none (by simpa using h)] at hp; cases hp
      exact ⟨hi, by simpa [hi] using hp.symm⟩
    refine ⟨.slice (some a) len m, (List.range len).map V, h0, ⟨some a, m, by simp, by rw [flat_len f sz hf], by simpa using hl, hm, fun h0 => ?_⟩, fun q hq => ?_⟩
    · obtain ⟨b, off, spot⟩ := a
      have hspot : spot = none := by
        have h1 := (hV 0 hm0).2 0 hsz
        have h2 : (f (V 0))[0]? = some ((f (V 0))[0]'(by rw [hf]; exact hsz)) := List.getElem?_eq_getElem _
        rw [h2] at h1
        simpa [Addr.add] using World.cell?_spot h1
      subst hspot
      refine ⟨b, off, rfl, fun j u hj => ?_⟩
      have hjl : j < len * sz := by
        have := flat_len f sz hf ((List.range len).map V)
        rcases Nat.lt_or_ge j (len * sz) with h | h
        · exact h
        · rw [List.getElem?_eq_none (by rw [this]; simpa using h)] at hj; cases hj
      have hd : j / sz < len := by rw [Nat.div_lt_iff_lt_mul hsz]; exact hjl
      have hr : j % sz < sz := Nat.mod_lt _ hsz
      have ej : j / sz * sz + j % sz = j := by rw [Nat.mul_comm]; exact Nat.div_add_mod j sz
      have hq : ((List.range len).map V)[j / sz]? = some (V (j / sz)) := by simp [hd]
      have h1 := flat_at f sz hf _ (j / sz) _ hq (j % sz) hr
      rw [ej] at h1
      rw [h1] at hj
      have h2 := (hV (j / sz) (by omega)).2 (j % sz) hr
      rw [addr_add, addr_add, Nat.add_assoc, ej, hj] at h2
      exact h2
    · obtain ⟨i, hi, rfl⟩ := List.mem_map.1 hq
      exact (hV i (by have := List.mem_range.1 hi; omega)).1
end
end Go.Proofs.YtgpojkofegajeaaGreatDoor
