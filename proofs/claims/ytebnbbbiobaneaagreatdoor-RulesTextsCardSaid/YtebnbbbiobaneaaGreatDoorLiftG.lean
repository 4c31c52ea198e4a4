/-
  Lifting: a law that returns true and leaves all old memory alone; arguments opened as lists.
-/
import Derived.Test.YtebnbbbiobaneaaGreatDoorMem
import Derived.ProofKit
import Derived.OpenShut
import Derived.Lib.SmallJoins
import Derived.ChangeSame
import Derived.JoinedOf
import Derived.JoinedAt
import Derived.Carry
import Derived.Deep.Slices
namespace Go.Proofs.YtebnbbbiobaneaaGreatDoor
open Go.Joins Go.ChangeShapes Go.WideShapes Go.ChangeAt Go.RowKit Go.Deep
set_option maxRecDepth 100000

theorem addr_add (b off j : Nat) : (⟨b, off, none⟩ : Addr).add j = ⟨b, off + j, none⟩ := by unfold Addr.add; split <;> simp_all
section
variable {H : Type} {enc : TypeId × Value → H} {P : Program}

theorem trodAll_stays {W W' : World} {B : Nat} (hl : laidOutB P = true) (hb : Below W.heap.size W W') (hB : B = W.heap.size) : ∀ {ts : List TypeId} {vs : List Value} {ds : List (DataW H)} {ps : List MemPlace}, (∀ t ∈ ts, P.readableRec t = true ∧ t < P.types.size) →
    DataW.TrodAll enc P W 0 (fun _ => true) true ts vs ds ps → (∀ x ∈ ps, x.block < W.heap.size) → DataW.TrodAll enc P W' 0 (fun b => decide (b < B)) true ts vs ds ps := by
  subst hB
  intro ts
  induction ts with
  | nil =>
    intro vs ds ps _ h _
    cases vs <;> cases ds <;> simp_all [DataW.TrodAll]
  | cons t ts ih =>
    intro vs ds ps ht h hlt
    cases vs with
    | nil => simp [DataW.TrodAll] at h
    | cons v vs =>
      cases ds with
      | nil => simp [DataW.TrodAll] at h
      | cons d ds =>
        obtain ⟨p, q, h1, h2, rfl⟩ := h
        have h0 := ht t (.head _)
        exact ⟨p, q, Below.trod hl h0.1 h0.2 h1 hb (fun x hx => hlt x (List.mem_append_left _ hx)), ih (fun t hm => ht t (.tail _ hm)) h2 (fun x hx => hlt x (List.mem_append_right _ hx)), rfl⟩

/-- A law returned true, and nothing that was there has turned. -/
theorem post_true {f : Func} {s : ChangeSpec} {tb : TypeId} {W W' : World} {args : Array Value} {ds gs : List (DataW H)} {before : List MemPlace} (hl : laidOutB P = true)
    (hts : (f.params.toList.all fun t => P.readableRec t && decide (t < P.types.size)) = true) (hvars : s.vars = [])
    (hW : DataW.Whole enc P f.params.toList s.vars false W args.toList ds gs before) (hsp : s.fn H (ds ++ gs) = { results := [.lit (.bool true)], args := ds })
    (hrt : f.resultTypes = #[tb]) (hub : P.underlying tb = some .bool) (hb : Below W.heap.size W W') :
    s.post enc P f false true false false W args (.bool true) W' := by
  have hlt : ∀ p ∈ before, p.block < W.heap.size := fun p hp => hW.lt p hp
  have hW' := hW
  obtain ⟨p, q, hA, hV, hpq, hfz, hnd⟩ := hW
  rw [hvars] at hV
  obtain ⟨rfl, rfl⟩ := trodVars_none hV
  rw [List.append_nil] at hpq
  subst hpq
  refine ⟨ds, [], before, [], before, [], hW', ?_, ?_, ?_, World.keptBut_mono (fun p hp => ⟨hp, .inr (.inl hp)⟩) (hb.frame (· ∈ before)), fun h => by cases h⟩
  · rw [hsp, hrt]
    exact trodAll_cons_mk (shut_bool hub true) trodAll_mk0
  · rw [hsp]
    refine trodAll_stays hl hb rfl (fun t ht => ?_) hA hlt
    have := List.all_eq_true.1 hts t ht
    simpa using this
  · rw [hsp, hvars]
    rfl

/-- A slice argument's cells. -/
theorem rows_of {W : World} {base : Nat} {t e : TypeId} {v : Value} {d : DataW H} {p : List MemPlace} (ht : P.underlying t = some (.slice e)) (hok : Value.okWide P W .any base t v)
    (h : DataW.Trod enc P W 0 (fun _ => true) true t v d p) : ∃ n, DataW.trod enc P W 0 (fun _ => true) true n t [v] = some (d, p) := by
  obtain ⟨n, h⟩ := h
  obtain ⟨a, l, c, rfl⟩ := okWide_slice ht hok
  exact ⟨n, h⟩
/-- A slice whose elements are of one cell, opened as a list. -/
theorem open_list {α : Type} {W : World} {t e : TypeId} {fuel : Nat} {v : Value} {x : DataW H × List MemPlace} (ht : P.underlying t = some (.slice e)) (hc : P.cellsOf e = 1)
    (h : DataW.trod enc P W 0 (fun _ => true) true fuel t [v] = some x) (Φ : Value → α → Prop)
    (hΦ : ∀ n u y, DataW.trod enc P W 0 (fun _ => true) true n e [u] = some y → ∃ a, Φ u a) :
    ∃ qs : List (Value × α), Rd W 1 v qs.length (qs.map (·.1)) ∧ ∀ q ∈ qs, Φ q.1 q.2 := by
  rcases open_slice1 ht hc h with ⟨h0, _⟩ | ⟨a, len, cap, m, n, V, D, Pl, h0, _, hlen, hcap, hm, _, hV⟩
  · obtain rfl : v = .slice none 0 0 := by simpa using h0
    exact ⟨[], ⟨_, _, rfl, rfl, Nat.le_refl _, by unfold maxLen; omega, fun h => absurd h (by simp)⟩, fun q hq => by cases hq⟩
  · obtain rfl : v = .slice (some a) len cap := by simpa using h0
    have hm' : m = cap := by simpa using hm
    subst hm'
    have hex : ∀ i, i < m → ∃ y, Φ (V i) y := fun i hi => hΦ _ _ _ (hV i hi).2
    have key : ∀ k, k ≤ len → ∃ qs : List (Value × α), qs.length = k ∧ (∀ q ∈ qs, Φ q.1 q.2) ∧ ∀ j u, (qs.map (·.1))[j]? = some u → j < k ∧ u = V j := by
      intro k
      induction k with
      | zero => exact fun _ => ⟨[], rfl, (fun q hq => by cases hq), (fun j u hj => by simp at hj)⟩
      | succ k ih =>
        intro hk
        obtain ⟨qs, h1, h2, h3⟩ := ih (by omega)
        obtain ⟨y, hy⟩ := hex k (by omega)
        refine ⟨qs ++ [(V k, y)], by simp [h1], fun q hq => ?_, fun j u hj => ?_⟩
        · rcases List.mem_append.1 hq with h | h
          · exact h2 q h
          · rw [List.mem_singleton] at h; subst h; exact hy
        · rw [List.map_append] at hj
          by_cases hjk : j < k
          · rw [List.getElem?_append_left (by simpa [h1] using hjk)] at hj
            exact ⟨by omega, (h3 j u hj).2⟩
          · rw [List.getElem?_append_right (by simp [h1]; omega)] at hj
            simp only [List.map_cons, List.map_nil, List.length_map, h1] at hj
            have : j = k := by
              rcases Nat.lt_or_ge (j - k) 1 with h | h
              · omega
              · rw [List.getElem?_eq_none (by simpa using h)] at hj; cases hj
            subst this
            simp at hj
            exact ⟨by omega, hj.symm⟩
    obtain ⟨qs, h1, h2, h3⟩ := key len (Nat.le_refl _)
    subst h1
    refine ⟨qs, ⟨_, _, rfl, by simp, by omega, hcap, fun h0 => ?_⟩, h2⟩
    obtain ⟨b, off, spot⟩ := a
    have hspot : spot = none := by simpa [Addr.add] using World.cell?_spot (hV 0 (by omega)).1
    subst hspot
    refine ⟨b, off, rfl, fun j u hj => ?_⟩
    obtain ⟨hj1, rfl⟩ := h3 j u hj
    have hc := (hV j (by omega)).1
    rw [addr_add] at hc
    exact hc
end
section
variable {H : Type} {enc : TypeId × Value → H}
/-- A byte. -/
theorem open_byte {W : World} {base : Nat} {spare : Nat → Bool} {held : Bool} {n : Nat} {v : Value} {y : DataW H × List MemPlace} (h : DataW.trod enc Tryz.prog W base spare held n 5 [v] = some y) : ∃ c : UInt8, v = .int .u8 c.toNat := by
  obtain ⟨k, e, rfl, hw⟩ := DataW.trod_int Tryz.underlying5 h
  obtain rfl : v = .int .u8 k := by simpa using e
  have hx : 0 ≤ k ∧ k ≤ 255 := by simpa [Lit.wf, IntKind.min, IntKind.max, IntKind.signed, IntKind.bits] using hw
  obtain ⟨m, rfl⟩ := Int.eq_ofNat_of_zero_le hx.1
  exact ⟨UInt8.ofNat m, by
    have : (UInt8.ofNat m).toNat = m := by rw [UInt8.toNat_ofNat']; omega
    rw [this]⟩
theorem cells1 : Tryz.prog.cellsOf 5 = 1 := by kernel_rfl
/-- Bytes. -/
theorem open_bytes {W : World} {n : Nat} {v : Value} {x : DataW H × List MemPlace} (h : DataW.trod enc Tryz.prog W 0 (fun _ => true) true n 85 [v] = some x) : ∃ l : List UInt8, Rd W 1 v l.length (l.map fun c => .int .u8 c.toNat) := by
  obtain ⟨qs, h1, h2⟩ := open_list Tryz.underlying85 cells1 h (fun u (c : UInt8) => u = .int .u8 c.toNat) (fun _ _ _ h => open_byte h)
  refine ⟨qs.map (·.2), ?_⟩
  have e : (qs.map (·.2)).map (fun c : UInt8 => Value.int .u8 c.toNat) = qs.map (·.1) := by
    rw [List.map_map]
    exact List.map_congr_left fun q hq => (h2 q hq).symm
  rw [e, List.length_map]
  exact h1
end
end Go.Proofs.YtebnbbbiobaneaaGreatDoor
