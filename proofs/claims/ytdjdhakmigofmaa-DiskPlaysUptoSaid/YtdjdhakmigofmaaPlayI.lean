/-
  What stays true from act to act (plainly): the map's files and the document's list.
-/
import Derived.Test.YtdjdhakmigofmaaRD3
import Derived.Test.YtdjdhakmigofmaaDSt
import Derived.Test.YtdjdhakmigofmaaApp2
import Derived.Test.YtdjdhakmigofmaaFreeE
namespace Go.Proofs.Ytdjdhakmigofmaa
open Go.RowKit
set_option maxRecDepth 100000

theorem rel_no {fs L : List FileV} (h : RelF fs (L.map rdatF)) {s : ByteArray} (hf : findF fs s = none) : findI L s = -1 := by
  unfold findI
  rw [(relF_none h s).1 hf]
theorem rel_at {fs L : List FileV} (h : RelF fs (L.map rdatF)) {s : ByteArray} {f0 : FileV} (hf : findF fs s = some f0) : ∃ (i : Nat) (f : FileV), findI L s = i ∧ L[i]? = some f ∧ f.name = s ∧ f.bytes = f0.bytes ∧ f.synced = f0.synced := by
  obtain ⟨i, h1, h2, h3⟩ := relF_some h hf
  rw [List.getElem?_map] at h3
  cases h4 : L[i]? with
  | none => rw [h4] at h3; cases h3
  | some f =>
    rw [h4] at h3
    have e := Option.some.inj h3
    simp only [rdatF, Prod.mk.injEq] at e
    exact ⟨i, f, by unfold findI; rw [h1], h4, e.1, e.2.1, e.2.2⟩
theorem relF_congr {fs fs' : List FileV} {L : List RF} (h : RelF fs L) (e : ∀ t, findF fs' t = findF fs t) : RelF fs' L := ⟨fun s => by rw [e]; exact h.1 s, h.2⟩
structure PInv (k : Nat) (fs L : List FileV) : Prop where
  rel : RelF fs (L.map rdatF)
  len : L.length ≤ k
  bnd : ∀ f ∈ L, f.bytes.length ≤ 200 * k
theorem PInv.nil : PInv 0 [] [] := ⟨relF_nil, Nat.le_refl _, fun _f h => nomatch h⟩
theorem PInv.up {k : Nat} {fs L : List FileV} (h : PInv k fs L) : PInv (k + 1) fs L := ⟨h.rel, Nat.le_succ_of_le h.len, fun f hf => Nat.le_trans (h.bnd f hf) (by omega)⟩
theorem PInv.file {k : Nat} {fs L : List FileV} (h : PInv k fs L) {s : ByteArray} {f0 : FileV} (hf : findF fs s = some f0) : f0.bytes.length ≤ 200 * k := by
  obtain ⟨i, f, _, h2, _, h4, _⟩ := rel_at h.rel hf
  rw [← h4]
  exact h.bnd f (List.mem_of_getElem? h2)
theorem rdat_set (L : List FileV) (i : Nat) (f : FileV) : (L.set i f).map rdatF = (L.map rdatF).set i (rdatF f) := List.map_set
theorem map_at {L : List FileV} {i : Nat} {f : FileV} (h : L[i]? = some f) : (L.map rdatF)[i]? = some (f.name, f.bytes, f.synced) := by rw [List.getElem?_map, h]; rfl
theorem PInv.set {k : Nat} {fs L : List FileV} (h : PInv k fs L) {i : Nat} {f f' : FileV} {g : FileV} (hi : L[i]? = some f) (hn : f.name = g.name) (hn' : f'.name = g.name) (hb : f'.bytes = g.bytes) (hy : f'.synced = g.synced) (hl : f'.bytes.length ≤ 200 * (k + 1)) : PInv (k + 1) (putF fs g) (L.set i f') := by
  refine ⟨?_, ?_, fun x hx => ?_⟩
  · rw [rdat_set]
    have := relF_old h.rel g (i := i) (x := (f.bytes, f.synced)) (by rw [map_at hi, hn])
    rwa [show (g.name, dat g) = rdatF f' by simp [rdatF, dat, hn', hb, hy]] at this
  · rw [List.length_set]; exact Nat.le_succ_of_le h.len
  · rcases List.mem_or_eq_of_mem_set hx with hx | hx
    · exact Nat.le_trans (h.bnd x hx) (by omega)
    · rw [hx]; exact hl
theorem PInv.sync {k : Nat} {fs L : List FileV} (h : PInv k fs L) {s : ByteArray} {f0 f : FileV} {i : Nat} (hf : findF fs s = some f0) (hi : L[i]? = some f) (hn : f.name = s) (hb : f.bytes = f0.bytes) : PInv (k + 1) (putF fs { f0 with synced := f0.bytes.length }) (L.set i { f with synced := f.bytes.length }) :=
  h.set hi (hn.trans (findF_mem hf).2.symm) (hn.trans (findF_mem hf).2.symm) hb (by simp only [hb]) (Nat.le_trans (h.bnd f (List.mem_of_getElem? hi)) (by omega))
theorem PInv.cut {k m : Nat} {fs L : List FileV} (h : PInv k fs L) {s : ByteArray} {f0 f : FileV} {i : Nat} (v v' : Value) (hi : L[i]? = some f) (hn : f.name = s) (hb : f.bytes = f0.bytes) (hy : f.synced = f0.synced) : PInv (k + 1) (putF fs ⟨s, v, f0.bytes.take m, min f0.synced m⟩) (L.set i ⟨f.name, v', f.bytes.take m, min f.synced m⟩) :=
  h.set hi hn hn (by simp only [hb]) (by simp only [hy]) (by
    have := h.bnd f (List.mem_of_getElem? hi)
    simp only [List.length_take]
    omega)
theorem PInv.del {k : Nat} {fs L : List FileV} (h : PInv k fs L) (hnd : (fs.map (·.name)).Nodup) {s : ByteArray} {f : FileV} {i : Nat} (hi : L[i]? = some f) (hn : f.name = s) : PInv k (delF fs s) (L.eraseIdx i) := by
  refine ⟨?_, Nat.le_trans (List.eraseIdx_sublist _ _).length_le h.len, fun x hx => h.bnd x (List.eraseIdx_subset hx)⟩
  rw [map_erase]
  exact relF_del h.rel hnd (x := (f.bytes, f.synced)) (by rw [map_at hi, hn])
theorem addV_len (L : List FileV) (g : FileV) : (addV L g).length = L.length + 1 := by
  have h := congrArg List.length (addV_map L g)
  rwa [List.length_map, addR_len, List.length_map] at h
theorem dropV_sub {M : List FileV} {t : ByteArray} {x : FileV} (h : x ∈ dropV M t) : x ∈ M := by
  unfold dropV at h
  split at h
  · exact h
  · exact List.eraseIdx_subset h
theorem dropV_len (M : List FileV) (t : ByteArray) : (dropV M t).length ≤ M.length := by
  unfold dropV
  split
  · exact Nat.le_refl _
  · exact (List.eraseIdx_sublist _ _).length_le
theorem PInv.rename {k : Nat} {fs L : List FileV} (h : PInv k fs L) (hnd : (fs.map (·.name)).Nodup) {s t : ByteArray} {f0 f : FileV} {i : Nat} (hi : L[i]? = some f) (hn : f.name = s) (hb : f.bytes = f0.bytes) (hy : f.synced = f0.synced) :
    PInv (k + 1) (putF (delF fs s) { f0 with name := t }) (addV (dropV (L.eraseIdx i) t) { f with name := t }) := by
  have h1 := h.del hnd hi hn
  have hil := (List.getElem?_eq_some_iff.1 hi).1
  have hle : (L.eraseIdx i).length + 1 = L.length := by rw [List.length_eraseIdx, if_pos hil]; omega
  have er : rdatF { f with name := t } = (({ f0 with name := t } : FileV).name, dat { f0 with name := t }) := by simp [rdatF, dat, hb, hy]
  refine ⟨?_, ?_, fun x hx => ?_⟩
  · rw [addV_map, er]
    unfold dropV
    split
    · rename_i hx
      exact relF_new h1.rel _ ((relF_none h1.rel t).2 hx)
    · rename_i j hx
      obtain ⟨_, b, y, h2, _⟩ := idxR_some hx
      rw [map_erase]
      exact relF_re h1.rel { f0 with name := t } (i := j) (x := (b, y)) h2
  · rw [addV_len]
    have := dropV_len (L.eraseIdx i) t
    have := h.len
    omega
  · rcases addV_mem.1 hx with rfl | hx
    · exact Nat.le_trans (h.bnd f (List.mem_of_getElem? hi)) (by omega)
    · exact Nat.le_trans (h1.bnd x (dropV_sub hx)) (by omega)
theorem PInv.append {k : Nat} {fs L : List FileV} (h : PInv k fs L) {s : ByteArray} {l : List UInt8} (hl : l.length ≤ 200) {i : Nat} {f : FileV} (v v' : Value) (h1 : findI (withV L s) s = (i : Nat)) (h2 : (withV L s)[i]? = some f) :
    PInv (k + 1) (putF fs ⟨s, v, (hadF fs s).1 ++ l, (hadF fs s).2⟩) ((withV L s).set i ⟨s, v', f.bytes ++ l, f.synced⟩) := by
  obtain ⟨i', f', e1, e2, e3, e4⟩ := withV_at L s
  rw [h1] at e1
  have hii : i = i' := Int.ofNat.inj e1
  subst hii
  rw [h2] at e2
  cases e2
  cases hf : findF fs s with
  | none =>
    have hno := rel_no h.rel hf
    have hw : withV L s = addV L ⟨s, .slice none 0 0, [], 0⟩ := if_pos hno
    have e5 := e4 hno
    have hh : hadF fs s = ([], 0) := by unfold hadF; rw [hf]
    rw [hw] at h2 ⊢
    subst e5
    rw [hh]
    have hR := relF_new h.rel ⟨s, .slice none 0 0, [], 0⟩ hf
    have hm : (addV L ⟨s, .slice none 0 0, [], 0⟩).map rdatF = addR (L.map rdatF) (s, dat ⟨s, .slice none 0 0, [], 0⟩) := addV_map L _
    have hP : PInv (k + 1) (putF fs ⟨s, .slice none 0 0, [], 0⟩) (addV L ⟨s, .slice none 0 0, [], 0⟩) := ⟨by rw [hm]; exact hR, by rw [addV_len]; have := h.len; omega, fun x hx => by
      rcases addV_mem.1 hx with rfl | hx
      · simp
      · exact Nat.le_trans (h.bnd x hx) (by omega)⟩
    have hR2 := relF_old hP.rel ⟨s, v, [] ++ l, 0⟩ (i := i) (x := ([], 0)) (by rw [map_at h2])
    refine ⟨?_, ?_, fun x hx => ?_⟩
    · rw [rdat_set]
      refine relF_congr hR2 fun t => ?_
      simp only [find_putF]
      split <;> rfl
    · rw [List.length_set]; exact hP.len
    · rcases List.mem_or_eq_of_mem_set hx with hx | hx
      · exact hP.bnd x hx
      · rw [hx]; simp only [List.nil_append]; omega
  | some f0 =>
    obtain ⟨j, q, h3, h4, h5, h6, h7⟩ := rel_at h.rel hf
    have hw : withV L s = L := if_neg (by rw [h3]; omega)
    rw [hw] at h1 h2 ⊢
    rw [h3] at h1
    have hij : j = i := Int.ofNat.inj h1
    subst hij
    rw [h4] at h2
    cases h2
    have hh : hadF fs s = (f0.bytes, f0.synced) := by unfold hadF; rw [hf]
    rw [hh]
    exact h.set h4 h5 rfl (by simp only [h6]) (by simp only [h7]) (by
      have := h.bnd f (List.mem_of_getElem? h4)
      simp only [List.length_append]
      omega)
theorem tornB_le (l : List UInt8) (sy keep bit : Nat) : (tornB l sy keep bit).length ≤ l.length := by
  unfold tornB
  split
  · rw [List.length_set, List.length_take]; omega
  · rw [List.length_take]; omega
theorem PInv.crash {k : Nat} {fs fs' L L' : List FileV} (h : PInv k fs L) (hnd : (fs.map (·.name)).Nodup) {ts : List (Nat × Nat)} (hc : Crashed fs ts fs.length fs') (hL : L'.map rdatF = (L.map rdatF).mapIdx (tornR ts)) : PInv (k + 1) fs' L' := by
  have hlen : L'.length = L.length := by have := congrArg List.length hL; simpa using this
  refine ⟨by rw [hL]; exact relF_crash h.rel hnd hc, by rw [hlen]; exact Nat.le_succ_of_le h.len, fun x hx => ?_⟩
  obtain ⟨j, hj⟩ := List.getElem?_of_mem hx
  have h1 := map_at hj
  rw [hL, List.getElem?_mapIdx, List.getElem?_map] at h1
  cases h2 : L[j]? with
  | none => rw [h2] at h1; cases h1
  | some f =>
    rw [h2] at h1
    have e := Option.some.inj h1
    simp only [tornR, rdatF, Prod.mk.injEq] at e
    rw [← e.2.1]
    exact Nat.le_trans (tornB_le _ _ _ _) (Nat.le_trans (h.bnd f (List.mem_of_getElem? h2)) (by omega))

/-- Only the block b may be written, and there a row that reads as XS stays one. -/
def rowReach (b : Option Nat) (e : TypeId) (n : Nat) (XS : List Value) : FreeBy.Reach :=
  ⟨fun w w' => w'.os = w.os ∧ w'.tape = w.tape ∧ w'.output = w.output ∧ w.heap.size ≤ w'.heap.size ∧ (∀ k, k < w.heap.size → some k ≠ b → w'.heap[k]? = w.heap[k]?) ∧ (∀ v, v.ownBlock = b → w.ownsRow 0 e 1 v n XS → w'.ownsRow 0 e 1 v n XS),
    fun _ => ⟨rfl, rfl, rfl, Nat.le_refl _, fun _ _ _ => rfl, fun _ _ h => h⟩, fun _ _ h => h.2.2.2.1⟩
theorem rowReach_below {b : Option Nat} {e : TypeId} {n : Nat} {XS : List Value} {w w' : World} (h : Below w.heap.size w w') : (rowReach b e n XS).rel w w' :=
  ⟨h.os, h.tape, h.output, h.size, fun k hk _ => h.block k hk, fun _ _ ho => owns_below ho h⟩
/-- The row behind the append. -/
def RowNow (B : Nat) (b : Option Nat) (e : TypeId) (n : Nat) (XS : List Value) (v : Value) (w : World) : Prop := w.ownsRow 0 e 1 v n XS ∧ (v.ownBlock = b ∨ ∀ g, v.ownBlock = some g → B ≤ g)
theorem RowNow.stable {B : Nat} {b : Option Nat} {e : TypeId} {n : Nat} {XS : List Value} (hb : ∀ g, b = some g → g < B) (v : Value) (w w' : World) (h : RowNow B b e n XS v w) (hr : (rowReach b e n XS).rel w w') : RowNow B b e n XS v w' := by
  refine ⟨?_, h.2⟩
  rcases h.2 with h2 | h2
  · exact hr.2.2.2.2.2 v h2 h.1
  · obtain ⟨hl, ho⟩ := h.1
    refine ⟨hl, ho.imp id ?_⟩
    rintro ⟨g, cap, cur, rfl, h3, h4, h5⟩
    refine ⟨g, cap, cur, rfl, h3, ?_, h5⟩
    rw [hr.2.2.2.2.1 g (Array.getElem?_eq_some_iff.1 h4).1 (fun e => by have := hb g e.symm; have := h2 g rfl; omega)]
    exact h4
/-- The append of one element. -/
theorem run_append_row {P : Program} {w : World} (t ty e : TypeId) (i : TypeInfo) (z : Value) (bytes : Nat) (ht : P.underlying t = some (.slice e)) (hi : P.info? e = some i) (hz : i.zero = some z)
    (hsize : i.size = 1) (hby : i.bytes = bytes) (hzs : z.cells.size = 1) (B : Nat) (hB : B ≤ w.heap.size)
    (v : Value) (n : Nat) (xs : List Value) (hown : w.ownsRow 0 e 1 v n xs) (b : Nat) (u : Value) (hu : w.cell? ⟨b, 0, none⟩ = some u) (h1 : u.oneCell' = true)
    (h63 : n + 1 ≤ maxLen) (hbytes : (n + 1) * bytes ≤ 140737488355328) :
    ∃ v' w', (Builtin.append_ #[t, t] ty #[v, .slice (some ⟨b, 0, none⟩) 1 1]).run P w = .ok v' w' ∧ RowNow B v.ownBlock e (n + 1) (xs ++ [u]) v' w' ∧ (rowReach v.ownBlock e (n + 1) (xs ++ [u])).rel w w' ∧ w'.ownsRow 0 e 1 v n xs := by
  have ad : ∀ b j : Nat, (⟨b, 0, none⟩ : Addr).add j = ⟨b, j, none⟩ := fun b j => by unfold Addr.add; split <;> simp_all
  have hnews : ∀ j q, [u][j]? = some q → w.cell? ⟨b, j, none⟩ = some q := fun j q hj => by
    cases j with
    | zero => simp only [List.getElem?_cons_zero, Option.some.injEq] at hj; subst hj; exact hu
    | succ j => simp at hj
  have hnews2 : ∀ j q, [u][j]? = some q → w.cell? ((⟨b, 0, none⟩ : Addr).add j) = some q := fun j q hj => by rw [ad]; exact hnews j q hj
  have hone : ∀ q ∈ [u], q.oneCell' = true := fun q hq => by rw [List.mem_singleton.1 hq]; exact h1
  rcases id hown.2 with ⟨rfl, rfl⟩ | ⟨g, cap, cur, rfl, _, hh, h2, h3, h4, h5⟩
  · have hx : xs = [] := List.eq_nil_of_length_eq_zero (by simpa using hown.1)
    subst hx
    obtain ⟨v', w', r1, r2, r3, _, _⟩ := run_append_own_at (P := P) w w.heap.size t ty e i z 1 bytes ht hi hz hsize hby hzs (by decide) (.slice none 0 0) 0 [] (World.ownsRow_nil _ _ _ _) ⟨b, 0, none⟩ 1 1 [u] (by simp) hnews2 hone h63 hbytes (Nat.le_refl _)
    have hb : Below w.heap.size w w' := grown_none_below' r3
    exact ⟨v', w', r1, ⟨owns_base r2 fun _ _ => Nat.zero_le _, .inr fun g hg => Nat.le_trans hB (owns_ge r2 g hg)⟩, rowReach_below hb, World.ownsRow_nil _ _ _ _⟩
  · by_cases hr : n + 1 ≤ cap
    · obtain ⟨v', w', r1, r2, r3, _, _⟩ := run_append_own_at (P := P) w 0 t ty e i z 1 bytes ht hi hz hsize hby hzs (by decide) _ n xs hown ⟨b, 0, none⟩ 1 1 [u] (by simp) hnews2 hone h63 hbytes (Nat.zero_le _)
      have hr2 := run_append_room_cells (P := P) (ty := ty) w t e i ht hi g 0 n cap ⟨b, 0, none⟩ 1 1 [u] (by rw [hsize]; rfl) hnews2 hone hr (fun j hj => by
        rw [Lib.cell_of_heap hh, hsize, Nat.mul_one, Nat.zero_add]
        have : n + j < cur.size := by simp at hj; omega
        simp [this]) (fun j hj => Lib.frozen_of_heap hh _)
      rw [r1] at hr2
      injection hr2 with e1 _
      subst e1
      refine ⟨_, w', r1, ⟨r2, .inl rfl⟩, ⟨r3.os, r3.tape, r3.output, r3.size, fun k hk hne => r3.block k hk hne, fun v2 hv2 ho2 => ?_⟩, ?_⟩
      · rcases ho2.2 with ⟨rfl, _⟩ | ⟨g2, cap2, cur2, rfl, _, hh2, _, _, h42, _⟩
        · cases hv2
        · have : g2 = g := by
            have := hv2
            simp only [Value.ownBlock, Option.some.injEq] at this
            exact this
          subst this
          rw [hh] at hh2
          injection hh2 with hh2
          injection hh2 with hh2
          subst hh2
          have : cap2 = cap := by omega
          subst this
          exact r2
      · obtain ⟨_, ho⟩ := r2
        rcases ho with ⟨he, _⟩ | ⟨g3, cap3, cur3, he, _, hh3, _, _, h43, h53⟩
        · cases he
        cases he
        refine ⟨hown.1, .inr ⟨g, cap, cur3, rfl, Nat.zero_le _, hh3, h2, h3, h43, ?_⟩⟩
        have hxl : xs.length = n := by simpa using hown.1
        have := congrArg (List.take n) h53
        rw [List.take_take, Nat.min_eq_left (by omega)] at this
        rw [Nat.mul_one, this, List.take_left' hxl]
    · obtain ⟨v', w', r1, r2, r3⟩ := run_append_arg_grows (P := P) w t ty e i z 1 bytes ht hi hz hsize hby hzs (by decide) ⟨g, 0, none⟩ n cap xs hown.1 (fun j u hu => by
        rw [ad, Lib.cell_of_heap hh]
        rw [← h5, List.getElem?_take] at hu
        split at hu
        · simpa using hu
        · cases hu) ⟨b, 0, none⟩ 1 1 [u] (by simp) hnews2 (by omega) h63 hbytes
      have hb : Below w.heap.size w w' := grown_none_below' r3
      exact ⟨v', w', r1, ⟨owns_base r2 fun _ _ => Nat.zero_le _, .inr fun g hg => Nat.le_trans hB (owns_ge r2 g hg)⟩, rowReach_below hb, owns_below hown hb⟩
theorem wp_append_row {P : Program} {o : Oper} {a : Act} {w : World} {K : Act → World → Prop} {Q : Exit → Act → World → Prop} (s x : Operand) (t : TypeId)
    (ho : o.op = .call { callee := .builtin .append, args := #[s, x], argTypes := #[t, t] })
    (e : TypeId) (i : TypeInfo) (z : Value) (bytes : Nat) (ht : P.underlying t = some (.slice e)) (hi : P.info? e = some i) (hz : i.zero = some z)
    (hsize : i.size = 1) (hby : i.bytes = bytes) (hzs : z.cells.size = 1) (B : Nat) (hB : B ≤ w.heap.size)
    (v : Value) (n : Nat) (xs : List Value) (hs : a.eval s = v) (hown : w.ownsRow 0 e 1 v n xs) (b : Nat) (u : Value) (hx : a.eval x = .slice (some ⟨b, 0, none⟩) 1 1) (hu : w.cell? ⟨b, 0, none⟩ = some u) (h1 : u.oneCell' = true)
    (h63 : n + 1 ≤ maxLen) (hbytes : (n + 1) * bytes ≤ 140737488355328)
    (h : ∀ v' w', RowNow B v.ownBlock e (n + 1) (xs ++ [u]) v' w' → (rowReach v.ownBlock e (n + 1) (xs ++ [u])).rel w w' → w'.ownsRow 0 e 1 v n xs → K (a.put o.dst v') w') : o.wp P a w K Q := by
  obtain ⟨v', w', hrun, h2, h3, h4⟩ := run_append_row (P := P) t o.type e i z bytes ht hi hz hsize hby hzs B hB v n xs hown b u hu h1 h63 hbytes
  unfold Oper.wp execOp
  simp only [ho, resolve, invoke, builtin, Sem.run_bind, Sem.run_pure, Result.andThen_ok, List.map_toArray, List.map_cons, List.map_nil, hs, hx, hrun]
  exact h v' w' h2 h3 h4
/-- A row part turned by such an append. -/
theorem Upd.rowNow {S : List Nat} {w0 w w' : World} {C : List Chunk} {e : TypeId} {n n' : Nat} {v v' : Value} {xs xs' : List Value} (h : Upd S w0 C w) (i : Nat) (hi : C[i]? = some (chRow e 1 v n xs)) (hos : w'.os = w.os) (htp : w'.tape = w.tape) (hout : w'.output = w.output) (hsz : w.heap.size ≤ w'.heap.size)
    (hbl : ∀ k, k < w.heap.size → some k ≠ v.ownBlock → w'.heap[k]? = w.heap[k]?) (hr : RowNow w.heap.size v.ownBlock e n' xs' v' w') : Upd S w0 (chRow e 1 v' n' xs' :: C.eraseIdx i) w' := by
  have : Upd (chRow e 1 v n xs).fp w [chRow e 1 v' n' xs'] w' :=
    ⟨hos, htp, hout, hsz, fun k hk hne => hbl k hk (fun he => hne (by simp [chRow, ← he])), fun d hd => by rw [List.mem_singleton.1 hd]; exact hr.1, fun d hd b hb => by
      rw [List.mem_singleton.1 hd] at hb
      rcases hr.2 with h2 | h2
      · exact .inl (by simpa [chRow, h2] using hb)
      · exact .inr (h2 b (chRow_fp.1 hb)), by simp⟩
  exact h.turn i hi this
/-- What holds while such a region runs, from the world W on. -/
structure RowInv (W : World) (e : TypeId) (v : Value) (n : Nat) (xs : List Value) (w : World) : Prop where
  os : w.os = W.os
  tape : w.tape = W.tape
  output : w.output = W.output
  size : W.heap.size ≤ w.heap.size
  block : ∀ k, k < W.heap.size → some k ≠ v.ownBlock → w.heap[k]? = W.heap[k]?
  own : w.ownsRow 0 e 1 v n xs
theorem RowInv.start {W : World} {e : TypeId} {v : Value} {n : Nat} {xs : List Value} (h : W.ownsRow 0 e 1 v n xs) : RowInv W e v n xs W.drew :=
  ⟨rfl, rfl, rfl, Nat.le_refl _, fun _ _ _ => rfl, h⟩
theorem RowInv.step {W w w' : World} {e : TypeId} {v : Value} {n : Nat} {xs : List Value} (h : RowInv W e v n xs w) (hb : Below w.heap.size w w') : RowInv W e v n xs w' :=
  ⟨hb.os.trans h.os, hb.tape.trans h.tape, hb.output.trans h.output, Nat.le_trans h.size hb.size, fun k hk hne => (hb.block k (Nat.lt_of_lt_of_le hk h.size)).trans (h.block k hk hne), owns_below h.own hb⟩
theorem RowInv.reach {W w w' : World} {e : TypeId} {v : Value} {n m : Nat} {xs XS : List Value} (h : RowInv W e v n xs w) (hr : (rowReach v.ownBlock e m XS).rel w w') (ho : w'.ownsRow 0 e 1 v n xs) : RowInv W e v n xs w' :=
  ⟨hr.1.trans h.os, hr.2.1.trans h.tape, hr.2.2.1.trans h.output, Nat.le_trans h.size hr.2.2.2.1, fun k hk hne => (hr.2.2.2.2.1 k (Nat.lt_of_lt_of_le hk h.size) hne).trans (h.block k hk hne), ho⟩
theorem RowInv.cell {W w : World} {e : TypeId} {v : Value} {n : Nat} {xs : List Value} (h : RowInv W e v n xs w) {p : Addr} {u : Value} (hp : W.cell? p = some u) (hne : some p.block ≠ v.ownBlock) : w.cell? p = some u := by
  rw [World.cell?_of_block (h.block p.block (World.block_lt_of_cell? W _ hp) hne)]; exact hp
theorem NewSl.stableR {B n : Nat} {cs : Array Value} {t e : TypeId} {b : Option Nat} {m : Nat} {XS : List Value} (hb : ∀ g, b = some g → g < B) (v : Value) (w w' : World) (h : NewSl B n cs t v w) (hr : (rowReach b e m XS).rel w w') : NewSl B n cs t v w' := by
  obtain ⟨q, h1, h2, h3⟩ := h
  refine ⟨q, h1, h2, ?_⟩
  have : w'.heap[q]? = w.heap[q]? := hr.2.2.2.2.1 q h3.lt (fun e => by have := hb q e.symm; omega)
  exact this.trans h3
end Go.Proofs.Ytdjdhakmigofmaa
