/-
  A file that is gone: delete on a disk's map.
-/
import Derived.Test.YtdjdhakmigofmaaDiskC
import Derived.Test.YtdjdhakmigofmaaPlayL
namespace Go.Proofs.Ytdjdhakmigofmaa
open Go.RowKit FreeNew
set_option maxRecDepth 100000
attribute [local go_sem] out

theorem map_erase {α β : Type} (f : α → β) : ∀ (l : List α) (j : Nat), (l.eraseIdx j).map f = (l.map f).eraseIdx j := by
  intro l
  induction l with
  | nil => intro j; simp
  | cons a r ih =>
    intro j
    cases j with
    | zero => rfl
    | succ j => simp only [List.eraseIdx_cons_succ, List.map_cons, ih]
theorem delF_mem {fs : List FileV} {s : ByteArray} {f : FileV} (h : f ∈ delF fs s) : f ∈ fs := by
  induction fs with
  | nil => cases h
  | cons g r ih =>
    simp only [delF] at h
    split at h
    · exact .tail _ h
    · rcases List.mem_cons.1 h with rfl | h
      · exact .head _
      · exact .tail _ (ih h)
theorem findNow_del (s : ByteArray) : ∀ (es : List MapEntry) (fs : List FileV) (i : Nat), es.map (fun e => (e.key, e.val)) = fs.map kvOf →
    (Instr.findNow .string (.string s) es i = some none ∧ delF fs s = fs) ∨
    ∃ v j, Instr.findNow .string (.string s) es i = some (some (i + j, v)) ∧ delF fs s = fs.eraseIdx j := by
  intro es
  induction es with
  | nil =>
    intro fs i h
    cases fs with
    | nil => exact .inl ⟨rfl, rfl⟩
    | cons f r => cases h
  | cons e es ih =>
    intro fs i h
    cases fs with
    | nil => cases h
    | cons f r =>
      simp only [List.map_cons, List.cons.injEq] at h
      obtain ⟨h1, h2⟩ := h
      obtain ⟨hk, hv⟩ := Prod.mk.injEq .. ▸ h1
      simp only [Instr.findNow, hk, hv, Instr.sameNow, delF]
      by_cases hs : s = f.name
      · right
        refine ⟨.agg #[f.val, .int .i64 f.synced], 0, ?_, by rw [if_pos hs]; rfl⟩
        have hb : (s == f.name) = true := by rw [ba_dec]; simp [hs]
        simp only [hb, Nat.add_zero]
      · have hb : (s == f.name) = false := by rw [ba_dec]; simp [hs]
        simp only [hb, if_neg hs]
        rcases ih r (i + 1) h2 with ⟨b, c⟩ | ⟨v, j, d, e'⟩
        · exact .inl ⟨b, by rw [c]⟩
        · exact .inr ⟨v, j + 1, by rw [d]; congr 3; omega, by rw [e']; rfl⟩
theorem del_run {w : World} {m clock : Nat} {es : Array MapEntry} {fs : List FileV} (hm : w.heap[m]? = some (.map es clock)) (he : es.toList.map (fun e => (e.key, e.val)) = fs.map kvOf) (hst : ∃ es2 c2, w.heap[m]? = some (.map es2 c2) ∧ MapKept.Stamped es2 c2) (s : ByteArray) (ty : TypeId) :
    ∃ es', (Builtin.delete_ #[74, 9] ty #[.map (some m), .string s]).run Try.prog w = .ok (.tuple #[]) (setMap w m (.map es' clock)) ∧ es'.toList.map (fun e => (e.key, e.val)) = (delF fs s).map kvOf ∧ MapKept.Stamped es' clock := by
  obtain ⟨es2, c2, hst1, hst⟩ := hst
  rw [hm] at hst1
  injection hst1 with hst1
  injection hst1 with e1 e2
  subst e1 e2
  have hu := Try.underlying74
  have hs := Try.underlying9
  rcases findNow_del s es.toList fs 0 he with ⟨b, c⟩ | ⟨v, j, b, c⟩
  · have hf := MapKept.run_findKey (w := w) hs b
    refine ⟨es, ?_, by rw [c]; exact he, hst⟩
    simp [Builtin.delete_, run_underlying hu, MapKept.run_getObj_map hm, MapKept.run_checkKey hs (k := .string s) trivial, hf, MapKept.run_setObj_map _ hm, Result.andThen, setMap]
  · rw [Nat.zero_add] at b
    have hf := MapKept.run_findKey (w := w) hs b
    refine ⟨es.eraseIdxIfInBounds j, ?_, ?_, MapKept.stamped_erase hst j⟩
    · simp [Builtin.delete_, run_underlying hu, MapKept.run_getObj_map hm, MapKept.run_checkKey hs (k := .string s) trivial, hf, MapKept.run_setObj_map _ hm, Result.andThen, setMap]
    · rw [c]
      have h1 : (es.eraseIdxIfInBounds j).toList = es.toList.eraseIdx j := by simp
      rw [h1, map_erase, he, map_erase]
theorem DiskAt.del {w w'' : World} {d m : Nat} {fs : List FileV} (s : ByteArray) (h : DiskAt w d m fs) (hM : Mod [d, m] w w'') (hb : ∃ a b : Int, Blk w'' d #[.map (some m), .int .i64 a, .int .i64 b] 81)
    (hm : ∃ es clock, w''.heap[m]? = some (.map es clock) ∧ es.toList.map (fun e => (e.key, e.val)) = (delF fs s).map kvOf ∧ MapKept.Stamped es clock) : DiskAt w'' d m (delF fs s) := by
  obtain ⟨es, c, h1, h2, h3⟩ := hm
  exact ⟨hb, ⟨es, c, h1, h2⟩, fun f hf => ⟨h.rd hM (h.good f (delF_mem hf)).1, (h.good f (delF_mem hf)).2⟩, ⟨es, c, h1, h3⟩⟩
end Go.Proofs.Ytdjdhakmigofmaa
