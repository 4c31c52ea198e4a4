/-
  lab.Get; the reference's Get, Same, Less, Check.
-/
import Derived.Test.YtebnbbbiobaneaaDoorLChk
import Derived.Laws.StructEq
namespace Go.Proofs.YtebnbbbiobaneaaDoor
open Go.RowKit FreeNew
set_option maxRecDepth 100000
attribute [local go_sem] out

theorem ba_toList_inj (a b : ByteArray) : (a.toList = b.toList) = (a = b) := by
  rw [ByteArray.toList_eq, ByteArray.toList_eq]
  refine propext ⟨fun h => ?_, fun h => by rw [h]⟩
  obtain ⟨⟨x⟩⟩ := a; obtain ⟨⟨y⟩⟩ := b
  simp only at h
  rw [h]
theorem pairSt : Tryd.prog.underlying 75 = some (.struct (Tryd.prog.fieldsOf 75)) := by kernel_rfl
theorem pairHeld : Tryd.prog.stoodInHeld 75 = false := by kernel_rfl
theorem pairGuard : Tryd.prog.eqGuardType Tryd.prog.depth 75 = false := by kernel_rfl
theorem pairFs : (Tryd.prog.fieldsOf 75).toList.map (fun f => (f.name == "_", f.type, f.offset)) = [(false, 9, 0), (false, 9, 1)] := by kernel_rfl
theorem pairNe (a b c d : ByteArray) (w : World) : (binOp .neq 75 (.agg #[.string a, .string b]) (.agg #[.string c, .string d])).run Tryd.prog w = .ok (.bool (!decide ((a, b) = (c, d)))) w := by
  rw [run_neq_struct, run_equalIn_struct w 9999 75 _ _ pairSt pairHeld]
  have h := pairFs
  generalize (Tryd.prog.fieldsOf 75).toList = fs at h ⊢
  obtain ⟨f0, f1, rfl⟩ : ∃ f0 f1, fs = [f0, f1] := by
    rcases fs with _ | ⟨f0, _ | ⟨f1, _ | ⟨f2, r⟩⟩⟩
    · simp at h
    · simp at h
    · exact ⟨_, _, rfl⟩
    · simp at h
  simp only [List.map_cons, List.map_nil, List.cons.injEq, Prod.mk.injEq, and_true] at h
  obtain ⟨⟨n0, t0, o0⟩, ⟨n1, t1, o1⟩⟩ := h
  have n0' : f0.name ≠ "_" := by simpa using n0
  have n1' : f1.name ≠ "_" := by simpa using n1
  simp [Op.eqFields, n0', n1', t0, t1, o0, o1, part, Tryd.isAgg9, go_sem, ba_toList_inj]
  by_cases h1 : a = c <;> by_cases h2 : b = d <;> simp [h1, h2]

def sameB (ps qs : List (ByteArray × ByteArray)) : Bool := decide (ps = qs)

def getL : List Pr → ByteArray → ByteArray × Bool
  | [], _ => (⟨#[]⟩, false)
  | p :: r, k => if p.1 = k then (p.2, true) else getL r k
theorem drop_cons {α : Type} {l : List α} {k : Nat} {x : α} (h : l[k]? = some x) : l.drop k = x :: l.drop (k + 1) := by
  have hk : k < l.length := (List.getElem?_eq_some_iff.1 h).1
  rw [List.drop_eq_getElem_cons hk]
  congr 1
  exact (List.getElem?_eq_some_iff.1 h).2
end Go.Proofs.YtebnbbbiobaneaaDoor
