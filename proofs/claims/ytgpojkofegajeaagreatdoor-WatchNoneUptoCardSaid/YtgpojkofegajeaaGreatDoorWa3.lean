/-
  The maps of a Watch: how their keys stand.
-/
import Derived.Test.YtgpojkofegajeaaGreatDoorMk
namespace Go.Proofs.YtgpojkofegajeaaGreatDoor
open Go.RowKit Go.WideMaps
set_option maxRecDepth 100000

theorem lit2 {P : Program} {k t0 t1 : TypeId} {fs : Array Field} {a b : Value} (hu : P.underlying k = some (.struct fs)) (hkt : P.keyType k = true) (hc : P.cellsOf k = 2)
    (hfs : fs.toList.map (fun f => (f.name == "_", f.type, f.offset)) = [(false, t0, 0), (false, t1, 1)]) (hsz : 0 < P.types.size) (c0 : P.cellsOf t0 = 1) (c1 : P.cellsOf t1 = 1)
    (h0 : ∀ n, ∃ l, P.keyLits (n + 1) t0 [a] = some l) (h1 : ∀ n, ∃ l, P.keyLits (n + 1) t1 [b] = some l) : ∃ l, keyOf P k (.agg #[a, b]) = some l := by
  obtain ⟨n, hn⟩ : ∃ n, P.types.size = n + 1 := ⟨P.types.size - 1, by omega⟩
  obtain ⟨l0, e0⟩ := h0 n
  obtain ⟨l1, e1⟩ := h1 n
  obtain ⟨fl⟩ := fs
  obtain ⟨f0, f1, rfl⟩ : ∃ f0 f1, fl = [f0, f1] := by
    rcases fl with _ | ⟨f0, _ | ⟨f1, _ | ⟨fx, r⟩⟩⟩
    · simp at hfs
    · simp at hfs
    · exact ⟨_, _, rfl⟩
    · simp at hfs
  simp only [List.map_cons, List.map_nil, List.cons.injEq, Prod.mk.injEq, and_true] at hfs
  obtain ⟨⟨n0, t0', o0⟩, ⟨n1, t1', o1⟩⟩ := hfs
  have n0' : (f0.name != "_") = true := by simp [bne, n0]
  have n1' : (f1.name != "_") = true := by simp [bne, n1]
  have key : P.keyLits (P.types.size + 1) k [a, b] = some [l0, l1].flatten := by
    rw [hn]
    unfold Program.keyLits
    rw [hu]
    simp only [hc, List.length_cons, List.length_nil, Nat.reduceAdd, true_and]
    rw [if_pos (by simp [n0', n1'])]
    simp only [List.mapM_cons, List.mapM_nil, t0', t1', o0, o1, c0, c1, List.drop_zero, List.drop_succ_cons, List.take_succ_cons, List.take_zero, e0, e1]
    rfl
  refine ⟨.string (keyBytes [l0, l1].flatten), ?_⟩
  unfold keyOf
  rw [hu]
  simp only [hkt, Bool.true_and, Value.formed, hu, hc, Value.cells]
  rw [if_pos (by rfl), key]
  rfl
theorem lit_str {P : Program} {t : TypeId} (hu : P.underlying t = some .string) (s : ByteArray) (hs : s.size ≤ maxLen) (n : Nat) : ∃ l, P.keyLits (n + 1) t [.string s] = some l :=
  ⟨[.string s.data.toList], by unfold Program.keyLits; rw [hu]; simp [hs]⟩
theorem lit_int {P : Program} {t : TypeId} {q : IntKind} (hu : P.underlying t = some (.int q)) (i : Int) (hs : (Lit.int q i).wf = true) (n : Nat) : ∃ l, P.keyLits (n + 1) t [.int q i] = some l :=
  ⟨[.int q i], by unfold Program.keyLits; rw [hu]; simp [hs]⟩
/-- A series' key. -/
def keyE : KeyEnc 96 (ByteArray × ByteArray) where
  enc := fun a => .agg #[.string a.1, .string a.2]
  ok := fun a => a.1.size ≤ maxLen ∧ a.2.size ≤ maxLen
  law := deep_law (m := 2) (by omega) (by kernel_rfl) (by kernel_rfl) (by kernel_rfl)
  lit := fun a ha => lit2 (fs := Tryz.prog.fieldsOf 96) (t0 := 9) (t1 := 9) (by kernel_rfl) (by kernel_rfl) (by kernel_rfl) (by kernel_rfl) (by decide) (by kernel_rfl) (by kernel_rfl) (lit_str (by kernel_rfl) a.1 ha.1) (lit_str (by kernel_rfl) a.2 ha.2)
  inj := fun a b h => by
    have h := congrArg Value.cells h
    simp only [Value.cells, Array.mk.injEq, List.cons.injEq, Value.string.injEq, and_true] at h
    exact Prod.ext h.1 h.2
/-- An alert's key. -/
def alertE : KeyEnc 88 (Int × ByteArray) where
  enc := fun a => .agg #[.int .i64 a.1, .string a.2]
  ok := fun a => (Lit.int .i64 a.1).wf = true ∧ a.2.size ≤ maxLen
  law := deep_law (m := 2) (by omega) (by kernel_rfl) (by kernel_rfl) (by kernel_rfl)
  lit := fun a ha => lit2 (fs := Tryz.prog.fieldsOf 88) (t0 := 3) (t1 := 9) (by kernel_rfl) (by kernel_rfl) (by kernel_rfl) (by kernel_rfl) (by decide) (by kernel_rfl) (by kernel_rfl) (lit_int (by kernel_rfl) a.1 ha.1) (lit_str (by kernel_rfl) a.2 ha.2)
  inj := fun a b h => by
    have h := congrArg Value.cells h
    simp only [Value.cells, Array.mk.injEq, List.cons.injEq, Value.string.injEq, Value.int.injEq, true_and, and_true] at h
    exact Prod.ext h.1 h.2
end Go.Proofs.YtgpojkofegajeaaGreatDoor
