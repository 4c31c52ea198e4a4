/-
  Keys, values, names: lab's and the reference's. The maps of a Watch: how their keys stand.
-/
import Derived.Test.YtgpojkofegajeaaGreatDoorMk
import Derived.Test.YtgpojkofegajeaaGreatDoorWord
namespace Go.Proofs.YtgpojkofegajeaaGreatDoor
open Go.RowKit Go.WideMaps
set_option maxRecDepth 100000

theorem lit2 {P : Program} {k t0 t1 : TypeId} {fs : Array Field} {a b : Value} (hu : P.underlying k = some (.struct fs)) (hkt : P.keyType k = true) (hc : P.cellsOf k = 2)
    (hfs : fs.toList.map (fun f => (f.name == "_", f.type, f.offset)) = [(false, t0, 0), (false, t1, 1)]) (hsz : 0 < P.types.size) (c0 : P.cellsOf t0 = 1) (c1 : P.cellsOf t1 = 1)
    (h0 : ∀ n, ∃ l, P.keyLits (n + 1) t0 [a] = some l) (h1 : ∀ n, ∃ l, P.keyLits (n + 1) t1 [b] = some l) : ∃ l, keyOf P k (.agg #[a, b]) = some l := by
  obtain ⟨n, hn⟩ : ∃ n, P.types.size = n + 1 := ⟨P.types.size - 1, by omega⟩
  obtain ⟨l0, e0⟩ := h0 n
  obtain ⟨l1, e1⟩ := h1 n
  obtain ⟨fl⟩ := fs
  obtain ⟨f0, f1, rfl⟩ : ∃ f0 f1, fl = [f0, f1] := by
    rcases fl with _ | ⟨f0, _ | ⟨f1, _ | ⟨fx, r⟩⟩⟩
    · simp at hfs
    · simp at hfs
    · exact ⟨_, _, rfl⟩
    · simp at hfs
  simp only [List.map_cons, List.map_nil, List.cons.injEq, Prod.mk.injEq, and_true] at hfs
  obtain ⟨⟨n0, t0', o0⟩, ⟨n1, t1', o1⟩⟩ := hfs
  have n0' : (f0.name != "_") = true := by simp [bne, n0]
  have n1' : (f1.name != "_") = true := by simp [bne, n1]
  have key : P.keyLits (P.types.size + 1) k [a, b] = some [l0, l1].flatten := by
    rw [hn]
    unfold Program.keyLits
    rw [hu]
    simp only [hc, List.length_cons, List.length_nil, Nat.reduceAdd, true_and]
    rw [if_pos (by simp [n0', n1'])]
    simp only [List.mapM_cons, List.mapM_nil, t0', t1', o0, o1, c0, c1, List.drop_zero, List.drop_succ_cons, List.take_succ_cons, List.take_zero, e0, e1]
    rfl
  refine ⟨.string (keyBytes [l0, l1].flatten), ?_⟩
  unfold keyOf
  rw [hu]
  simp only [hkt, Bool.true_and, Value.formed, hu, hc, Value.cells]
  rw [if_pos (by rfl), key]
  rfl
theorem lit_str {P : Program} {t : TypeId} (hu : P.underlying t = some .string) (s : ByteArray) (hs : s.size ≤ maxLen) (n : Nat) : ∃ l, P.keyLits (n + 1) t [.string s] = some l :=
  ⟨[.string s.data.toList], by unfold Program.keyLits; rw [hu]; simp [hs]⟩
theorem lit_int {P : Program} {t : TypeId} {q : IntKind} (hu : P.underlying t = some (.int q)) (i : Int) (hs : (Lit.int q i).wf = true) (n : Nat) : ∃ l, P.keyLits (n + 1) t [.int q i] = some l :=
  ⟨[.int q i], by unfold Program.keyLits; rw [hu]; simp [hs]⟩
/-- A series' key. -/
def keyE : KeyEnc 96 (ByteArray × ByteArray) where
  enc := fun a => .agg #[.string a.1, .string a.2]
  ok := fun a => a.1.size ≤ maxLen ∧ a.2.size ≤ maxLen
  law := deep_law (m := 2) (by omega) (by kernel_rfl) (by kernel_rfl) (by kernel_rfl)
  lit := fun a ha => lit2 (fs := Tryz.prog.fieldsOf 96) (t0 := 9) (t1 := 9) (by kernel_rfl) (by kernel_rfl) (by kernel_rfl) (by kernel_rfl) (by decide) (by kernel_rfl) (by kernel_rfl) (lit_str (by kernel_rfl) a.1 ha.1) (lit_str (by kernel_rfl) a.2 ha.2)
  inj := fun a b h => by
    have h := congrArg Value.cells h
    simp only [Value.cells, Array.mk.injEq, List.cons.injEq, Value.string.injEq, and_true] at h
    exact Prod.ext h.1 h.2
/-- An alert's key. -/
def alertE : KeyEnc 88 (Int × ByteArray) where
  enc := fun a => .agg #[.int .i64 a.1, .string a.2]
  ok := fun a => (Lit.int .i64 a.1).wf = true ∧ a.2.size ≤ maxLen
  law := deep_law (m := 2) (by omega) (by kernel_rfl) (by kernel_rfl) (by kernel_rfl)
  lit := fun a ha => lit2 (fs := Tryz.prog.fieldsOf 88) (t0 := 3) (t1 := 9) (by kernel_rfl) (by kernel_rfl) (by kernel_rfl) (by kernel_rfl) (by decide) (by kernel_rfl) (by kernel_rfl) (lit_int (by kernel_rfl) a.1 ha.1) (lit_str (by kernel_rfl) a.2 ha.2)
  inj := fun a b h => by
    have h := congrArg Value.cells h
    simp only [Value.cells, Array.mk.injEq, List.cons.injEq, Value.string.injEq, Value.int.injEq, true_and, and_true] at h
    exact Prod.ext h.1 h.2
end Go.Proofs.YtgpojkofegajeaaGreatDoor
namespace Go.Proofs.YtgpojkofegajeaaGreatDoor
open Go.RowKit
set_option maxRecDepth 100000

/-- What a name is. -/
def nameB (s : ByteArray) : Bool := wordB s 12 true && okB false (s.data.toList.getD 0 0).toNat
theorem nm_word {s : ByteArray} {m : Nat} {a : Bool} (h : wordB s m a = true) : 0 < s.size := by
  simp only [wordB, Bool.and_eq_true, decide_eq_true_eq] at h
  omega
theorem lKey (s : ByteArray) (w : World) (hs : s.size ≤ maxLen) : Calls Tryz.prog 50 #[.string s] w fun e w' => e = .returned (.bool (wordB s 8 false)) ∧ Below w.heap.size w w' := by
  have hW : Calls Tryz.prog 49 #[.string s, .int .i64 8, .bool false] w fun e w' => e = .returned (.bool (wordB s 8 false)) ∧ Below w.heap.size w w' := labWord s 8 false w hs
  go_enter Tryz.func50, Tryz.ntmps50
  go_wp2_with fail
  (with_reducible refine hW.mono ?_)
  rintro e w1 ⟨rfl, hb⟩
  go_wp2_with fail
  go_ret
  exact ⟨rfl, hb⟩
theorem lValue (s : ByteArray) (w : World) (hs : s.size ≤ maxLen) : Calls Tryz.prog 51 #[.string s] w fun e w' => e = .returned (.bool (wordB s 16 true)) ∧ Below w.heap.size w w' := by
  have hW : Calls Tryz.prog 49 #[.string s, .int .i64 16, .bool true] w fun e w' => e = .returned (.bool (wordB s 16 true)) ∧ Below w.heap.size w w' := labWord s 16 true w hs
  go_enter Tryz.func51, Tryz.ntmps51
  go_wp2_with fail
  (with_reducible refine hW.mono ?_)
  rintro e w1 ⟨rfl, hb⟩
  go_wp2_with fail
  go_ret
  exact ⟨rfl, hb⟩
theorem nm_get (s : ByteArray) (h : 0 < s.size) : s.data.toList.getD 0 0 = s[0]'h := by
  have hl : 0 < s.data.toList.length := h
  rw [List.getD_eq_getElem?_getD, List.getElem?_eq_getElem hl]
  rfl
theorem lName (s : ByteArray) (w : World) (hs : s.size ≤ maxLen) : Calls Tryz.prog 26 #[.string s] w fun e w' => e = .returned (.bool (nameB s)) ∧ Below w.heap.size w w' := by
  have hW : Calls Tryz.prog 49 #[.string s, .int .i64 12, .bool true] w fun e w' => e = .returned (.bool (wordB s 12 true)) ∧ Below w.heap.size w w' := labWord s 12 true w hs
  cases hw : wordB s 12 true with
  | false =>
    rw [hw] at hW
    have E := Lib.hid (show nameB s = false by simp [nameB, hw])
    clear hw
    go_enter Tryz.func26, Tryz.ntmps26
    go_wp2_with fail
    (with_reducible refine hW.mono ?_)
    rintro e w1 ⟨rfl, hb⟩
    go_wp2_with fail
    go_ret
    exact ⟨by rw [E.out]; rfl, hb⟩
  | true =>
    rw [hw] at hW
    have h0 := nm_word hw
    have E := Lib.hid (show nameB s = okB false (s[0]'h0).toNat by rw [nameB, hw, nm_get s h0, Bool.true_and])
    clear hw
    by_cases g1 : 97 ≤ (s[0]'h0).toNat
    · by_cases g2 : (s[0]'h0).toNat ≤ 122
      all_goals
        go_enter Tryz.func26, Tryz.ntmps26
        go_wp2_with fail
        (with_reducible refine hW.mono ?_)
        rintro e w1 ⟨rfl, hb⟩
        go_wp2_with fail
        go_ret
        exact ⟨by rw [E.out, okB_false]; simp [g1, g2] <;> omega, hb⟩
    · go_enter Tryz.func26, Tryz.ntmps26
      go_wp2_with fail
      (with_reducible refine hW.mono ?_)
      rintro e w1 ⟨rfl, hb⟩
      go_wp2_with fail
      go_ret
      exact ⟨by rw [E.out, okB_false]; simp [g1], hb⟩

/-! ### The reference's -/
end Go.Proofs.YtgpojkofegajeaaGreatDoor
