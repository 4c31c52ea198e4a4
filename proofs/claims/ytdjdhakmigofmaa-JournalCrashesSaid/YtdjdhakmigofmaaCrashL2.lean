/-
  The bytes of the records that a scan finds are the bytes' beginning.
-/
import Derived.Test.YtdjdhakmigofmaaCrashL
import Derived.Test.YtdjdhakmigofmaaConv
namespace Go.Proofs.Ytdjdhakmigofmaa
set_option maxRecDepth 100000

theorem takeL_take {l x : List UInt8} (h : takeL l = some x) : l.take (x.length + 8) = layL x := by
  have h8 := takeL_len h
  obtain ⟨x0, x1, x2, x3, x4, x5, x6, x7, r, rfl⟩ := take8 l (by omega)
  simp only [takeL] at h
  split at h
  · cases h
  · rename_i hc
    split at h
    · rename_i hs
      injection h with h
      have hxl : x.length = unfour x0.toNat x1.toNat x2.toNat x3.toNat := by rw [← h, List.length_take]; omega
      unfold layL
      rw [hxl, unfour_four, ← h, hs, unfour_four]
      rfl
    · cases h
theorem scan_lay_take (k : Nat) : ∀ l : List UInt8, l.length ≤ k → l.take (lenR (scanL l)) = layAll (scanL l) := by
  induction k with
  | zero =>
    intro l hl
    have : l = [] := List.length_eq_zero_iff.1 (by omega)
    subst this
    rw [scanL_none (takeL_short (by decide))]
    rfl
  | succ k ih =>
    intro l hl
    cases hx : takeL l with
    | none => rw [scanL_none hx]; rfl
    | some x =>
      have h8 := takeL_len hx
      rw [scanL_some hx, layAll_cons, ← takeL_take hx]
      have := ih (l.drop (x.length + 8)) (by rw [List.length_drop]; omega)
      rw [← this]
      show l.take (x.length + 8 + lenR _) = _
      rw [List.take_add]
end Go.Proofs.Ytdjdhakmigofmaa
