/-
  A journal's Name.
-/
import Derived.Test.YtdjdhakmigofmaaJsync
namespace Go.Proofs.Ytdjdhakmigofmaa
open Go.RowKit
set_option maxRecDepth 100000
theorem jName (j : Nat) (c0 c1 c3 : Value) (s : ByteArray) (w : World) (hj : Blk w j #[c0, c1, .string s, c3] 114) :
    Calls Try.prog 37 #[.pointer (some ⟨j, 0, none⟩)] w fun e w' => e = .returned (.string s) ∧ w' = w := by
  have c2 : w.cell? ⟨j, 2, none⟩ = some (.string s) := hj.cell rfl
  clear hj
  go_enter Try.func37, Try.ntmps37
  go_wp2_with fail
  go_ret
  exact ⟨rfl, rfl⟩
end Go.Proofs.Ytdjdhakmigofmaa
