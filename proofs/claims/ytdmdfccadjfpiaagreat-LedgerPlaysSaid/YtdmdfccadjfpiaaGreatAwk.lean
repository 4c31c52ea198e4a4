/-
  A fixed fact: Awake of the journal's statements.
-/
import Derived.Test.YtdmdfccadjfpiaaGreatNew
namespace Go.Proofs.YtdmdfccadjfpiaaGreat
open Go.RowKit
set_option maxRecDepth 100000

theorem calls_gen {P : Program} {n : Nat} {args : Array Value} {w : World} {Q : Ending → World → Prop} (h : ∀ w', w' = w → Calls P n args w' Q) : Calls P n args w Q := h w rfl
end Go.Proofs.YtdmdfccadjfpiaaGreat
