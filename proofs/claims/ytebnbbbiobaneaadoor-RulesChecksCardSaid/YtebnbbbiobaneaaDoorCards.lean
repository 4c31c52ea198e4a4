/-
  DERIVED. GIVEN WITH THE SEED: THE CARDS: each row of YtebnbbbiobaneaaDoorRows.lean that lists a variable, with what it lists TIED to the program's text (the seventh form; the later family's looks); each row that meets fmt, with fmt's text TOLD by the authors' own Lean function (tested against real Go, not proved from fmt's source: count such statements apart). THE CARD IS WHAT COUNTS. Prove the row's statement (the work); the ties are given (YtebnbbbiobaneaaDoorTie.lean); close each card by the builder's one call (the guide's Derived/Test/ToyasCard.lean, 'card_holds'). Laid BY PROGRAM, IN A SANDBOX (cutbox-door.mjs). By AI agents, Wed Nov 11 2026. No macro, syntax, notation, axiom, sorry.
-/
import Derived.Test.YtebnbbbiobaneaaDoorRows
import GoSem.ClaimSeven
namespace Go.Proofs.YtebnbbbiobaneaaDoor
namespace Rows

/-- THE TIED CARD OF 'watchfirelaw15.RulesChecks'. -/
def rulesChecksCard : Claim7 := { stood := { row := rulesChecksRow, standIns := [], harness := (true, "b3c95e1dd01a0f90f23049069376d83988d44b8a5f64287a45c641ef5c87f39f"), looks := false }, kinds := [], alts := [], laidByText := true, laidKinds := [.data, .listed, .data, .pinned], laidTests := true, laidLooks := .later }
def RulesChecksCardSaid : Prop := Claim7.holds Tryd.pinned (.plain (OpenSpec.ofChange rulesChecksSpec)) rulesChecksCard

/-- THE SECOND FORM's CARD OF 'watchfirelaw15.RulesChecks'. -/
def rulesChecksUptoCard : Claim7 := { stood := { row := rulesChecksUptoRow, standIns := [], harness := (true, "b3c95e1dd01a0f90f23049069376d83988d44b8a5f64287a45c641ef5c87f39f"), looks := false }, kinds := [], alts := [], laidByText := true, laidKinds := [.data, .listed, .data, .pinned], laidTests := true, laidLooks := .later }
def RulesChecksUptoCardSaid : Prop := Claim7.holds Tryd.pinned (.plain (OpenSpec.upto rulesChecksSpec)) rulesChecksUptoCard
end Rows
end Go.Proofs.YtebnbbbiobaneaaDoor
