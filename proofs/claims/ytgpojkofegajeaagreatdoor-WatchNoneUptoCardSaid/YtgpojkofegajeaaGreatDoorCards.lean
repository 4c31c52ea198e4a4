/-
  DERIVED. GIVEN WITH THE SEED: THE CARDS: each row of YtgpojkofegajeaaGreatDoorRows.lean that lists a variable, with what it lists TIED to the program's text (the seventh form; the later family's looks); each row that meets fmt, with fmt's text TOLD by the authors' own Lean function (tested against real Go, not proved from fmt's source: count such statements apart). THE CARD IS WHAT COUNTS. Prove the row's statement (the work); the ties are given (YtgpojkofegajeaaGreatDoorTie.lean); close each card by the builder's one call (the guide's Derived/Test/ToyasCard.lean, 'card_holds'). Laid BY PROGRAM, IN A SANDBOX (cutbox-door.mjs). By AI agents, Wed Nov 11 2026. No macro, syntax, notation, axiom, sorry.
-/
import Derived.Test.YtgpojkofegajeaaGreatDoorRows
import GoSem.ClaimSeven
namespace Go.Proofs.YtgpojkofegajeaaGreatDoor
namespace Rows

/-- THE TIED CARD OF 'watchfirelaw16.WatchAbove'. -/
def watchAboveCard : Claim7 := { stood := { row := watchAboveRow, standIns := [], harness := (true, "abbee90467c4d42aa45ac27b1bf0884ee8f9277e68593312c906447eb64cd1ad"), looks := false }, kinds := [], alts := [], laidByText := true, laidKinds := [.data, .listed, .data, .pinned], laidTests := true, laidLooks := .later }
def WatchAboveCardSaid : Prop := Claim7.holds Tryz.pinned (.plain (OpenSpec.ofChange watchAboveSpec)) watchAboveCard

/-- THE TIED CARD OF 'watchfirelaw16.WatchMany'. -/
def watchManyCard : Claim7 := { stood := { row := watchManyRow, standIns := [], harness := (true, "abbee90467c4d42aa45ac27b1bf0884ee8f9277e68593312c906447eb64cd1ad"), looks := false }, kinds := [], alts := [], laidByText := true, laidKinds := [.data, .listed, .data, .pinned], laidTests := true, laidLooks := .later }
def WatchManyCardSaid : Prop := Claim7.holds Tryz.pinned (.plain (OpenSpec.ofChange watchManySpec)) watchManyCard

/-- THE TIED CARD OF 'watchfirelaw16.WatchNone'. -/
def watchNoneCard : Claim7 := { stood := { row := watchNoneRow, standIns := [], harness := (true, "abbee90467c4d42aa45ac27b1bf0884ee8f9277e68593312c906447eb64cd1ad"), looks := false }, kinds := [], alts := [], laidByText := true, laidKinds := [.data, .listed, .data, .pinned], laidTests := true, laidLooks := .later }
def WatchNoneCardSaid : Prop := Claim7.holds Tryz.pinned (.plain (OpenSpec.ofChange watchNoneSpec)) watchNoneCard

/-- THE SECOND FORM's CARD OF 'watchfirelaw16.WatchAbove'. -/
def watchAboveUptoCard : Claim7 := { stood := { row := watchAboveUptoRow, standIns := [], harness := (true, "abbee90467c4d42aa45ac27b1bf0884ee8f9277e68593312c906447eb64cd1ad"), looks := false }, kinds := [], alts := [], laidByText := true, laidKinds := [.data, .listed, .data, .pinned], laidTests := true, laidLooks := .later }
def WatchAboveUptoCardSaid : Prop := Claim7.holds Tryz.pinned (.plain (OpenSpec.upto watchAboveSpec)) watchAboveUptoCard

/-- THE SECOND FORM's CARD OF 'watchfirelaw16.WatchMany'. -/
def watchManyUptoCard : Claim7 := { stood := { row := watchManyUptoRow, standIns := [], harness := (true, "abbee90467c4d42aa45ac27b1bf0884ee8f9277e68593312c906447eb64cd1ad"), looks := false }, kinds := [], alts := [], laidByText := true, laidKinds := [.data, .listed, .data, .pinned], laidTests := true, laidLooks := .later }
def WatchManyUptoCardSaid : Prop := Claim7.holds Tryz.pinned (.plain (OpenSpec.upto watchManySpec)) watchManyUptoCard

/-- THE SECOND FORM's CARD OF 'watchfirelaw16.WatchNone'. -/
def watchNoneUptoCard : Claim7 := { stood := { row := watchNoneUptoRow, standIns := [], harness := (true, "abbee90467c4d42aa45ac27b1bf0884ee8f9277e68593312c906447eb64cd1ad"), looks := false }, kinds := [], alts := [], laidByText := true, laidKinds := [.data, .listed, .data, .pinned], laidTests := true, laidLooks := .later }
def WatchNoneUptoCardSaid : Prop := Claim7.holds Tryz.pinned (.plain (OpenSpec.upto watchNoneSpec)) watchNoneUptoCard
end Rows
end Go.Proofs.YtgpojkofegajeaaGreatDoor
