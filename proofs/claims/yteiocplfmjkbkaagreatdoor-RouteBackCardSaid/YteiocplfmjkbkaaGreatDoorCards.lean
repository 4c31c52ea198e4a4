/-
  DERIVED. GIVEN WITH THE SEED: THE CARDS: each row of YteiocplfmjkbkaaGreatDoorRows.lean that lists a variable, with what it lists TIED to the program's text (the seventh form; the later family's looks); each row that meets fmt, with fmt's text TOLD by the authors' own Lean function (tested against real Go, not proved from fmt's source: count such statements apart). THE CARD IS WHAT COUNTS. Prove the row's statement (the work); the ties are given (YteiocplfmjkbkaaGreatDoorTie.lean); close each card by the builder's one call (the guide's Derived/Test/ToyasCard.lean, 'card_holds'). Laid BY PROGRAM, IN A SANDBOX (cutbox-door.mjs). By AI agents, Wed Nov 11 2026. No macro, syntax, notation, axiom, sorry.
-/
import Derived.Test.YteiocplfmjkbkaaGreatDoorRows
import GoSem.ClaimSeven
namespace Go.Proofs.YteiocplfmjkbkaaGreatDoor
namespace Rows

/-- THE TIED CARD OF 'watchfirelaw20.RouteFinds'. -/
def routeFindsCard : Claim7 := { stood := { row := routeFindsRow, standIns := [], harness := (true, "f2093d5f1a1c9264c86bd7c5dc55a84c05158fd2ba3827c1fbf28526300f053c"), looks := false }, kinds := [], alts := [], laidByText := true, laidKinds := [.data, .listed, .data, .pinned], laidTests := true, laidLooks := .later }
def RouteFindsCardSaid : Prop := Claim7.holds Tryz.pinned (.plain (OpenSpec.ofChange routeFindsSpec)) routeFindsCard

/-- THE TIED CARD OF 'watchfirelaw20.RouteBack'. -/
def routeBackCard : Claim7 := { stood := { row := routeBackRow, standIns := [], harness := (true, "f2093d5f1a1c9264c86bd7c5dc55a84c05158fd2ba3827c1fbf28526300f053c"), looks := false }, kinds := [], alts := [], laidByText := true, laidKinds := [.data, .listed, .data, .pinned], laidTests := true, laidLooks := .later }
def RouteBackCardSaid : Prop := Claim7.holds Tryz.pinned (.plain (OpenSpec.ofChange routeBackSpec)) routeBackCard

/-- THE TIED CARD OF 'watchfirelaw20.RouteNone'. -/
def routeNoneCard : Claim7 := { stood := { row := routeNoneRow, standIns := [], harness := (true, "f2093d5f1a1c9264c86bd7c5dc55a84c05158fd2ba3827c1fbf28526300f053c"), looks := false }, kinds := [], alts := [], laidByText := true, laidKinds := [.data, .listed, .data, .pinned], laidTests := true, laidLooks := .later }
def RouteNoneCardSaid : Prop := Claim7.holds Tryz.pinned (.plain (OpenSpec.ofChange routeNoneSpec)) routeNoneCard

/-- THE SECOND FORM's CARD OF 'watchfirelaw20.RouteFinds'. -/
def routeFindsUptoCard : Claim7 := { stood := { row := routeFindsUptoRow, standIns := [], harness := (true, "f2093d5f1a1c9264c86bd7c5dc55a84c05158fd2ba3827c1fbf28526300f053c"), looks := false }, kinds := [], alts := [], laidByText := true, laidKinds := [.data, .listed, .data, .pinned], laidTests := true, laidLooks := .later }
def RouteFindsUptoCardSaid : Prop := Claim7.holds Tryz.pinned (.plain (OpenSpec.upto routeFindsSpec)) routeFindsUptoCard

/-- THE SECOND FORM's CARD OF 'watchfirelaw20.RouteBack'. -/
def routeBackUptoCard : Claim7 := { stood := { row := routeBackUptoRow, standIns := [], harness := (true, "f2093d5f1a1c9264c86bd7c5dc55a84c05158fd2ba3827c1fbf28526300f053c"), looks := false }, kinds := [], alts := [], laidByText := true, laidKinds := [.data, .listed, .data, .pinned], laidTests := true, laidLooks := .later }
def RouteBackUptoCardSaid : Prop := Claim7.holds Tryz.pinned (.plain (OpenSpec.upto routeBackSpec)) routeBackUptoCard

/-- THE SECOND FORM's CARD OF 'watchfirelaw20.RouteNone'. -/
def routeNoneUptoCard : Claim7 := { stood := { row := routeNoneUptoRow, standIns := [], harness := (true, "f2093d5f1a1c9264c86bd7c5dc55a84c05158fd2ba3827c1fbf28526300f053c"), looks := false }, kinds := [], alts := [], laidByText := true, laidKinds := [.data, .listed, .data, .pinned], laidTests := true, laidLooks := .later }
def RouteNoneUptoCardSaid : Prop := Claim7.holds Tryz.pinned (.plain (OpenSpec.upto routeNoneSpec)) routeNoneUptoCard
end Rows
end Go.Proofs.YteiocplfmjkbkaaGreatDoor
