/-
  DERIVED. GIVEN WITH THE SEED: THE CARDS: each row of YtebnbbbiobaneaaGreatDoorRows.lean that lists a variable, with what it lists TIED to the program's text (the seventh form; the later family's looks); each row that meets fmt, with fmt's text TOLD by the authors' own Lean function (tested against real Go, not proved from fmt's source: count such statements apart). THE CARD IS WHAT COUNTS. Prove the row's statement (the work); the ties are given (YtebnbbbiobaneaaGreatDoorTie.lean); close each card by the builder's one call (the guide's Derived/Test/ToyasCard.lean, 'card_holds'). Laid BY PROGRAM, IN A SANDBOX (cutbox-door.mjs). By AI agents, Wed Nov 11 2026. No macro, syntax, notation, axiom, sorry.
-/
import Derived.Test.YtebnbbbiobaneaaGreatDoorRows
import GoSem.ClaimSeven
namespace Go.Proofs.YtebnbbbiobaneaaGreatDoor
namespace Rows

/-- THE TIED CARD OF 'watchfirelaw20.RouteFinds'. -/
def routeFindsCard : Claim7 := { stood := { row := routeFindsRow, standIns := [], harness := (true, "33167f9a38766b77e222fd6887a3db5641b3f6deda55c3af978d2fd6eff24565"), looks := false }, kinds := [], alts := [], laidByText := true, laidKinds := [.data, .listed, .data, .pinned], laidTests := true, laidLooks := .later }
def RouteFindsCardSaid : Prop := Claim7.holds Tryz.pinned (.plain (OpenSpec.ofChange routeFindsSpec)) routeFindsCard

/-- THE TIED CARD OF 'watchfirelaw15.RulesAsks'. -/
def rulesAsksCard : Claim7 := { stood := { row := rulesAsksRow, standIns := [], harness := (true, "33167f9a38766b77e222fd6887a3db5641b3f6deda55c3af978d2fd6eff24565"), looks := false }, kinds := [], alts := [], laidByText := true, laidKinds := [.data, .listed, .data, .pinned], laidTests := true, laidLooks := .later }
def RulesAsksCardSaid : Prop := Claim7.holds Tryz.pinned (.plain (OpenSpec.ofChange rulesAsksSpec)) rulesAsksCard

/-- THE TIED CARD OF 'watchfirelaw15.RulesTexts'. -/
def rulesTextsCard : Claim7 := { stood := { row := rulesTextsRow, standIns := [], harness := (true, "33167f9a38766b77e222fd6887a3db5641b3f6deda55c3af978d2fd6eff24565"), looks := false }, kinds := [], alts := [], laidByText := true, laidKinds := [.data, .listed, .data, .pinned], laidTests := true, laidLooks := .later }
def RulesTextsCardSaid : Prop := Claim7.holds Tryz.pinned (.plain (OpenSpec.ofChange rulesTextsSpec)) rulesTextsCard

/-- THE TIED CARD OF 'watchfirelaw15.RulesBack'. -/
def rulesBackCard : Claim7 := { stood := { row := rulesBackRow, standIns := [], harness := (true, "33167f9a38766b77e222fd6887a3db5641b3f6deda55c3af978d2fd6eff24565"), looks := false }, kinds := [], alts := [], laidByText := true, laidKinds := [.data, .listed, .data, .pinned], laidTests := true, laidLooks := .later }
def RulesBackCardSaid : Prop := Claim7.holds Tryz.pinned (.plain (OpenSpec.ofChange rulesBackSpec)) rulesBackCard

/-- THE TIED CARD OF 'watchfirelaw20.RouteBack'. -/
def routeBackCard : Claim7 := { stood := { row := routeBackRow, standIns := [], harness := (true, "33167f9a38766b77e222fd6887a3db5641b3f6deda55c3af978d2fd6eff24565"), looks := false }, kinds := [], alts := [], laidByText := true, laidKinds := [.data, .listed, .data, .pinned], laidTests := true, laidLooks := .later }
def RouteBackCardSaid : Prop := Claim7.holds Tryz.pinned (.plain (OpenSpec.ofChange routeBackSpec)) routeBackCard

/-- THE TIED CARD OF 'watchfirelaw20.RouteNone'. -/
def routeNoneCard : Claim7 := { stood := { row := routeNoneRow, standIns := [], harness := (true, "33167f9a38766b77e222fd6887a3db5641b3f6deda55c3af978d2fd6eff24565"), looks := false }, kinds := [], alts := [], laidByText := true, laidKinds := [.data, .listed, .data, .pinned], laidTests := true, laidLooks := .later }
def RouteNoneCardSaid : Prop := Claim7.holds Tryz.pinned (.plain (OpenSpec.ofChange routeNoneSpec)) routeNoneCard

/-- THE TIED CARD OF 'watchfirelaw16.WatchAbove'. -/
def watchAboveCard : Claim7 := { stood := { row := watchAboveRow, standIns := [], harness := (true, "33167f9a38766b77e222fd6887a3db5641b3f6deda55c3af978d2fd6eff24565"), looks := false }, kinds := [], alts := [], laidByText := true, laidKinds := [.data, .listed, .data, .pinned], laidTests := true, laidLooks := .later }
def WatchAboveCardSaid : Prop := Claim7.holds Tryz.pinned (.plain (OpenSpec.ofChange watchAboveSpec)) watchAboveCard

/-- THE TIED CARD OF 'watchfirelaw16.WatchMany'. -/
def watchManyCard : Claim7 := { stood := { row := watchManyRow, standIns := [], harness := (true, "33167f9a38766b77e222fd6887a3db5641b3f6deda55c3af978d2fd6eff24565"), looks := false }, kinds := [], alts := [], laidByText := true, laidKinds := [.data, .listed, .data, .pinned], laidTests := true, laidLooks := .later }
def WatchManyCardSaid : Prop := Claim7.holds Tryz.pinned (.plain (OpenSpec.ofChange watchManySpec)) watchManyCard

/-- THE TIED CARD OF 'watchfirelaw16.WatchNone'. -/
def watchNoneCard : Claim7 := { stood := { row := watchNoneRow, standIns := [], harness := (true, "33167f9a38766b77e222fd6887a3db5641b3f6deda55c3af978d2fd6eff24565"), looks := false }, kinds := [], alts := [], laidByText := true, laidKinds := [.data, .listed, .data, .pinned], laidTests := true, laidLooks := .later }
def WatchNoneCardSaid : Prop := Claim7.holds Tryz.pinned (.plain (OpenSpec.ofChange watchNoneSpec)) watchNoneCard

/-- THE SECOND FORM's CARD OF 'watchfirelaw20.RouteFinds'. -/
def routeFindsUptoCard : Claim7 := { stood := { row := routeFindsUptoRow, standIns := [], harness := (true, "33167f9a38766b77e222fd6887a3db5641b3f6deda55c3af978d2fd6eff24565"), looks := false }, kinds := [], alts := [], laidByText := true, laidKinds := [.data, .listed, .data, .pinned], laidTests := true, laidLooks := .later }
def RouteFindsUptoCardSaid : Prop := Claim7.holds Tryz.pinned (.plain (OpenSpec.upto routeFindsSpec)) routeFindsUptoCard

/-- THE SECOND FORM's CARD OF 'watchfirelaw15.RulesAsks'. -/
def rulesAsksUptoCard : Claim7 := { stood := { row := rulesAsksUptoRow, standIns := [], harness := (true, "33167f9a38766b77e222fd6887a3db5641b3f6deda55c3af978d2fd6eff24565"), looks := false }, kinds := [], alts := [], laidByText := true, laidKinds := [.data, .listed, .data, .pinned], laidTests := true, laidLooks := .later }
def RulesAsksUptoCardSaid : Prop := Claim7.holds Tryz.pinned (.plain (OpenSpec.upto rulesAsksSpec)) rulesAsksUptoCard

/-- THE SECOND FORM's CARD OF 'watchfirelaw15.RulesTexts'. -/
def rulesTextsUptoCard : Claim7 := { stood := { row := rulesTextsUptoRow, standIns := [], harness := (true, "33167f9a38766b77e222fd6887a3db5641b3f6deda55c3af978d2fd6eff24565"), looks := false }, kinds := [], alts := [], laidByText := true, laidKinds := [.data, .listed, .data, .pinned], laidTests := true, laidLooks := .later }
def RulesTextsUptoCardSaid : Prop := Claim7.holds Tryz.pinned (.plain (OpenSpec.upto rulesTextsSpec)) rulesTextsUptoCard

/-- THE SECOND FORM's CARD OF 'watchfirelaw15.RulesBack'. -/
def rulesBackUptoCard : Claim7 := { stood := { row := rulesBackUptoRow, standIns := [], harness := (true, "33167f9a38766b77e222fd6887a3db5641b3f6deda55c3af978d2fd6eff24565"), looks := false }, kinds := [], alts := [], laidByText := true, laidKinds := [.data, .listed, .data, .pinned], laidTests := true, laidLooks := .later }
def RulesBackUptoCardSaid : Prop := Claim7.holds Tryz.pinned (.plain (OpenSpec.upto rulesBackSpec)) rulesBackUptoCard

/-- THE SECOND FORM's CARD OF 'watchfirelaw20.RouteBack'. -/
def routeBackUptoCard : Claim7 := { stood := { row := routeBackUptoRow, standIns := [], harness := (true, "33167f9a38766b77e222fd6887a3db5641b3f6deda55c3af978d2fd6eff24565"), looks := false }, kinds := [], alts := [], laidByText := true, laidKinds := [.data, .listed, .data, .pinned], laidTests := true, laidLooks := .later }
def RouteBackUptoCardSaid : Prop := Claim7.holds Tryz.pinned (.plain (OpenSpec.upto routeBackSpec)) routeBackUptoCard

/-- THE SECOND FORM's CARD OF 'watchfirelaw20.RouteNone'. -/
def routeNoneUptoCard : Claim7 := { stood := { row := routeNoneUptoRow, standIns := [], harness := (true, "33167f9a38766b77e222fd6887a3db5641b3f6deda55c3af978d2fd6eff24565"), looks := false }, kinds := [], alts := [], laidByText := true, laidKinds := [.data, .listed, .data, .pinned], laidTests := true, laidLooks := .later }
def RouteNoneUptoCardSaid : Prop := Claim7.holds Tryz.pinned (.plain (OpenSpec.upto routeNoneSpec)) routeNoneUptoCard

/-- THE SECOND FORM's CARD OF 'watchfirelaw16.WatchAbove'. -/
def watchAboveUptoCard : Claim7 := { stood := { row := watchAboveUptoRow, standIns := [], harness := (true, "33167f9a38766b77e222fd6887a3db5641b3f6deda55c3af978d2fd6eff24565"), looks := false }, kinds := [], alts := [], laidByText := true, laidKinds := [.data, .listed, .data, .pinned], laidTests := true, laidLooks := .later }
def WatchAboveUptoCardSaid : Prop := Claim7.holds Tryz.pinned (.plain (OpenSpec.upto watchAboveSpec)) watchAboveUptoCard

/-- THE SECOND FORM's CARD OF 'watchfirelaw16.WatchMany'. -/
def watchManyUptoCard : Claim7 := { stood := { row := watchManyUptoRow, standIns := [], harness := (true, "33167f9a38766b77e222fd6887a3db5641b3f6deda55c3af978d2fd6eff24565"), looks := false }, kinds := [], alts := [], laidByText := true, laidKinds := [.data, .listed, .data, .pinned], laidTests := true, laidLooks := .later }
def WatchManyUptoCardSaid : Prop := Claim7.holds Tryz.pinned (.plain (OpenSpec.upto watchManySpec)) watchManyUptoCard

/-- THE SECOND FORM's CARD OF 'watchfirelaw16.WatchNone'. -/
def watchNoneUptoCard : Claim7 := { stood := { row := watchNoneUptoRow, standIns := [], harness := (true, "33167f9a38766b77e222fd6887a3db5641b3f6deda55c3af978d2fd6eff24565"), looks := false }, kinds := [], alts := [], laidByText := true, laidKinds := [.data, .listed, .data, .pinned], laidTests := true, laidLooks := .later }
def WatchNoneUptoCardSaid : Prop := Claim7.holds Tryz.pinned (.plain (OpenSpec.upto watchNoneSpec)) watchNoneUptoCard
end Rows
end Go.Proofs.YtebnbbbiobaneaaGreatDoor
