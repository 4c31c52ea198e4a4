/-
  DERIVED. GIVEN WITH THE SEED: THE CARDS: each row of YtfmehjdlpfijbaaDoorRows.lean that lists a variable, with what it lists TIED to the program's text (the seventh form; the later family's looks); each row that meets fmt, with fmt's text TOLD by the authors' own Lean function (tested against real Go, not proved from fmt's source: count such statements apart). THE CARD IS WHAT COUNTS. Prove the row's statement (the work); the ties are given (YtfmehjdlpfijbaaDoorTie.lean); close each card by the builder's one call (the guide's Derived/Test/ToyasCard.lean, 'card_holds'). Laid BY PROGRAM, IN A SANDBOX (cutbox-door.mjs). By AI agents, Wed Nov 11 2026. No macro, syntax, notation, axiom, sorry.
-/
import Derived.Test.YtfmehjdlpfijbaaDoorRows
import GoSem.ClaimSeven
namespace Go.Proofs.YtfmehjdlpfijbaaDoor
namespace Rows

/-- THE TIED CARD OF 'watchfirelaw01.LabWords'. -/
def labWordsCard : Claim7 := { stood := { row := labWordsRow, standIns := [], harness := (true, "223ec800487799849142899e04ca3326152ca5c9f65af53e129ae7c4a61ff9c3"), looks := false }, kinds := [], alts := [], laidByText := true, laidKinds := [.data, .pinned], laidTests := true, laidLooks := .later }
def LabWordsCardSaid : Prop := Claim7.holds Tryd.pinned (.plain (OpenSpec.ofChange labWordsSpec)) labWordsCard

/-- THE TIED CARD OF 'watchfirelaw01.LabMakes'. -/
def labMakesCard : Claim7 := { stood := { row := labMakesRow, standIns := [], harness := (true, "223ec800487799849142899e04ca3326152ca5c9f65af53e129ae7c4a61ff9c3"), looks := false }, kinds := [], alts := [], laidByText := true, laidKinds := [.data, .pinned], laidTests := true, laidLooks := .later }
def LabMakesCardSaid : Prop := Claim7.holds Tryd.pinned (.plain (OpenSpec.ofChange labMakesSpec)) labMakesCard

/-- THE TIED CARD OF 'watchfirelaw01.LabTexts'. -/
def labTextsCard : Claim7 := { stood := { row := labTextsRow, standIns := [], harness := (true, "223ec800487799849142899e04ca3326152ca5c9f65af53e129ae7c4a61ff9c3"), looks := false }, kinds := [], alts := [], laidByText := true, laidKinds := [.data, .pinned], laidTests := true, laidLooks := .later }
def LabTextsCardSaid : Prop := Claim7.holds Tryd.pinned (.plain (OpenSpec.ofChange labTextsSpec)) labTextsCard

/-- THE TIED CARD OF 'watchfirelaw01.LabOwn'. -/
def labOwnCard : Claim7 := { stood := { row := labOwnRow, standIns := [], harness := (true, "223ec800487799849142899e04ca3326152ca5c9f65af53e129ae7c4a61ff9c3"), looks := false }, kinds := [], alts := [], laidByText := true, laidKinds := [.data, .pinned], laidTests := true, laidLooks := .later }
def LabOwnCardSaid : Prop := Claim7.holds Tryd.pinned (.plain (OpenSpec.ofChange labOwnSpec)) labOwnCard

/-- THE TIED CARD OF 'watchfirelaw01.LabLists'. -/
def labListsCard : Claim7 := { stood := { row := labListsRow, standIns := [], harness := (true, "223ec800487799849142899e04ca3326152ca5c9f65af53e129ae7c4a61ff9c3"), looks := false }, kinds := [], alts := [], laidByText := true, laidKinds := [.data, .pinned], laidTests := true, laidLooks := .later }
def LabListsCardSaid : Prop := Claim7.holds Tryd.pinned (.plain (OpenSpec.ofChange labListsSpec)) labListsCard

/-- THE SECOND FORM's CARD OF 'watchfirelaw01.LabWords'. -/
def labWordsUptoCard : Claim7 := { stood := { row := labWordsUptoRow, standIns := [], harness := (true, "223ec800487799849142899e04ca3326152ca5c9f65af53e129ae7c4a61ff9c3"), looks := false }, kinds := [], alts := [], laidByText := true, laidKinds := [.data, .pinned], laidTests := true, laidLooks := .later }
def LabWordsUptoCardSaid : Prop := Claim7.holds Tryd.pinned (.plain (OpenSpec.upto labWordsSpec)) labWordsUptoCard

/-- THE SECOND FORM's CARD OF 'watchfirelaw01.LabMakes'. -/
def labMakesUptoCard : Claim7 := { stood := { row := labMakesUptoRow, standIns := [], harness := (true, "223ec800487799849142899e04ca3326152ca5c9f65af53e129ae7c4a61ff9c3"), looks := false }, kinds := [], alts := [], laidByText := true, laidKinds := [.data, .pinned], laidTests := true, laidLooks := .later }
def LabMakesUptoCardSaid : Prop := Claim7.holds Tryd.pinned (.plain (OpenSpec.upto labMakesSpec)) labMakesUptoCard

/-- THE SECOND FORM's CARD OF 'watchfirelaw01.LabTexts'. -/
def labTextsUptoCard : Claim7 := { stood := { row := labTextsUptoRow, standIns := [], harness := (true, "223ec800487799849142899e04ca3326152ca5c9f65af53e129ae7c4a61ff9c3"), looks := false }, kinds := [], alts := [], laidByText := true, laidKinds := [.data, .pinned], laidTests := true, laidLooks := .later }
def LabTextsUptoCardSaid : Prop := Claim7.holds Tryd.pinned (.plain (OpenSpec.upto labTextsSpec)) labTextsUptoCard

/-- THE SECOND FORM's CARD OF 'watchfirelaw01.LabOwn'. -/
def labOwnUptoCard : Claim7 := { stood := { row := labOwnUptoRow, standIns := [], harness := (true, "223ec800487799849142899e04ca3326152ca5c9f65af53e129ae7c4a61ff9c3"), looks := false }, kinds := [], alts := [], laidByText := true, laidKinds := [.data, .pinned], laidTests := true, laidLooks := .later }
def LabOwnUptoCardSaid : Prop := Claim7.holds Tryd.pinned (.plain (OpenSpec.upto labOwnSpec)) labOwnUptoCard

/-- THE SECOND FORM's CARD OF 'watchfirelaw01.LabLists'. -/
def labListsUptoCard : Claim7 := { stood := { row := labListsUptoRow, standIns := [], harness := (true, "223ec800487799849142899e04ca3326152ca5c9f65af53e129ae7c4a61ff9c3"), looks := false }, kinds := [], alts := [], laidByText := true, laidKinds := [.data, .pinned], laidTests := true, laidLooks := .later }
def LabListsUptoCardSaid : Prop := Claim7.holds Tryd.pinned (.plain (OpenSpec.upto labListsSpec)) labListsUptoCard
end Rows
end Go.Proofs.YtfmehjdlpfijbaaDoor
