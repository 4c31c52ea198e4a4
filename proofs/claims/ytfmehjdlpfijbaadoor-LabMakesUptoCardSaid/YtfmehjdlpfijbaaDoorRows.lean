/-
  NARROWER THAN 'FOR EVERY INPUT', by the rows' own cells (each row's printed sentence says how): LabWords: laid · LabMakes: laid · LabTexts: laid · LabOwn: laid · LabLists: laid.
  DERIVED. THE GIVEN ROWS OF THIS SEAT. 5 by the template 'for every input the law returns true; each argument reads behind the call as it read before'; 0 by the template 'total and deterministic' (their statements: YtfmehjdlpfijbaaDoorTotals.lean).
  GIVEN WITH THE SEED: the statements are not yours to turn. If you find one false, say at which input.
  Laid BY PROGRAM, IN A SANDBOX (cutbox-rows.mjs): the forced cells as the released guide's own fill.sh prints them over the translation 5a76c2519440a0a3… (all of the seat's roots in one cut). By AI agents, Wed Nov 11 2026. No macro, syntax, notation, axiom, sorry.
-/
import Derived.Test.YtfmehjdlpfijbaaDoorChecked
import GoSem.PinnedTables
import GoSem.Claim
import GoSem.ClaimJoined
import GoSem.ClaimMapViews
import Derived.JoinedTies
import Derived.KernelRfl
namespace Go.Proofs.YtfmehjdlpfijbaaDoor
/- THE CELL 'sum', in the pinned program and in every row, IS THE sha256 OF THE DUMP (.gsa) THAT YtfmehjdlpfijbaaDoorProg.lean LOADS. Nothing in Lean hashes anything: it is a label: what it is worth is what the hold of that sum in a sandbox is worth. -/
noncomputable def Tryd.pinned : Pinned := { name := "ytfmehjdlpfijbaadoor", sum := "5a76c2519440a0a3aaa49b253bbbaace0f2d252b8dc666509eea664e424265c2", checked := Tryd.checked }
namespace Rows
def none {H : Type} : Left H := { results := [], args := [] }

/- WHAT THE LISTED PACKAGE-LEVEL VARIABLES READ AS WHEN THE CALL BEGINS. Each datum BY PROGRAM (the guide's laid-datum.mjs) off the statement by which the dump's own 'gosem.cut.vars' lays the variable. In a bare row this is a premise. The card (YtfmehjdlpfijbaaDoorCards.lean) ties it to the program's text. -/
def laid_unicode_utf8_acceptRanges {H : Type} : DataW H := .agg [.agg [.lit (.int .u8 128), .lit (.int .u8 191)], .agg [.lit (.int .u8 160), .lit (.int .u8 191)], .agg [.lit (.int .u8 128), .lit (.int .u8 159)], .agg [.lit (.int .u8 144), .lit (.int .u8 191)], .agg [.lit (.int .u8 128), .lit (.int .u8 143)], .agg [.lit (.int .u8 0), .lit (.int .u8 0)], .agg [.lit (.int .u8 0), .lit (.int .u8 0)], .agg [.lit (.int .u8 0), .lit (.int .u8 0)], .agg [.lit (.int .u8 0), .lit (.int .u8 0)], .agg [.lit (.int .u8 0), .lit (.int .u8 0)], .agg [.lit (.int .u8 0), .lit (.int .u8 0)], .agg [.lit (.int .u8 0), .lit (.int .u8 0)], .agg [.lit (.int .u8 0), .lit (.int .u8 0)], .agg [.lit (.int .u8 0), .lit (.int .u8 0)], .agg [.lit (.int .u8 0), .lit (.int .u8 0)], .agg [.lit (.int .u8 0), .lit (.int .u8 0)]]
/-- One of Go's own tables, pinned by name: the form's constant. -/
def laid_unicode_utf8_first : DataW Unit := Go.Pinned.utf8First

/-- 'watchfirelaw01.LabWords': WHATEVER THE INPUT: true; the input reads as it did. -/
def labWordsSpec : ChangeSpec := { name := "labWords", fn := fun _ => fun
  | [d] => { results := [.lit (.bool true)], args := [d] }
  | _ => none }
def labWordsRow : OpenClaim := { program := "ytfmehjdlpfijbaadoor", sum := "5a76c2519440a0a3aaa49b253bbbaace0f2d252b8dc666509eea664e424265c2", func := "watchfire/watchfirelaw01.LabWords", spec := "labWords", inPlace := ["internal/bytealg.CountString", "internal/bytealg.IndexByteString", "internal/bytealg.IndexString", "internal/abi.NoEscape"], unfollowed := true, recurses := true, named := ["unicode/utf8.first", "unicode/utf8.acceptRanges", "internal/bytealg.MaxLen"], apart := false, laid := [("unicode/utf8.acceptRanges", laid_unicode_utf8_acceptRanges), ("unicode/utf8.first", laid_unicode_utf8_first)] }
def LabWordsSaid : Prop := labWordsRow.holds Tryd.pinned (OpenSpec.ofChange labWordsSpec)

/-- ITS FALSE NEIGHBOUR: 'it returns false'. Refute it at one input. -/
def labWordsWrong : ChangeSpec := { name := "labWords", fn := fun _ => fun
  | [d] => { results := [.lit (.bool false)], args := [d] }
  | _ => none }
def LabWordsWrongFalsely : Prop := labWordsRow.holds Tryd.pinned (OpenSpec.ofChange labWordsWrong)

/-- 'watchfirelaw01.LabMakes': WHATEVER THE INPUT: true; the input reads as it did. -/
def labMakesSpec : ChangeSpec := { name := "labMakes", fn := fun _ => fun
  | [d1, d2] => { results := [.lit (.bool true)], args := [d1, d2] }
  | _ => none }
def labMakesRow : OpenClaim := { program := "ytfmehjdlpfijbaadoor", sum := "5a76c2519440a0a3aaa49b253bbbaace0f2d252b8dc666509eea664e424265c2", func := "watchfire/watchfirelaw01.LabMakes", spec := "labMakes", inPlace := ["internal/bytealg.CountString", "internal/bytealg.IndexByteString", "internal/bytealg.IndexString", "internal/abi.NoEscape"], unfollowed := true, recurses := true, named := ["unicode/utf8.first", "unicode/utf8.acceptRanges", "internal/bytealg.MaxLen"], apart := false, laid := [("unicode/utf8.acceptRanges", laid_unicode_utf8_acceptRanges), ("unicode/utf8.first", laid_unicode_utf8_first)] }
def LabMakesSaid : Prop := labMakesRow.holds Tryd.pinned (OpenSpec.ofChange labMakesSpec)

/-- ITS FALSE NEIGHBOUR: 'it returns false'. Refute it at one input. -/
def labMakesWrong : ChangeSpec := { name := "labMakes", fn := fun _ => fun
  | [d1, d2] => { results := [.lit (.bool false)], args := [d1, d2] }
  | _ => none }
def LabMakesWrongFalsely : Prop := labMakesRow.holds Tryd.pinned (OpenSpec.ofChange labMakesWrong)

/-- 'watchfirelaw01.LabTexts': WHATEVER THE INPUT: true; the input reads as it did. -/
def labTextsSpec : ChangeSpec := { name := "labTexts", fn := fun _ => fun
  | [d1, d2] => { results := [.lit (.bool true)], args := [d1, d2] }
  | _ => none }
def labTextsRow : OpenClaim := { program := "ytfmehjdlpfijbaadoor", sum := "5a76c2519440a0a3aaa49b253bbbaace0f2d252b8dc666509eea664e424265c2", func := "watchfire/watchfirelaw01.LabTexts", spec := "labTexts", inPlace := ["internal/bytealg.CountString", "internal/bytealg.IndexByteString", "internal/bytealg.IndexString", "internal/abi.NoEscape"], unfollowed := true, recurses := true, named := ["unicode/utf8.first", "unicode/utf8.acceptRanges", "internal/bytealg.MaxLen"], apart := false, laid := [("unicode/utf8.acceptRanges", laid_unicode_utf8_acceptRanges), ("unicode/utf8.first", laid_unicode_utf8_first)] }
def LabTextsSaid : Prop := labTextsRow.holds Tryd.pinned (OpenSpec.ofChange labTextsSpec)

/-- ITS FALSE NEIGHBOUR: 'it returns false'. Refute it at one input. -/
def labTextsWrong : ChangeSpec := { name := "labTexts", fn := fun _ => fun
  | [d1, d2] => { results := [.lit (.bool false)], args := [d1, d2] }
  | _ => none }
def LabTextsWrongFalsely : Prop := labTextsRow.holds Tryd.pinned (OpenSpec.ofChange labTextsWrong)

/-- 'watchfirelaw01.LabOwn': WHATEVER THE INPUT: true; the input reads as it did. -/
def labOwnSpec : ChangeSpec := { name := "labOwn", fn := fun _ => fun
  | [d1, d2] => { results := [.lit (.bool true)], args := [d1, d2] }
  | _ => none }
def labOwnRow : OpenClaim := { program := "ytfmehjdlpfijbaadoor", sum := "5a76c2519440a0a3aaa49b253bbbaace0f2d252b8dc666509eea664e424265c2", func := "watchfire/watchfirelaw01.LabOwn", spec := "labOwn", inPlace := ["internal/bytealg.CountString", "internal/bytealg.IndexByteString", "internal/bytealg.IndexString", "internal/abi.NoEscape"], unfollowed := true, recurses := true, named := ["unicode/utf8.first", "unicode/utf8.acceptRanges", "internal/bytealg.MaxLen"], apart := false, laid := [("unicode/utf8.acceptRanges", laid_unicode_utf8_acceptRanges), ("unicode/utf8.first", laid_unicode_utf8_first)] }
def LabOwnSaid : Prop := labOwnRow.holds Tryd.pinned (OpenSpec.ofChange labOwnSpec)

/-- ITS FALSE NEIGHBOUR: 'it returns false'. Refute it at one input. -/
def labOwnWrong : ChangeSpec := { name := "labOwn", fn := fun _ => fun
  | [d1, d2] => { results := [.lit (.bool false)], args := [d1, d2] }
  | _ => none }
def LabOwnWrongFalsely : Prop := labOwnRow.holds Tryd.pinned (OpenSpec.ofChange labOwnWrong)

/-- 'watchfirelaw01.LabLists': WHATEVER THE INPUT: true; the input reads as it did. -/
def labListsSpec : ChangeSpec := { name := "labLists", fn := fun _ => fun
  | [d1, d2, d3] => { results := [.lit (.bool true)], args := [d1, d2, d3] }
  | _ => none }
def labListsRow : OpenClaim := { program := "ytfmehjdlpfijbaadoor", sum := "5a76c2519440a0a3aaa49b253bbbaace0f2d252b8dc666509eea664e424265c2", func := "watchfire/watchfirelaw01.LabLists", spec := "labLists", inPlace := ["internal/bytealg.CountString", "internal/bytealg.IndexByteString", "internal/bytealg.IndexString", "internal/abi.NoEscape"], unfollowed := true, recurses := true, named := ["unicode/utf8.first", "unicode/utf8.acceptRanges", "internal/bytealg.MaxLen"], apart := false, laid := [("unicode/utf8.acceptRanges", laid_unicode_utf8_acceptRanges), ("unicode/utf8.first", laid_unicode_utf8_first)] }
def LabListsSaid : Prop := labListsRow.holds Tryd.pinned (OpenSpec.ofChange labListsSpec)

/-- ITS FALSE NEIGHBOUR: 'it returns false'. Refute it at one input. -/
def labListsWrong : ChangeSpec := { name := "labLists", fn := fun _ => fun
  | [d1, d2, d3] => { results := [.lit (.bool false)], args := [d1, d2, d3] }
  | _ => none }
def LabListsWrongFalsely : Prop := labListsRow.holds Tryd.pinned (OpenSpec.ofChange labListsWrong)

/- THE SECOND FORM. 'bulk': how many values and letters a reading holds, each counted each time it is reached (what is shared counts as often as it is met; a slice's spare places count too). A statement '..UptoSaid' is the law's where the arguments, and the package variables that the reading takes, are together of bulk at most 1048576: NARROWER than '..Said'. Prove '..Said' where nothing that the law and all that it calls make is longer than what came in: it says more and counts as full. Else prove '..UptoSaid'. A law counts once. -/
mutual
def uptoBulk {H : Type} : DataW H → Nat
  | .lit (.string bytes) => bytes.length + 1
  | .lit _ => 1
  | .nil => 1
  | .ptr d => uptoBulk d + 1
  | .slice elems spare => uptoBulkAll elems + uptoBulkAll spare + 1
  | .agg parts => uptoBulkAll parts + 1
  | .iface _ d => uptoBulk d + 1
  | .map entries => uptoBulkEntries entries + 1
  | .held _ => 1
def uptoBulkAll {H : Type} : List (DataW H) → Nat
  | [] => 0
  | d :: r => uptoBulk d + uptoBulkAll r
def uptoBulkEntries {H : Type} : List (Lit × DataW H) → Nat
  | [] => 0
  | x :: r => uptoBulkEntry x + uptoBulkEntries r
def uptoBulkEntry {H : Type} : Lit × DataW H → Nat
  | (.string bytes, d) => bytes.length + uptoBulk d + 1
  | (_, d) => uptoBulk d + 1
 end
def uptoSmall : (H : Type) → List (DataW H) → Bool := fun _ ds => decide (uptoBulkAll ds ≤ 1048576)
def OpenSpec.upto (s : _root_.Go.ChangeSpec) : _root_.Go.OpenSpec := { _root_.Go.OpenSpec.ofChange s with cond := some uptoSmall }

/-- 'watchfirelaw01.LabWords', WHERE WHAT IT READS IS OF BULK AT MOST 1048576: true; the input reads as it did. -/
def labWordsUptoRow : OpenClaim := { program := "ytfmehjdlpfijbaadoor", sum := "5a76c2519440a0a3aaa49b253bbbaace0f2d252b8dc666509eea664e424265c2", func := "watchfire/watchfirelaw01.LabWords", spec := "labWords", inPlace := ["internal/bytealg.CountString", "internal/bytealg.IndexByteString", "internal/bytealg.IndexString", "internal/abi.NoEscape"], unfollowed := true, recurses := true, named := ["unicode/utf8.first", "unicode/utf8.acceptRanges", "internal/bytealg.MaxLen"], apart := false, laid := [("unicode/utf8.acceptRanges", laid_unicode_utf8_acceptRanges), ("unicode/utf8.first", laid_unicode_utf8_first)], narrowed := true }
def LabWordsUptoSaid : Prop := labWordsUptoRow.holds Tryd.pinned (OpenSpec.upto labWordsSpec)

/-- 'watchfirelaw01.LabMakes', WHERE WHAT IT READS IS OF BULK AT MOST 1048576: true; the input reads as it did. -/
def labMakesUptoRow : OpenClaim := { program := "ytfmehjdlpfijbaadoor", sum := "5a76c2519440a0a3aaa49b253bbbaace0f2d252b8dc666509eea664e424265c2", func := "watchfire/watchfirelaw01.LabMakes", spec := "labMakes", inPlace := ["internal/bytealg.CountString", "internal/bytealg.IndexByteString", "internal/bytealg.IndexString", "internal/abi.NoEscape"], unfollowed := true, recurses := true, named := ["unicode/utf8.first", "unicode/utf8.acceptRanges", "internal/bytealg.MaxLen"], apart := false, laid := [("unicode/utf8.acceptRanges", laid_unicode_utf8_acceptRanges), ("unicode/utf8.first", laid_unicode_utf8_first)], narrowed := true }
def LabMakesUptoSaid : Prop := labMakesUptoRow.holds Tryd.pinned (OpenSpec.upto labMakesSpec)

/-- 'watchfirelaw01.LabTexts', WHERE WHAT IT READS IS OF BULK AT MOST 1048576: true; the input reads as it did. -/
def labTextsUptoRow : OpenClaim := { program := "ytfmehjdlpfijbaadoor", sum := "5a76c2519440a0a3aaa49b253bbbaace0f2d252b8dc666509eea664e424265c2", func := "watchfire/watchfirelaw01.LabTexts", spec := "labTexts", inPlace := ["internal/bytealg.CountString", "internal/bytealg.IndexByteString", "internal/bytealg.IndexString", "internal/abi.NoEscape"], unfollowed := true, recurses := true, named := ["unicode/utf8.first", "unicode/utf8.acceptRanges", "internal/bytealg.MaxLen"], apart := false, laid := [("unicode/utf8.acceptRanges", laid_unicode_utf8_acceptRanges), ("unicode/utf8.first", laid_unicode_utf8_first)], narrowed := true }
def LabTextsUptoSaid : Prop := labTextsUptoRow.holds Tryd.pinned (OpenSpec.upto labTextsSpec)

/-- 'watchfirelaw01.LabOwn', WHERE WHAT IT READS IS OF BULK AT MOST 1048576: true; the input reads as it did. -/
def labOwnUptoRow : OpenClaim := { program := "ytfmehjdlpfijbaadoor", sum := "5a76c2519440a0a3aaa49b253bbbaace0f2d252b8dc666509eea664e424265c2", func := "watchfire/watchfirelaw01.LabOwn", spec := "labOwn", inPlace := ["internal/bytealg.CountString", "internal/bytealg.IndexByteString", "internal/bytealg.IndexString", "internal/abi.NoEscape"], unfollowed := true, recurses := true, named := ["unicode/utf8.first", "unicode/utf8.acceptRanges", "internal/bytealg.MaxLen"], apart := false, laid := [("unicode/utf8.acceptRanges", laid_unicode_utf8_acceptRanges), ("unicode/utf8.first", laid_unicode_utf8_first)], narrowed := true }
def LabOwnUptoSaid : Prop := labOwnUptoRow.holds Tryd.pinned (OpenSpec.upto labOwnSpec)

/-- 'watchfirelaw01.LabLists', WHERE WHAT IT READS IS OF BULK AT MOST 1048576: true; the input reads as it did. -/
def labListsUptoRow : OpenClaim := { program := "ytfmehjdlpfijbaadoor", sum := "5a76c2519440a0a3aaa49b253bbbaace0f2d252b8dc666509eea664e424265c2", func := "watchfire/watchfirelaw01.LabLists", spec := "labLists", inPlace := ["internal/bytealg.CountString", "internal/bytealg.IndexByteString", "internal/bytealg.IndexString", "internal/abi.NoEscape"], unfollowed := true, recurses := true, named := ["unicode/utf8.first", "unicode/utf8.acceptRanges", "internal/bytealg.MaxLen"], apart := false, laid := [("unicode/utf8.acceptRanges", laid_unicode_utf8_acceptRanges), ("unicode/utf8.first", laid_unicode_utf8_first)], narrowed := true }
def LabListsUptoSaid : Prop := labListsUptoRow.holds Tryd.pinned (OpenSpec.upto labListsSpec)

end Rows
end Go.Proofs.YtfmehjdlpfijbaaDoor
