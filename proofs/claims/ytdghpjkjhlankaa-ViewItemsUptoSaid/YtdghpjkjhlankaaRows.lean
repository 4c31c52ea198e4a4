/-
  No cell of these rows narrows 'for every input' (looked for: loops, veiled, ifaces, maps, wideKeys, modest, calm, conditions, laid).
  DERIVED. THE GIVEN ROWS OF THIS SEAT. 3 by the template 'for every input the law returns true; each argument reads behind the call as it read before'; 0 by the template 'total and deterministic' (their statements: YtdghpjkjhlankaaTotals.lean).
  GIVEN WITH THE SEED: the statements are not yours to turn. If you find one false, say at which input.
  Laid BY PROGRAM, IN A SANDBOX (cutbox-rows.mjs): the forced cells as the released guide's own fill.sh prints them over the translation 0cc15bb6ca40fc37… (all of the seat's roots in one cut). By AI agents, Wed Nov 11 2026. No macro, syntax, notation, axiom, sorry.
-/
import Derived.Test.YtdghpjkjhlankaaChecked
import GoSem.Claim
import GoSem.ClaimJoined
import GoSem.ClaimMapViews
import Derived.JoinedTies
import Derived.KernelRfl
namespace Go.Proofs.Ytdghpjkjhlankaa
/- THE CELL 'sum', in the pinned program and in every row, IS THE sha256 OF THE DUMP (.gsa) THAT YtdghpjkjhlankaaProg.lean LOADS. Nothing in Lean hashes anything: it is a label: what it is worth is what the hold of that sum in a sandbox is worth. -/
noncomputable def Try.pinned : Pinned := { name := "ytdghpjkjhlankaa", sum := "0cc15bb6ca40fc3794071ae50f6877cf359ffd52f48d3ae00e546e4335c0ac77", checked := Try.checked }
namespace Rows
def none {H : Type} : Left H := { results := [], args := [] }

/-- 'watchfirelaw31.ViewUnlike': WHATEVER THE INPUT: true; the input reads as it did. -/
def viewUnlikeSpec : ChangeSpec := { name := "viewUnlike", fn := fun _ => fun
  | [d1, d2, d3, d4] => { results := [.lit (.bool true)], args := [d1, d2, d3, d4] }
  | _ => none }
def viewUnlikeRow : OpenClaim := { program := "ytdghpjkjhlankaa", sum := "0cc15bb6ca40fc3794071ae50f6877cf359ffd52f48d3ae00e546e4335c0ac77", func := "watchfire/watchfirelaw31.ViewUnlike", spec := "viewUnlike", inPlace := ["internal/abi.NoEscape"], unfollowed := true, recurses := true, apart := false }
def ViewUnlikeSaid : Prop := viewUnlikeRow.holds Try.pinned (OpenSpec.ofChange viewUnlikeSpec)

/-- ITS FALSE NEIGHBOUR: 'it returns false'. Refute it at one input. -/
def viewUnlikeWrong : ChangeSpec := { name := "viewUnlike", fn := fun _ => fun
  | [d1, d2, d3, d4] => { results := [.lit (.bool false)], args := [d1, d2, d3, d4] }
  | _ => none }
def ViewUnlikeWrongFalsely : Prop := viewUnlikeRow.holds Try.pinned (OpenSpec.ofChange viewUnlikeWrong)

/-- 'watchfirelaw31.ViewAlerts': WHATEVER THE INPUT: true; the input reads as it did. -/
def viewAlertsSpec : ChangeSpec := { name := "viewAlerts", fn := fun _ => fun
  | [d1, d2, d3, d4, d5] => { results := [.lit (.bool true)], args := [d1, d2, d3, d4, d5] }
  | _ => none }
def viewAlertsRow : OpenClaim := { program := "ytdghpjkjhlankaa", sum := "0cc15bb6ca40fc3794071ae50f6877cf359ffd52f48d3ae00e546e4335c0ac77", func := "watchfire/watchfirelaw31.ViewAlerts", spec := "viewAlerts", inPlace := ["internal/abi.NoEscape"], unfollowed := true, recurses := true, apart := false }
def ViewAlertsSaid : Prop := viewAlertsRow.holds Try.pinned (OpenSpec.ofChange viewAlertsSpec)

/-- ITS FALSE NEIGHBOUR: 'it returns false'. Refute it at one input. -/
def viewAlertsWrong : ChangeSpec := { name := "viewAlerts", fn := fun _ => fun
  | [d1, d2, d3, d4, d5] => { results := [.lit (.bool false)], args := [d1, d2, d3, d4, d5] }
  | _ => none }
def ViewAlertsWrongFalsely : Prop := viewAlertsRow.holds Try.pinned (OpenSpec.ofChange viewAlertsWrong)

/-- 'watchfirelaw31.ViewItems': WHATEVER THE INPUT: true; the input reads as it did. -/
def viewItemsSpec : ChangeSpec := { name := "viewItems", fn := fun _ => fun
  | [d1, d2, d3, d4] => { results := [.lit (.bool true)], args := [d1, d2, d3, d4] }
  | _ => none }
def viewItemsRow : OpenClaim := { program := "ytdghpjkjhlankaa", sum := "0cc15bb6ca40fc3794071ae50f6877cf359ffd52f48d3ae00e546e4335c0ac77", func := "watchfire/watchfirelaw31.ViewItems", spec := "viewItems", inPlace := ["internal/abi.NoEscape"], unfollowed := true, recurses := true, apart := false }
def ViewItemsSaid : Prop := viewItemsRow.holds Try.pinned (OpenSpec.ofChange viewItemsSpec)

/-- ITS FALSE NEIGHBOUR: 'it returns false'. Refute it at one input. -/
def viewItemsWrong : ChangeSpec := { name := "viewItems", fn := fun _ => fun
  | [d1, d2, d3, d4] => { results := [.lit (.bool false)], args := [d1, d2, d3, d4] }
  | _ => none }
def ViewItemsWrongFalsely : Prop := viewItemsRow.holds Try.pinned (OpenSpec.ofChange viewItemsWrong)

/- THE SECOND FORM. 'bulk': how many values and letters a reading holds, each counted each time it is reached (what is shared counts as often as it is met; a slice's spare places count too). A statement '..UptoSaid' is the law's where the arguments, and the package variables that the reading takes, are together of bulk at most 1048576: NARROWER than '..Said'. Prove '..Said' where nothing that the law and all that it calls make is longer than what came in: it says more and counts as full. Else prove '..UptoSaid'. A law counts once. -/
mutual
def uptoBulk {H : Type} : DataW H → Nat
  | .lit (.string bytes) => bytes.length + 1
  | .lit _ => 1
  | .nil => 1
  | .ptr d => uptoBulk d + 1
  | .slice elems spare => uptoBulkAll elems + uptoBulkAll spare + 1
  | .agg parts => uptoBulkAll parts + 1
  | .iface _ d => uptoBulk d + 1
  | .map entries => uptoBulkEntries entries + 1
  | .held _ => 1
def uptoBulkAll {H : Type} : List (DataW H) → Nat
  | [] => 0
  | d :: r => uptoBulk d + uptoBulkAll r
def uptoBulkEntries {H : Type} : List (Lit × DataW H) → Nat
  | [] => 0
  | x :: r => uptoBulkEntry x + uptoBulkEntries r
def uptoBulkEntry {H : Type} : Lit × DataW H → Nat
  | (.string bytes, d) => bytes.length + uptoBulk d + 1
  | (_, d) => uptoBulk d + 1
 end
def uptoSmall : (H : Type) → List (DataW H) → Bool := fun _ ds => decide (uptoBulkAll ds ≤ 1048576)
def OpenSpec.upto (s : _root_.Go.ChangeSpec) : _root_.Go.OpenSpec := { _root_.Go.OpenSpec.ofChange s with cond := some uptoSmall }

/-- 'watchfirelaw31.ViewUnlike', WHERE WHAT IT READS IS OF BULK AT MOST 1048576: true; the input reads as it did. -/
def viewUnlikeUptoRow : OpenClaim := { program := "ytdghpjkjhlankaa", sum := "0cc15bb6ca40fc3794071ae50f6877cf359ffd52f48d3ae00e546e4335c0ac77", func := "watchfire/watchfirelaw31.ViewUnlike", spec := "viewUnlike", inPlace := ["internal/abi.NoEscape"], unfollowed := true, recurses := true, apart := false, narrowed := true }
def ViewUnlikeUptoSaid : Prop := viewUnlikeUptoRow.holds Try.pinned (OpenSpec.upto viewUnlikeSpec)

/-- 'watchfirelaw31.ViewAlerts', WHERE WHAT IT READS IS OF BULK AT MOST 1048576: true; the input reads as it did. -/
def viewAlertsUptoRow : OpenClaim := { program := "ytdghpjkjhlankaa", sum := "0cc15bb6ca40fc3794071ae50f6877cf359ffd52f48d3ae00e546e4335c0ac77", func := "watchfire/watchfirelaw31.ViewAlerts", spec := "viewAlerts", inPlace := ["internal/abi.NoEscape"], unfollowed := true, recurses := true, apart := false, narrowed := true }
def ViewAlertsUptoSaid : Prop := viewAlertsUptoRow.holds Try.pinned (OpenSpec.upto viewAlertsSpec)

/-- 'watchfirelaw31.ViewItems', WHERE WHAT IT READS IS OF BULK AT MOST 1048576: true; the input reads as it did. -/
def viewItemsUptoRow : OpenClaim := { program := "ytdghpjkjhlankaa", sum := "0cc15bb6ca40fc3794071ae50f6877cf359ffd52f48d3ae00e546e4335c0ac77", func := "watchfire/watchfirelaw31.ViewItems", spec := "viewItems", inPlace := ["internal/abi.NoEscape"], unfollowed := true, recurses := true, apart := false, narrowed := true }
def ViewItemsUptoSaid : Prop := viewItemsUptoRow.holds Try.pinned (OpenSpec.upto viewItemsSpec)

end Rows
end Go.Proofs.Ytdghpjkjhlankaa
