/-
  Labels of few (watchfirelaw15.labels).
-/
import Derived.Test.YteiocplfmjkbkaaGreatDoorMg6
import Derived.Test.YteiocplfmjkbkaaGreatDoorFree
import Derived.Lib.Hide
namespace Go.Proofs.YteiocplfmjkbkaaGreatDoor
open Go.RowKit FreeOrd
set_option maxRecDepth 100000
attribute [local go_sem] out

def labBit (n k : Nat) : Bool := bits BinOp.and IntKind.u8 ((n : Int) / 2 ^ k) 1 == 1
end Go.Proofs.YteiocplfmjkbkaaGreatDoor
