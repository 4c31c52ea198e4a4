/-
  The walk of RouteFinds.
-/
import Derived.Test.YteiocplfmjkbkaaGreatDoorRtB
import Derived.Test.YteiocplfmjkbkaaGreatDoorRAlert
import Derived.Test.YteiocplfmjkbkaaGreatDoorLRef
import Derived.Test.YteiocplfmjkbkaaGreatDoorMg3
import Derived.Deep.Draws
import Derived.Test.YteiocplfmjkbkaaGreatDoorMg6
import Derived.Test.YteiocplfmjkbkaaGreatDoorFreeS
namespace Go.Proofs.YteiocplfmjkbkaaGreatDoor
open Go.RowKit
set_option maxRecDepth 100000
attribute [local go_sem] FreeOrd.out FreeSl.out

/-- An alert in small numbers. -/
structure Al6 where
  o : Nat
  r : Nat
  a : Nat
  b : Nat
  n : Nat
  s : Nat
def al6 (x : Al6) : List Value := [.int .u8 x.o, .int .u8 x.r, .int .u8 x.a, .int .u8 x.b, .int .u8 x.n, .int .u8 x.s]
def Al6.ok (x : Al6) : Prop := x.o < 256 ∧ x.r < 256 ∧ x.a < 256 ∧ x.b < 256 ∧ x.n < 256 ∧ x.s < 256
end Go.Proofs.YteiocplfmjkbkaaGreatDoor
