/-
  Sorting texts: the library's contracts for it stand in the shelf's text.
-/
import Derived.Test.YteiocplfmjkbkaaGreatDoorShf
