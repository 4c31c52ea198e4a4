/-
  rules.Text: a list of rules as a text.
-/
import Derived.Test.YtebnbbbiobaneaaGreatDoorRuB2
namespace Go.Proofs.YtebnbbbiobaneaaGreatDoor
open Go.RowKit
set_option maxRecDepth 100000

/-- What a rule's text asks of it. -/
structure RuV.bd (r : RuV) : Prop where
  k : 1 ≤ r.k ∧ r.k ≤ 5
  h0 : -9223372036854775808 ≤ r.lim
  h1 : r.lim ≤ 9223372036854775807
  tk : r.tk < 18446744073709551616
  fo : r.fo < 18446744073709551616
  ke : r.ke < 18446744073709551616
  nm : r.nm.size ≤ 1048576
  me : r.me.size ≤ 1048576
  iz : (textL r.ips).length ≤ 1048576
  wz : (textL r.wps).length ≤ 1048576
theorem text_szL (r : RuV) : r.text.size = r.text.data.toList.length := Lib.size_eq _
end Go.Proofs.YtebnbbbiobaneaaGreatDoor
