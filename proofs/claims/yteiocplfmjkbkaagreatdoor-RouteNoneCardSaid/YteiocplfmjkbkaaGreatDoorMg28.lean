/-
  Rules: cells; item.Own, the conditions' and the waits' Check, the reference's, and how a rule stands for the reference. Questions and nodes as the reference has them: watchfirelaw17.Ref, watchfirelaw20.Ref.
-/
import Derived.Test.YteiocplfmjkbkaaGreatDoorRtX
import Derived.Test.YteiocplfmjkbkaaGreatDoorMg6
import Derived.Test.YteiocplfmjkbkaaGreatDoorSt
import Derived.RegionTactic
import Derived.BigRegion
import Derived.OwnWalk
namespace Go.Proofs.YteiocplfmjkbkaaGreatDoor
open Go.RowKit FreeOrd
set_option maxRecDepth 100000
attribute [local go_sem] out

/-- The reference's nodes that can be read. -/
def NodesAtR (w : World) (v : Value) (ns : List RNV) : Prop :=
  Rd w 8 v ns.length (ns.flatMap rn8) ∧ ∀ n ∈ ns, Rd w 3 n.va n.p.asks.length (n.p.asks.flatMap aqR) ∧ Rd w 1 n.vb n.p.bys.length (n.p.bys.map Value.string)
theorem NodesAtR.below {w w' : World} {v : Value} {ns : List RNV} (h : NodesAtR w v ns) (hb : Below w.heap.size w w') : NodesAtR w' v ns :=
  ⟨h.1.below hb, fun n hn => ⟨(h.2 n hn).1.below hb, (h.2 n hn).2.below hb⟩⟩
end Go.Proofs.YteiocplfmjkbkaaGreatDoor
namespace Go.Proofs.YteiocplfmjkbkaaGreatDoor
open Go.RowKit
set_option maxRecDepth 100000

/-- A rule. -/
structure RuV where
  nm : ByteArray
  me : ByteArray
  iv : Value
  ips : List Pr
  k : Nat
  lim : Int
  tk : Nat
  fo : Nat
  ke : Nat
  pr : Nat
  wv : Value
  wps : List Pr
def RuV.cells (r : RuV) : List Value := [.string r.nm, .string r.me, r.iv, .int .u8 r.k, .int .i64 r.lim, .int .u64 r.tk, .int .u64 r.fo, .int .u64 r.ke, .int .u8 r.pr, r.wv]
structure RuV.ok (r : RuV) (w : World) : Prop where
  nm : r.nm.size ≤ maxLen
  me : r.me.size ≤ maxLen
  ir : Rd w 2 r.iv r.ips.length (pairCells r.ips)
  iz : ∀ p ∈ r.ips, p.1.size ≤ maxLen ∧ p.2.size ≤ maxLen
  wr : Rd w 2 r.wv r.wps.length (pairCells r.wps)
  wz : ∀ p ∈ r.wps, p.1.size ≤ maxLen ∧ p.2.size ≤ maxLen
  k : r.k < 256
  pr : r.pr < 256
theorem RuV.ok.below {r : RuV} {w w' : World} (h : r.ok w) (hb : Below w.heap.size w w') : r.ok w' := ⟨h.nm, h.me, h.ir.below hb, h.iz, h.wr.below hb, h.wz, h.k, h.pr⟩

end Go.Proofs.YteiocplfmjkbkaaGreatDoor
