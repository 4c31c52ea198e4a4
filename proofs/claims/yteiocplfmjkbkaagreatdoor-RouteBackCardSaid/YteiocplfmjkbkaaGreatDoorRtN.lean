/-
  A tree's nodes in memory; how deep one lies (depth); whether a node's times may be (Times.check).
-/
import Derived.Test.YteiocplfmjkbkaaGreatDoorRtF
import Derived.Deep.CutRange
namespace Go.Proofs.YteiocplfmjkbkaaGreatDoor
open Go.RowKit
set_option maxRecDepth 100000

/-- Nodes that can be read. -/
def NodesAt (w : World) (v : Value) (ns : List RNV) : Prop :=
  Rd w 8 v ns.length (ns.flatMap rn8) ∧ ∀ n ∈ ns, Rd w 3 n.va n.p.asks.length (n.p.asks.flatMap aqC) ∧ Rd w 1 n.vb n.p.bys.length (n.p.bys.map Value.string)
theorem NodesAt.below {w w' : World} {v : Value} {ns : List RNV} (h : NodesAt w v ns) (hb : Below w.heap.size w w') : NodesAt w' v ns :=
  ⟨h.1.below hb, fun n hn => ⟨(h.2 n hn).1.below hb, (h.2 n hn).2.below hb⟩⟩
theorem flatN {α : Type} (f : α → List Value) (n : Nat) (hn : ∀ a, (f a).length = n) : ∀ (l : List α) (k : Nat) (a : α), l[k]? = some a → ∀ (j : Nat) (u : Value), (f a)[j]? = some u → (l.flatMap f)[k * n + j]? = some u := by
  intro l k a h j u hu
  have hj : j < n := by rw [← hn a]; exact (List.getElem?_eq_some_iff.1 hu).1
  rw [flat_at f n hn l k a h j hj]
  exact hu
/-- how deep: what a tree's nodes are that may be -/
def DeepOk (ns : List RNV) (d : Nat → Nat) : Prop := ∀ i n, ns[i]? = some n → (n.p.above = -1 ∧ d i = 1) ∨ ∃ a : Nat, n.p.above = (a : Int) ∧ a < i ∧ d i = d a + 1
theorem DeepOk.le {ns : List RNV} {d : Nat → Nat} (h : DeepOk ns d) : ∀ i, i < ns.length → 1 ≤ d i ∧ d i ≤ i + 1 := by
  intro i
  induction i using Nat.strongRecOn with
  | _ i ih =>
    intro hi
    rcases h i ns[i] (List.getElem?_eq_getElem hi) with ⟨_, h2⟩ | ⟨a, _, h2, h3⟩
    · omega
    · have := ih a h2 (by omega); omega
def deepZ (d : Nat → Nat) (z : Int) : Nat := if z < 0 then 0 else d z.toNat
set_option maxHeartbeats 4000000 in
/-- (*Tree).depth. -/
theorem tDepth (t : Nat) (v : Value) (ns : List RNV) (d : Nat → Nat) (z : Int) (w : World) (hB : Blk w t #[v] 74) (hr : Rd w 8 v ns.length (ns.flatMap rn8)) (hd : DeepOk ns d) (hz : -1 ≤ z) (hz2 : z < ns.length) (hn : ns.length ≤ 1000) :
    Calls Tryz.prog 24 #[.pointer (some ⟨t, 0, none⟩), .int .i64 z] w fun e w' => e = .returned (.int .i64 (deepZ d z : Nat)) ∧ w' = w := by
  have c0 := hB.cell (j := 0) (v := v) rfl
  obtain ⟨A, c, rfl, h1, h2, h3, h4⟩ := hr
  unfold maxLen at h3
  have HA := Lib.hid h4
  have HD := Lib.hid hd
  clear h4 hd h1 hB
  go_enter Tryz.func24, Tryz.ntmps24
  go_wp2_with fail
  go_loop [1, 5] (fun i n => ∃ (y : Int) (m : Nat), -1 ≤ y ∧ y < ns.length ∧ y ≤ z ∧ m + y ≤ z ∧ i = .int .i64 y ∧ n = .int .i64 m ∧ m + deepZ d y = deepZ d z) (fun i _ => (intOf i + 1).toNat)
  case atStart => exact ⟨z, 0, hz, hz2, Int.le_refl _, by omega, rfl, rfl, by omega⟩
  case round =>
    obtain ⟨y, m, hy, hy2, hyz, hmz, rfl, rfl, hm⟩ := hrel
    by_cases hlt : 0 ≤ y
    · obtain ⟨k, rfl⟩ : ∃ k : Nat, y = (k : Int) := ⟨y.toNat, by omega⟩
      obtain ⟨b, o, rfl, hat⟩ := HA.out (by omega)
      obtain ⟨n, hp⟩ : ∃ n, ns[k]? = some n := ⟨_, List.getElem?_eq_getElem (by omega)⟩
      have x7 := hat.nth (Below.refl _ _) (k*8) 7 _ (flatN rn8 8 rn8_len ns k n hp 7 _ rfl)
      have hle := HD.out.le k (by omega)
      have hk : deepZ d (k : Int) = d k := by unfold deepZ; rw [if_neg (by omega)]; rfl
      rw [hk] at hm
      have hs := HD.out k n hp
      obtain ⟨ab, hab⟩ : ∃ ab, ab = n.p.above := ⟨_, rfl⟩
      rw [← hab] at x7 hs
      have hnew : -1 ≤ ab ∧ ab < (k : Int) ∧ (m + 1) + deepZ d ab = deepZ d z := by
        rcases hs with ⟨h5, h6⟩ | ⟨a, h5, h6, h7⟩
        · refine ⟨by omega, by omega, ?_⟩
          unfold deepZ at hm ⊢
          rw [if_pos (show ab < 0 by omega)]; omega
        · refine ⟨by omega, by omega, ?_⟩
          have : deepZ d ab = d a := by rw [h5]; unfold deepZ; rw [if_neg (by omega)]; rfl
          omega
      obtain ⟨g1, g2, g3⟩ := hnew
      have G3 := Lib.hid g3
      clear g3 hs hk hp hab hat hm hle
      go_wp2_with fail
      go_round
      case rel => exact ⟨ab, m + 1, g1, by omega, by omega, by omega, rfl, by go_num, G3.out⟩
      case measure => simp [intOf]; omega
    · obtain rfl : y = -1 := by omega
      have e : m = deepZ d z := by have : deepZ d (-1) = 0 := rfl; omega
      have E := Lib.hid e
      clear e hm
      go_wp2_with fail
      go_ret
      exact ⟨by rw [E.out]; rfl, rfl⟩
set_option maxHeartbeats 4000000 in
/-- Times.check of times that may be. -/
theorem tTimes (a b c : Nat) (w : World) (ha : a ≤ 1048576) (hb : 1 ≤ b) (hc : b ≤ c) (hc2 : c ≤ 1048576) :
    Calls Tryz.prog 46 #[.agg #[.int .u64 a, .int .u64 b, .int .u64 c]] w fun e w' => e = .returned (.int .i64 0) ∧ Below w.heap.size w w' := by
  go_enter Tryz.func46, Tryz.ntmps46
  go_wp2_with fail
  go_loop [4, 13] (fun _ i => ∃ k : Nat, k ≤ 3 ∧ i = .int .i64 k) (fun _ i => 3 - (intOf i).toNat)
  case atStart => exact ⟨0, by omega, rfl⟩
  case round =>
    obtain ⟨k, hk, rfl⟩ := hrel
    by_cases hlt : k < 3
    · obtain ⟨m, hm, h0⟩ : ∃ m : Nat, m ≤ 1048576 ∧ ((#[.int .u64 (a : Nat), .int .u64 (b : Nat), .int .u64 (c : Nat)] : Array Value)[k]? = some (.int .u64 (m : Nat))) := by
        obtain rfl | rfl | rfl : k = 0 ∨ k = 1 ∨ k = 2 := by omega
        · exact ⟨a, ha, rfl⟩
        · exact ⟨b, by omega, rfl⟩
        · exact ⟨c, hc2, rfl⟩
      have hc0 := (Blk.new (w.alloc (.cells #[.int .u64 (a : Nat), .int .u64 (b : Nat), .int .u64 (c : Nat)] 48)) #[.int .u64 (a : Nat), .int .u64 (b : Nat), .int .u64 (c : Nat)] 35).cell h0
      rw [show (w.alloc (.cells #[.int .u64 (a : Nat), .int .u64 (b : Nat), .int .u64 (c : Nat)] 48)).heap.size = w.heap.size + 1 from Array.size_push _] at hc0
      clear h0
      go_wp2_with fail
      go_round
      case rel => exact ⟨k + 1, by omega, by go_num⟩
      case measure => simp [intOf]; omega
    · obtain rfl : k = 3 := by omega
      go_wp2_with fail
      go_ret
      exact ⟨rfl, ((Below.refl _ _).alloc (Nat.le_refl _) _).alloc (by simp) _⟩
end Go.Proofs.YteiocplfmjkbkaaGreatDoor
