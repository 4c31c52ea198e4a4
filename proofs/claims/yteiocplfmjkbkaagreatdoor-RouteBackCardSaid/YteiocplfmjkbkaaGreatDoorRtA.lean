/-
  Awake of watchfirelaw20: two lines are a tree; an alert is taken by the second node.
-/
import Derived.Test.YteiocplfmjkbkaaGreatDoorRtP
import Derived.Test.YteiocplfmjkbkaaGreatDoorMg36
namespace Go.Proofs.YteiocplfmjkbkaaGreatDoor
open Go.RowKit
set_option maxRecDepth 100000

/-- What are nodes of a tree; d: how deep each is. -/
structure RTree (ps : List RN) (d : Nat → Nat) : Prop where
  some : 0 < ps.length
  many : ps.length ≤ 32
  fit : ∀ n ∈ ps, n.Fit
  deep : ∀ (i : Nat) n, ps[i]? = .some n → (n.above = -1 ∧ d i = 1) ∨ ∃ a : Nat, n.above = (a : Int) ∧ a < i ∧ d i = d a + 1
  root : ∀ n, ps[0]? = .some n → n.above = -1 ∧ n.asks = [] ∧ n.more = false
  hang : ∀ (i : Nat) n, 0 < i → ps[i]? = .some n → 0 ≤ n.above ∧ n.above < (i : Int)
  most : ∀ i : Nat, i < ps.length → d i ≤ 8
theorem RTree.nodes {ps : List RN} {d : Nat → Nat} (h : RTree ps d) {ns : List RNV} (e : ns.map (·.p) = ps) : TreeFit ns d := by
  have hl : ns.length = ps.length := by rw [← e, List.length_map]
  have hi : ∀ (i : Nat) n, ns[i]? = .some n → ps[i]? = .some n.p := fun i n hn => by rw [← e, List.getElem?_map, hn]; rfl
  exact ⟨by rw [hl]; exact h.some, by rw [hl]; exact h.many, fun n hn => h.fit n.p (by rw [← e]; exact List.mem_map.2 ⟨n, hn, rfl⟩), fun i n hn => h.deep i n.p (hi i n hn), fun n hn => h.root n.p (hi 0 n hn), fun i n h0 hn => h.hang i n.p h0 (hi i n hn), fun i h5 => h.most i (by rw [← hl]; exact h5)⟩
theorem NodesOk.of {ps : List RN} {d : Nat → Nat} (h : RTree ps d) {ns : List RNV} (e : ns.map (·.p) = ps) : NodesOk ns ∧ AsksFit ns ∧ AsksFit2 ns := by
  have hm : ∀ n ∈ ns, n.p.Fit := fun n hn => h.fit n.p (by rw [← e]; exact List.mem_map.2 ⟨n, hn, rfl⟩)
  refine ⟨fun n hn => ⟨(hm n hn).asks, (hm n hn).bys⟩, fun n hn a ha => ?_, fun n hn a ha => ?_⟩
  · have h1 := (hm n hn).ask a ha
    obtain ⟨_, h3, h4, _⟩ := chkA_parts h1
    exact ⟨h3, h4, by have := (ask_size h1).2.1; unfold maxLen; omega⟩
  · obtain ⟨_, h3, h4, _⟩ := chkA_parts ((hm n hn).ask a ha)
    exact ⟨h3, h4⟩
instance wOkDec (x : ByteArray) : Decidable (wOk x) := by unfold wOk; infer_instance
def awk0 : LnV := ⟨0, [], [.tgt ⟨#[111, 112, 115]⟩, .bys [⟨#[114, 117, 108, 101]⟩], .wait 1, .between 5, .again 9]⟩
def awk1 : LnV := ⟨1, [(⟨#[97]⟩, 1, ⟨#[98]⟩)], [.tgt ⟨#[109, 101]⟩]⟩
def awkT0 : ByteArray := ⟨#[114, 111, 117, 116, 101, 32, 42, 32, 116, 111, 32, 111, 112, 115, 32, 98, 121, 32, 114, 117, 108, 101, 32, 119, 97, 105, 116, 32, 49, 32, 98, 101, 116, 119, 101, 101, 110, 32, 53, 32, 114, 101, 112, 101, 97, 116, 32, 57]⟩
def awkT1 : ByteArray := ⟨#[45, 32, 114, 111, 117, 116, 101, 32, 97, 61, 98, 32, 116, 111, 32, 109, 101]⟩
theorem awk0_words : awk0.words = [⟨#[114, 111, 117, 116, 101]⟩, ⟨#[42]⟩, ⟨#[116, 111]⟩, ⟨#[111, 112, 115]⟩, ⟨#[98, 121]⟩, ⟨#[114, 117, 108, 101]⟩, ⟨#[119, 97, 105, 116]⟩, ⟨#[49]⟩, ⟨#[98, 101, 116, 119, 101, 101, 110]⟩, ⟨#[53]⟩, ⟨#[114, 101, 112, 101, 97, 116]⟩, ⟨#[57]⟩] := by
  have h1 : decB 1 = ⟨#[49]⟩ := decB_small 1 (by decide)
  have h5 : decB 5 = ⟨#[53]⟩ := decB_small 5 (by decide)
  have h9 : decB 9 = ⟨#[57]⟩ := decB_small 9 (by decide)
  show [_, asksT [], _, _, _, keysT [⟨#[114, 117, 108, 101]⟩], _, decB 1, _, decB 5, _, decB 9] = _
  rw [h1, h5, h9]
  decide +kernel
theorem awk1_words : awk1.words = [⟨#[114, 111, 117, 116, 101]⟩, ⟨#[97, 61, 98]⟩, ⟨#[116, 111]⟩, ⟨#[109, 101]⟩] := by
  decide +kernel
theorem awk0_text : awk0.text = awkT0 := by
  unfold LnV.text
  rw [awk0_words]
  decide +kernel
theorem awk1_text : awk1.text = awkT1 := by
  unfold LnV.text
  rw [awk1_words]
  decide +kernel
def awkN0 : RN := ⟨[], ⟨#[111, 112, 115]⟩, [⟨#[114, 117, 108, 101]⟩], 1, 5, 9, false, -1⟩
def awkN1 : RN := ⟨[(⟨#[97]⟩, 1, ⟨#[98]⟩)], ⟨#[109, 101]⟩, [⟨#[114, 117, 108, 101]⟩], 1, 5, 9, false, 0⟩
theorem awk_run : (runL [awk0, awk1]).1 = [awkN0, awkN1] := rfl
theorem awk_fit : LinesFit [awk0, awk1] := by
  refine ⟨by decide, fun l hl => ?_, fun l hl s hs => ?_, fun l hl => ?_, fun k l hl => ?_⟩
  · simp only [List.mem_cons, List.not_mem_nil, or_false] at hl
    rcases hl with rfl | rfl
    · exact ⟨by decide, fun a ha => (nomatch ha)⟩
    · refine ⟨by decide, fun a ha => ?_⟩
      rw [List.mem_singleton.1 ha]
      decide +kernel
  · simp only [List.mem_cons, List.not_mem_nil, or_false] at hl
    rcases hl with rfl | rfl
    · simp only [awk0, List.mem_cons, List.not_mem_nil, or_false] at hs
      rcases hs with rfl | rfl | rfl | rfl | rfl
      · trivial
      · exact ⟨by decide, fun k hk => by rw [List.mem_singleton.1 hk]; decide +kernel, by simp⟩
      · show 1 ≤ 1048576; omega
      · show 5 ≤ 1048576; omega
      · show 9 ≤ 1048576; omega
    · simp only [awk1, List.mem_cons, List.not_mem_nil, or_false] at hs
      rw [hs]; trivial
  · simp only [List.mem_cons, List.not_mem_nil, or_false] at hl
    rcases hl with rfl | rfl
    · rw [awk0_words, awk0_text]
      exact ⟨by decide +kernel, by decide +kernel, by decide⟩
    · rw [awk1_words, awk1_text]
      exact ⟨by decide +kernel, by decide +kernel, by decide⟩
  · match k, hl with
    | 0, hl => obtain rfl : awk0 = l := Option.some.inj hl; exact ⟨by decide, by decide⟩
    | 1, hl => obtain rfl : awk1 = l := Option.some.inj hl; exact ⟨by decide, by decide⟩
    | k + 2, hl => simp at hl
theorem awk_tree : RTree [awkN0, awkN1] (fun i => i + 1) := by
  refine ⟨by decide, by decide, fun n hn => ?_, fun i n hi => ?_, fun n hn => ?_, fun i n h0 hn => ?_, fun i hi => ?_⟩
  · simp only [List.mem_cons, List.not_mem_nil, or_false] at hn
    have hk : ∀ k ∈ ([⟨#[114, 117, 108, 101]⟩] : List ByteArray), wordB k 8 false = true := fun k hk => by rw [List.mem_singleton.1 hk]; decide +kernel
    rcases hn with rfl | rfl
    · exact ⟨by decide, (fun a ha => nomatch ha), by decide +kernel, by decide, hk, by simp [awkN0], by decide, by decide, by decide, by decide⟩
    · exact ⟨by decide, fun a ha => by rw [List.mem_singleton.1 ha]; decide +kernel, by decide +kernel, by decide, hk, by simp [awkN1], by decide, by decide, by decide, by decide⟩
  · match i, hi with
    | 0, hi => obtain rfl : awkN0 = n := Option.some.inj hi; exact .inl ⟨rfl, rfl⟩
    | 1, hi => obtain rfl : awkN1 = n := Option.some.inj hi; exact .inr ⟨0, rfl, by decide, rfl⟩
    | i + 2, hi => simp at hi
  · obtain rfl : awkN0 = n := Option.some.inj hn
    exact ⟨rfl, rfl, rfl⟩
  · match i, h0, hn with
    | 1, _, hn => obtain rfl : awkN1 = n := Option.some.inj hn; exact ⟨by decide, by decide⟩
    | i + 2, _, hn => simp at hn
  · have : i < 2 := hi
    show i + 1 ≤ 8
    omega
theorem getL_small {b : Nat} (key : ByteArray) : ∀ (ps : List Pr), (∀ p ∈ ps, p.2.size ≤ b) → (getL ps key).1.size ≤ b := by
  intro ps
  induction ps with
  | nil => intro _; exact Nat.zero_le _
  | cons p r ih =>
    intro h
    unfold getL
    split
    · exact h p (.head _)
    · exact ih fun q hq => h q (.tail _ hq)
theorem names_small (org : Nat) (rule : ByteArray) (ls : List Pr) (ho : org ≤ 9) (hr : rule.size ≤ 1000) (hl : ∀ p ∈ ls, p.2.size ≤ 1000) : ∀ key, (getL (namesL ls rule org) key).1.size ≤ maxLen := by
  intro key
  refine Nat.le_trans (getL_small (b := 1000) key _ fun p hp => ?_) (by unfold maxLen; omega)
  unfold namesL at hp
  rcases List.mem_append.1 hp with hp | hp
  · rcases List.mem_append.1 hp with hp | hp
    · exact hl p hp
    · split at hp
      · cases hp
      · rw [List.mem_singleton.1 hp]; exact hr
  · split at hp
    · cases hp
    · rw [List.mem_singleton.1 hp]
      have := decB_size org (by omega)
      show (decB org).size ≤ 1000
      omega
def pairAB : List Pr := [(⟨#[97]⟩, ⟨#[98]⟩)]
theorem awk_find : findT [awkN0, awkN1] (holdN (namesL pairAB ⟨#[]⟩ 0)) 2 0 = [1] := by decide +kernel
set_option maxHeartbeats 4000000 in
theorem awake20 (mx : Int) (w : World) (hm : w.cell? ⟨2, 0, none⟩ = some (.int .i64 mx)) (hT : Lib.TabIs Tryz.prog w "strings.asciiSpace" .u8 Lib.asciiSpaceTab) :
    Calls Tryz.prog 6 #[] w fun e w' => e = .returned (.bool true) ∧ Below w.heap.size w w' := by
  have U0 := (Upd.nil [] w).alloc #[.string awkT0, .string awkT1] 9
  have hrd : Rd (w.alloc (.cells #[.string awkT0, .string awkT1] 9)) 1 (.slice (some ⟨w.heap.size, 0, none⟩) 2 2) 2 (([awk0, awk1].map LnV.text).map Value.string) := by
    refine ⟨_, _, rfl, rfl, Nat.le_refl _, by unfold maxLen; omega, fun _ => ⟨_, _, rfl, fun j u hj => ?_⟩⟩
    rw [Nat.zero_add]
    refine (U0.blk 0 rfl).cell ?_
    simp only [List.map_cons, List.map_nil, awk0_text, awk1_text] at hj
    rw [show (#[.string awkT0, .string awkT1] : Array Value) = [Value.string awkT0, .string awkT1].toArray from rfl, List.getElem?_toArray]
    exact hj
  have KP := rParse [awk0, awk1] (.slice (some ⟨w.heap.size, 0, none⟩) 2 2) mx (w.alloc (.cells #[.string awkT0, .string awkT1] 9)) hrd awk_fit (fun ns e => ⟨_, awk_tree.nodes (e.trans awk_run)⟩) (cell_updR U0 (by simp) hm) (tab_below hT U0.below)
  clear hm hT hrd
  unfold awkT0 awkT1 at U0 KP
  go_enter Tryz.func6, Tryz.ntmps6
  go_wp2_with fail
  (with_reducible refine KP.mono ?_)
  rintro e w1 ⟨t, v', ms, rfl, hms, hB, hN, ht, hb⟩
  have hms2 : ms.map (·.p) = [awkN0, awkN1] := hms.trans awk_run
  obtain ⟨ok1, ok2, ok3⟩ := NodesOk.of awk_tree hms2
  have hl : ms.length = 2 := by have := congrArg List.length hms2; rw [List.length_map] at this; exact this
  have U1 := (U0.grow hb).alloc #[.string ⟨#[97]⟩, .string ⟨#[98]⟩] 71
  have hbw : Below w1.heap.size w1 (w1.alloc (.cells #[.string ⟨#[97]⟩, .string ⟨#[98]⟩] 71)) := (Below.refl _ _).alloc (Nat.le_refl _) _
  have KF := (show Calls Tryz.prog 10 #[.pointer (some ⟨t, 0, none⟩), .agg #[.int .u8 0, .string ⟨#[]⟩, .slice (some ⟨w1.heap.size, 0, none⟩) 1 1, .int .u8 0, .int .u64 0, .int .u8 0, .int .i64 0]] (w1.alloc (.cells #[.string ⟨#[97]⟩, .string ⟨#[98]⟩] 71)) _ from tFind t v' ms 0 ⟨#[]⟩ (.slice (some ⟨w1.heap.size, 0, none⟩) 1 1) (.int .u8 0) (.int .u64 0) (.int .u8 0) (.int .i64 0) pairAB (w1.alloc (.cells #[.string ⟨#[97]⟩, .string ⟨#[98]⟩] 71)) (hB.below hbw hB.lt) (hN.below hbw) ok2 (names_small 0 ⟨#[]⟩ pairAB (by decide) (by decide) (by decide)) (by omega) (by omega) (by omega) (by decide) (rd_pair (p := (⟨#[97]⟩, ⟨#[98]⟩)) (U1.blk 0 rfl)))
  rw [hms2, hl, awk_find] at KF
  have HMS := Lib.hid hms2
  clear hms hms2 hB hN hl ok1 ok2 ok3 hbw KP ht
  go_wp2_with fail
  (with_reducible refine KF.mono ?_)
  rintro e w2 ⟨v2, rfl, hr2, hb2⟩
  obtain ⟨A2, c2, rfl⟩ := owns_slice hr2
  have U2 := U1.addRow hb2 hr2 (Nat.le_refl _)
  obtain ⟨_, _, he, _, _, _, h4⟩ := rd_of_owns hr2
  cases he
  obtain ⟨b, o, rfl, hat⟩ := h4 (by decide)
  have x0 := hat 0 (.int .i64 (1 : Nat)) rfl
  rw [Nat.add_zero] at x0
  clear hat h4 hr2 hb2 U1
  go_wp2_with fail
  go_ret
  exact ⟨rfl, U2.below⟩
end Go.Proofs.YteiocplfmjkbkaaGreatDoor
