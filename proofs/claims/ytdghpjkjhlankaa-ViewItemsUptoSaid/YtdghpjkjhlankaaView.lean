/-
  Alerts as texts: what view.Alert returns: the origin's name, the rule, the labels, the state, since when, the value, put together. Conditions: the topology's nodes are readable, the texts have room.
-/
import Derived.Test.YtdghpjkjhlankaaStr
import Derived.Test.YtdghpjkjhlankaaFree
import Derived.BigQuiet
import Derived.Deep.QuietTactic
namespace Go.Proofs.Ytdghpjkjhlankaa
open Go.RowKit FreeOrd
set_option maxRecDepth 100000
attribute [local go_sem] out

def stateB (s : Int) : ByteArray :=
  if s = 0 then ⟨#[105, 100, 108, 101]⟩ else if s = 1 then ⟨#[112, 101, 110, 100, 105, 110, 103]⟩ else if s = 2 then ⟨#[102, 105, 114, 105, 110, 103]⟩
  else if s = 3 then ⟨#[117, 110, 107, 110, 111, 119, 110]⟩ else ⟨#[63]⟩
theorem stateB_size (s : Int) : (stateB s).size ≤ 7 := by unfold stateB; split; decide; split; decide; split; decide; split; decide; decide
theorem viewState (s : Int) (w : World) : Calls Try.prog 16 #[.int .u8 s] w fun e w' => e = .returned (.string (stateB s)) ∧ w = w' := by
  by_cases h0 : s = 0
  · subst h0; go_enter Try.func16, Try.ntmps16; go_wp2_with fail; go_ret; exact ⟨rfl, rfl⟩
  by_cases h1 : s = 1
  · subst h1; go_enter Try.func16, Try.ntmps16; go_wp2_with fail; go_ret; exact ⟨rfl, rfl⟩
  by_cases h2 : s = 2
  · subst h2; go_enter Try.func16, Try.ntmps16; go_wp2_with fail; go_ret; exact ⟨rfl, rfl⟩
  by_cases h3 : s = 3
  · subst h3; go_enter Try.func16, Try.ntmps16; go_wp2_with fail; go_ret; exact ⟨rfl, rfl⟩
  have e := Lib.hid (show stateB s = ⟨#[63]⟩ by unfold stateB; rw [if_neg h0, if_neg h1, if_neg h2, if_neg h3])
  have b0 : (s == 0) = false := by simpa using h0
  have b1 : (s == 1) = false := by simpa using h1
  have b2 : (s == 2) = false := by simpa using h2
  have b3 : (s == 3) = false := by simpa using h3
  clear h0 h1 h2 h3
  go_enter Try.func16, Try.ntmps16; go_wp2_with fail; go_ret; exact ⟨by rw [e.out]; rfl, rfl⟩

/-- A number that may be below 0, in decimal. -/
def sdecB (n : Int) : ByteArray := if n < 0 then ⟨#[45]⟩ ++ decB n.natAbs else decB n.toNat
theorem BA_size_append (a b : ByteArray) : (a ++ b).size = a.size + b.size := ByteArray.size_append
theorem sdecB_size (n : Int) (h0 : -9223372036854775808 ≤ n) (h1 : n ≤ 9223372036854775807) : (sdecB n).size ≤ 21 := by
  unfold sdecB; split
  · have := decB_size n.natAbs (by omega)
    rw [BA_size_append]; show 1 + _ ≤ 21; omega
  · have := decB_size n.toNat (by omega); omega
theorem viewSigned (n : Int) (w : World) (h0 : -9223372036854775808 ≤ n) (h1 : n ≤ 9223372036854775807) :
    Calls Try.prog 34 #[.int .i64 n] w fun e w' => e = .returned (.string (sdecB n)) ∧ Below w.heap.size w w' := by
  by_cases h : n < 0
  · have e := Lib.hid (show sdecB n = ⟨#[45]⟩ ++ decB n.natAbs by unfold sdecB; rw [if_pos h])
    have hs := decB_size n.natAbs (by omega)
    go_enter Try.func34, Try.ntmps34
    go_wp2_with fail
    rw [show (-(n + 1) + 1) = ((n.natAbs : Nat) : Int) from by omega]
    refine (printed n.natAbs _ (by omega)).mono ?_
    rintro e w1 ⟨rfl, hb⟩
    have h45 : (⟨#[45]⟩ : ByteArray).size = 1 := rfl
    go_wp2_with fail
    go_ret
    exact ⟨by rw [e.out]; rfl, hb⟩
  · have e := Lib.hid (show sdecB n = decB n.toNat by unfold sdecB; rw [if_neg h])
    have hs := decB_size n.toNat (by omega)
    obtain ⟨m, rfl⟩ := Int.eq_ofNat_of_zero_le (by omega : 0 ≤ n)
    go_enter Try.func34, Try.ntmps34
    go_wp2_with fail
    refine (printed m _ (by omega)).mono ?_
    rintro e w1 ⟨rfl, hb⟩
    go_wp2_with fail
    go_ret
    exact ⟨by rw [e.out]; rfl, hb⟩

/-- Nodes that can be read, with their names. -/
def Named (w : World) (v : Value) (names : List ByteArray) : Prop := ∃ xs, Rd w 5 v names.length xs ∧ ∀ (i : Nat) (s : ByteArray), names[i]? = some s → xs[i * 5]? = some (.string s)
theorem Named.below {w w' : World} {v : Value} {names : List ByteArray} (h : Named w v names) (hb : Below w.heap.size w w') : Named w' v names :=
  let ⟨xs, h1, h2⟩ := h; ⟨xs, h1.below hb, h2⟩
def originB (names : List ByteArray) (o : Nat) : ByteArray := (names[o]?).getD (decB o)
theorem viewOrigin (v0 v1 v2 v3 v4 v5 v6 v7 : Value) (names : List ByteArray) (o : Nat) (w : World) (hn : Named w v0 names) (ho : o < 256) :
    Calls Try.prog 31 #[.agg #[v0, v1, v2, v3, v4, v5, v6, v7], .int .u8 o] w fun e w' => e = .returned (.string (originB names o)) ∧ Below w.heap.size w w' := by
  obtain ⟨xs, ⟨A, c, rfl, h1, h2, h3, h4⟩, h5⟩ := hn
  unfold maxLen at h3
  by_cases hlt : o < names.length
  · obtain ⟨b, of, rfl, hat⟩ := h4 (by omega)
    obtain ⟨s, hs⟩ : ∃ s, names[o]? = some s := ⟨_, List.getElem?_eq_getElem hlt⟩
    have c0 := hat _ _ (h5 o s hs)
    have hb := World.block_lt_of_cell? w _ c0
    have e := Lib.hid (show originB names o = s by unfold originB; rw [hs]; rfl)
    clear h4 hs h5
    have c0' : ∀ ob : Obj, (w.alloc ob).cell? ⟨b, of + o * 5, none⟩ = some (.string s) := fun ob => by rw [World.cell?_alloc_lt w ob _ hb]; exact c0
    go_enter Try.func31, Try.ntmps31
    go_wp2_with fail
    go_ret
    exact ⟨by rw [e.out]; rfl, (Below.refl _ _).alloc (Nat.le_refl _) _⟩
  · have e := Lib.hid (show originB names o = decB o by unfold originB; rw [List.getElem?_eq_none (by omega)]; rfl)
    go_enter Try.func31, Try.ntmps31
    go_wp2_with fail
    refine (printed o _ (by omega)).mono ?_
    rintro e w1 ⟨rfl, hb⟩
    go_wp2_with fail
    go_ret
    exact ⟨by rw [e.out]; rfl, ((Below.refl _ _).alloc (Nat.le_refl _) _).trans (hb.mono (by simp))⟩

/-- An alert's text. -/
def alertB (names : List ByteArray) (o : Nat) (rule : ByteArray) (ps : List (ByteArray × ByteArray)) (st : Int) (since : Nat) (val : Int) : ByteArray :=
  originB names o ++ ⟨#[32]⟩ ++ rule ++ ⟨#[123]⟩ ++ ⟨(textL ps).toArray⟩ ++ ⟨#[125, 32]⟩ ++ stateB st ++ ⟨#[32, 115, 105, 110, 99, 101, 32]⟩ ++ decB since ++ ⟨#[32, 118, 97, 108, 117, 101, 32]⟩ ++ sdecB val
theorem viewAlert (v0 v1 v2 v3 v4 v5 v6 v7 : Value) (names : List ByteArray) (o : Nat) (rule : ByteArray) (lv : Value) (ps : List (ByteArray × ByteArray)) (st : Int) (since : Nat) (pv : Value) (val : Int) (w : World)
    (hn : Named w v0 names) (ho : o < 256) (hl : Rd w 2 lv ps.length (pairCells ps)) (hsince : since < 18446744073709551616) (hv0 : -9223372036854775808 ≤ val) (hv1 : val ≤ 9223372036854775807)
    (hz1 : ∀ s ∈ names, s.size ≤ 1000000000) (hz2 : rule.size ≤ 1000000000) (hz3 : (textL ps).length ≤ 1000000000) :
    Calls Try.prog 10 #[.agg #[v0, v1, v2, v3, v4, v5, v6, v7], .agg #[.int .u8 o, .string rule, lv, .int .u8 st, .int .u64 since, pv, .int .i64 val]] w fun e w' =>
      e = .returned (.string (alertB names o rule ps st since val)) ∧ Below w.heap.size w w' := by
  have k1 : (originB names o).size ≤ 1000000000 := by
    unfold originB
    cases h : names[o]? with
    | none => have := decB_size o (by omega); simp only [Option.getD_none]; omega
    | some s => exact hz1 s (List.mem_of_getElem? h)
  have k2 : (⟨(textL ps).toArray⟩ : ByteArray).size ≤ 1000000000 := by simpa [ByteArray.size] using hz3
  have k3 := stateB_size st
  have k4 := decB_size since hsince
  have k5 := sdecB_size val hv0 hv1
  have l1 : (⟨#[32]⟩ : ByteArray).size ≤ 1 := by decide
  have l2 : (⟨#[123]⟩ : ByteArray).size ≤ 1 := by decide
  have l3 : (⟨#[125, 32]⟩ : ByteArray).size ≤ 2 := by decide
  have l4 : (⟨#[32, 115, 105, 110, 99, 101, 32]⟩ : ByteArray).size ≤ 7 := by decide
  have l5 : (⟨#[32, 118, 97, 108, 117, 101, 32]⟩ : ByteArray).size ≤ 7 := by decide
  go_enter Try.func10, Try.ntmps10
  go_wp2_with fail
  have k2' : (textL ps).length ≤ 1000000000 := hz3
  clear l1 l2 l3 l4 l5 hz1
  obtain ⟨Inv, I0, F, S⟩ : ∃ Inv : World → Prop, Inv ((w.alloc (Obj.cells #[v0, v1, v2, v3, v4, v5, v6, v7] 33)).alloc (Obj.cells #[Value.int IntKind.u8 ↑o, Value.string rule, lv, Value.int IntKind.u8 st, Value.int IntKind.u64 ↑since, pv, Value.int IntKind.i64 val] 45)).drew ∧
      (∀ w', Inv w' → w'.cell? ⟨w.heap.size, 0, none⟩ = some v0 ∧ w'.cell? ⟨w.heap.size, 1, none⟩ = some v1 ∧ w'.cell? ⟨w.heap.size, 2, none⟩ = some v2 ∧ w'.cell? ⟨w.heap.size, 3, none⟩ = some v3
     ∧ w'.cell? ⟨w.heap.size, 4, none⟩ = some v4 ∧ w'.cell? ⟨w.heap.size, 5, none⟩ = some v5 ∧ w'.cell? ⟨w.heap.size, 6, none⟩ = some v6 ∧ w'.cell? ⟨w.heap.size, 7, none⟩ = some v7
     ∧ w'.cell? ⟨w.heap.size + 1, 0, none⟩ = some (.int .u8 o) ∧ w'.cell? ⟨w.heap.size + 1, 1, none⟩ = some (.string rule) ∧ w'.cell? ⟨w.heap.size + 1, 2, none⟩ = some lv ∧ w'.cell? ⟨w.heap.size + 1, 3, none⟩ = some (.int .u8 st)
     ∧ w'.cell? ⟨w.heap.size + 1, 4, none⟩ = some (.int .u64 since) ∧ w'.cell? ⟨w.heap.size + 1, 6, none⟩ = some (.int .i64 val)) ∧
      (∀ w' w'', Inv w' → Below w'.heap.size w' w'' → Inv w'' ∧ Below w.heap.size w w'') := by
    refine ⟨Holds w _, ((Holds.nil w).new _ _ _ rfl).new (w.heap.size + 1) _ _ (by simp) |>.drew, fun w' h => ?_, fun w' w'' h hb => ⟨h.grow hb, (h.grow hb).1⟩⟩
    refine ⟨?_, ?_, ?_, ?_, ?_, ?_, ?_, ?_, ?_, ?_, ?_, ?_, ?_, ?_⟩
    all_goals first | exact h.cell (.head _) rfl | exact h.cell (.tail _ (.head _)) rfl
  have I1 : ∀ w', Inv w' → Below w.heap.size w w' := fun w' h => (S w' w' h (Below.refl _ _)).2
  refine region_free Inv [] [] (List.range 29) (by kernel_rfl) (by kernel_rfl) (by kernel_rfl) I0 ?_
  clear I0
  simp only [List.range, List.range.loop]
  repeat (first
    | (refine RelSeq.pure_ (c := ?_) rfl rfl ?_ ?_; rotate_left; (focus (intro x w'; dsimp only; go_simp; (try (split; (focus (exfalso; omega)); go_simp)); (repeat' apply And.intro) <;> first | with_reducible rfl | assumption)); simp only [Act.put, List.setIfInBounds_toArray, List.set_cons_zero, List.set_cons_succ])
    | (refine RelSeq.grow_ (c := ?_) rfl rfl ?_ ?_; rotate_left; (focus (intro x w' hw _; dsimp only; obtain ⟨c0, c1, c2, c3, c4, c5, c6, c7, d0, d1, d2, d3, d4, d6⟩ := F w' hw; have hbr := Below.refl w'.heap.size w'; go_simp; (repeat' apply And.intro) <;> first | with_reducible rfl | assumption)); simp only [Act.put, List.setIfInBounds_toArray, List.set_cons_zero, List.set_cons_succ])
    | (refine RelSeq.grow_ (c := ?_) rfl rfl ?_ ?_; rotate_left
       (focus (intro x w' hw _; dsimp only
               have hbw := I1 w' hw
               go_simp
               first
                 | (go_at_call 31; refine (viewOrigin _ _ _ _ _ _ _ _ names o _ (hn.below hbw) ho).mono ?_; rintro e w1 ⟨rfl, hb1⟩; have hI1 := (S w' w1 hw hb1).1; go_simp; (repeat' apply And.intro) <;> first | with_reducible rfl | assumption)
                 | (go_at_call 32; refine (labText _ ps _ (hl.below hbw) (by omega)).mono ?_; rintro e w1 ⟨rfl, hb1⟩; have hI1 := (S w' w1 hw hb1).1; go_simp; (repeat' apply And.intro) <;> first | with_reducible rfl | assumption)
                 | (go_at_call 16; refine (viewState _ _).mono ?_; rintro e w1 ⟨rfl, rfl⟩; have hbr := Below.refl w'.heap.size w'; go_simp; (repeat' apply And.intro) <;> first | with_reducible rfl | assumption)
                 | (go_at_call 33; refine (printed _ _ hsince).mono ?_; rintro e w1 ⟨rfl, hb1⟩; have hI1 := (S w' w1 hw hb1).1; go_simp; (repeat' apply And.intro) <;> first | with_reducible rfl | assumption)
                 | (go_at_call 34; refine (viewSigned _ _ hv0 hv1).mono ?_; rintro e w1 ⟨rfl, hb1⟩; have hI1 := (S w' w1 hw hb1).1; go_simp; (repeat' apply And.intro) <;> first | with_reducible rfl | assumption)))
       simp only [Act.put, List.setIfInBounds_toArray, List.set_cons_zero, List.set_cons_succ]))
  refine RelSeq.nil_ fun x w' hw _ => TailSeq.nil_ ?_
  have hbw := I1 w' hw
  go_wp2
  go_ret
  exact ⟨rfl, hbw⟩
end Go.Proofs.Ytdghpjkjhlankaa
