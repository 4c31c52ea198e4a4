/-
  rules.Text: a list of rules as a text.
-/
import Derived.Test.YtebnbbbiobaneaaGreatDoorRuB2
namespace Go.Proofs.YtebnbbbiobaneaaGreatDoor
open Go.RowKit
set_option maxRecDepth 100000

/-- What a rule's text asks of it. -/
structure RuV.bd (r : RuV) : Prop where
  k : 1 ≤ r.k ∧ r.k ≤ 5
  h0 : -9223372036854775808 ≤ r.lim
  h1 : r.lim ≤ 9223372036854775807
  tk : r.tk < 18446744073709551616
  fo : r.fo < 18446744073709551616
  ke : r.ke < 18446744073709551616
  nm : r.nm.size ≤ 1048576
  me : r.me.size ≤ 1048576
  iz : (textL r.ips).length ≤ 1048576
  wz : (textL r.wps).length ≤ 1048576
theorem builder_below {T e B b : Nat} {bs : List Value} {w w' : World} (h : Lib.IsBuilderF T e B b bs w) (hb : Below w.heap.size w w') : Lib.IsBuilderF T e B b bs w' := by
  have key : ∀ p, Lib.BuilderAtF T e B b p bs w → Lib.BuilderAtF T e B b p bs w' := by
    intro p h
    have hlt := h.lt
    obtain ⟨hB, v, hh, hown, hne⟩ := h
    exact ⟨hB, v, (hb.block b hlt).trans hh, hown.kept (row := none) ⟨hb.os, hb.tape, hb.output, hb.size, fun k hk _ => hb.block k hk⟩ (by cases hv : v.ownBlock <;> simp), hne⟩
  exact h.imp (key _) (key _)
theorem text_szL (r : RuV) : r.text.size = r.text.data.toList.length := Lib.size_eq _
theorem all_take (rs : List RuV) (j : Nat) : (textAll (rs.take j)).size ≤ (textAll rs).size := by
  rw [Lib.size_eq, Lib.size_eq, all_list, all_list]
  conv => rhs; rw [← List.take_append_drop j rs]
  rw [List.flatMap_append, List.length_append]
  omega
theorem all_snoc (rs : List RuV) (r : RuV) : (textAll (rs ++ [r])).data.toList = (textAll rs).data.toList ++ (r.text ++ ⟨#[10]⟩).data.toList := by
  rw [all_list, all_list, List.flatMap_append, List.flatMap_singleton, ByteArray.data_append, Array.toList_append]
set_option maxHeartbeats 4000000 in
theorem ruTexts (v : Value) (rs : List RuV) (w : World) (hr : Rd w 10 v rs.length (rs.flatMap RuV.cells)) (hok : ∀ r ∈ rs, r.ok w) (hbd : ∀ r ∈ rs, r.bd) (hz : (textAll rs).size ≤ 1099511627776) :
    Calls Tryz.prog 38 #[v] w fun e w' => e = .returned (.string (textAll rs)) ∧ Below w.heap.size w w' := by
  obtain ⟨A, c, rfl, h1, h2, h3, h4⟩ := hr
  unfold maxLen at h3
  go_enter Tryz.func38, Tryz.ntmps38
  go_wp2_with fail
  go_loopw [8] (fun i wr => ∃ j : Nat, j ≤ rs.length ∧ i = .int .i64 j ∧ Lib.IsBuilderF 174 5 w.heap.size w.heap.size (Lib.byteCells (textAll (rs.take j)).data.toList) wr ∧ Below w.heap.size w wr)
    (fun i _ => rs.length - (intOf i).toNat)
  case atStart => exact ⟨0, Nat.zero_le _, rfl, by simpa [textAll, Lib.byteCells] using Lib.IsBuilderF.of (Lib.fresh_isBuilder 174 5 w), (Below.refl _ _).alloc (Nat.le_refl _) _⟩
  case round =>
    obtain ⟨j, hj, rfl, hbl, hB⟩ := hrel
    by_cases hlt : j < rs.length
    · obtain ⟨r, hs⟩ : ∃ s, rs[j]? = some s := ⟨_, List.getElem?_eq_getElem hlt⟩
      obtain ⟨b, o, rfl, hat⟩ := h4 (by omega)
      have ok := (hok r (List.mem_of_getElem? hs)).below hB
      have bd := hbd r (List.mem_of_getElem? hs)
      have e0 := fun i hi => flat_at RuV.cells 10 cells_len rs j r hs i hi
      have htk := all_snoc (rs.take j) r
      rw [← take_snocK hs] at htk
      have hz1 := all_take rs j
      have hz2 := all_take rs (j + 1)
      have hsz1 : (textAll (rs.take j)).size = (textAll (rs.take j)).data.toList.length := Lib.size_eq _
      have hsz2 : (textAll (rs.take (j + 1))).size = (textAll (rs.take (j + 1))).data.toList.length := Lib.size_eq _
      have hsz3 : (r.text ++ ⟨#[10]⟩).size = (r.text ++ ⟨#[10]⟩).data.toList.length := Lib.size_eq _
      have hl := congrArg List.length htk
      rw [List.length_append] at hl
      have hsum : (textAll (rs.take j)).data.toList.length + (r.text ++ ⟨#[10]⟩).size ≤ 140737488355328 := by omega
      have htx : r.text.size ≤ 1099511627776 := by
        rw [ByteArray.size_append] at hsz3
        omega
      have HT := Lib.hid htk
      clear hs htk hz1 hz2 hsz1 hsz2 hsz3 hl
      obtain ⟨nm, me, iv, ps1, k, lim, tk, fo, ke, pr, wv, ps2⟩ := r
      obtain ⟨o1, o2, o3, o4, o5, o6, o7, o8⟩ := ok
      obtain ⟨b1, b2, b3, b4, b5, b6, b7, b8, b9, b10⟩ := bd
      dsimp only at o1 o2 o3 o4 o5 o6 o7 o8 b1 b2 b3 b4 b5 b6 b7 b8 b9 b10
      have o3' := o3
      have o5' := o5
      obtain ⟨A1, q1, rfl, _⟩ := o3
      obtain ⟨A2, q2, rfl, _⟩ := o5
      have c0 := hat.nth0 hB (j * 10) (.string nm) (by have := e0 0 (by omega); simpa [RuV.cells] using this)
      have c1 := hat.nth hB (j * 10) 1 (.string me) (by have := e0 1 (by omega); simpa [RuV.cells] using this)
      have c2 := hat.nth hB (j * 10) 2 (.slice A1 ps1.length q1) (by have := e0 2 (by omega); simpa [RuV.cells] using this)
      have c3 := hat.nth hB (j * 10) 3 (.int .u8 k) (by have := e0 3 (by omega); simpa [RuV.cells] using this)
      have c4 := hat.nth hB (j * 10) 4 (.int .i64 lim) (by have := e0 4 (by omega); simpa [RuV.cells] using this)
      have c5 := hat.nth hB (j * 10) 5 (.int .u64 tk) (by have := e0 5 (by omega); simpa [RuV.cells] using this)
      have c6 := hat.nth hB (j * 10) 6 (.int .u64 fo) (by have := e0 6 (by omega); simpa [RuV.cells] using this)
      have c7 := hat.nth hB (j * 10) 7 (.int .u64 ke) (by have := e0 7 (by omega); simpa [RuV.cells] using this)
      have c8 := hat.nth hB (j * 10) 8 (.int .u8 pr) (by have := e0 8 (by omega); simpa [RuV.cells] using this)
      have c9 := hat.nth hB (j * 10) 9 (.slice A2 ps2.length q2) (by have := e0 9 (by omega); simpa [RuV.cells] using this)
      obtain ⟨tx, hE⟩ : ∃ x, x = RuV.text ⟨nm, me, .slice A1 ps1.length q1, ps1, k, lim, tk, fo, ke, pr, .slice A2 ps2.length q2, ps2⟩ := ⟨_, rfl⟩
      have KC := fun w' (hb : Below wr.heap.size wr w') => ruText nm me A1 q1 ps1 k lim tk fo ke pr A2 q2 ps2 w' b1 b2 b3 b4 b5 b6 o8 b7 b8 (o3'.below hb) b9 (o5'.below hb) b10
      rw [← hE] at KC HT htx hsum
      have hba : Below wr.heap.size wr (wr.alloc (.cells #[.string nm, .string me, .slice A1 ps1.length q1, .int .u8 k, .int .i64 lim, .int .u64 tk, .int .u64 fo, .int .u64 ke, .int .u8 pr, .slice A2 ps2.length q2] 63)) := (Below.refl _ _).alloc (Nat.le_refl _) _
      have hbl1 := hbl.alloc (.cells #[.string nm, .string me, .slice A1 ps1.length q1, .int .u8 k, .int .i64 lim, .int .u64 tk, .int .u64 fo, .int .u64 ke, .int .u8 pr, .slice A2 ps2.length q2] 63)
      have hB1 := hB.trans (hba.mono hB.size)
      have K := KC _ hba
      clear h4 hat e0 o1 o2 o3' o4 o5' o6 o7 o8 hE KC hba b1 b2 b3 b4 b5 b6 b7 b8 b9 b10 hbl
      go_wp2_with fail
      (with_reducible refine K.mono ?_)
      rintro e w1 ⟨rfl, hb1⟩
      have hbl2 := builder_below hbl1 hb1
      have hB2 := hB1.trans (hb1.mono hB1.size)
      clear K hB1 hb1 c0 c1 c2 c3 c4 c5 c6 c7 c8 c9 hbl1
      go_wp2_with fail
      refine (bld_WriteString _ _ _ _ _ hbl2 ?_ ?_).mono ?_
      · rw [Lib.byteCells_length]; exact hsum
      · exact hB2.size
      rintro e w3 ⟨rfl, hat3, hb3, hk3⟩
      have hB3 := hB2.trans hb3
      clear hbl2 hB2 hb3 hk3
      go_wp2_with fail
      go_roundw
      case rel =>
        refine ⟨j + 1, by omega, by go_num, ?_, hB3⟩
        rw [HT.out, Lib.byteCells_append]
        refine .inr ?_
        rw [Lib.strCells_eq] at hat3
        simpa using hat3
      case measure => simp [intOf]; omega
    · obtain rfl : j = rs.length := by omega
      rw [List.take_length] at hbl
      clear h4
      go_wp2_with fail
      refine (bld_String _ _ _ _ hbl hB.size).mono ?_
      rintro e w4 ⟨rfl, hb4, hbe, hk4⟩
      have hB4 := hB.trans hbe
      go_wp2_with fail
      go_ret
      exact ⟨rfl, hB4⟩
end Go.Proofs.YtebnbbbiobaneaaGreatDoor
