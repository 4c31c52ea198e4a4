/-
  rules.Check: a list of rules.
-/
import Derived.Test.YtgpojkofegajeaaGreatDoorRuC
import Derived.Test.YtgpojkofegajeaaGreatDoorMg17
namespace Go.Proofs.YtgpojkofegajeaaGreatDoor
open Go.RowKit
set_option maxRecDepth 100000

theorem cells_len (r : RuV) : r.cells.length = 10 := rfl
def hasN (s : ByteArray) (N : List ByteArray) : Bool := N.any fun x => decide (x = s)
theorem hasN_iff (s : ByteArray) (N : List ByteArray) : hasN s N = true ↔ s ∈ N := by simp [hasN]
/-- What is wrong with rules, behind some names. -/
def goL (seen : List ByteArray) : List RuV → Nat
  | [] => 0
  | r :: t => if r.err ≠ 0 then r.err else if hasN r.nm seen = true then 7 else goL (seen ++ [r.nm]) t
def chkRs (rs : List RuV) : Nat := if 32 < rs.length then 5 else goL [] rs
theorem drop_consK {α : Type} {l : List α} {k : Nat} {a : α} (h : l[k]? = some a) : l.drop k = a :: l.drop (k + 1) := by
  obtain ⟨h1, h2⟩ := List.getElem?_eq_some_iff.1 h
  rw [List.drop_eq_getElem_cons h1, h2]
theorem take_snocK {α : Type} {l : List α} {k : Nat} {a : α} (h : l[k]? = some a) : l.take (k + 1) = l.take k ++ [a] := by
  rw [List.take_add_one, h]; rfl
set_option maxHeartbeats 4000000 in
theorem ruList (v : Value) (rs : List RuV) (w : World) (hr : Rd w 10 v rs.length (rs.flatMap RuV.cells)) (hok : ∀ r ∈ rs, r.ok w) :
    Calls Tryz.prog 19 #[v] w fun e w' => e = .returned (.int .i64 (chkRs rs : Nat)) ∧ Below w.heap.size w w' := by
  have hmm := @run_makeMap Tryz.prog
  obtain ⟨A, c, rfl, h1, h2, h3, h4⟩ := hr
  unfold maxLen at h3
  by_cases h32 : 32 < rs.length
  · have d : decide ((32 : Int) < (rs.length : Int)) = true := by simp; omega
    have E := Lib.hid (show chkRs rs = 5 by unfold chkRs; rw [if_pos h32])
    clear h32 h4 h1
    go_enter Tryz.func19, Tryz.ntmps19
    go_wp2_with fail
    go_ret
    exact ⟨by rw [E.out]; rfl, Below.refl _ _⟩
  have d : decide ((32 : Int) < (rs.length : Int)) = false := by simp; omega
  have E := Lib.hid (show chkRs rs = goL [] rs by unfold chkRs; rw [if_neg h32])
  clear h32
  go_enter Tryz.func19, Tryz.ntmps19
  go_wp2_with fail
  go_loopw [13] (fun i wr => ∃ j : Nat, j ≤ rs.length ∧ i = .int .i64 j ∧ goL [] rs = goL ((rs.take j).map (·.nm)) (rs.drop j) ∧ SetAt wr w.heap.size ((rs.take j).map (·.nm)) ∧ Below w.heap.size w wr) (fun i _ => rs.length - (intOf i).toNat)
  case atStart => exact ⟨0, Nat.zero_le _, rfl, rfl, SetAt.made _, (Below.refl _ _).alloc (Nat.le_refl _) _⟩
  case round =>
    obtain ⟨j, hj, rfl, hG, hS, hB⟩ := hrel
    by_cases hlt : j < rs.length
    · obtain ⟨r, hs⟩ : ∃ s, rs[j]? = some s := ⟨_, List.getElem?_eq_getElem hlt⟩
      obtain ⟨b, o, rfl, hat⟩ := h4 (by omega)
      have ok := (hok r (List.mem_of_getElem? hs)).below hB
      have e0 := fun i hi => flat_at RuV.cells 10 cells_len rs j r hs i hi
      rw [drop_consK hs] at hG
      have htk := congrArg (List.map (·.nm)) (take_snocK hs)
      rw [List.map_append, List.map_singleton] at htk
      obtain ⟨N, hN⟩ : ∃ N, N = (rs.take j).map (·.nm) := ⟨_, rfl⟩
      rw [← hN] at hG hS htk
      clear hN hs
      obtain ⟨nm, me, iv, ps1, k, lim, tk, fo, ke, pr, wv, ps2⟩ := r
      obtain ⟨o1, o2, o3, o4, o5, o6, o7, o8⟩ := ok
      dsimp only at o1 o2 o3 o4 o5 o6 o7 o8
      have o3' := o3
      have o5' := o5
      obtain ⟨A1, q1, rfl, _⟩ := o3
      obtain ⟨A2, q2, rfl, _⟩ := o5
      have c0 := hat.nth0 hB (j * 10) (.string nm) (by have := e0 0 (by omega); simpa [RuV.cells] using this)
      have c1 := hat.nth hB (j * 10) 1 (.string me) (by have := e0 1 (by omega); simpa [RuV.cells] using this)
      have c2 := hat.nth hB (j * 10) 2 (.slice A1 ps1.length q1) (by have := e0 2 (by omega); simpa [RuV.cells] using this)
      have c3 := hat.nth hB (j * 10) 3 (.int .u8 k) (by have := e0 3 (by omega); simpa [RuV.cells] using this)
      have c4 := hat.nth hB (j * 10) 4 (.int .i64 lim) (by have := e0 4 (by omega); simpa [RuV.cells] using this)
      have c5 := hat.nth hB (j * 10) 5 (.int .u64 tk) (by have := e0 5 (by omega); simpa [RuV.cells] using this)
      have c6 := hat.nth hB (j * 10) 6 (.int .u64 fo) (by have := e0 6 (by omega); simpa [RuV.cells] using this)
      have c7 := hat.nth hB (j * 10) 7 (.int .u64 ke) (by have := e0 7 (by omega); simpa [RuV.cells] using this)
      have c8 := hat.nth hB (j * 10) 8 (.int .u8 pr) (by have := e0 8 (by omega); simpa [RuV.cells] using this)
      have c9 := hat.nth hB (j * 10) 9 (.slice A2 ps2.length q2) (by have := e0 9 (by omega); simpa [RuV.cells] using this)
      obtain ⟨er, hE⟩ : ∃ x, x = chkR (nameB nm) (nameB me) (ownName nm) (chkL ps1) (chkL ps2) (chkC k lim tk) (chkW fo ke) pr := ⟨_, rfl⟩
      have hG2 : goL [] rs = if er ≠ 0 then er else if hasN nm N = true then 7 else goL (N ++ [nm]) (rs.drop (j + 1)) := by rw [hG, hE]; rfl
      have KC := fun w' (hb : Below wr.heap.size wr w') => ruCheckA nm me A1 ps1.length q1 ps1 k lim tk fo ke pr A2 ps2.length q2 ps2 w' o1 o2 (o3'.below hb) o4 (o5'.below hb) o6 o7
      rw [← hE] at KC
      have hba : Below wr.heap.size wr (wr.alloc (.cells #[.string nm, .string me, .slice A1 ps1.length q1, .int .u8 k, .int .i64 lim, .int .u64 tk, .int .u64 fo, .int .u64 ke, .int .u8 pr, .slice A2 ps2.length q2] 32)) := (Below.refl _ _).alloc (Nat.le_refl _) _
      have hBk := Blk.new wr #[.string nm, .string me, .slice A1 ps1.length q1, .int .u8 k, .int .i64 lim, .int .u64 tk, .int .u64 fo, .int .u64 ke, .int .u8 pr, .slice A2 ps2.length q2] 32
      have hSz := hS.lt
      have hS1 := hS.below hba hSz
      have hB1 := hB.trans (hba.mono hB.size)
      have K := KC _ hba
      clear h4 hat e0 o1 o2 o3' o4 o5' o6 o7 o8 hE hG KC hba hS
      go_wp2_with fail
      (with_reducible refine K.mono ?_)
      rintro e w1 ⟨rfl, hb1⟩
      have hS2 := hS1.below hb1 hS1.lt
      have hB2 := hB1.trans (hb1.mono hB1.size)
      have hBk2 := hBk.below hb1 hBk.lt
      have a0 := hBk2.cell (j := 0) (v := .string nm) rfl
      clear K hS1 hB1 hBk hb1 c0 c1 c2 c3 c4 c5 c6 c7 c8 c9
      by_cases z : er = 0
      · subst z
        rw [if_neg (by simp)] at hG2
        by_cases hin : nm ∈ N
        · have hl := set_look hS2 nm true (by simpa using hin)
          rw [if_pos ((hasN_iff nm N).2 hin)] at hG2
          have E2 := Lib.hid (E.out.trans hG2)
          clear hG2 hin hBk2 hS2
          go_wp2_with fail
          go_ret
          exact ⟨by rw [E2.out]; rfl, hB2⟩
        · have hl := set_look hS2 nm false (by simpa using hin)
          obtain ⟨W2, hup, hS3, hbut⟩ := set_put hS2 nm hin
          rw [if_neg (fun h => hin ((hasN_iff nm N).1 h))] at hG2
          have hB3 := hbut.below hB2 (Nat.le_refl _) (Nat.le_refl _)
          have HG := Lib.hid (And.intro hG2 htk)
          clear hG2 hin htk hB2 hbut hS2
          go_wp2_with fail
          go_roundw
          case rel => exact ⟨j + 1, by omega, by go_num, by rw [HG.out.2]; exact HG.out.1, by rw [HG.out.2]; exact hS3, hB3⟩
          case measure => simp [intOf]; omega
      · have zf : ((er : Int) == 0) = false := by simp; omega
        have E2 := Lib.hid (E.out.trans (hG2.trans (if_pos z)))
        clear hG2 z hBk2 hS2
        go_wp2_with fail
        go_ret
        exact ⟨by rw [E2.out]; rfl, hB2⟩
    · obtain rfl : j = rs.length := by omega
      rw [List.drop_length] at hG
      have E2 := Lib.hid (E.out.trans hG)
      clear hG
      go_wp2_with fail
      go_ret
      exact ⟨by rw [E2.out]; rfl, hB⟩
end Go.Proofs.YtgpojkofegajeaaGreatDoor
