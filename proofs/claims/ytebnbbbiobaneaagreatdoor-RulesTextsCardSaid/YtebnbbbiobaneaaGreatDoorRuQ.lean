/-
  watchfireref13.Rules: a list of rules, as the reference checks it.
-/
import Derived.Test.YtebnbbbiobaneaaGreatDoorMg18
import Derived.Test.YtebnbbbiobaneaaGreatDoorMg28
namespace Go.Proofs.YtebnbbbiobaneaaGreatDoor
open Go.RowKit
set_option maxRecDepth 100000

theorem cellBelowQ {w w' : World} {b o : Nat} {v : Value} (h : Below w.heap.size w w') (hc : w.cell? ⟨b, o, none⟩ = some v) : w'.cell? ⟨b, o, none⟩ = some v := by
  rw [World.cell?_of_block (h.block b (World.block_lt_of_cell? w _ hc))]
  exact hc
theorem below_drewK {B : Nat} (w : World) : Below B w w.drew :=
  have h := Below.refl B w
  ⟨h.os, h.tape, h.output, h.size, h.block⟩
def RuV.ref (r : RuV) : List Value := [.string r.nm, .string r.me, r.iv, r.wv, .int .i64 r.k, .int .i64 r.lim, .int .u64 r.tk, .int .u64 r.fo, .int .u64 r.ke, .int .u8 r.pr]
theorem ref_len (r : RuV) : r.ref.length = 10 := rfl
set_option maxHeartbeats 4000000 in
theorem refRules (v : Value) (rs : List RuV) (w : World) (hr : Rd w 10 v rs.length (rs.flatMap RuV.ref)) (hok : ∀ r ∈ rs, r.ok w) :
    Calls Tryz.prog 82 #[v] w fun e w' => e = .returned (.int .i64 (chkRs rs : Nat)) ∧ Below w.heap.size w w' := by
  obtain ⟨A, c, rfl, h1, h2, h3, h4⟩ := hr
  unfold maxLen at h3
  by_cases h32 : 32 < rs.length
  · have d : decide ((32 : Int) < (rs.length : Int)) = true := by simp; omega
    have E := Lib.hid (show chkRs rs = 5 by unfold chkRs; rw [if_pos h32])
    clear h32 h4 h1
    go_enter Tryz.func82, Tryz.ntmps82
    go_wp2_with fail
    go_ret
    exact ⟨by rw [E.out]; rfl, Below.refl _ _⟩
  have d : decide ((32 : Int) < (rs.length : Int)) = false := by simp; omega
  have E := Lib.hid (show chkRs rs = goL [] rs by unfold chkRs; rw [if_neg h32])
  clear h32
  go_enter Tryz.func82, Tryz.ntmps82
  go_wp2_with fail
  go_loopw [3] (fun i wr => ∃ j : Nat, j ≤ rs.length ∧ i = .int .i64 j ∧ goL [] rs = goL ((rs.take j).map (·.nm)) (rs.drop j) ∧ Below w.heap.size w wr) (fun i _ => rs.length - (intOf i).toNat)
  case atStart => exact ⟨0, Nat.zero_le _, rfl, rfl, Below.refl _ _⟩
  case round =>
    obtain ⟨j, hj, rfl, hG, hB⟩ := hrel
    by_cases hlt : j < rs.length
    · obtain ⟨r, hs⟩ : ∃ s, rs[j]? = some s := ⟨_, List.getElem?_eq_getElem hlt⟩
      obtain ⟨b, o, rfl, hat⟩ := h4 (by omega)
      have ok := (hok r (List.mem_of_getElem? hs)).below hB
      have e0 := fun i hi => flat_at RuV.ref 10 ref_len rs j r hs i hi
      rw [drop_consK hs] at hG
      have htk := congrArg (List.map (·.nm)) (take_snocK hs)
      rw [List.map_append, List.map_singleton] at htk
      have hnm : ∀ i, i < j → ∃ x, rs[i]? = some x ∧ w.cell? ⟨b, o + i * 10, none⟩ = some (.string x.nm) := fun i hi => by
        obtain ⟨x, hx⟩ : ∃ s, rs[i]? = some s := ⟨_, List.getElem?_eq_getElem (by omega)⟩
        have := flat_at RuV.ref 10 ref_len rs i x hx 0 (by omega)
        exact ⟨x, hx, hat (i * 10) _ (by simpa [RuV.ref] using this)⟩
      have hin : ∀ i x, i < j → rs[i]? = some x → x.nm ∈ (rs.take j).map (·.nm) := fun i x hi hx => List.mem_map.2 ⟨x, List.mem_of_getElem? (i := i) (by rw [List.getElem?_take, if_pos hi]; exact hx), rfl⟩
      have hall : ∀ s, (∀ i x, i < j → rs[i]? = some x → x.nm ≠ s) → s ∉ (rs.take j).map (·.nm) := fun s h hm => by
        obtain ⟨x, hx, he⟩ := List.mem_map.1 hm
        obtain ⟨i, hi⟩ := List.mem_iff_getElem?.1 hx
        rw [List.getElem?_take] at hi
        split at hi
        · exact h i x (by assumption) hi he
        · cases hi
      obtain ⟨N, hN⟩ : ∃ N, N = (rs.take j).map (·.nm) := ⟨_, rfl⟩
      rw [← hN] at hG htk hin hall
      clear hN hs
      obtain ⟨nm, me, iv, ps1, k, lim, tk, fo, ke, pr, wv, ps2⟩ := r
      obtain ⟨o1, o2, o3, o4, o5, o6, o7, o8⟩ := ok
      dsimp only at o1 o2 o3 o4 o5 o6 o7 o8
      have o3' := o3
      have o5' := o5
      obtain ⟨A1, q1, rfl, _⟩ := o3
      obtain ⟨A2, q2, rfl, _⟩ := o5
      have c0 := hat.nth0 hB (j * 10) (.string nm) (by have := e0 0 (by omega); simpa [RuV.ref] using this)
      have c1 := hat.nth hB (j * 10) 1 (.string me) (by have := e0 1 (by omega); simpa [RuV.ref] using this)
      have c2 := hat.nth hB (j * 10) 2 (.slice A1 ps1.length q1) (by have := e0 2 (by omega); simpa [RuV.ref] using this)
      have c3 := hat.nth hB (j * 10) 3 (.slice A2 ps2.length q2) (by have := e0 3 (by omega); simpa [RuV.ref] using this)
      have c4 := hat.nth hB (j * 10) 4 (.int .i64 k) (by have := e0 4 (by omega); simpa [RuV.ref] using this)
      have c5 := hat.nth hB (j * 10) 5 (.int .i64 lim) (by have := e0 5 (by omega); simpa [RuV.ref] using this)
      have c6 := hat.nth hB (j * 10) 6 (.int .u64 tk) (by have := e0 6 (by omega); simpa [RuV.ref] using this)
      have c7 := hat.nth hB (j * 10) 7 (.int .u64 fo) (by have := e0 7 (by omega); simpa [RuV.ref] using this)
      have c8 := hat.nth hB (j * 10) 8 (.int .u64 ke) (by have := e0 8 (by omega); simpa [RuV.ref] using this)
      have c9 := hat.nth hB (j * 10) 9 (.int .u8 pr) (by have := e0 9 (by omega); simpa [RuV.ref] using this)
      have x0 := hat (j * 10) (.string nm) (by have := e0 0 (by omega); simpa [RuV.ref] using this)
      obtain ⟨er, hE⟩ : ∃ x, x = chkR (nameB nm) (nameB me) (ownName nm) (chkL ps1) (chkL ps2) (chkC k lim tk) (chkW fo ke) pr := ⟨_, rfl⟩
      have hG2 : goL [] rs = if er ≠ 0 then er else if hasN nm N = true then 7 else goL (N ++ [nm]) (rs.drop (j + 1)) := by rw [hG, hE]; rfl
      have K := refRuCheckA nm me A1 ps1.length q1 ps1 k lim tk fo ke pr A2 ps2.length q2 ps2 wr o1 o2 o3' o4 o5' o6
      rw [← hE] at K
      have HX := Lib.hid (And.intro hnm (And.intro hin hall))
      have i1 : decide ((j : Int) < (rs.length : Int)) = true := by simp; omega
      have i2 : (j : Int) < (rs.length : Int) := by omega
      clear h4 hat e0 o1 o2 o3' o4 o5' o6 o7 o8 hE hG hnm hin hall
      go_wp2_with fail
      (with_reducible refine K.mono ?_)
      rintro e w1 ⟨rfl, hb1⟩
      have hB2 := hB.trans (hb1.mono hB.size)
      clear K hb1 hB c0 c1 c2 c3 c4 c5 c6 c7 c8 c9
      by_cases z : er = 0
      · subst z
        rw [if_neg (by simp)] at hG2
        have HG := Lib.hid hG2
        clear hG2
        go_wp2_with fail
        go_loopw [5] (fun i wr => ∃ m : Nat, m ≤ j ∧ i = .int .i64 m ∧ (∀ i x, i < m → rs[i]? = some x → x.nm ≠ nm) ∧ Below w.heap.size w wr) (fun i _ => j - (intOf i).toNat)
        case atStart => exact ⟨0, Nat.zero_le _, rfl, fun i x h => absurd h (by omega), hB2⟩
        case round =>
          obtain ⟨m, hm, rfl, hno, hB3⟩ := hrel
          by_cases hmj : m < j
          · obtain ⟨x, hx, xc⟩ := HX.out.1 m hmj
            have y0 := cellBelowQ hB3 x0
            have y1 := cellBelowQ hB3 xc
            have m1 : (m : Int) < (rs.length : Int) := by omega
            have m2 : (m : Int) < (j : Int) := by omega
            by_cases he : x.nm = nm
            · have hE2 : (x.nm == nm) = true := by rw [beqS]; simpa using he
              have hT2 : (x.nm.toList == nm.toList) = true := by rw [eqS_eq]; simpa using he
              have E2 := Lib.hid (E.out.trans (HG.out.trans (if_pos ((hasN_iff nm N).2 (he ▸ HX.out.2.1 m x hmj hx)))))
              clear hno hx
              go_wp2_with fail
              go_region
              go_wp2_with fail
              go_ret
              exact ⟨by rw [E2.out]; rfl, hB3.trans (below_drewK _)⟩
            · have hE2 : (x.nm == nm) = false := by rw [beqS]; simpa using he
              have hT2 : (x.nm.toList == nm.toList) = false := by rw [eqS_eq]; simpa using he
              have hno2 := Lib.hid (show ∀ i y, i < m + 1 → rs[i]? = some y → y.nm ≠ nm from fun i y hi hy => by
                by_cases h : i < m
                · exact hno i y h hy
                · obtain rfl : i = m := by omega
                  rw [hx] at hy
                  cases hy
                  exact he)
              clear hno hx he
              go_wp2_with fail
              go_region
              go_wp2_with fail
              go_roundw
              case rel => exact ⟨m + 1, by omega, by go_num, hno2.out, hB3.trans (below_drewK _)⟩
              case measure => simp [intOf]; omega
          · obtain rfl : m = j := by omega
            have hG3 := Lib.hid (HG.out.trans (if_neg (fun h => HX.out.2.2 nm hno ((hasN_iff nm N).1 h))))
            have HT := Lib.hid htk
            clear hno htk
            go_wp2_with fail
            go_roundw
            case rel => exact ⟨m + 1, by omega, by go_num, by rw [HT.out]; exact hG3.out, hB3⟩
            case measure => simp [intOf]; omega
      · have zf : ((er : Int) == 0) = false := by simp; omega
        have E2 := Lib.hid (E.out.trans (hG2.trans (if_pos z)))
        clear hG2 z
        go_wp2_with fail
        go_ret
        exact ⟨by rw [E2.out]; rfl, hB2⟩
    · obtain rfl : j = rs.length := by omega
      rw [List.drop_length] at hG
      have E2 := Lib.hid (E.out.trans hG)
      clear hG
      go_wp2_with fail
      go_ret
      exact ⟨by rw [E2.out]; rfl, hB⟩
end Go.Proofs.YtebnbbbiobaneaaGreatDoor
