/-
  watchfirelaw16.Awake.
-/
import Derived.Test.YtgpojkofegajeaaGreatDoorWaC
import Derived.Test.YtgpojkofegajeaaGreatDoorRuZ
namespace Go.Proofs.YtgpojkofegajeaaGreatDoor
open Go.RowKit
set_option maxRecDepth 100000

def wxT : ByteArray := ⟨#[114, 117, 108, 101, 32, 114, 32, 109, 32, 97, 98, 111, 118, 101, 32, 53, 32, 102, 111, 114, 32, 48, 32, 107, 101, 101, 112, 32, 48, 32, 112, 114, 105, 111, 32, 49]⟩
def wxW : List ByteArray := [⟨#[114]⟩, ⟨#[109]⟩, ⟨#[97, 98, 111, 118, 101]⟩, ⟨#[53]⟩, ⟨#[102, 111, 114]⟩, ⟨#[48]⟩, ⟨#[107, 101, 101, 112]⟩, ⟨#[48]⟩, ⟨#[112, 114, 105, 111]⟩, ⟨#[49]⟩]
theorem wxWords : wordsL wxT = kRule :: wxW := by kernel_rfl
theorem wxLines : nlL wxT = [wxT] := by kernel_rfl
theorem wxAsc : asc wxT := by unfold asc; decide +kernel
theorem wxLine : lineE wxW = 0 := by kernel_rfl
theorem wxChk : lnChk wxW = 0 := by kernel_rfl
theorem wxErr (ws : List ByteArray) (iv wv : Value) : (lineR ws iv wv).err = lnChk ws := by simp only [RuV.err, lineR, lnChk]
theorem wxRead : readG 0 (nlL wxT) = (0, 0) := by
  rw [wxLines]
  unfold readG
  rw [wxWords]
  dsimp only
  rw [if_pos rfl, if_pos wxLine]
  rfl
theorem wxReadL : readL (nlL wxT) = [wxW] := by
  rw [wxLines]
  unfold readL
  rw [wxWords]
  rfl
theorem wxE : parseE wxT = (0, 0) := by
  unfold parseE
  rw [if_neg (by decide), if_neg (by rw [wxRead]; simp), wxReadL]
  unfold chkRs
  rw [if_neg (by simp)]
  simp only [List.map_cons, List.map_nil, goL, lineS, wxErr, wxChk]
  simp [hasN]
theorem wxS : lineS wxW = ⟨⟨#[114]⟩, ⟨#[109]⟩, .slice none 0 0, [], 1, 5, 0, 0, 0, 1, .slice none 0 0, []⟩ := by kernel_rfl
theorem wxR : parseR wxT = [⟨⟨#[114]⟩, ⟨#[109]⟩, .slice none 0 0, [], 1, 5, 0, 0, 0, 1, .slice none 0 0, []⟩] := by
  unfold parseR
  rw [wxE, if_pos rfl, wxReadL, List.map_cons, wxS]
  rfl
theorem wxChkR (iv wv : Value) : chkRs [⟨⟨#[114]⟩, ⟨#[109]⟩, iv, [], 1, 5, 0, 0, 0, 1, wv, []⟩] = 0 := by
  simp only [chkRs, goL, RuV.err]
  kernel_rfl
set_option maxHeartbeats 4000000 in
theorem awake16 (mx : Int) (w : World) (hm : w.cell? ⟨2, 0, none⟩ = some (.int .i64 mx)) (hT : Lib.TabIs Tryz.prog w "strings.asciiSpace" .u8 Lib.asciiSpaceTab) :
    Calls Tryz.prog 6 #[] w fun e w' => e = .returned (.bool true) ∧ Below w.heap.size w w' := by
  have K := ruParse wxT mx w (by decide) wxAsc hm hT
  rw [wxE, wxR] at K
  unfold wxT at K
  clear hm hT
  go_enter Tryz.func6, Tryz.ntmps6
  go_wp2_with fail
  (with_reducible refine K.mono ?_)
  rintro e w1 ⟨v, rs, rfl, hs, ho, hg, hb⟩
  obtain ⟨r, rfl⟩ : ∃ r, rs = [r] := by
    rcases rs with _ | ⟨r, _ | ⟨r2, t⟩⟩
    · simp at hs
    · exact ⟨r, rfl⟩
    · simp at hs
  simp only [List.map_cons, List.map_nil, List.cons.injEq, and_true] at hs
  have hg1 := hg r (.head _)
  have hok := hg1.ok
  obtain ⟨nm, me, iv, ps1, k, lim, tk, fo, ke, pr, wv, ps2⟩ := r
  simp only [RuV.strip, RuV.mk.injEq] at hs
  obtain ⟨rfl, rfl, _, rfl, rfl, rfl, rfl, rfl, rfl, rfl, _, rfl⟩ := hs
  obtain ⟨A1, q1, e1⟩ := owns_slice hg1.io
  obtain ⟨A2, q2, e2⟩ := owns_slice hg1.wo
  dsimp only [List.length_nil] at e1 e2
  subst e1 e2
  have hq1 : q1 ≤ maxLen := by obtain ⟨_, _, he, _, _, h, _⟩ := rd_of_owns hg1.io; cases he; exact h
  have hq2 : q2 ≤ maxLen := by obtain ⟨_, _, he, _, _, h, _⟩ := rd_of_owns hg1.wo; cases he; exact h
  have KN := wNew_ok v _ w1 (rd_of_owns ho) (by intro r hr; rw [List.mem_singleton.1 hr]; exact hok) (wxChkR _ _) (by simp)
  obtain ⟨Av, cv, rfl⟩ := owns_slice ho
  have KN := (show Calls Tryz.prog 8 #[.slice Av 1 cv, .slice none 0 0] w1 _ from KN)
  have U0 := (Upd.nil [] w).grow hb
  clear hg hg1 hok ho hb K
  go_wp2_with fail
  (with_reducible refine KN.mono ?_)
  rintro e w2 ⟨b, rv, ms, mp, mk, rfl, hu⟩
  have U1 := Upd.grp (l := wParts b rv _ ms [] (.slice none 0 0) [] mp [] mk []) (C := []) (U0.call hu)
  have KA := (show Calls Tryz.prog 9 #[.pointer (some ⟨b, 0, none⟩), .int .u64 1, .agg #[.string ⟨#[109]⟩, .slice none 0 0, .int .i64 7]] w2 _ from wAddFirst ⟨#[114]⟩ ⟨#[109]⟩ A1 q1 5 0 1 A2 q2 b 1 7 _ w2 ⟨rv, ms, mp, mk, rfl⟩ (U1.get 0 rfl) (by unfold maxLen; decide) (by decide +kernel) (by decide))
  clear hu U0 KN
  go_wp2_with fail
  (with_reducible refine KA.mono ?_)
  rintro e w3 ⟨rfl, C3, hC3, hu⟩
  have U2 := U1.turn 0 rfl hu
  have KT := (show Calls Tryz.prog 10 #[.pointer (some ⟨b, 0, none⟩), .int .u64 1] w3 _ from wTickW ⟨#[114]⟩ ⟨#[109]⟩ A1 q1 5 0 1 A2 q2 b 1 7 C3 w3 1 hC3 (U2.get 0 rfl) (by unfold maxLen; decide) hq1 hq2 (by decide))
  clear hu U1 KA hC3
  go_wp2_with fail
  (with_reducible refine KT.mono ?_)
  rintro e w4 ⟨v4, v5, va, C4, rfl, _, hva, hu⟩
  have U3 := U2.turn 0 rfl hu
  have hva := hva (by decide)
  subst hva
  obtain ⟨g4, c4, rfl⟩ := row_some (U3.row 1 rfl) (by decide)
  have y2 := row_cell (U3.row 1 rfl) (by decide) 2 (.bool true) rfl
  have y4 := row_cell (U3.row 1 rfl) (by decide) 4 (.int .i64 7) rfl
  have hB := U3.below
  clear hu U2 KT U3
  go_wp2_with fail
  go_ret
  exact ⟨rfl, hB⟩
end Go.Proofs.YtgpojkofegajeaaGreatDoor
