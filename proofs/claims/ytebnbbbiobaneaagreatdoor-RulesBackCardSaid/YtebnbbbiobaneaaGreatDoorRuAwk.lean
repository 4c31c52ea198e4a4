/-
  watchfirelaw15.Awake: the text of chapter 15's example is its rule.
-/
import Derived.Test.YtebnbbbiobaneaaGreatDoorRuZ
import Derived.Test.YtebnbbbiobaneaaGreatDoorLRef
namespace Go.Proofs.YtebnbbbiobaneaaGreatDoor
open Go.RowKit
set_option maxRecDepth 100000

def exT : ByteArray := ⟨#[114, 117, 108, 101, 32, 104, 111, 116, 32, 116, 101, 109, 112, 32, 105, 102, 32, 114, 111, 111, 109, 61, 97, 32, 97, 98, 111, 118, 101, 32, 51, 48, 32, 102, 111, 114, 32, 53, 32, 107, 101, 101, 112, 32, 50, 32, 112, 114, 105, 111, 32, 51, 32, 119, 105, 116, 104, 32, 116, 101, 97, 109, 61, 120]⟩
def exW : List ByteArray := [⟨#[104, 111, 116]⟩, ⟨#[116, 101, 109, 112]⟩, ⟨#[105, 102]⟩, ⟨#[114, 111, 111, 109, 61, 97]⟩, ⟨#[97, 98, 111, 118, 101]⟩, ⟨#[51, 48]⟩, ⟨#[102, 111, 114]⟩, ⟨#[53]⟩, ⟨#[107, 101, 101, 112]⟩, ⟨#[50]⟩, ⟨#[112, 114, 105, 111]⟩, ⟨#[51]⟩, ⟨#[119, 105, 116, 104]⟩, ⟨#[116, 101, 97, 109, 61, 120]⟩]
def exP1 : Pr := (⟨#[114, 111, 111, 109]⟩, ⟨#[97]⟩)
def exP2 : Pr := (⟨#[116, 101, 97, 109]⟩, ⟨#[120]⟩)
theorem sort_one (p : Pr) : sortL [p] = [p] := (sortL_unique (.refl _) (by simp)).symm
theorem exParse1 : parseC ⟨#[114, 111, 111, 109, 61, 97]⟩ = (0, [exP1]) := by
  unfold parseC
  rw [show parseF (partsL ⟨#[114, 111, 111, 109, 61, 97]⟩) [] = (0, [exP1]) by kernel_rfl]
  rw [if_neg (by decide), if_neg (by decide), if_pos rfl]
  simp only [makeL, sort_one, show chkL [exP1] = 0 by kernel_rfl, if_true]
theorem exParse2 : parseC ⟨#[116, 101, 97, 109, 61, 120]⟩ = (0, [exP2]) := by
  unfold parseC
  rw [show parseF (partsL ⟨#[116, 101, 97, 109, 61, 120]⟩) [] = (0, [exP2]) by kernel_rfl]
  rw [if_neg (by decide), if_neg (by decide), if_pos rfl]
  simp only [makeL, sort_one, show chkL [exP2] = 0 by kernel_rfl, if_true]
theorem exWords : wordsL exT = kRule :: exW := by kernel_rfl
theorem exLines : nlL exT = [exT] := by kernel_rfl
theorem exAsc : asc exT := by unfold asc; decide +kernel
theorem exI : lnI exW = true := by kernel_rfl
theorem exH : lnH exW = true := by kernel_rfl
theorem exE4 : lnE4 exW = 0 := by
  unfold lnE4
  rw [exI, if_pos rfl]
  unfold lbE
  rw [show (lnW3 exW).headD ⟨#[]⟩ = ⟨#[114, 111, 111, 109, 61, 97]⟩ by kernel_rfl, exParse1]
  kernel_rfl
theorem exP : lnP exW = [exP1] := by
  unfold lnP
  rw [exI, if_pos rfl]
  unfold lbL
  rw [show (lnW3 exW).headD ⟨#[]⟩ = ⟨#[114, 111, 111, 109, 61, 97]⟩ by kernel_rfl, exParse1]
theorem exE5 : lnE5 exW = 0 := by
  unfold lnE5 cdE
  rw [exE4]
  kernel_rfl
theorem exE6 : lnE6 exW = 0 := by
  unfold lnE6
  rw [exE5]
  kernel_rfl
theorem exE7 : lnE7 exW = 0 := by
  unfold lnE7
  rw [exE6]
  kernel_rfl
theorem exE8 : lnE8 exW = 0 := by
  unfold lnE8
  rw [exE7]
  kernel_rfl
theorem exE9 : lnE9 exW = 0 := by
  unfold lnE9
  rw [exE8]
  kernel_rfl
theorem exE10 : lnE10 exW = 0 := by
  unfold lnE10
  rw [exE9]
  kernel_rfl
theorem exE11 : lnE11 exW = 0 := by
  unfold lnE11
  rw [exE10]
  kernel_rfl
theorem exE13 : lnE13 exW = 0 := by
  unfold lnE13
  rw [exH, if_pos rfl, exE11]
  unfold lbE
  rw [show (lnW12 exW).headD ⟨#[]⟩ = ⟨#[116, 101, 97, 109, 61, 120]⟩ by kernel_rfl, exParse2]
  kernel_rfl
theorem exQ : lnQ exW = [exP2] := by
  unfold lnQ
  rw [exH, if_pos rfl]
  unfold lbL
  rw [show (lnW12 exW).headD ⟨#[]⟩ = ⟨#[116, 101, 97, 109, 61, 120]⟩ by kernel_rfl, exParse2]
theorem exE14 : lnE14 exW = 0 := by
  unfold lnE14
  rw [exE13]
  kernel_rfl
theorem exChk : lnChk exW = 0 := by
  unfold lnChk
  rw [exP, exQ]
  kernel_rfl
theorem exLine : lineE exW = 0 := by
  unfold lineE
  rw [exE14, exChk]
  rfl
theorem err_line (ws : List ByteArray) (iv wv : Value) : (lineR ws iv wv).err = lnChk ws := by simp only [RuV.err, lineR, lnChk]
theorem exRead : readG 0 (nlL exT) = (0, 0) := by
  rw [exLines]
  unfold readG
  rw [exWords]
  dsimp only
  rw [if_pos rfl, if_pos exLine]
  rfl
theorem exReadL : readL (nlL exT) = [exW] := by
  rw [exLines]
  unfold readL
  rw [exWords]
  rfl
theorem exE : parseE exT = (0, 0) := by
  unfold parseE
  rw [if_neg (by decide), if_neg (by rw [exRead]; simp), exReadL]
  unfold chkRs
  rw [if_neg (by simp)]
  simp only [List.map_cons, List.map_nil, goL, lineS, err_line, exChk]
  simp [hasN]
theorem exR : parseR exT = [lineS exW] := by
  unfold parseR
  rw [exE, if_pos rfl, exReadL]
  rfl
theorem exK : condK (lnC exW) = 1 := by kernel_rfl
theorem exL : condL (lnC exW) = 30 := by kernel_rfl
theorem exTk : condT (lnC exW) = 0 := by kernel_rfl
theorem exFo : lnFo exW = 5 := by kernel_rfl
theorem exPr : lnPr exW = 3 := by kernel_rfl
theorem condSt : Tryz.prog.underlying 59 = some (.struct (Tryz.prog.fieldsOf 59)) := by kernel_rfl
theorem condHeld : Tryz.prog.stoodInHeld 59 = false := by kernel_rfl
theorem condFs : (Tryz.prog.fieldsOf 59).toList.map (fun f => (f.name == "_", f.type, f.offset)) = [(false, 57, 0), (false, 2, 1), (false, 35, 2)] := by kernel_rfl
theorem condEqC (w : World) : (binOp .eql 59 (.agg #[.int .u8 1, .int .i64 30, .int .u64 0]) (.agg #[.int .u8 1, .int .i64 30, .int .u64 0])).run Tryz.prog w = .ok (.bool true) w := by
  rw [run_eql_struct, run_equalIn_struct w 9999 59 _ _ condSt condHeld]
  have h := condFs
  generalize (Tryz.prog.fieldsOf 59).toList = fs at h ⊢
  obtain ⟨f0, f1, f2, rfl⟩ : ∃ f0 f1 f2, fs = [f0, f1, f2] := by
    rcases fs with _ | ⟨f0, _ | ⟨f1, _ | ⟨f2, _ | ⟨f3, r⟩⟩⟩⟩
    · simp at h
    · simp at h
    · simp at h
    · exact ⟨_, _, _, rfl⟩
    · simp at h
  simp only [List.map_cons, List.map_nil, List.cons.injEq, Prod.mk.injEq, and_true] at h
  obtain ⟨⟨n0, t0, o0⟩, ⟨n1, t1, o1⟩, ⟨n2, t2, o2⟩⟩ := h
  have n0' : f0.name ≠ "_" := by simpa using n0
  have n1' : f1.name ≠ "_" := by simpa using n1
  have n2' : f2.name ≠ "_" := by simpa using n2
  simp [Op.eqFields, n0', n1', n2', t0, t1, t2, o0, o1, o2, part, Tryz.isAgg57, Tryz.isAgg2, Tryz.isAgg35, go_sem]

set_option maxHeartbeats 4000000 in
theorem awake15 (mx : Int) (w : World) (hm : w.cell? ⟨2, 0, none⟩ = some (.int .i64 mx)) (hT : Lib.TabIs Tryz.prog w "strings.asciiSpace" .u8 Lib.asciiSpaceTab) :
    Calls Tryz.prog 24 #[] w fun e w' => e = .returned (.bool true) ∧ Below w.heap.size w w' := by
  have K := ruParse exT mx w (by decide) exAsc hm hT
  rw [exE, exR] at K
  unfold exT at K
  clear hm hT
  have CE := fun w' => condEqC w'
  go_enter Tryz.func24, Tryz.ntmps24
  go_wp2_with fail
  (with_reducible refine K.mono ?_)
  rintro e w1 ⟨v, rs, rfl, hs, ho, hg, hb⟩
  obtain ⟨r, rfl⟩ : ∃ r, rs = [r] := by
    rcases rs with _ | ⟨r, _ | ⟨r2, t⟩⟩
    · simp at hs
    · exact ⟨r, rfl⟩
    · simp at hs
  simp only [List.map_cons, List.map_nil, List.cons.injEq, and_true] at hs
  have hg1 := hg r (.head _)
  have e1 : r.k = 1 := (congrArg RuV.k hs).trans exK
  have e2 : r.lim = 30 := (congrArg RuV.lim hs).trans exL
  have e3 : r.tk = 0 := (congrArg RuV.tk hs).trans exTk
  have e4 : r.fo = 5 := (congrArg RuV.fo hs).trans exFo
  have e5 : r.pr = 3 := (congrArg RuV.pr hs).trans exPr
  have e6 : r.wps = [exP2] := (congrArg RuV.wps hs).trans exQ
  obtain ⟨nm, me, iv, ps1, k, lim, tk, fo, ke, pr, wv, ps2⟩ := r
  dsimp only at e1 e2 e3 e4 e5 e6
  subst e1 e2 e3 e4 e5 e6
  obtain ⟨A2, q2, e7⟩ := owns_slice hg1.wo
  dsimp only at e7
  subst e7
  have hR := rd_of_owns ho
  obtain ⟨A, c, e8, h1, h2, h3, h4⟩ := hR
  obtain ⟨b, oo, rfl, hat⟩ := h4 (by simp)
  subst e8
  have c3 := hat 3 _ (show _ = some (Value.int .u8 ((1 : Nat) : Int)) from rfl)
  have c4 := hat 4 _ (show _ = some (Value.int .i64 30) from rfl)
  have c5 := hat 5 _ (show _ = some (Value.int .u64 ((0 : Nat) : Int)) from rfl)
  have c6 := hat 6 _ (show _ = some (Value.int .u64 ((5 : Nat) : Int)) from rfl)
  have c8 := hat 8 _ (show _ = some (Value.int .u8 ((3 : Nat) : Int)) from rfl)
  have c9 := hat 9 _ (show _ = some (Value.slice A2 1 q2) from rfl)
  clear hs ho hg hg1 h1 h2 h3 h4 hat K
  go_wp2_with fail
  go_ret
  exact ⟨rfl, hb⟩
end Go.Proofs.YtebnbbbiobaneaaGreatDoor
