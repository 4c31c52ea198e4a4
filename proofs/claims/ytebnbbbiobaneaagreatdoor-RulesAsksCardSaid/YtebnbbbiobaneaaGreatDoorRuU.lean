/-
  How long what is handed in may be; the lift of a row, with its weights and its listed variables at hand.
-/
import Derived.Test.YtebnbbbiobaneaaGreatDoorRuO
import Derived.Deep.DeepHandedRow
import Derived.SizedLaws
import Derived.ChangeArms
namespace Go.Proofs.YtebnbbbiobaneaaGreatDoor
open Go.Joins Go.ChangeShapes Go.WideShapes Go.ChangeAt Go.RowKit Go.Deep Go.ChangeMaps
set_option maxRecDepth 100000

section
variable {H : Type} {enc : TypeId × Value → H}
theorem returns_row {C : Checked} {os : Os} {f : FuncId} {fn : Func} {s : OpenSpec} {F : Stop.Interp} {conds : List PathCond} {apart fresh handsOn again : Bool} {laid : List (String × DataW Unit)}
    (own : ownKnob C.prog.godebug = none) (started : os.Started) (noInit : C.prog.inits.idxOf? f = none) (hfn : C.prog.funcs[f]? = some fn) (w0 : World) (args0 : Array Value) (hos : w0.os = os)
    (hsh : (w0.forCall (fun _ _ => 0) ⟨#[], args0, []⟩).Shaped C.prog)
    (hok : Input.okWideB C.prog (w0.forCall (fun _ _ => 0) ⟨#[], args0, []⟩) f ⟨#[], args0, []⟩ = true)
    (hrow : s.preRow enc C.prog fn conds apart laid (w0.forCall (fun _ _ => 0) ⟨#[], args0, []⟩).memory args0)
    (walk : ∀ (W : World) (base : Nat) (args : Array Value) (ds gs : List (DataW H)) (before : List MemPlace), (∀ (j : Nat) t v, fn.params[j]? = some t → args[j]? = some v → Value.okWide C.prog W .any base t v) →
      DataW.Whole enc C.prog fn.params.toList s.vars apart W args.toList ds gs before → (DataW.weightsEach C.prog (fn.params.toList ++ s.bare.plain.varTypes C.prog) (ds ++ gs)).all (· ≤ reachBytes) = true → laidMetH C.prog laid W → W.ShapedOpen C.prog → Calls C.prog f args W fun e W' => ∃ v, e = .returned v ∧ (s.at F).post enc C.prog fn apart fresh handsOn again W args v W') :
    ReturnsInHanded {} C os f .any (s.preRow enc C.prog fn conds apart laid) ((s.at F).post enc C.prog fn apart fresh handsOn again) := by
  refine returnsInHanded_of_row own started noInit hfn ⟨w0, fun _ _ => 0, ⟨#[], args0, []⟩, hos, hsh, (Input.okWide_of_okWideB (base := 0) hok).1, (Input.okWide_of_okWideB hok).2, hrow, by
    simp only [Assume.holds]
    exact ⟨by simp, by simp, fun _ => Modest.zero, by simp, by simp⟩⟩ ?_
  intro W base args ds gs before hval hW _ _ hwt hld hs _
  exact walk W base args ds gs before hval hW hwt hld hs

theorem bytesPair : Tryz.prog.bytesOf 138 = 32 := by kernel_rfl
theorem pairs_weight {W : World} {fuel : Nat} {v : Value} {x : DataW H × List MemPlace} (h : DataW.trod enc Tryz.prog W 0 (fun _ => true) true fuel 33 [v] = some x) {A : Option Addr} {n c B : Nat} (hv : v = .slice A n c) (hB : ∀ k ∈ x.1.weights Tryz.prog 33, k ≤ B) : n ≤ B := by
  rcases open_slice Tryz.underlying33 h with ⟨h0, _⟩ | ⟨a, len, cap, m, k, D, Pl, h0, _, hl, hm, hmm, hd, hx⟩
  · have : v = .slice none 0 0 := by simpa using h0
    rw [this] at hv
    cases hv
    omega
  · have h1 : v = .slice (some a) len cap := by simpa using h0
    rw [h1] at hv
    cases hv
    have h2 := hB ((((List.range n).map D).length + ((List.range (m - n)).map fun j => D (n + j)).length) * 32) (by
      rw [hd]
      simp [DataW.weights, Tryz.underlying33, bytesPair])
    simp only [List.length_map, List.length_range] at h2
    omega
theorem rule_weight {W : World} {fuel : Nat} {cs : List Value} {x : DataW H × List MemPlace} (h : DataW.trod enc Tryz.prog W 0 (fun _ => true) true fuel 63 cs = some x) (r : RuV) (ok : r.ok W) (e : cs = r.cells) {B : Nat} (hB : ∀ k ∈ x.1.weights Tryz.prog 63, k ≤ B) : r.ips.length ≤ B ∧ r.wps.length ≤ B := by
  obtain ⟨xs, n, _, hx, hl, hlen, hg⟩ := DataW.trod_struct Tryz.underlying63 h
  have hw : x.1.weights Tryz.prog 63 = DataW.weightsEach Tryz.prog [9, 9, 33, 59, 61, 5, 33] (xs.map (·.1)) := by
    rw [hx]
    simp [DataW.weights, Tryz.underlying63]
  have g2 : DataW.trod enc Tryz.prog W 0 (fun _ => true) true n 33 ((cs.drop 2).take (Tryz.prog.cellsOf 33)) = xs[2]? := hg 2 _ rfl
  have g6 : DataW.trod enc Tryz.prog W 0 (fun _ => true) true n 33 ((cs.drop 9).take (Tryz.prog.cellsOf 33)) = xs[6]? := hg 6 _ rfl
  rw [nPairsO, e] at g2 g6
  obtain ⟨y2, hy2⟩ : ∃ y, xs[2]? = some y := ⟨_, List.getElem?_eq_getElem (by rw [hlen]; decide)⟩
  obtain ⟨y6, hy6⟩ : ∃ y, xs[6]? = some y := ⟨_, List.getElem?_eq_getElem (by rw [hlen]; decide)⟩
  rw [hy2] at g2
  rw [hy6] at g6
  have k2 : ∀ k ∈ y2.1.weights Tryz.prog 33, k ≤ B := fun k hk => hB k (by
    rw [hw]
    exact DataW.weights_mem_each (j := 2) (t := 33) rfl (by simp [hy2]) k hk)
  have k6 : ∀ k ∈ y6.1.weights Tryz.prog 33, k ≤ B := fun k hk => hB k (by
    rw [hw]
    exact DataW.weights_mem_each (j := 6) (t := 33) rfl (by simp [hy6]) k hk)
  obtain ⟨A1, c1, v1, _⟩ := ok.ir
  obtain ⟨A2, c2, v2, _⟩ := ok.wr
  exact ⟨pairs_weight (show DataW.trod enc Tryz.prog W 0 (fun _ => true) true n 33 [r.iv] = some y2 from g2) v1 k2, pairs_weight (show DataW.trod enc Tryz.prog W 0 (fun _ => true) true n 33 [r.wv] = some y6 from g6) v2 k6⟩
theorem open_rule1w {W : World} {v : Value} {d : DataW H} {p : List MemPlace} (h : DataW.Trod enc Tryz.prog W 0 (fun _ => true) true 63 v d p) {B : Nat} (hB : ∀ k ∈ d.weights Tryz.prog 63, k ≤ B) : ∃ r : RuV, r.ok W ∧ v = .agg #[.string r.nm, .string r.me, r.iv, .int .u8 r.k, .int .i64 r.lim, .int .u64 r.tk, .int .u64 r.fo, .int .u64 r.ke, .int .u8 r.pr, r.wv] ∧ r.ips.length ≤ B ∧ r.wps.length ≤ B := by
  obtain ⟨n, h⟩ := h
  obtain ⟨r, e, ok⟩ := op_rule h
  have hwt := rule_weight h r ok e hB
  refine ⟨r, ok, ?_, hwt⟩
  cases v <;> simp [Value.cells, RuV.cells] at e
  rename_i cells
  have e2 : cells.toList = (#[.string r.nm, .string r.me, r.iv, .int .u8 r.k, .int .i64 r.lim, .int .u64 r.tk, .int .u64 r.fo, .int .u64 r.ke, .int .u8 r.pr, r.wv] : Array Value).toList := e
  rw [Array.toList_inj.1 e2]
theorem open_small1 {W : World} {v : Value} {d : DataW H} {p : List MemPlace} (h : DataW.Trod enc Tryz.prog W 0 (fun _ => true) true 68 v d p) : ∃ s : SmR, s.ok ∧ v = .agg #[.int .u8 s.nm, .int .u8 s.me, .int .u8 s.fi, .int .u8 s.wi, .int .u8 s.k, .int .i16 s.m, .int .u8 s.t, .int .u8 s.fo, .int .u8 s.ke, .int .u8 s.pr] := by
  obtain ⟨n, h⟩ := h
  obtain ⟨s, e, ok⟩ := op_sm15 h
  refine ⟨s, ok, ?_⟩
  cases v <;> simp [Value.cells, sm10] at e
  rename_i cells
  have e2 : cells.toList = (#[.int .u8 s.nm, .int .u8 s.me, .int .u8 s.fi, .int .u8 s.wi, .int .u8 s.k, .int .i16 s.m, .int .u8 s.t, .int .u8 s.fo, .int .u8 s.ke, .int .u8 s.pr] : Array Value).toList := e
  rw [Array.toList_inj.1 e2]
end
end Go.Proofs.YtebnbbbiobaneaaGreatDoor
