/-
  journal.Scan: all records from the beginning up to the first that isn't one.
-/
import Derived.Test.YtdmdfccadjfpiaaGreatScanL
namespace Go.Proofs.YtdmdfccadjfpiaaGreat
open Go.RowKit
set_option maxRecDepth 100000
theorem infoRow : (Tryz.prog.info? 58).map (fun i => (i.zero, i.size, i.bytes)) = some (some (.slice none 0 0), 1, 24) := by kernel_rfl

theorem jScan (b : Nat) (v : Value) (l : List UInt8) (w : World) (hT : TabOk w b) (hl : Rd w 1 v l.length (u8L l)) (hlen : l.length ≤ 1099511627776) :
    Calls Tryz.prog 70 #[.pointer (some ⟨b, 0, none⟩), v] w fun e w' => ∃ v' ps, e = .returned (.tuple #[v', .int .i64 (lenR (scanL l) : Nat)]) ∧ ps.map (·.2) = scanL l ∧
      w'.ownsRow w.heap.size 58 1 v' ps.length (ps.map (·.1)) ∧ OwnAll w' w.heap.size ps ∧ TabOk w' b ∧ But b w w' := by
  have hl0 := hl
  obtain ⟨A, c, rfl, h1, h2, h3, h4⟩ := hl
  unfold maxLen at h3
  obtain ⟨i0, hi, hz0, hz1, hz2⟩ := info_parts infoRow
  have hlt := hT.lt
  go_enter Tryz.func70, Tryz.ntmps70
  go_wp2_with fail
  go_loopw [6, 7] (fun v i wr => ∃ (ps : List (Value × List UInt8)) (k : Nat), k ≤ l.length ∧ i = .int .i64 k ∧ wr.ownsRow w.heap.size 58 1 v ps.length (ps.map (·.1)) ∧ OwnAll wr w.heap.size ps ∧ TabOk wr b ∧ But b w wr ∧ ps.map (·.2) ++ scanL (l.drop k) = scanL l ∧ k = lenR (ps.map (·.2))) (fun _ i _ => l.length - (intOf i).toNat)
  case atStart => exact ⟨[], 0, Nat.zero_le _, rfl, World.ownsRow_nil _ _ _ _, OwnAll.nil, hT, But.refl b w, by simp, rfl⟩
  case round =>
    obtain ⟨ps, k, hk, rfl, hv, hps, hTr, hB, hsc, hkl⟩ := hrel
    obtain ⟨A6, c6, rfl⟩ := owns_slice hv
    have hge := lenR_ge (ps.map (·.2))
    rw [← hkl] at hge
    simp only [List.length_map] at hge
    have HS := Lib.hid hsc
    have HK := Lib.hid hkl
    have hrd := hl0.but8 hT hB
    have hdl : (l.drop k).length = l.length - k := by simp
    clear hsc hkl h1
    have key : ∀ A1 : Option Addr, (A1 = if c = k then A else A.map (·.add (k * 1))) → Rd wr 1 (.slice A1 (l.length - k) (c - k)) (l.drop k).length (u8L (l.drop k)) := by
      intro A1 hA1
      rw [hdl]
      by_cases hn : l.length = 0
      · exact ⟨_, _, rfl, by simp [u8L], by omega, by unfold maxLen; omega, fun h => by omega⟩
      · obtain ⟨q, o, rfl, _⟩ := h4 (by omega)
        have := hrd.cutAt hk
        rw [u8L_drop] at this
        have hA2 : A1 = if c = k then some ⟨q, o, none⟩ else some ⟨q, o + k, none⟩ := by
          rw [hA1]
          split
          · rfl
          · simp [Addr.add]
        rw [hA2]
        exact this
    clear h4 hrd
    have hk9 : k < 9223372036854775807 := by omega
    by_cases hck : c = k
    case' pos =>
      have hrd := key A (by rw [if_pos hck])
      subst hck
      rw [Nat.sub_self] at hrd
      have e0 : l.length - c = 0 := by omega
      rw [e0] at hrd
      clear e0
    case' neg =>
      have hrd := key (Option.map (fun x => x.add k) A) (by rw [if_neg hck, Nat.mul_one])
    all_goals
      clear key hl0
      cases hx : takeL (l.drop _) with
      | none =>
        have hC := jTakeNone b _ _ wr hTr hrd hx
        have HX := Lib.hid hx
        clear hx hrd
        go_wp2_with fail
        (with_reducible refine hC.mono ?_)
        rintro e w1 ⟨rfl, hT1, hB1⟩
        have hv1 := owns_but hv hTr hB1 (by decide)
        have hps1 := hps.but hTr hB1
        have hB2 := hB.trans hB1
        have hfin : ps.map (·.2) = scanL l := by rw [← HS.out, scanL_none HX.out, List.append_nil]
        have hfin2 := HK.out
        rw [hfin] at hfin2
        have HF := Lib.hid hfin
        have HF2 := Lib.hid hfin2
        clear hfin hfin2 hv hps hC
        go_wp2_with fail
        go_ret2
        exact ⟨_, ps, by rw [← HF2.out]; rfl, HF.out, hv1, hps1, hT1, hB2⟩
      | some x =>
        have hC := jTakeSome b _ _ x wr hTr hrd hx
        have hxl := takeL_len hx
        rw [hdl] at hxl
        try (exfalso; omega)
        all_goals
          have HX := Lib.hid hx
          clear hx hrd
          go_wp2_with fail
          (with_reducible refine hC.mono ?_)
          rintro e w1 ⟨vx, rfl, hx1, hT1, hB1⟩
          have hv1 := owns_but hv hTr hB1 (by decide)
          have hps1 := hps.but hTr hB1
          have hB2 := hB.trans hB1
          have hx1 := owns_mono hx1 hB.size
          obtain ⟨Ax, cx, rfl⟩ := owns_slice hx1
          clear hv hps hC hTr hB
          go_wp2_with (at_builtin; refine wpl_stop fun W hW => ?_)
          refine Stopped.mk ?_
          have hBW : Blk W w1.heap.size #[.slice Ax x.length cx] 58 := by rw [hW]; exact Blk.new _ _ _
          have hbW : Below w1.heap.size w1 W := by rw [hW]; exact (Below.refl _ _).alloc (Nat.le_refl _) _
          clear hW
          have hvW := owns_below hv1 hbW
          have hsz := hB2.size
          have hnx : Rd W 1 (.slice (some ⟨w1.heap.size, 0, none⟩) 1 1) 1 [.slice Ax x.length cx] := ⟨_, _, rfl, rfl, Nat.le_refl _, by unfold maxLen; omega, fun _ => ⟨_, _, rfl, fun j u hj => by
            match j, hj with
            | 0, hj => simp at hj; subst hj; exact hBW.cell rfl
            | j + 1, hj => simp at hj⟩⟩
          refine wpl_append_rd rfl (.tmp 24) (.tmp 26) 96 rfl w.heap.size 58 i0 _ 1 24 Tryz.underlying96 hi hz0 hz1 hz2 rfl (by decide) _ ps.length _ rfl hvW _ 1 _ rfl hnx (by simp [Value.oneCell']) (by unfold maxLen; omega) (by omega) (Nat.le_trans hsz hbW.size) fun v3 w3 hown3 hgr3 _ => ?_
          have hT3 := (hT1.below hbW).grown hvW hgr3 (by decide)
          have hps3 := ((hps1.below hbW).snoc (owns_below hx1 hbW)).grown hvW (by decide) hgr3
          have hB3 := (hB2.trans (But.of_below hbW)).grown hgr3 (fun q hq => (hvW.lt q hq).1)
          obtain ⟨A3, c3, rfl⟩ := owns_slice hown3
          clear hv1 hps1 hx1 hvW hnx hBW hbW hB2 hT1 hgr3
          go_wp2_with fail
          go_roundw
          case rel =>
            exact ⟨ps ++ [(.slice Ax x.length cx, x)], k + (x.length + 8), by omega, by go_num, by simpa using hown3, hps3, hT3, hB3, by rw [List.map_append]; exact scanL_snoc l _ k x HS.out HX.out, by rw [List.map_append, lenR_append, ← HK.out]; simp [lenR]⟩
          case measure => simp [intOf]; omega
end Go.Proofs.YtdmdfccadjfpiaaGreat
