/-
  (*Watch).alerts, of at most one alert.
-/
import Derived.Test.YtgpojkofegajeaaGreatDoorMg25
import Derived.Test.YtgpojkofegajeaaGreatDoorLParse
namespace Go.Proofs.YtgpojkofegajeaaGreatDoor
open Go.RowKit
set_option maxRecDepth 100000

theorem infoAlertW : (Tryz.prog.info? 88).map (fun i => (i.zero, i.size, i.bytes)) = some (some (.agg #[.int .i64 0, .string ⟨#[]⟩]), 2, 24) := by kernel_rfl
def alC (a : Int × ByteArray) : List Value := [.int .i64 a.1, .string a.2]
set_option maxHeartbeats 4000000 in
theorem wAlerts (b : Nat) (rv ov : Value) (ms mp mk : Nat) (kn : List ((Int × ByteArray) × Value)) (w : World) (hB : Blk w b #[rv, .map (some ms), ov, .map (some mp), .map (some mk)] 81) (hM : MapAt alertE w mk kn) (hlen : kn.length ≤ 1) :
    Calls Tryz.prog 32 #[.pointer (some ⟨b, 0, none⟩)] w fun e w' => ∃ v, e = .returned v ∧ w'.ownsRow w.heap.size 88 2 v kn.length (kn.flatMap fun p => alC p.1) ∧ Below w.heap.size w w' := by
  obtain ⟨es, clock, h2, h3, h6, _, _⟩ := hM
  obtain ⟨hborn, hnd, hnk⟩ := h6
  obtain ⟨i2, hi2, hz6, hz7, hz8⟩ := info_parts infoAlertW
  have hml : mk < w.heap.size := (Array.getElem?_eq_some_iff.1 h2).1
  have hlen' : es.toList.length = kn.length := by have := congrArg List.length h3; simpa using this
  have U0 := (Upd.nil [] w).alloc #[.pointer (some ⟨b, 0, none⟩)] 39
  have hb0 := U0.below
  have c4 := (hB.below hb0 hB.lt).cell (j := 4) rfl
  have h2' := (hb0.block mk hml).trans h2
  have hrg := run_range_map (P := Tryz.prog) (w.alloc (.cells #[.pointer (some ⟨b, 0, none⟩)] 39)) 78 88 24 mk es clock Tryz.underlying78 h2'
  go_enter Tryz.func32, Tryz.ntmps32
  go_wp2_with fail
  refine wp_gen fun W0 hW0 => ?_
  have hit : W0.heap[w.heap.size + 1]? = some (.mapIter (some mk) clock #[] clock) := by
    rw [hW0]
    have := heap_alloc_new (w.alloc (.cells #[.pointer (some ⟨b, 0, none⟩)] 39)) (.mapIter (some mk) clock #[] clock)
    rwa [World.size_alloc] at this
  have hB0 : Below w.heap.size w W0 := by rw [hW0]; exact ((Below.refl _ _).alloc (Nat.le_refl _) _).alloc (by rw [World.size_alloc]; omega) _
  have hz0 : w.heap.size + 2 ≤ W0.heap.size := by rw [hW0, World.size_alloc, World.size_alloc]; omega
  have hkey : ∀ e ∈ es.toList, ∃ p ∈ kn, e.key = .agg #[.int .i64 p.1.1, .string p.1.2] := fun e he => by
    have : (e.key, e.val) ∈ kn.map (fun p => (alertE.enc p.1, p.2)) := by rw [← h3]; exact List.mem_map.2 ⟨e, he, rfl⟩
    obtain ⟨p, hp, hpe⟩ := List.mem_map.1 this
    exact ⟨p, hp, (congrArg Prod.fst hpe).symm⟩
  clear hW0 U0 hb0 c4 h2' hrg hB
  have HK := Lib.hid hkey
  clear hkey
  go_loopw [3] (fun v wr => ∃ (seen : Array Nat) (done : List MapEntry), wr.heap[w.heap.size + 1]? = some (.mapIter (some mk) clock seen clock) ∧ seen.toList = done.map (·.born) ∧ (∀ e ∈ done, e ∈ es.toList) ∧ (done.map (·.born)).Nodup ∧
    wr.ownsRow (w.heap.size + 2) 88 2 v done.length (done.flatMap fun e => e.key.cells.toList) ∧ Below w.heap.size w wr ∧ w.heap.size + 2 ≤ wr.heap.size) (fun _ wr => leftW es (w.heap.size + 1) wr)
  case atStart => exact ⟨#[], [], hit, rfl, by simp, by simp, World.ownsRow_nil _ _ _ _, hB0, hz0⟩
  case round =>
    obtain ⟨seen, done, hr, hsd, hdm, hdn, hv, hB, hzr⟩ := hrel
    obtain ⟨A3, c3, rfl⟩ := owns_slice hv
    have hbm : wr.heap[mk]? = some (.map es clock) := (hB.block mk hml).trans h2
    have hdl : done.length ≤ es.toList.length := by
      have n1 : done.Nodup := nodup_mapW _ hdn
      exact List.Nodup.length_le_of_subset n1 hdm
    rcases run_next_at (P := Tryz.prog) wr 0 (w.heap.size + 1) mk clock clock seen es clock hr hbm hborn (Nat.le_refl _) with ⟨h0, hrun⟩ | ⟨e, hel, w1, hw1, hrun⟩
    · have hnx : ∀ ty, (Instr.next (.pointer (some ⟨w.heap.size + 1, 0, none⟩)) false ty).run Tryz.prog wr = .ok (.tuple #[.bool false]) wr := fun _ => hrun
      have hde : done = es.toList := perm_oneW (perm_leftW hsd hdm hdn hnd h0) (by omega)
      have hK : (done.flatMap fun e => e.key.cells.toList) = kn.flatMap fun p => alC p.1 := by
        rw [hde]
        have := congrArg (List.flatMap fun p : Value × Value => p.1.cells.toList) h3
        simpa [List.flatMap_map, alertE, alC, Value.cells] using this
      have hL : done.length = kn.length := by rw [hde]; exact hlen'
      rw [hK, hL] at hv
      have hS := fun f => sortSmall A3 kn.length c3 f wr hlen
      rw [← hL] at hS
      have hv := owns_mono hv (show w.heap.size ≤ w.heap.size + 2 by omega)
      have HL := Lib.hid hL
      clear hit hB0 hz0 hrun hr hbm h2 h3 hnd hnk hborn hsd hdm hdn h0 hde hK hdl hlen' HK hL
      go_wp2_with fail
      (with_reducible refine (hS _).mono ?_)
      rintro e w5 ⟨rfl, rfl⟩
      go_wp2_with fail
      rw [← HL.out] at hv
      rw [← HL.out]
      go_ret
      exact ⟨_, rfl, hv, hB⟩
    · obtain ⟨hemem, hns⟩ := mem_left hel
      obtain ⟨p, hp, hs⟩ := HK.out e hemem
      have hr1 : w1.heap[w.heap.size + 1]? = some (.mapIter (some mk) clock seen clock) := by rcases hw1 with rfl | rfl <;> exact hr
      have hb1 : Below w.heap.size w w1 := by rcases hw1 with rfl | rfl; exact hB; exact hB.drew
      have hg1 : wr.grownBy w1 (some (w.heap.size + 1)) := by rcases hw1 with rfl | rfl <;> exact ⟨rfl, rfl, rfl, Nat.le_refl _, fun _ _ _ => rfl⟩
      obtain ⟨W2, hW2⟩ : ∃ W2, W2 = ChangeMaps.setBlock w1 (w.heap.size + 1) (.mapIter (some mk) clock (seen.push e.born) clock) := ⟨_, rfl⟩
      have hr2 : W2.heap[w.heap.size + 1]? = some (.mapIter (some mk) clock (seen.push e.born) clock) := by rw [hW2]; exact setBlockW_at hr1
      have hg2 : w1.grownBy W2 (some (w.heap.size + 1)) := by rw [hW2]; exact ⟨rfl, rfl, rfl, by simp [ChangeMaps.setBlock], fun k _ hk => setBlockW_ne (fun e => hk (by rw [e]))⟩
      have hB2 : Below w.heap.size w W2 := hb1.grown hg2 hb1.size (fun q hq => by cases hq; omega)
      have hz2 : w.heap.size + 2 ≤ W2.heap.size := Nat.le_trans hzr (Nat.le_trans hg1.size hg2.size)
      have hne3 : (Value.slice A3 done.length c3).ownBlock = none ∨ (Value.slice A3 done.length c3).ownBlock ≠ some (w.heap.size + 1) := .inr fun he => by have := (hv.lt _ he).1; omega
      have hv2 := (hv.kept hg1 hne3).kept hg2 hne3
      have hnx : ∀ ty, (Instr.next (.pointer (some ⟨w.heap.size + 1, 0, none⟩)) false ty).run Tryz.prog wr = .ok (.tuple #[.bool true, .agg #[.int .i64 p.1.1, .string p.1.2], e.val]) W2 := fun _ => by rw [← hs, hW2]; exact hrun
      have hent : (Instr.entry (.pointer (some ⟨w.heap.size + 1, 0, none⟩))).run Tryz.prog W2 = .ok (.tuple #[.agg #[.int .i64 p.1.1, .string p.1.2], e.val]) W2 := by
        rw [← hs]
        exact run_entry_at W2 (w.heap.size + 1) mk clock seen es clock e hr2 ((hB2.block mk hml).trans h2) hemem hnd
      have hsh := left_shrinks es seen e hel
      have HSH := Lib.hid hsh
      have HR2 := Lib.hid hr2
      have HS := Lib.hid hs
      have HNS := Lib.hid hns
      have HSD := Lib.hid hsd
      have HDN := Lib.hid hdn
      have HRR := Lib.hid hr
      clear hrun hW2 hr1 hb1 hg1 hg2 hne3 hv hbm h2 h3 hnd hnk hborn hB hr2 hw1 hel hsh hs hns hsd hdn hr hit hB0 hz0 HK hp hzr
      go_wp2_with (at_builtin; refine wpl_stop fun W hW => ?_)
      refine Stopped.mk ?_
      have hbW : Below W2.heap.size W2 W := by rw [hW]; exact ((Below.refl _ _).alloc (Nat.le_refl _) _).alloc (by rw [World.size_alloc]; omega) _
      have hBW : Blk W (W2.heap.size + 1) #[.int .i64 p.1.1, .string p.1.2] 88 := by
        rw [hW]
        have := Blk.new (W2.alloc (.cells #[.int .i64 p.1.1, .string p.1.2] 88)) #[.int .i64 p.1.1, .string p.1.2] 88
        rwa [World.size_alloc] at this
      clear hW
      have hszb := hB2.size
      have hvW := owns_below hv2 hbW
      have hrW : W.heap[w.heap.size + 1]? = some (.mapIter (some mk) clock (seen.push e.born) clock) := (hbW.block _ (by omega)).trans HR2.out
      have hnx1 : Rd W 2 (.slice (some ⟨W2.heap.size + 1, 0, none⟩) 1 1) 1 [.int .i64 p.1.1, .string p.1.2] := rd_oneW hBW (n := 2) rfl
      refine wpl_append_rd rfl (.tmp 14) (.tmp 16) 114 rfl (w.heap.size + 2) 88 i2 _ 2 24 Tryz.underlying114 hi2 hz6 hz7 hz8 rfl (by decide) _ done.length _ rfl hvW _ 1 _ rfl hnx1 (by intro u hu; simp at hu; rcases hu with rfl | rfl <;> rfl) (by unfold maxLen; omega) (by omega) (Nat.le_trans hz2 hbW.size) fun v5 w5 hown5 hgr5 _ => ?_
      have hne : some (w.heap.size + 1) ≠ (Value.slice A3 done.length c3).ownBlock := fun he => by have := (hvW.lt _ he.symm).1; omega
      have hr5 : w5.heap[w.heap.size + 1]? = some (.mapIter (some mk) clock (seen.push e.born) clock) := (hgr5.block _ (by have := hbW.size; omega) hne).trans hrW
      have hB5 : Below w.heap.size w w5 := (hB2.trans (hbW.mono hszb)).grown hgr5 (Nat.le_trans hszb hbW.size) (fun q hq => by have := (hvW.lt q hq).1; omega)
      have hz5 : w.heap.size + 2 ≤ w5.heap.size := Nat.le_trans hz2 (Nat.le_trans hbW.size hgr5.size)
      have hown5' : w5.ownsRow (w.heap.size + 2) 88 2 v5 (done ++ [e]).length ((done ++ [e]).flatMap fun e => e.key.cells.toList) := by
        have e1 : ((done ++ [e]).flatMap fun e => e.key.cells.toList) = (done.flatMap fun e => e.key.cells.toList) ++ [.int .i64 p.1.1, .string p.1.2] := by
          simp [HS.out, Value.cells]
        rw [e1, List.length_append]
        exact hown5
      have hsd5 : (seen.push e.born).toList = (done ++ [e]).map (·.born) := by rw [List.map_append, ← HSD.out]; simp
      have hdm5 : ∀ x ∈ done ++ [e], x ∈ es.toList := by
        intro x hx
        rcases List.mem_append.1 hx with h | h
        · exact hdm x h
        · rw [List.mem_singleton] at h; rw [h]; exact hemem
      have hdn5 : ((done ++ [e]).map (·.born)).Nodup := by
        rw [List.map_append, List.nodup_append]
        refine ⟨HDN.out, by simp, fun a ha b hb hab => ?_⟩
        simp only [List.map_cons, List.map_nil, List.mem_singleton] at hb
        rw [← HSD.out] at ha
        have h1 := HNS.out
        have h2 : seen.contains e.born = true := by rw [← hb, ← hab]; simpa using ha
        rw [h1] at h2; cases h2
      have hmeas : leftW es (w.heap.size + 1) w5 < leftW es (w.heap.size + 1) wr := by
        unfold leftW
        rw [hr5, HRR.out]
        exact HSH.out
      have H1 := Lib.hid hr5
      have H2 := Lib.hid hsd5
      have H3 := Lib.hid hdn5
      obtain ⟨A5, c5, rfl⟩ := owns_slice hown5'
      have hdl5 : (done ++ [e]).length = done.length + 1 := by simp
      rw [hdl5] at hown5'
      clear hv2 hbW hBW hvW hrW hnx1 hgr5 hne hr5 hown5 hsd5 hdn5 hdl5 hnx hent hB2
      go_wp2_with fail
      go_roundw
      case rel => exact ⟨seen.push e.born, done ++ [e], H1.out, H2.out, hdm5, H3.out, by simpa using hown5', hB5, hz5⟩
      case measure => exact hmeas
end Go.Proofs.YtgpojkofegajeaaGreatDoor
