/-
  Crash of a disk with one file.
-/
import Derived.Test.YtdjdhakmigofmaaNames
import Derived.Test.YtdjdhakmigofmaaOpen
namespace Go.Proofs.Ytdjdhakmigofmaa
open Go.RowKit FreeNew
set_option maxRecDepth 100000
attribute [local go_sem] out

/-- What a tear leaves of a file's bytes. -/
def tornB (bytes : List UInt8) (sy keep bit : Nat) : List UInt8 :=
  if 0 < min keep (bytes.length - sy) ∧ bit < 8 then
    (bytes.take (sy + min keep (bytes.length - sy))).set (sy + min keep (bytes.length - sy) - 1) (UInt8.ofNat (((bytes.getD (sy + min keep (bytes.length - sy) - 1) 0).toNat) ^^^ 2 ^ bit))
  else bytes.take (sy + min keep (bytes.length - sy))
def tearCells (ts : List (Nat × Nat)) : List Value := ts.flatMap fun t => [.int .u16 t.1, .int .u16 t.2]
theorem tearCells_len (ts : List (Nat × Nat)) : (tearCells ts).length = ts.length * 2 := by
  induction ts with
  | nil => rfl
  | cons t r ih =>
    have : tearCells (t :: r) = [.int .u16 t.1, .int .u16 t.2] ++ tearCells r := rfl
    rw [this, List.length_append, ih]
    simp only [List.length_cons, List.length_nil]
    omega
theorem namesF_one (f : FileV) : namesF [f] = [nameL f.name] := by simp [namesF]
theorem diskCrashNil (v : Value) (w : World) : Calls Try.prog 12 #[.pointer none, v] w fun e w' => e = .returned (.tuple #[]) ∧ w' = w := by
  go_enter Try.func12, Try.ntmps12
  go_wp2_with fail
  (with_reducible refine (diskNamesNil _).mono ?_)
  rintro e w1 ⟨rfl, rfl⟩
  go_wp2_with fail
  go_loopw [13] (fun i wr => i = .int .i64 0 ∧ wr = w1) (fun _ _ => 0)
  case atStart => exact ⟨rfl, rfl⟩
  case round =>
    obtain ⟨rfl, rfl⟩ := hrel
    go_wp2_with fail
    go_end0
    exact ⟨rfl, rfl⟩

set_option maxHeartbeats 4000000 in
theorem diskCrashOne (d m : Nat) (f : FileV) (v : Value) (ts : List (Nat × Nat)) (w : World) (hD : DiskAt w d m [f]) (hv : Rd w 2 v ts.length (tearCells ts)) (hts : ts = []) :
    Calls Try.prog 12 #[.pointer (some ⟨d, 0, none⟩), v] w fun e w' => e = .returned (.tuple #[]) ∧
      (∃ v', DiskAt w' d m [⟨f.name, v', tornB f.bytes f.synced ((ts.getD 0 (0, 0)).1) ((ts.getD 0 (0, 0)).2), (tornB f.bytes f.synced ((ts.getD 0 (0, 0)).1) ((ts.getD 0 (0, 0)).2)).length⟩]) ∧ Mod [d, m] w w' := by
  have hN := diskNames d m [f] w hD (by show 1 ≤ 1048576; decide)
  rw [namesF_one] at hN
  obtain ⟨At, ct, rfl, t1, t2, t3, t4⟩ := hv
  unfold maxLen at t3
  obtain ⟨nT, hnT⟩ : ∃ nT, nT = ts.length := ⟨_, rfl⟩
  rw [← hnT] at t2 t4 ⊢
  have HNT := Lib.hid hnT
  clear hnT
  obtain ⟨hr0, hsy, hfl⟩ := hD.good f (.head _)
  go_enter Try.func12, Try.ntmps12
  go_wp2_with fail
  (with_reducible refine hN.mono ?_)
  rintro e w1 ⟨vn, rfl, hvn, hb1⟩
  obtain ⟨gn, cn, hgn, hgb, hgl⟩ := hvn.form (by show 0 < 1; decide)
  subst hgn
  have cn0 : w1.cell? ⟨gn, 0, none⟩ = some (.string f.name) := by
    obtain ⟨_, _, he, _, _, _, h4⟩ := rd_of_owns hvn
    cases he
    obtain ⟨_, _, he, h4⟩ := h4 (by show 0 < 1; decide)
    cases he
    exact h4 0 _ rfl
  have hD1 := hD.below hb1
  have hDlt := hD.lt
  have hgm : gn ∉ [d, m] := fun h => by have := hDlt gn h; omega
  have el : ([nameL f.name] : List (List UInt8)).length = 1 := rfl
  rw [el]
  obtain ⟨R, hR⟩ : ∃ R, R = tornB f.bytes f.synced ((ts.getD 0 (0, 0)).1) ((ts.getD 0 (0, 0)).2) := ⟨_, rfl⟩
  have HR := Lib.hid hR
  clear hN hvn hR el
  go_wp2_with fail
  go_loopw [13] (fun i wr => (i = .int .i64 0 ∧ wr = w1) ∨ (i = .int .i64 1 ∧ (∃ v', DiskAt wr d m [⟨f.name, v', R, R.length⟩]) ∧ Mod [d, m] w1 wr)) (fun i _ => 1 - (intOf i).toNat)
  case atStart => exact .inl ⟨rfl, rfl⟩
  case round =>
    rcases hrel with ⟨rfl, rfl⟩ | ⟨rfl, hv', hM⟩
    · have hD1' := hD1
      obtain ⟨⟨ca, cb, hblk⟩, ⟨es, c, h2, h3⟩, hg⟩ := hD1
      have hl := look_no h2 h3 f.name
      have hlf : lookF [f] f.name = .agg #[f.val, .int .i64 f.synced] := by simp [lookF, findF]
      rw [hlf] at hl
      have c0 := hD1'.cell0
      obtain ⟨hr1, _, _⟩ := hD1'.good f (.head _)
      have hr10 := hr1
      obtain ⟨Af, cf, hfv, hv1, hv2, hv3, _⟩ := hr1
      unfold maxLen at hv3
      rw [hfv] at hl hr10
      have HFV := Lib.hid hfv
      clear hlf hfv hv1 h2 h3 hg hblk
      by_cases ht0 : ts = []
      · subst ht0
        have hnT0 : nT = 0 := HNT.out
        have hl1 : decide (0 < nT) = false := by rw [hnT0]; rfl
        have hl2 : decide ((0 : Int) < (nT : Int)) = false := by rw [hnT0]; rfl
        clear hnT0
        have e0 : min (0 : Int) ((f.bytes.length : Int) - f.synced) = 0 := by omega
        go_wp2_with fail
        obtain ⟨W, hW⟩ : ∃ W, W = ((wr.alloc (Obj.cells #[Value.slice Af f.bytes.length cf, Value.int IntKind.i64 ↑f.synced] 84)).alloc (Obj.cells #[Value.int IntKind.u16 0, Value.int IntKind.u16 0] 57)) := ⟨_, rfl⟩
        rw [← hW]
        have hbW : Below wr.heap.size wr W := by rw [hW]; exact ((Below.refl _ _).alloc (Nat.le_refl _) _).alloc (Nat.le_trans (Nat.le_succ _) (Nat.le_of_eq (by rw [World.size_alloc]))) _
        have hBW : Blk W wr.heap.size #[.slice Af f.bytes.length cf, .int .i64 f.synced] 84 := by
          rw [hW]
          exact (Blk.new _ _ _).below ((Below.refl _ _).alloc (Nat.le_refl _) _) (Blk.new _ _ _).lt
        have hDW := hD1'.below hbW
        have hp := (hr10.below hbW).pre hsy
        rw [u8L_pre] at hp
        have hln : (f.bytes.take f.synced).length = f.synced := by simp; omega
        have hp2 : Rd W 1 (.slice Af f.synced cf) (f.bytes.take f.synced).length (u8L (f.bytes.take f.synced)) := by rw [hln]; exact hp
        have hC := clone8 _ _ W hp2 (by rw [hln]; omega)
        rw [hln] at hC
        clear hp hp2 hW
        (with_reducible refine hC.mono ?_)
        rintro e w9 ⟨v9, rfl, hv9, hb9⟩
        have hr9 := rd_of_owns hv9
        obtain ⟨A9, c9', rfl⟩ := owns_slice hv9
        have hB9 := hBW.below hb9 hBW.lt
        have hD9 := hDW.below hb9
        clear hv9 hC
        have cD := hD9.cell0
        have hD9' := hD9
        obtain ⟨⟨ca9, cb9, hblk9⟩, ⟨es9, c9, h29, h39⟩, hg9⟩ := hD9
        obtain ⟨es', clock', hup, he'⟩ := upd_run h29 h39 hD9'.stamp ⟨f.name, .slice A9 f.synced c9', f.bytes.take f.synced, f.synced⟩
        simp only at hup
        have hmd := setMap_mod w9 m (.map es' clock')
        have hat := setMap_at (o := .map es' clock') h29
        have hMb : Mod [d, m] wr w9 := Mod.of_below (hbW.trans (hb9.mono hbW.size))
        clear h29 h39 hg9 hBW hDW hbW hb9 hB9
        go_wp2_with fail
        generalize setMap w9 m (.map es' clock') = w4 at hmd hat ⊢
        have hdm := hD9'.ne
        have hblk4 := hmd.blk hblk9 (by simpa using hdm)
        have hM34 : Mod [d, m] w9 w4 := hmd.mono (by simp)
        have hR3 : Rd w9 1 (.slice A9 f.synced c9') (f.bytes.take f.synced).length (u8L (f.bytes.take f.synced)) := by rw [hln]; exact hr9
        have hD4 := hD9'.put (g := ⟨f.name, .slice A9 f.synced c9', f.bytes.take f.synced, f.synced⟩) hM34 ⟨_, _, hblk4⟩ ⟨_, _, hat, he'⟩ ⟨hD9'.rd hM34 hR3, by show f.synced ≤ (f.bytes.take f.synced).length; rw [hln]; exact Nat.le_refl _, by show (f.bytes.take f.synced).length ≤ _; rw [hln]; omega⟩
        have hM4 := hMb.trans hM34
        have hRe : R = f.bytes.take f.synced := by
          rw [HR.out]
          simp [tornB]
        have hD5 : ∃ v', DiskAt w4 d m [⟨f.name, v', R, R.length⟩] := by
          refine ⟨.slice A9 f.synced c9', ?_⟩
          rw [hRe, hln]
          have hpf : putF [f] ⟨f.name, .slice A9 f.synced c9', f.bytes.take f.synced, f.synced⟩ = [⟨f.name, .slice A9 f.synced c9', f.bytes.take f.synced, f.synced⟩] := by simp [putF]
          rw [hpf] at hD4
          exact hD4
        clear hup hblk9 hmd hblk4 hat hM34 hD9' hln hR3 hr9 hD4 e0 hRe
        go_roundw
        case rel => exact .inr ⟨rfl, hD5, hM4⟩
        case measure => decide
      · exact absurd hts ht0
    · go_wp2_with fail
      go_end0
      exact ⟨rfl, by rw [← HR.out]; exact hv', (Mod.of_below hb1).trans hM⟩
end Go.Proofs.Ytdjdhakmigofmaa
