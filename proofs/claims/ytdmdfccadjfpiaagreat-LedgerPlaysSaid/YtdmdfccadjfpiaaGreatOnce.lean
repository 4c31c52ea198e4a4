/-
  A table's once: the first call of Do fills the words, later ones do nothing.
-/
import Derived.Test.YtdmdfccadjfpiaaGreatFill
import Derived.Tactics
import Derived.Tactics2
import Derived.Defers
import Derived.Laws.Pointers
import Derived.Laws.LoneSync
import Derived.RegionTactic
import Derived.RegionCalls
import Derived.ChangeAlike
namespace Go.Proofs.YtdmdfccadjfpiaaGreat
open Go.RowKit
set_option maxRecDepth 100000

theorem raceDisable (w : World) : (callFunc 141 #[]).run Tryz.prog w = .ok (.value (.tuple #[])) w := run_call_mark0 Tryz.func141 (by kernel_rfl) (by kernel_rfl) (by kernel_rfl) .disable (by kernel_rfl) w
theorem raceEnable (w : World) : (callFunc 143 #[]).run Tryz.prog w = .ok (.value (.tuple #[])) w := run_call_mark0 Tryz.func143 (by kernel_rfl) (by kernel_rfl) (by kernel_rfl) .enable (by kernel_rfl) w
theorem raceAcquire (a : Addr) (w : World) : (callFunc 144 #[.pointer (some a)]).run Tryz.prog w = .ok (.value (.tuple #[])) w := run_call_marked Tryz.func144 (by kernel_rfl) (by kernel_rfl) (by kernel_rfl) .acquire (by kernel_rfl) a w
theorem raceRelease (a : Addr) (w : World) : (callFunc 146 #[.pointer (some a)]).run Tryz.prog w = .ok (.value (.tuple #[])) w := run_call_marked Tryz.func146 (by kernel_rfl) (by kernel_rfl) (by kernel_rfl) .releaseMerge (by kernel_rfl) a w

/-- Bool.Store(true), entered as a deferred call. -/
theorem store_deferred (a : Addr) (x : Value) (u : FrameMode) (w : World) (hc : w.cell? a = some x) (hz : w.frozen? a = false) :
    CallsD Tryz.prog 136 #[.pointer (some a), .bool true] u w fun e u' w' => u' = u ∧ (e = .returned (.tuple #[]) ∧ w' = w.drew.setCell a (.int .u32 1)) := by
  have hc' : w.drew.cell? a = some x := by go_simp
  have hz' : w.drew.frozen? a = false := by go_simp
  have hst := run_call_store (P := Tryz.prog) Tryz.func139 (by kernel_rfl) (by kernel_rfl) (by kernel_rfl) (by kernel_rfl) (k := .u32) (y := 1) hc' hz'
  go_enter_d Tryz.func136, Tryz.ntmps136
  go_wp2
  go_region_calls
  all_goals (go_end0; exact ⟨rfl, rfl⟩)

/-- Unlock, entered as a deferred call, the lock held and nobody waiting. -/
theorem unlock_deferred (a : Addr) (u : FrameMode) (w : World) (hc : w.cell? a = some (.int .i32 1)) (hz : w.frozen? a = false) :
    CallsD Tryz.prog 135 #[.pointer (some a)] u w fun e u' w' => u' = u ∧ (e = .returned (.tuple #[]) ∧ w' = w.setCell a (.int .i32 0)) := by
  have hd := raceDisable
  have he := raceEnable
  have hr := raceRelease
  have hadd := run_call_add (P := Tryz.prog) Tryz.func147 (by kernel_rfl) (by kernel_rfl) (by kernel_rfl) .i32 (by kernel_rfl) (y := -1) (s := 0) hc hz (by simp [go_sem]; rfl)
  have hcv := run_convert_to_unsafe (P := Tryz.prog) (src := 213) (dst := 217) Tryz.underlying213 Tryz.underlying217 (by kernel_rfl) hc
  go_enter_d Tryz.func135, Tryz.ntmps135
  go_wp2
  go_end0
  go_wp2
  go_end0
  exact ⟨rfl, rfl⟩

/-- Lock, the lock free. -/
theorem lock_free (a : Addr) (w : World) (hc : w.cell? a = some (.int .i32 0)) (hz : w.frozen? a = false) :
    Calls Tryz.prog 134 #[.pointer (some a)] w fun e w' => e = .returned (.tuple #[]) ∧ w' = w.setCell a (.int .i32 1) := by
  have hd := raceDisable
  have he := raceEnable
  have ha := raceAcquire
  have hcas := run_call_cas_hit (P := Tryz.prog) Tryz.func142 (by kernel_rfl) (by kernel_rfl) (by kernel_rfl) .i32 (by kernel_rfl) (y := 1) hc hz
  have hc' : (w.setCell a (.int .i32 1)).cell? a = some (.int .i32 1) := World.cell?_setCell_same w a _ hc
  have hcv := run_convert_to_unsafe (P := Tryz.prog) (src := 213) (dst := 217) Tryz.underlying213 Tryz.underlying217 (by kernel_rfl) hc'
  go_enter Tryz.func134, Tryz.ntmps134
  go_wp2
  first | go_end0 | (simp only [Exit.inBlock, Exit.then]; refine bodyPost_ret (results_none rfl _ _ _) rfl ?_) | refine bodyPost_ret (results_none rfl _ _ _) rfl ?_
  go_wp2
  go_end0
  exact ⟨rfl, rfl⟩

theorem bool_load (a : Addr) (d : Nat) (hd : d = 0 ∨ d = 1) (w : World) (hc : w.cell? a = some (.int .u32 d)) :
    Calls Tryz.prog 130 #[.pointer (some a)] w fun e w' => e = .returned (.bool (decide (d = 1))) ∧ w' = w := by
  have hl := run_call_load (P := Tryz.prog) Tryz.func133 (by kernel_rfl) (by kernel_rfl) (by kernel_rfl) .u32 (by kernel_rfl) hc
  rcases hd with rfl | rfl
  · go_enter Tryz.func130, Tryz.ntmps130
    go_wp2
    go_ret
    exact ⟨rfl, rfl⟩
  · go_enter Tryz.func130, Tryz.ntmps130
    go_wp2
    go_ret
    exact ⟨rfl, rfl⟩
theorem run_not (x : Bool) (w : World) : (Op.unary .not (.bool x)).run Tryz.prog w = .ok (.bool (!x)) w := rfl

set_option maxHeartbeats 1600000 in
/-- doSlow: not done, the lock free: the words are filled. -/
theorem once_slow (b : Nat) (ws : Nat → Nat) (s t : Nat) (w : World) (hT : Tab w b 0 0 ws s t) :
    Calls Tryz.prog 131 #[.pointer (some ⟨b, 0, none⟩), .func (.func 122) #[.pointer (some ⟨b, 0, none⟩)] #[]] w fun e w' => e = .returned (.tuple #[]) ∧ Tab w' b 1 0 tabW s t ∧ But b w w' := by
  have hT1 := hT.putState 1
  have hB1 := But.set b 1 (.int .i32 1) w
  have hl := bool_load ⟨b, 0, none⟩ 0 (.inl rfl) _ hT1.done
  have hnot := run_not
  go_enter_defers Tryz.func131, Tryz.ntmps131
  go_wp2_with (go_at_call 134; refine (lock_free ⟨b, 1, none⟩ _ (hT.state) (hT.frozen 1)).mono ?_; rintro e w' ⟨rfl, rfl⟩)
  generalize w.setCell ⟨b, 1, none⟩ (.int .i32 1) = w1 at *
  refine hl.mono ?_
  rintro e w2 ⟨rfl, rfl⟩
  go_wp2_with fail
  refine (fill b 0 1 ws s t _ hT1).mono ?_
  rintro e w3 ⟨rfl, hT3, hB3⟩
  go_wp2_with fail
  refine leaves_cons (f := 136) (args := #[.pointer (some ⟨b, 0, none⟩), .bool true]) (by simp) (by simp [go_sem]) ?_
  refine (store_deferred ⟨b, 0, none⟩ (.int .u32 0) .returning _ hT3.done (hT3.frozen 0)).mono ?_
  rintro e u' w'' ⟨rfl, rfl, rfl⟩
  have hT4 := hT3.drew.putDone 1
  refine leaves_cons (f := 135) (args := #[.pointer (some ⟨b, 1, none⟩)]) (by simp [settle]) (by simp [go_sem]) ?_
  refine (unlock_deferred ⟨b, 1, none⟩ _ _ hT4.state (hT4.frozen 1)).mono ?_
  rintro e u' w'' ⟨rfl, rfl, rfl⟩
  have hT5 := hT4.putState 0
  have hB5 : But b w ((w3.drew.setCell ⟨b, 0, none⟩ (.int .u32 1)).setCell ⟨b, 1, none⟩ (.int .i32 0)) := ((hB1.trans hB3).drew.trans (But.set b 0 _ _)).trans (But.set b 1 _ _)
  have hT6 : Tab ((w3.drew.setCell ⟨b, 0, none⟩ (.int .u32 1)).setCell ⟨b, 1, none⟩ (.int .i32 0)) b 1 0 tabW s t := hT5
  clear hT5 hT4 hT3 hT1 hT
  simp [Leaves, settle, results, Tryz.results131]
  exact ⟨hT6, hB5⟩

/-- Do: whatever was done before, the words are filled behind it. -/
theorem once_do (b d : Nat) (ws : Nat → Nat) (s t : Nat) (w : World) (hd : d = 0 ∨ (d = 1 ∧ ∀ i, i < 256 → ws i = tabW i)) (hT : Tab w b d 0 ws s t) :
    Calls Tryz.prog 121 #[.pointer (some ⟨b, 0, none⟩), .func (.func 122) #[.pointer (some ⟨b, 0, none⟩)] #[]] w fun e w' => e = .returned (.tuple #[]) ∧ Tab w' b 1 0 tabW s t ∧ But b w w' := by
  have hnot := run_not
  rcases hd with rfl | ⟨rfl, hw⟩
  · go_enter Tryz.func121, Tryz.ntmps121
    go_wp2_with fail
    refine (bool_load ⟨b, 0, none⟩ 0 (.inl rfl) _ hT.done).mono ?_
    rintro e w2 ⟨rfl, rfl⟩
    go_wp2_with fail
    refine (once_slow b ws s t _ hT).mono ?_
    rintro e w3 ⟨rfl, hT3, hB3⟩
    go_wp2_with fail
    go_end0
    exact ⟨rfl, hT3, hB3⟩
  · go_enter Tryz.func121, Tryz.ntmps121
    go_wp2_with fail
    refine (bool_load ⟨b, 0, none⟩ 1 (.inr rfl) _ hT.done).mono ?_
    rintro e w2 ⟨rfl, rfl⟩
    go_wp2_with fail
    go_end0
    exact ⟨rfl, hT.congr hw, But.refl b _⟩
end Go.Proofs.YtdmdfccadjfpiaaGreat
