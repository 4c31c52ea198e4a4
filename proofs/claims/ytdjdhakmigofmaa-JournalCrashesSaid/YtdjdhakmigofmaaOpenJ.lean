/-
  Open of the one file that there is.
-/
import Derived.Test.YtdjdhakmigofmaaOpenL
import Derived.Test.YtdjdhakmigofmaaCrashL2
namespace Go.Proofs.Ytdjdhakmigofmaa
open Go.RowKit FreeNew
set_option maxRecDepth 100000

theorem fs_one {fs : List FileV} {s : ByteArray} {f : FileV} (hl : fs.length = 1) (hf : findF fs s = some f) : fs = [f] := by
  match fs, hl with
  | [a], _ =>
    simp only [findF] at hf
    split at hf
    · injection hf with hf
      rw [hf]
    · cases hf
theorem jOpenOneJ (d m b : Nat) (s : ByteArray) (v : Value) (R : List UInt8) (w : World) (hD : DiskAt w d m [⟨s, v, R, R.length⟩]) (hT : TabOk w b) :
    Calls Try.prog 32 #[.pointer (some ⟨d, 0, none⟩), .pointer (some ⟨b, 0, none⟩), .string s] w fun e w' => ∃ j vg ps v', e = .returned (.tuple #[.pointer (some ⟨j, 0, none⟩), vg, .int .i64 0]) ∧ ps.map (·.2) = scanL R ∧
      w'.ownsRow w.heap.size 27 1 vg ps.length (ps.map (·.1)) ∧ OwnAll w' w.heap.size ps ∧ w.heap.size ≤ j ∧ Blk w' j #[.pointer (some ⟨d, 0, none⟩), .pointer (some ⟨b, 0, none⟩), .string s, .int .i64 (lenR (scanL R) : Nat)] 114 ∧
      DiskAt w' d m [⟨s, v', layAll (scanL R), lenR (scanL R)⟩] ∧ TabOk w' b ∧ Mod [d, m, b] w w' := by
  refine (jOpenSomeL d m b _ s ⟨s, v, R, R.length⟩ w hD (by simp [findF]) hT).mono ?_
  rintro e w' ⟨j, vg, ps, fs', f', rfl, hps, hvg, hog, hjw, hj, hD', hf, hfb, hfs, _, hT', hM, hl⟩
  obtain rfl := fs_one hl hf
  have hn := (findF_mem hf).2
  have hle := lenR_scan R.length R (Nat.le_refl _)
  have hb2 : f'.bytes = layAll (scanL R) := by rw [hfb]; exact scan_lay_take R.length R (Nat.le_refl _)
  have hs2 : f'.synced = lenR (scanL R) := by
    rw [hfs]
    show (if lenR (scanL R) < R.length then lenR (scanL R) else R.length) = _
    split <;> omega
  have hf' : f' = ⟨s, f'.val, layAll (scanL R), lenR (scanL R)⟩ := by
    obtain ⟨a, b, c, d⟩ := f'
    simp only at hn hb2 hs2
    subst hn hb2 hs2
    rfl
  rw [hf'] at hD'
  exact ⟨j, vg, ps, f'.val, rfl, hps, hvg, hog, hjw, hj, hD', hT', hM⟩
end Go.Proofs.Ytdjdhakmigofmaa
