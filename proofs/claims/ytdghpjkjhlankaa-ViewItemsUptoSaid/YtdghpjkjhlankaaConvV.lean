/-
  A slice of bytes that can be read, as a string (the view seat).
-/
import Derived.Test.YtdghpjkjhlankaaBut
import Derived.IntWalk
namespace Go.Proofs.Ytdghpjkjhlankaa
open Go.RowKit
set_option maxRecDepth 100000

def u8L (l : List UInt8) : List Value := l.map fun c => .int .u8 c.toNat
theorem u8L_len (l : List UInt8) : (u8L l).length = l.length := by simp [u8L]
theorem fold_push (l : List UInt8) : ∀ s : ByteArray, (l.map fun c => (c.toNat : Int)).foldl (fun (r : ByteArray) (n : Int) => r.push (UInt8.ofNat n.toNat)) s = ⟨s.data ++ l.toArray⟩ := by
  induction l with
  | nil => intro s; simp
  | cons c r ih =>
    intro s
    simp only [List.map_cons, List.foldl_cons, ih]
    congr 1
    simp [ByteArray.push]
/-- A slice of bytes as a string. -/
theorem conv_rd {P : Program} (src dst e : TypeId) (hs : P.underlying src = some (.slice e)) (he : P.underlying e = some (.int .u8)) (hd : P.underlying dst = some .string)
    {w : World} {v : Value} {n : Nat} {l : List UInt8} (h : Rd w 1 v n (u8L l)) : (convert src dst v).run P w = .ok (.string ⟨l.toArray⟩) w := by
  obtain ⟨A, c, rfl, h1, h2, h3, h4⟩ := h
  rw [run_convert_bytes_string w src dst e _ _ c hs he hd]
  have hn : n = l.length := by simpa [u8L] using h1.symm
  subst hn
  cases A with
  | none =>
    have hl : l = [] := by
      rcases l with _ | ⟨x, r⟩
      · rfl
      · obtain ⟨_, _, h, _⟩ := h4 (by simp)
        cases h
    subst hl
    rfl
  | some a =>
    have e1 : (l.map fun c => (c.toNat : Int)).map (Value.int .u8) = u8L l := by simp [u8L]
    have := run_bytesToString (P := P) w a l.length c (l.map fun c => (c.toNat : Int)) (by
      rw [e1]
      have := run_loadCells_list (P := P) w a (u8L l) (fun j u hj => by
        have hp : 0 < l.length := by
          rcases l with _ | ⟨x, r⟩
          · simp [u8L] at hj
          · simp
        obtain ⟨b, o, hA, hr⟩ := h4 hp
        injection hA with hA
        subst hA
        have : (⟨b, o, none⟩ : Addr).add j = ⟨b, o + j, none⟩ := by unfold Addr.add; split <;> simp_all
        rw [this]
        exact hr j u hj)
      rwa [u8L_len] at this)
    rw [this, fold_push]
    simp
theorem conv8 {w : World} {v : Value} {n : Nat} {l : List UInt8} (h : Rd w 1 v n (u8L l)) : (convert 34 9 v).run Try.prog w = .ok (.string ⟨l.toArray⟩) w :=
  conv_rd 34 9 5 Try.underlying34 Try.underlying5 Try.underlying9 h
theorem conv1 {w : World} {g : Nat} (x : UInt8) (h : Blk w g #[.int .u8 x.toNat] 5) : (convert 34 9 (.slice (some ⟨g, 0, none⟩) 1 1)).run Try.prog w = .ok (.string ⟨#[x]⟩) w :=
  conv8 (l := [x]) (rd_one h (n := 1) rfl)
end Go.Proofs.Ytdghpjkjhlankaa
