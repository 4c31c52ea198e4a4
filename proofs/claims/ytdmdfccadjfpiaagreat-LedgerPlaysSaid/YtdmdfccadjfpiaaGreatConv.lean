/-
  A slice of bytes that can be read, as a string; and the plain law of a record: it is one just if its sum is right.
-/
import Derived.Test.YtdmdfccadjfpiaaGreatScanL
import Derived.IntWalk
namespace Go.Proofs.YtdmdfccadjfpiaaGreat
open Go.RowKit
set_option maxRecDepth 100000

theorem fold_push (l : List UInt8) : ∀ s : ByteArray, (l.map fun c => (c.toNat : Int)).foldl (fun (r : ByteArray) (n : Int) => r.push (UInt8.ofNat n.toNat)) s = ⟨s.data ++ l.toArray⟩ := by
  induction l with
  | nil => intro s; simp
  | cons c r ih =>
    intro s
    simp only [List.map_cons, List.foldl_cons, ih]
    congr 1
    simp [ByteArray.push]
/-- A slice of bytes as a string. -/
theorem conv_rd {P : Program} (src dst e : TypeId) (hs : P.underlying src = some (.slice e)) (he : P.underlying e = some (.int .u8)) (hd : P.underlying dst = some .string)
    {w : World} {v : Value} {n : Nat} {l : List UInt8} (h : Rd w 1 v n (u8L l)) : (convert src dst v).run P w = .ok (.string ⟨l.toArray⟩) w := by
  obtain ⟨A, c, rfl, h1, h2, h3, h4⟩ := h
  rw [run_convert_bytes_string w src dst e _ _ c hs he hd]
  have hn : n = l.length := by simpa [u8L] using h1.symm
  subst hn
  cases A with
  | none =>
    have hl : l = [] := by
      rcases l with _ | ⟨x, r⟩
      · rfl
      · obtain ⟨_, _, h, _⟩ := h4 (by simp)
        cases h
    subst hl
    rfl
  | some a =>
    have e1 : (l.map fun c => (c.toNat : Int)).map (Value.int .u8) = u8L l := by simp [u8L]
    have := run_bytesToString (P := P) w a l.length c (l.map fun c => (c.toNat : Int)) (by
      rw [e1]
      have := run_loadCells_list (P := P) w a (u8L l) (fun j u hj => by
        have hp : 0 < l.length := by
          rcases l with _ | ⟨x, r⟩
          · simp [u8L] at hj
          · simp
        obtain ⟨b, o, hA, hr⟩ := h4 hp
        injection hA with hA
        subst hA
        have : (⟨b, o, none⟩ : Addr).add j = ⟨b, o + j, none⟩ := by unfold Addr.add; split <;> simp_all
        rw [this]
        exact hr j u hj)
      rwa [u8L_len] at this)
    rw [this, fold_push]
    simp
theorem conv8 {w : World} {v : Value} {n : Nat} {l : List UInt8} (h : Rd w 1 v n (u8L l)) : (convert 58 9 v).run Tryz.prog w = .ok (.string ⟨l.toArray⟩) w :=
  conv_rd 58 9 5 Tryz.underlying58 Tryz.underlying5 Tryz.underlying9 h
theorem ba_beq (a b : List UInt8) : ((⟨a.toArray⟩ : ByteArray).toList == (⟨b.toArray⟩ : ByteArray).toList) = decide (a = b) := by
  have e : ∀ l : List UInt8, (⟨l.toArray⟩ : ByteArray).toList = l := fun l => by simp
  rw [e, e]
  by_cases h : a = b <;> simp [h]

theorem unfour_four (x0 x1 x2 x3 : UInt8) : four (unfour x0.toNat x1.toNat x2.toNat x3.toNat) = [x0, x1, x2, x3] := by
  have h0 := x0.toNat_lt
  have h1 := x1.toNat_lt
  have h2 := x2.toNat_lt
  have h3 := x3.toNat_lt
  have e0 : unfour x0.toNat x1.toNat x2.toNat x3.toNat % 256 = x0.toNat := by unfold unfour; omega
  have e1 : unfour x0.toNat x1.toNat x2.toNat x3.toNat / 256 % 256 = x1.toNat := by unfold unfour; omega
  have e2 : unfour x0.toNat x1.toNat x2.toNat x3.toNat / 65536 % 256 = x2.toNat := by unfold unfour; omega
  have e3 : unfour x0.toNat x1.toNat x2.toNat x3.toNat / 16777216 = x3.toNat := by unfold unfour; omega
  unfold four
  rw [e0, e1, e2, e3]
  simp
theorem four_inj {m n : Nat} (hm : m < 4294967296) (hn : n < 4294967296) (h : four m = four n) : m = n := by
  have key : ∀ k, k < 4294967296 → unfour ((UInt8.ofNat (k % 256)).toNat) ((UInt8.ofNat (k / 256 % 256)).toNat) ((UInt8.ofNat (k / 65536 % 256)).toNat) ((UInt8.ofNat (k / 16777216)).toNat) = k := by
    intro k hk
    simp only [UInt8.toNat_ofNat']
    unfold unfour
    omega
  unfold four at h
  simp only [List.cons.injEq, and_true] at h
  obtain ⟨a, b, c, d⟩ := h
  rw [← key m hm, ← key n hn, a, b, c, d]
/-- A record stands there just if its sum is right. -/
theorem lay_iff (x0 x1 x2 x3 x4 x5 x6 x7 : UInt8) (m : List UInt8) (hm : unfour x0.toNat x1.toNat x2.toNat x3.toNat = m.length) :
    layL m = x0 :: x1 :: x2 :: x3 :: x4 :: x5 :: x6 :: x7 :: m ↔ crcSum ([x0, x1, x2, x3] ++ m) = unfour x4.toNat x5.toNat x6.toNat x7.toNat := by
  have e0 : four m.length = [x0, x1, x2, x3] := by rw [← hm, unfour_four]
  unfold layL
  rw [e0]
  constructor
  · intro h
    have h2 : four (crcSum ([x0, x1, x2, x3] ++ m)) = [x4, x5, x6, x7] := by
      have h3 := congrArg (fun l => (l.drop 4).take 4) h
      simpa [four] using h3
    rw [← unfour_four x4 x5 x6 x7] at h2
    exact four_inj (crcSum_lt _) (unfour_lt _ _ _ _) h2
  · intro h
    rw [h, unfour_four]
    rfl
end Go.Proofs.YtdmdfccadjfpiaaGreat
