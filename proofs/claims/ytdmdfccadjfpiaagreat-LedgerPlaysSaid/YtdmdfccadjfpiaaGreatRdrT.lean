/-
  pack.Reader: what each method gives back of what was put. pack.Reader: Bool, Int, Count, Text. item.take: an event back. item.Take: an item back.
-/
import Derived.Test.YtdmdfccadjfpiaaGreatKind
import Derived.Test.YtdmdfccadjfpiaaGreatPutI
import Derived.Lib.VarintBits
import Derived.Test.YtdmdfccadjfpiaaGreatDisk3
import Derived.Lib.Zigzag
namespace Go.Proofs.YtdmdfccadjfpiaaGreat
open Go.RowKit
set_option maxRecDepth 100000

variable {T : List Nat} {ob : Nat → Option Obj}
/-- A reader: its block, and the bytes that are left; the blocks of T (where the bytes lie) are as ob says. -/
def chRdr (T : List Nat) (ob : Nat → Option Obj) (g : Nat) (v : Value) (bs : List UInt8) : Chunk :=
  ⟨g :: T, fun w => Blk w g #[v, .int .i64 0] 174 ∧ Rd w 1 v bs.length (u8L bs) ∧ g ∉ T ∧ (∀ q ∈ rdFp v bs.length, q ∈ T) ∧ ∀ q ∈ T, q < w.heap.size ∧ w.heap[q]? = ob q, fun w w' h hP => ⟨(h g (.head _)).trans hP.1, (chRd 1 v bs.length (u8L bs) (by decide)).loc w w' (fun b hb => h b (.tail _ (hP.2.2.2.1 b hb))) hP.2.1, hP.2.2.1, hP.2.2.2.1, fun q hq => by
    have e := h q (.tail _ hq)
    have h1 := hP.2.2.2.2 q hq
    refine ⟨?_, e.trans h1.2⟩
    rw [Array.getElem?_eq_getElem h1.1] at e
    exact (Array.getElem?_eq_some_iff.1 e).1⟩, fun w hP b hb => by
    rcases List.mem_cons.1 hb with rfl | hb
    · exact hP.1.lt
    · exact (hP.2.2.2.2 b hb).1⟩
theorem rdr_step {g : Nat} {v v' : Value} {bs bs' : List UInt8} {w w' : World} (h : Upd [g] w [chBlk g #[v', .int .i64 0] 174] w') (hP : (chRdr T ob g v bs).P w) (hr : Rd w' 1 v' bs'.length (u8L bs')) (ho : ∀ q, v'.ownBlock = some q → v.ownBlock = some q) (hl : bs'.length ≤ bs.length) :
    Upd (chRdr T ob g v bs).fp w [chRdr T ob g v' bs'] w' := by
  have key : ∀ q ∈ rdFp v' bs'.length, q ∈ rdFp v bs.length := by
    intro q hq
    unfold rdFp at hq ⊢
    split at hq
    · cases hq
    · rw [if_neg (by omega)]
      have := ho q (by simpa using hq)
      simpa using this
  refine ⟨h.os, h.tape, h.output, h.size, fun k hk hS => h.block k hk fun hm => hS ?_, fun c hc => ?_, fun c hc b hb => ?_, by simp⟩
  · rw [List.mem_singleton.1 hm]; exact .head _
  · rw [List.mem_singleton.1 hc]
    refine ⟨h.blk 0 rfl, hr, hP.2.2.1, fun q hq => hP.2.2.2.1 q (key q hq), fun q hq => ?_⟩
    have h1 := hP.2.2.2.2 q hq
    refine ⟨Nat.lt_of_lt_of_le h1.1 h.size, (h.block q h1.1 fun hm => hP.2.2.1 ?_).trans h1.2⟩
    rw [← List.mem_singleton.1 hm]; exact hq
  · rw [List.mem_singleton.1 hc] at hb
    exact .inl hb
theorem rByte (g : Nat) (v : Value) (x : UInt8) (r : List UInt8) (w : World) (hP : (chRdr T ob g v (x :: r)).P w) :
    Calls Tryz.prog 74 #[.pointer (some ⟨g, 0, none⟩)] w fun e w' => e = .returned (.int .u8 x.toNat) ∧ ∃ v', Upd (chRdr T ob g v (x :: r)).fp w [chRdr T ob g v' r] w' := by
  refine (rdByte g v x r w hP.1 hP.2.1 (fun q hq e => hP.2.2.1 (e ▸ hP.2.2.2.1 q hq))).mono ?_
  rintro e w' ⟨v', rfl, hU, hr, ho⟩
  exact ⟨rfl, v', rdr_step hU hP hr ho (by simp)⟩
theorem rOk (g : Nat) (v : Value) (bs : List UInt8) (w : World) (hP : (chRdr T ob g v bs).P w) : Calls Tryz.prog 93 #[.pointer (some ⟨g, 0, none⟩)] w fun e w' => e = .returned (.bool true) ∧ w' = w := rdOk g v 0 w hP.1
theorem rErr (g : Nat) (v : Value) (bs : List UInt8) (w : World) (hP : (chRdr T ob g v bs).P w) : Calls Tryz.prog 97 #[.pointer (some ⟨g, 0, none⟩)] w fun e w' => e = .returned (.int .i64 0) ∧ w' = w := by
  have c1 := hP.1.cell (j := 1) (v := .int .i64 0) rfl
  clear hP
  go_enter Tryz.func97, Tryz.ntmps97
  go_wp2_with fail
  go_ret
  exact ⟨rfl, rfl⟩
theorem rDone (g : Nat) (v : Value) (w : World) (hP : (chRdr T ob g v []).P w) : Calls Tryz.prog 76 #[.pointer (some ⟨g, 0, none⟩)] w fun e w' => e = .returned (.int .i64 0) ∧ w' = w := by
  have KL : ∀ w', (chRdr T ob g v []).P w' → Calls Tryz.prog 96 #[.pointer (some ⟨g, 0, none⟩)] w' fun e w'' => e = .returned (.int .i64 0) ∧ w'' = w' := fun w' hP' => by
    have K := rOk g v [] w' hP'
    obtain ⟨A, c, rfl, _⟩ := hP'.2.1
    have c0 := hP'.1.cell (j := 0) (v := .slice A 0 c) rfl
    clear hP'
    go_enter Tryz.func96, Tryz.ntmps96
    go_wp2_with fail
    (with_reducible refine K.mono ?_)
    rintro e w1 ⟨rfl, rfl⟩
    go_wp2_with fail
    go_ret
    exact ⟨rfl, rfl⟩
  have K1 := KL w hP
  have K2 := rErr g v [] w hP
  clear hP KL
  go_enter Tryz.func76, Tryz.ntmps76
  go_wp2_with fail
  (with_reducible refine K1.mono ?_)
  rintro e w1 ⟨rfl, rfl⟩
  go_wp2_with fail
  (with_reducible refine K2.mono ?_)
  rintro e w2 ⟨rfl, rfl⟩
  go_wp2_with fail
  go_ret
  exact ⟨rfl, rfl⟩
theorem and127 (c : Nat) (h : c < 256) : bits .and .u8 (c : Int) 127 = ((c % 128 : Nat) : Int) := by
  have h2 : ∀ x : Fin 256, bits .and .u8 ((x.val : Nat) : Int) 127 = ((x.val % 128 : Nat) : Int) := by decide +kernel
  exact h2 ⟨c, h⟩
theorem uint_step (a m s : Nat) (ha : a < 2 ^ s) (hs : s ≤ 63) (hms : m * 2 ^ s < 18446744073709551616) : bits .or .u64 (a : Int) (IntKind.u64.wrap ((m : Int) * 2 ^ s)) = ((a + m * 2 ^ s : Nat) : Int) := by
  have h1 : IntKind.u64.wrap ((m : Int) * 2 ^ s) = ((m * 2 ^ s : Nat) : Int) := by
    have : ((m : Int) * 2 ^ s) = ((m * 2 ^ s : Nat) : Int) := by push_cast; rfl
    rw [this, IntKind.wrap_u64]
    omega
  have h2 : a < 18446744073709551616 := by
    have : (2 : Nat) ^ s ≤ 2 ^ 63 := Nat.pow_le_pow_right (by decide) hs
    have : (2 : Nat) ^ 63 < 18446744073709551616 := by decide
    omega
  rw [h1, u64_or_nat a (m * 2 ^ s) h2 hms]
  have h3 := Nat.two_pow_add_eq_or_of_lt ha m
  rw [Nat.mul_comm m (2 ^ s), Nat.or_comm a, ← h3, Nat.add_comm]
set_option maxHeartbeats 4000000 in
theorem rUint (g : Nat) (v : Value) (n : Nat) (rest : List UInt8) (w : World) (hP : (chRdr T ob g v (uvar n ++ rest)).P w) (hn : n < 18446744073709551616) :
    Calls Tryz.prog 95 #[.pointer (some ⟨g, 0, none⟩)] w fun e w' => e = .returned (.int .u64 n) ∧ ∃ v', Upd (chRdr T ob g v (uvar n ++ rest)).fp w [chRdr T ob g v' rest] w' := by
  obtain ⟨S, hS⟩ : ∃ S, S = (chRdr T ob g v (uvar n ++ rest)).fp := ⟨_, rfl⟩
  have U0 := Upd.one _ w hP
  rw [← hS] at U0 ⊢
  clear hS hP
  have HN := Lib.hid hn
  clear hn
  go_enter Tryz.func95, Tryz.ntmps95
  go_wp2_with fail
  go_loopw [3, 4] (fun acc sh wr => ∃ (i s a m : Nat) (v1 : Value), i ≤ 9 ∧ s = 7 * i ∧ acc = .int .u64 a ∧ sh = .int .i64 s ∧ a < 2 ^ s ∧ n = a + m * 2 ^ s ∧ (i = 0 ∨ 1 ≤ m) ∧ Upd S w [chRdr T ob g v1 (uvar m ++ rest)] wr) (fun _ sh _ => 63 - (intOf sh).toNat)
  case atStart => exact ⟨0, 0, 0, n, v, by omega, rfl, rfl, rfl, by decide, by simp, .inl rfl, U0⟩
  case round =>
    obtain ⟨i, s, a, m, v1, hi, hs, rfl, rfl, ha, hnm, h1, U1⟩ := hrel
    clear U0
    have hn := HN.out
    have hms : m * 2 ^ s < 18446744073709551616 := by omega
    have hs63 : s ≤ 63 := by omega
    have hz : m = 0 → s = 0 := by omega
    have HS := Lib.hid hs
    have HNM := Lib.hid hnm
    have HZ := Lib.hid hz
    clear hs hnm h1 hz hn
    by_cases hm : m < 128
    · have ub : uvar m ++ rest = UInt8.ofNat m :: rest := by rw [uvar_small hm]; rfl
      rw [ub] at U1
      have K := rByte g v1 (UInt8.ofNat m) rest wr (U1.get 0 rfl)
      rw [UInt8.toNat_ofNat', Nat.mod_eq_of_lt (by omega)] at K
      clear ub
      go_wp2_with fail
      (with_reducible refine K.mono ?_)
      rintro e w2 ⟨rfl, v2, h2⟩
      have U2 := U1.turn 0 rfl h2
      simp only [List.eraseIdx_cons_zero, List.append_nil] at U2
      have K2 := rOk g v2 rest w2 (U2.get 0 rfl)
      clear K h2 U1
      go_wp2_with fail
      (with_reducible refine K2.mono ?_)
      rintro e w3 ⟨rfl, rfl⟩
      have ea := and127 m (by omega)
      rw [Nat.mod_eq_of_lt hm] at ea
      have es := uint_step a m s ha hs63 hms
      rw [← HNM.out] at es
      have c1 : IntKind.u64.wrap (m : Int) = (m : Int) := by rw [IntKind.wrap_u64]; omega
      have dm : (m : Int) < 128 := by omega
      have HU := Lib.hid U2
      have hz := HZ.out
      clear U2 K2
      by_cases h0 : m = 0
      · have hs0 := hz h0
        subst h0 hs0
        have es2 : bits .or .u64 (a : Int) (IntKind.u64.wrap 0) = (n : Int) := by
          have e0 : ((0 : Nat) : Int) * 2 ^ (0 : Nat) = 0 := by decide
          rw [e0] at es
          exact es
        have w0 : IntKind.u64.wrap 0 = 0 := by decide
        rw [w0] at es2
        have ea0 : bits .and .u8 0 127 = 0 := and127 0 (by omega)
        clear hz es ea
        go_wp2_with fail
        go_ret
        exact ⟨rfl, _, HU.out⟩
      · have dz : ((m : Int) == 0) = false := by simp; omega
        have hmp : 0 < m := by omega
        clear hz
        by_cases h63 : s = 63
        · have d63 : ((s : Int) == 63) = true := by simp [h63]
          have hm1 : m ≤ 1 := by
            rw [h63] at hms
            omega
          have d1 : decide ((1 : Int) < (m : Int)) = false := by simp; omega
          clear h63
          go_wp2_with fail
          go_ret
          exact ⟨rfl, _, HU.out⟩
        · have d63 : ((s : Int) == 63) = false := by simp; omega
          go_wp2_with fail
          go_ret
          exact ⟨rfl, _, HU.out⟩
    · have h63 : s < 63 := by
        rcases Nat.lt_or_ge s 63 with h | h
        · exact h
        · have : s = 63 := by omega
          rw [this] at hms
          omega
      have h56 : s ≤ 56 := by have := HS.out; omega
      obtain ⟨lo, hlo⟩ : ∃ lo, lo = m % 128 := ⟨_, rfl⟩
      obtain ⟨hi7, hhi⟩ : ∃ h, h = m / 128 := ⟨_, rfl⟩
      have lo128 : lo < 128 := by omega
      have hmm : m = lo + 128 * hi7 := by omega
      have ub : uvar m ++ rest = UInt8.ofNat (lo + 128) :: (uvar hi7 ++ rest) := by rw [uvar_big (by omega), hlo, hhi]; rfl
      rw [ub] at U1
      have K := rByte g v1 (UInt8.ofNat (lo + 128)) (uvar hi7 ++ rest) wr (U1.get 0 rfl)
      rw [UInt8.toNat_ofNat', Nat.mod_eq_of_lt (by omega)] at K
      clear ub
      have hp7 : (2 : Nat) ^ (s + 7) = 2 ^ s * 128 := by rw [Nat.pow_add]
      have hle : lo * 2 ^ s ≤ m * 2 ^ s := Nat.mul_le_mul_right _ (by omega)
      have es := uint_step a lo s ha hs63 (by omega)
      obtain ⟨a2, ha2⟩ : ∃ a2, a2 = a + lo * 2 ^ s := ⟨_, rfl⟩
      rw [← ha2] at es
      have HM := Lib.hid (show a2 < 2 ^ (s + 7) ∧ n = a2 + hi7 * 2 ^ (s + 7) ∧ 1 ≤ hi7 ∧ s + 7 = 7 * (i + 1) by
        refine ⟨?_, ?_, by omega, by have := HS.out; omega⟩
        · have h1 : lo * 2 ^ s ≤ 127 * 2 ^ s := Nat.mul_le_mul_right _ (by omega)
          rw [hp7, ha2]
          omega
        · rw [HNM.out, ha2, hp7, hmm, Nat.add_mul, ← Nat.mul_assoc, Nat.mul_comm hi7 (2 ^ s), Nat.mul_assoc (2 ^ s), Nat.mul_comm hi7 128, Nat.mul_comm (128 * hi7) (2 ^ s)]
          omega)
      have ea := and127 (lo + 128) (by omega)
      rw [show (lo + 128) % 128 = lo by omega, show ((lo + 128 : Nat) : Int) = (lo : Int) + 128 by omega] at ea
      have c1 : IntKind.u64.wrap (lo : Int) = (lo : Int) := by rw [IntKind.wrap_u64]; omega
      have d63 : ((s : Int) == 63) = false := by simp; omega
      have dm : decide ((lo : Int) + 128 < 128) = false := by simp; omega
      have hi9 : i + 1 ≤ 9 := by have := HS.out; omega
      have hwr : IntKind.i64.wrap ((s : Int) + 7) = (s : Int) + 7 := by rw [IntKind.wrap_i64]; omega
      clear hlo hhi hmm hle hp7 ha2 hms hm
      go_wp2_with fail
      (with_reducible refine K.mono ?_)
      rintro e w2 ⟨rfl, v2, h2⟩
      have U2 := U1.turn 0 rfl h2
      simp only [List.eraseIdx_cons_zero, List.append_nil] at U2
      have K2 := rOk g v2 _ w2 (U2.get 0 rfl)
      clear K h2 U1
      have HU := Lib.hid U2
      clear U2
      go_wp2_with fail
      (with_reducible refine K2.mono ?_)
      rintro e w3 ⟨rfl, rfl⟩
      clear K2
      go_wp2_with fail
      refine ⟨⟨i + 1, s + 7, a2, hi7, v2, hi9, HM.out.2.2.2, rfl, by go_num, HM.out.1, HM.out.2.1, .inr HM.out.2.2.1, HU.out⟩, by simp [intOf]; omega⟩
end Go.Proofs.YtdmdfccadjfpiaaGreat
namespace Go.Proofs.YtdmdfccadjfpiaaGreat
open Go.RowKit
set_option maxRecDepth 100000
variable {T : List Nat} {ob : Nat → Option Obj}

theorem rdr_cut (g q o N c k : Nat) (bs : List UInt8) (w : World) (hP : (chRdr T ob g (.slice (some ⟨q, o, none⟩) N c) bs).P w) (hN : bs.length = N) (hk : k < N) :
    Upd (chRdr T ob g (.slice (some ⟨q, o, none⟩) N c) bs).fp w [chRdr T ob g (.slice (some ⟨q, o + k, none⟩) (N - k) (c - k)) (bs.drop k)] (w.setCell ⟨g, 0, none⟩ (.slice (some ⟨q, o + k, none⟩) (N - k) (c - k))) := by
  have hP0 := hP
  obtain ⟨hB, hr, hn, hm, _⟩ := hP
  have hqg : q ≠ g := fun e => hn (hm g (by unfold rdFp; rw [if_neg (by omega), e]; exact .head _))
  have U0 := (Upd.one (chBlk g #[.slice (some ⟨q, o, none⟩) N c, .int .i64 0] 174) w hB).put 0 rfl 0 (.slice (some ⟨q, o + k, none⟩) (N - k) (c - k))
  simp only [List.setIfInBounds_toArray, List.set_cons_zero, List.eraseIdx_cons_zero] at U0
  rw [hN] at hr
  have hle : N ≤ c := by
    obtain ⟨_, _, e, _, h2, _⟩ := hr
    injection e with e1 e2 e3
    omega
  have hc := Rd.cutAt (k := k) hr (by omega)
  rw [if_neg (by omega)] at hc
  have hd : (u8L bs).drop k = u8L (bs.drop k) := by simp [u8L, List.map_drop]
  rw [hd] at hc
  refine rdr_step U0 hP0 ?_ (fun x hx => hx) (by rw [List.length_drop]; omega)
  rw [List.length_drop, hN]
  refine (chRd 1 (.slice (some ⟨q, o + k, none⟩) (N - k) (c - k)) (N - k) (u8L (bs.drop k)) (by decide)).loc w _ (fun x hx => Below.heap_setCell w _ _ x (fun e => ?_)) hc
  have hx : x ∈ rdFp (.slice (some ⟨q, o + k, none⟩) (N - k) (c - k)) (N - k) := hx
  unfold rdFp at hx
  rw [if_neg (by omega)] at hx
  have hx2 : x = q := by simpa [Value.ownBlock] using hx
  have e : x = g := e
  omega
theorem rBool (g : Nat) (v : Value) (b : Bool) (r : List UInt8) (w : World) (hP : (chRdr T ob g v ((if b then 1 else 0) :: r)).P w) :
    Calls Tryz.prog 98 #[.pointer (some ⟨g, 0, none⟩)] w fun e w' => e = .returned (.bool b) ∧ ∃ v', Upd (chRdr T ob g v ((if b then 1 else 0) :: r)).fp w [chRdr T ob g v' r] w' := by
  cases b
  · have K : Calls Tryz.prog 74 #[.pointer (some ⟨g, 0, none⟩)] w fun e w' => e = .returned (.int .u8 0) ∧ ∃ v', Upd (chRdr T ob g v (0 :: r)).fp w [chRdr T ob g v' r] w' := rByte g v 0 r w hP
    clear hP
    go_enter Tryz.func98, Tryz.ntmps98
    go_wp2_with fail
    (with_reducible refine K.mono ?_)
    rintro e w1 ⟨rfl, v1, h1⟩
    have HU := Lib.hid h1
    clear K h1
    go_wp2_with fail
    go_ret
    exact ⟨rfl, _, HU.out⟩
  · have K : Calls Tryz.prog 74 #[.pointer (some ⟨g, 0, none⟩)] w fun e w' => e = .returned (.int .u8 1) ∧ ∃ v', Upd (chRdr T ob g v (1 :: r)).fp w [chRdr T ob g v' r] w' := rByte g v 1 r w hP
    clear hP
    go_enter Tryz.func98, Tryz.ntmps98
    go_wp2_with fail
    (with_reducible refine K.mono ?_)
    rintro e w1 ⟨rfl, v1, h1⟩
    have HU := Lib.hid h1
    clear K h1
    go_wp2_with fail
    go_ret
    exact ⟨rfl, _, HU.out⟩
theorem xor_comm64 (a b : Int) : bits .xor .i64 a b = bits .xor .i64 b a := by
  simp [bits, BitVec.xor_comm]
theorem xor_0 (k : Nat) (h : k < 9223372036854775808) : bits .xor .i64 (k : Int) 0 = (k : Int) := by
  show IntKind.i64.wrap ((BitVec.ofInt 64 (k : Int) ^^^ BitVec.ofInt 64 0).toNat : Int) = _
  have h1 : (BitVec.ofInt 64 0).toNat = 0 := by decide
  have h2 : (BitVec.ofInt 64 (k : Int)).toNat = k := by
    rw [BitVec.ofInt_natCast, BitVec.toNat_ofNat]; exact Nat.mod_eq_of_lt (by omega)
  rw [BitVec.toNat_xor, h1, h2, Nat.xor_zero, IntKind.wrap_i64]
  omega
set_option maxHeartbeats 1000000 in
theorem rInt (g : Nat) (v : Value) (z : Int) (r : List UInt8) (w : World) (hz : -9223372036854775808 ≤ z ∧ z ≤ 9223372036854775807) (hP : (chRdr T ob g v (uvar (zig z) ++ r)).P w) :
    Calls Tryz.prog 108 #[.pointer (some ⟨g, 0, none⟩)] w fun e w' => e = .returned (.int .i64 z) ∧ ∃ v', Upd (chRdr T ob g v (uvar (zig z) ++ r)).fp w [chRdr T ob g v' r] w' := by
  have hzz : zig z < 18446744073709551616 := by unfold zig; split <;> omega
  have K := rUint g v (zig z) r w hP hzz
  obtain ⟨S, hS⟩ : ∃ S, S = (chRdr T ob g v (uvar (zig z) ++ r)).fp := ⟨_, rfl⟩
  rw [← hS] at K ⊢
  clear hS hP
  have hzg : (0 ≤ z → zig z = 2 * z.toNat) ∧ (z < 0 → zig z = 2 * (-z).toNat - 1) := by
    unfold zig
    exact ⟨fun h => if_pos h, fun h => if_neg (by omega)⟩
  generalize zig z = n at K hzz hzg
  have ea := Lib.u64_and1 (n : Int) (by omega) (by omega)
  have w1' : IntKind.i64.wrap (-1) = -1 := by decide
  by_cases h : 0 ≤ z
  · have hn := hzg.1 h
    obtain ⟨k, rfl⟩ := Int.eq_ofNat_of_zero_le h
    have e1 : (n : Int) / 2 = (k : Int) := by omega
    have e2 : (n : Int) % 2 = 0 := by omega
    rw [e2] at ea
    have e3 := xor_0 k (by omega)
    have e4 : IntKind.i64.wrap (k : Int) = (k : Int) := by rw [IntKind.wrap_i64]; omega
    clear hzg hn h e2 hz
    go_enter Tryz.func108, Tryz.ntmps108
    go_wp2_with fail
    (with_reducible refine K.mono ?_)
    rintro e w1 ⟨rfl, v1, h1⟩
    have HU := Lib.hid h1
    clear K h1
    go_wp2_with fail
    go_ret
    exact ⟨rfl, _, HU.out⟩
  · have hn := hzg.2 (by omega)
    obtain ⟨k, hk⟩ : ∃ k : Nat, z = -(k : Int) - 1 := ⟨(-z).toNat - 1, by omega⟩
    subst hk
    have e1 : (n : Int) / 2 = (k : Int) := by omega
    have e2 : (n : Int) % 2 = 1 := by omega
    rw [e2] at ea
    have e3 := Lib.i64_not k (by omega)
    rw [xor_comm64] at e3
    have e4 : IntKind.i64.wrap (k : Int) = (k : Int) := by rw [IntKind.wrap_i64]; omega
    clear hzg hn h e2 hz
    go_enter Tryz.func108, Tryz.ntmps108
    go_wp2_with fail
    (with_reducible refine K.mono ?_)
    rintro e w1 ⟨rfl, v1, h1⟩
    have HU := Lib.hid h1
    clear K h1
    go_wp2_with fail
    go_ret
    exact ⟨rfl, _, HU.out⟩
theorem rCount (g : Nat) (v : Value) (n most : Nat) (r : List UInt8) (w : World) (hP : (chRdr T ob g v (uvar n ++ r)).P w) (hn : n ≤ most) (hm : most < 18446744073709551616) :
    Calls Tryz.prog 75 #[.pointer (some ⟨g, 0, none⟩), .int .u64 most] w fun e w' => e = .returned (.int .u64 n) ∧ ∃ v', Upd (chRdr T ob g v (uvar n ++ r)).fp w [chRdr T ob g v' r] w' := by
  have K := rUint g v n r w hP (by omega)
  have d : decide (most < n) = false := by simp; omega
  clear hP hn hm
  go_enter Tryz.func75, Tryz.ntmps75
  go_wp2_with fail
  (with_reducible refine K.mono ?_)
  rintro e w1 ⟨rfl, v1, h1⟩
  have HU := Lib.hid h1
  clear K h1
  go_wp2_with fail
  go_ret
  exact ⟨rfl, _, HU.out⟩
set_option maxHeartbeats 2000000 in
theorem rText (g : Nat) (v : Value) (s : ByteArray) (most : Nat) (r : List UInt8) (w : World) (hP : (chRdr T ob g v (textP s ++ r)).P w) (hs : s.size ≤ most) (hm : most ≤ 1000000) (hr0 : 0 < r.length) :
    Calls Tryz.prog 107 #[.pointer (some ⟨g, 0, none⟩), .int .i64 most] w fun e w' => e = .returned (.string s) ∧ ∃ v', Upd (chRdr T ob g v (textP s ++ r)).fp w [chRdr T ob g v' r] w' := by
  have hb : textP s ++ r = uvar s.size ++ (s.toList ++ r) := by unfold textP; rw [List.append_assoc]
  rw [hb] at hP ⊢
  have K := rUint g v s.size (s.toList ++ r) w hP (by omega)
  obtain ⟨S, hS⟩ : ∃ S, S = (chRdr T ob g v (uvar s.size ++ (s.toList ++ r))).fp := ⟨_, rfl⟩
  rw [← hS] at K ⊢
  have hsl : s.toList.length = s.size := by rw [ByteArray.toList_eq, Array.length_toList]; rfl
  have hsa : (⟨s.toList.toArray⟩ : ByteArray) = s := by rw [ByteArray.toList_eq]
  have hdr : (s.toList ++ r).drop s.size = r := by rw [← hsl, List.drop_left]
  have htk : (s.toList ++ r).take s.size = s.toList := by rw [← hsl, List.take_left]
  have hlen : (s.toList ++ r).length = s.size + r.length := by rw [List.length_append, hsl]
  generalize s.toList ++ r = bs at K hdr htk hlen
  have htk2 : (⟨(bs.take s.size).toArray⟩ : ByteArray) = s := by rw [htk, hsa]
  clear htk hsa hsl hb hS hP
  obtain ⟨n, hn⟩ : ∃ n, n = s.size := ⟨_, rfl⟩
  rw [← hn] at hs K hdr hlen htk2
  have HTK := Lib.hid htk2
  have d1 : decide (most < n) = false := by simp; omega
  clear hn htk2
  go_enter Tryz.func107, Tryz.ntmps107
  go_wp2_with fail
  (with_reducible refine K.mono ?_)
  rintro e w1 ⟨rfl, v1, h1⟩
  have hP1 := h1.get 0 rfl
  have K1 := rOk g v1 _ w1 hP1
  obtain ⟨A, c, rfl, q1, q2, q3, q4⟩ := hP1.2.1
  obtain ⟨q, o, rfl, _⟩ := q4 (by omega)
  obtain ⟨N, hN⟩ : ∃ N, N = bs.length := ⟨_, rfl⟩
  rw [← hN] at q2 hlen
  unfold maxLen at q3
  have hP2 : (chRdr T ob g (.slice (some ⟨q, o, none⟩) N c) bs).P w1 := by rw [hN]; exact hP1
  have h1' : Upd S w [chRdr T ob g (.slice (some ⟨q, o, none⟩) N c) bs] w1 := by rw [hN]; exact h1
  clear hP1 h1
  have c0 := hP2.1.cell (j := 0) (v := .slice (some ⟨q, o, none⟩) N c) rfl
  have cf := hP2.1.frozen
  have cv : (convert 58 9 (.slice (some ⟨q, o, none⟩) n c)).run Tryz.prog w1 = .ok (.string s) w1 := by
    have hrd := Rd.pre (m := n) (by have := hP2.2.1; rw [← hN] at this; exact this : Rd w1 1 (.slice (some ⟨q, o, none⟩) N c) N (u8L bs)) (by omega)
    rw [u8L_pre] at hrd
    have := conv8 hrd
    rw [HTK.out] at this
    exact this
  have U2 := h1'.turn 0 rfl (rdr_cut g q o N c n bs w1 hP2 hN.symm (by omega))
  simp only [List.eraseIdx_cons_zero, List.append_nil] at U2
  rw [hdr] at U2
  have HU := Lib.hid U2
  have d2 : decide (N < n) = false := by simp; omega
  have wN : IntKind.u64.wrap (N : Int) = (N : Int) := by rw [IntKind.wrap_u64]; omega
  have wm : IntKind.u64.wrap (most : Int) = (most : Int) := by rw [IntKind.wrap_u64]; omega
  have nN : n ≤ N := by omega
  have nc : n ≤ c := by omega
  have hcn : ¬ c = n := by omega
  clear q1 q4 hP2 h1' hdr hlen U2 HTK hN
  go_wp2_with fail
  (with_reducible refine K1.mono ?_)
  rintro e w2 ⟨rfl, rfl⟩
  go_wp2_with fail
  go_ret
  exact ⟨rfl, _, HU.out⟩
end Go.Proofs.YtdmdfccadjfpiaaGreat
namespace Go.Proofs.YtdmdfccadjfpiaaGreat
open Go.RowKit
set_option maxRecDepth 100000
variable {T : List Nat} {ob : Nat → Option Obj}

theorem putE_eq (o sq tm : Nat) (ru : ByteArray) (ps : List Pr) (st pr : Nat) (va : Int) (ow : Nat) (rest : List UInt8) :
    putE o sq tm ru ps st pr va ow ++ rest = UInt8.ofNat o :: (uvar sq ++ (uvar tm ++ (textP ru ++ (uvar ps.length ++ (pairsP ps ++ (UInt8.ofNat st :: (UInt8.ofNat pr :: (uvar (zig va) ++ (UInt8.ofNat ow :: rest))))))))) := by simp [putE]
theorem rByteN (g : Nat) (v : Value) (n : Nat) (hn : n < 256) (r : List UInt8) (w : World) (hP : (chRdr T ob g v (UInt8.ofNat n :: r)).P w) :
    Calls Tryz.prog 74 #[.pointer (some ⟨g, 0, none⟩)] w fun e w' => e = .returned (.int .u8 (n : Nat)) ∧ ∃ v', Upd (chRdr T ob g v (UInt8.ofNat n :: r)).fp w [chRdr T ob g v' r] w' := by
  have := rByte g v (UInt8.ofNat n) r w hP
  rwa [UInt8.toNat_ofNat', Nat.mod_eq_of_lt (by omega)] at this
theorem rText12 (g : Nat) (v : Value) (s : ByteArray) (r : List UInt8) (w : World) (hP : (chRdr T ob g v (textP s ++ r)).P w) (hs : s.size ≤ 12) (hr0 : 0 < r.length) :
    Calls Tryz.prog 107 #[.pointer (some ⟨g, 0, none⟩), .int .i64 12] w fun e w' => e = .returned (.string s) ∧ ∃ v', Upd (chRdr T ob g v (textP s ++ r)).fp w [chRdr T ob g v' r] w' := rText g v s 12 r w hP hs (by decide) hr0
theorem rText8 (g : Nat) (v : Value) (s : ByteArray) (r : List UInt8) (w : World) (hP : (chRdr T ob g v (textP s ++ r)).P w) (hs : s.size ≤ 8) (hr0 : 0 < r.length) :
    Calls Tryz.prog 107 #[.pointer (some ⟨g, 0, none⟩), .int .i64 8] w fun e w' => e = .returned (.string s) ∧ ∃ v', Upd (chRdr T ob g v (textP s ++ r)).fp w [chRdr T ob g v' r] w' := rText g v s 8 r w hP hs (by decide) hr0
theorem rText16 (g : Nat) (v : Value) (s : ByteArray) (r : List UInt8) (w : World) (hP : (chRdr T ob g v (textP s ++ r)).P w) (hs : s.size ≤ 16) (hr0 : 0 < r.length) :
    Calls Tryz.prog 107 #[.pointer (some ⟨g, 0, none⟩), .int .i64 16] w fun e w' => e = .returned (.string s) ∧ ∃ v', Upd (chRdr T ob g v (textP s ++ r)).fp w [chRdr T ob g v' r] w' := rText g v s 16 r w hP hs (by decide) hr0
theorem rCount8 (g : Nat) (v : Value) (n : Nat) (r : List UInt8) (w : World) (hP : (chRdr T ob g v (uvar n ++ r)).P w) (hn : n ≤ 8) :
    Calls Tryz.prog 75 #[.pointer (some ⟨g, 0, none⟩), .int .u64 8] w fun e w' => e = .returned (.int .u64 n) ∧ ∃ v', Upd (chRdr T ob g v (uvar n ++ r)).fp w [chRdr T ob g v' r] w' := rCount g v n 8 r w hP hn (by decide)
theorem rCountM (g : Nat) (v : Value) (n : Nat) (r : List UInt8) (w : World) (hP : (chRdr T ob g v (uvar n ++ r)).P w) (hn : n ≤ 1099511627776) :
    Calls Tryz.prog 75 #[.pointer (some ⟨g, 0, none⟩), .int .u64 1099511627776] w fun e w' => e = .returned (.int .u64 n) ∧ ∃ v', Upd (chRdr T ob g v (uvar n ++ r)).fp w [chRdr T ob g v' r] w' := rCount g v n 1099511627776 r w hP hn (by decide)
theorem infoPairT : (Tryz.prog.info? 137).map (fun i => (i.zero, i.size, i.bytes)) = some (some (.agg #[.string ⟨#[]⟩, .string ⟨#[]⟩]), 2, 32) := by kernel_rfl
theorem pairsP_cons (p : Pr) (r : List Pr) : pairsP (p :: r) = textP p.1 ++ (textP p.2 ++ pairsP r) := by simp [pairsP]
set_option maxHeartbeats 8000000 in
theorem takeEv (g : Nat) (v : Value) (o sq tm : Nat) (ru : ByteArray) (ps : List Pr) (st pr : Nat) (va : Int) (ow : Nat) (rest : List UInt8) (w : World) (hP : (chRdr T ob g v (putE o sq tm ru ps st pr va ow ++ rest)).P w)
    (ho : o < 256) (hsq : sq < 18446744073709551616) (htm : tm < 18446744073709551616) (hru : ru.size ≤ 12) (hn8 : ps.length ≤ 8) (hps : ∀ p ∈ ps, p.1.size ≤ 8 ∧ p.2.size ≤ 16) (hst : st < 256) (hpr : pr < 256) (hva : -9223372036854775808 ≤ va ∧ va ≤ 9223372036854775807) (how : ow < 256) :
    Calls Tryz.prog 99 #[.pointer (some ⟨g, 0, none⟩)] w fun e w' => ∃ A c v', e = .returned (.agg #[.int .u8 o, .int .u64 sq, .int .u64 tm, .string ru, .slice A ps.length c, .int .u8 st, .int .u8 pr, .int .i64 va, .int .u8 ow]) ∧ Upd (chRdr T ob g v (putE o sq tm ru ps st pr va ow ++ rest)).fp w [chRdr T ob g v' rest, chRow 137 2 (.slice A ps.length c) ps.length (pairCells ps)] w' := by
  obtain ⟨i0, hi, hz0, hz1, hz2⟩ := info_parts infoPairT
  rw [putE_eq] at hP ⊢
  obtain ⟨S, hS⟩ : ∃ S, S = (chRdr T ob g v (UInt8.ofNat o :: (uvar sq ++ (uvar tm ++ (textP ru ++ (uvar ps.length ++ (pairsP ps ++ (UInt8.ofNat st :: (UInt8.ofNat pr :: (uvar (zig va) ++ (UInt8.ofNat ow :: rest))))))))))).fp := ⟨_, rfl⟩
  have U0 := Upd.one _ w hP
  rw [← hS] at U0 ⊢
  clear hS hP
  obtain ⟨n, hn⟩ : ∃ n, n = ps.length := ⟨_, rfl⟩
  rw [← hn] at U0 hn8
  have HN := Lib.hid hn
  rw [← hn]
  clear hn
  obtain ⟨tl, htl⟩ : ∃ tl, tl = (UInt8.ofNat st :: (UInt8.ofNat pr :: (uvar (zig va) ++ (UInt8.ofNat ow :: rest)))) := ⟨_, rfl⟩
  have htl0 : 0 < tl.length := by rw [htl]; simp
  rw [← htl] at U0
  have HTL := Lib.hid htl
  clear htl
  go_enter Tryz.func99, Tryz.ntmps99
  go_wp2_with fail
  refine calls_genP fun w1 hw1 => ?_
  have U1 := (((U0.alloc #[.int .u8 0, .int .u64 0, .int .u64 0, .string ⟨#[]⟩, .slice none 0 0, .int .u8 0, .int .u8 0, .int .i64 0, .int .u8 0] 32).alloc #[.int .u8 0, .int .u64 0, .int .u64 0, .string ⟨#[]⟩, .slice none 0 0, .int .u8 0, .int .u8 0, .int .i64 0, .int .u8 0] 32).pick [0, 2, 1] (by decide)).same hw1
  simp only [World.size_alloc, List.filterMap_cons, List.filterMap_nil, List.getElem?_cons_zero, List.getElem?_cons_succ] at U1
  clear hw1 U0
  (with_reducible refine (rByteN g _ o ho _ w1 (U1.get 1 rfl)).mono ?_)
  rintro e w2a ⟨rfl, v2, h2⟩
  have U2a := U1.turn 1 rfl h2
  simp only [List.eraseIdx_cons_succ, List.eraseIdx_cons_zero, List.cons_append, List.nil_append] at U2a
  have y := (U2a.blk 1 rfl).cell (j := 0) (v := .int .u8 0) rfl
  have yf := (U2a.blk 1 rfl).frozen
  clear h2 U1
  go_wp2_with fail
  refine calls_genP fun w2 hw2 => ?_
  have U2 := (U2a.put 1 rfl 0 (.int .u8 o)).same hw2
  simp only [List.eraseIdx_cons_succ, List.eraseIdx_cons_zero, List.setIfInBounds_toArray, List.set_cons_zero] at U2
  clear hw2 U2a y yf
  (with_reducible refine (rUint g _ sq _ w2 (U2.get 1 rfl) hsq).mono ?_)
  rintro e w3a ⟨rfl, v3, h3⟩
  have U3a := U2.turn 1 rfl h3
  simp only [List.eraseIdx_cons_succ, List.eraseIdx_cons_zero, List.cons_append, List.nil_append] at U3a
  have y := (U3a.blk 1 rfl).cell (j := 1) (v := .int .u64 0) rfl
  have yf := (U3a.blk 1 rfl).frozen
  clear h3 U2
  go_wp2_with fail
  refine calls_genP fun w3 hw3 => ?_
  have U3 := (U3a.put 1 rfl 1 (.int .u64 sq)).same hw3
  simp only [List.eraseIdx_cons_succ, List.eraseIdx_cons_zero, List.setIfInBounds_toArray, List.set_cons_succ, List.set_cons_zero] at U3
  clear hw3 U3a y yf
  (with_reducible refine (rUint g _ tm _ w3 (U3.get 1 rfl) htm).mono ?_)
  rintro e w4a ⟨rfl, v4, h4⟩
  have U4a := U3.turn 1 rfl h4
  simp only [List.eraseIdx_cons_succ, List.eraseIdx_cons_zero, List.cons_append, List.nil_append] at U4a
  have y := (U4a.blk 1 rfl).cell (j := 2) (v := .int .u64 0) rfl
  have yf := (U4a.blk 1 rfl).frozen
  clear h4 U3
  go_wp2_with fail
  refine calls_genP fun w4 hw4 => ?_
  have U4 := (U4a.put 1 rfl 2 (.int .u64 tm)).same hw4
  simp only [List.eraseIdx_cons_succ, List.eraseIdx_cons_zero, List.setIfInBounds_toArray, List.set_cons_succ, List.set_cons_zero] at U4
  clear hw4 U4a y yf
  (with_reducible refine (rText12 g _ ru _ w4 (U4.get 1 rfl) hru (by simp; omega)).mono ?_)
  rintro e w5a ⟨rfl, v5, h5⟩
  have U5a := U4.turn 1 rfl h5
  simp only [List.eraseIdx_cons_succ, List.eraseIdx_cons_zero, List.cons_append, List.nil_append] at U5a
  have y := (U5a.blk 1 rfl).cell (j := 3) (v := .string ⟨#[]⟩) rfl
  have yf := (U5a.blk 1 rfl).frozen
  clear h5 U4
  go_wp2_with fail
  refine calls_genP fun w5 hw5 => ?_
  have U5 := (U5a.put 1 rfl 3 (.string ru)).same hw5
  simp only [List.eraseIdx_cons_succ, List.eraseIdx_cons_zero, List.setIfInBounds_toArray, List.set_cons_succ, List.set_cons_zero] at U5
  clear hw5 U5a y yf
  (with_reducible refine (rCount8 g _ n _ w5 (U5.get 1 rfl) hn8).mono ?_)
  rintro e w7 ⟨rfl, v7, h7⟩
  have U7 := ((U5.turn 1 rfl h7).nilRow 137 2).pick [2, 1, 0, 3] (by decide)
  simp only [List.eraseIdx_cons_succ, List.eraseIdx_cons_zero, List.cons_append, List.nil_append, List.filterMap_cons, List.filterMap_nil, List.getElem?_cons_zero, List.getElem?_cons_succ] at U7
  clear h7 U5
  have y4 := (U7.blk 0 rfl).cell (j := 4) (v := .slice none 0 0) rfl
  clear y4
  have HPS := Lib.hid hps
  clear hps hru
  go_wp2_with fail
  go_loopw [21] (fun i wr => ∃ (k : Nat) (lv v8 : Value), k ≤ n ∧ i = .int .u64 k ∧ Upd S w [chBlk (w.heap.size + 1) #[.int .u8 o, .int .u64 sq, .int .u64 tm, .string ru, lv, .int .u8 0, .int .u8 0, .int .i64 0, .int .u8 0] 32, chRdr T ob g v8 (pairsP (ps.drop k) ++ tl), chRow 137 2 lv k (pairCells (ps.take k)), chBlk w.heap.size #[.int .u8 0, .int .u64 0, .int .u64 0, .string ⟨#[]⟩, .slice none 0 0, .int .u8 0, .int .u8 0, .int .i64 0, .int .u8 0] 32] wr) (fun i _ => n - (intOf i).toNat)
  case atStart => exact ⟨0, _, _, Nat.zero_le _, rfl, U7⟩
  case round =>
    obtain ⟨k, lv, v8, hk, rfl, R1⟩ := hrel
    clear U7
    obtain ⟨A, c, rfl⟩ := owns_slice (R1.row 2 rfl)
    by_cases hkn : k < n
    · obtain ⟨⟨p1, p2⟩, hp⟩ : ∃ p, ps[k]? = some p := ⟨_, List.getElem?_eq_getElem (by rw [← HN.out]; exact hkn)⟩
      have hz := HPS.out _ (List.mem_of_getElem? hp)
      simp only at hz
      have hdr : ps.drop k = (p1, p2) :: ps.drop (k + 1) := by
        obtain ⟨h1, h2⟩ := List.getElem?_eq_some_iff.1 hp
        rw [List.drop_eq_getElem_cons h1, h2]
      have HTK := Lib.hid (show ps.take (k + 1) = ps.take k ++ [(p1, p2)] from take_snocP hp)
      have hpk : pairsP (ps.drop k) ++ tl = textP p1 ++ (textP p2 ++ (pairsP (ps.drop (k + 1)) ++ tl)) := by rw [hdr, pairsP_cons]; simp
      rw [hpk] at R1
      obtain ⟨pd, hpd⟩ : ∃ pd, pd = pairsP (ps.drop (k + 1)) := ⟨_, rfl⟩
      rw [← hpd] at R1
      have HPD := Lib.hid hpd
      clear hpk hdr hp hpd
      have K1 := rText8 g v8 p1 (textP p2 ++ (pd ++ tl)) wr (R1.get 1 rfl) hz.1 (by simp; omega)
      go_wp2_with fail
      (with_reducible refine K1.mono ?_)
      rintro e wa ⟨rfl, v9, h9⟩
      have R2 := R1.turn 1 rfl h9
      simp only [List.eraseIdx_cons_succ, List.eraseIdx_cons_zero, List.cons_append, List.nil_append] at R2
      clear K1 h9 R1
      go_wp2_with fail
      refine calls_genP fun wb hwb => ?_
      have R3 := (R2.alloc #[.string p1, .string ⟨#[]⟩] 137).same hwb
      clear hwb R2
      (with_reducible refine (rText16 g _ p2 _ wb (R3.get 1 rfl) hz.2 (by simp; omega)).mono ?_)
      rintro e wc ⟨rfl, v10, h10⟩
      have R4 := R3.turn 1 rfl h10
      simp only [List.eraseIdx_cons_succ, List.eraseIdx_cons_zero, List.cons_append, List.nil_append] at R4
      clear h10 R3
      have x0 := (R4.blk 1 rfl).cell (j := 0) (v := .string p1) rfl
      have x1 := (R4.blk 1 rfl).cell (j := 1) (v := .string ⟨#[]⟩) rfl
      have xf := (R4.blk 1 rfl).frozen
      have y4 := (R4.blk 2 rfl).cell (j := 4) (v := .slice A k c) rfl
      have hne : wa.heap.size ≠ w.heap.size + 1 := fun h => R4.apartAt 1 2 (by decide) rfl rfl wa.heap.size (chBlk_fp.2 rfl) (chBlk_fp.2 h)
      have hne2 : w.heap.size + 1 ≠ wa.heap.size := fun h => hne h.symm
      go_wp2_with (at_builtin; refine wpl_stop fun W hW => ?_)
      refine Stopped.mk ?_
      have R5 := (((R4.put 1 rfl 1 (.string p2)).alloc #[.string p1, .string p2] 137).same hW)
      simp only [World.size_setCell, List.eraseIdx_cons_succ, List.eraseIdx_cons_zero, List.setIfInBounds_toArray, List.set_cons_succ, List.set_cons_zero] at R5
      clear hW R4 x0 x1 xf y4 hne hne2
      refine wpl_append_rd rfl (.tmp 30) (.tmp 32) 29 rfl 0 137 i0 _ 2 32 Tryz.underlying29 hi hz0 hz1 hz2 rfl (by decide) (.slice A k c) k _ rfl (R5.row 4 rfl) (.slice (some ⟨wc.heap.size, 0, none⟩) 1 1) 1 _ rfl (rd_one (R5.blk 0 rfl) (n := 2) rfl) (by intro u hu; simp at hu; rcases hu with rfl | rfl <;> rfl) (by unfold maxLen; omega) (by omega) (Nat.zero_le _) fun v11 w11 hown hgr hv => ?_
      have R6 := (R5.app 4 rfl hown hgr hv).pick [0, 3, 4, 5] (by decide)
      simp only [List.filterMap_cons, List.filterMap_nil, List.getElem?_cons_zero, List.getElem?_cons_succ, List.eraseIdx_cons_succ, List.eraseIdx_cons_zero] at R6
      obtain ⟨A11, c11, rfl⟩ := owns_slice hown
      clear hown hgr hv R5
      have y4 := (R6.blk 2 rfl).cell (j := 4) (v := .slice A k c) rfl
      have yf := (R6.blk 2 rfl).frozen
      have R7 := (R6.put 2 rfl 4 (.slice A11 (k + 1) c11)).pick [0, 2, 1, 3] (by decide)
      simp only [List.filterMap_cons, List.filterMap_nil, List.getElem?_cons_zero, List.getElem?_cons_succ, List.eraseIdx_cons_succ, List.eraseIdx_cons_zero, List.setIfInBounds_toArray, List.set_cons_succ, List.set_cons_zero] at R7
      have HR := Lib.hid R7
      clear R6 R7
      go_wp2_with fail
      refine ⟨⟨k + 1, .slice A11 (k + 1) c11, v10, by omega, by go_num, ?_⟩, by simp [intOf]; omega⟩
      rw [HTK.out, pairCells_append, ← HPD.out]
      exact HR.out
    · have hkn2 : k = n := by omega
      subst hkn2
      rw [List.drop_of_length_le (by rw [HN.out]; exact Nat.le_refl _), List.take_of_length_le (by rw [HN.out]; exact Nat.le_refl _), show pairsP [] = [] from rfl, List.nil_append, HTL.out] at R1
      clear hkn htl0
      go_wp2_with fail
      refine calls_genP fun w10 hw10 => ?_
      have U10 := R1.same hw10
      clear hw10 R1
      (with_reducible refine (rByteN g _ st hst _ w10 (U10.get 1 rfl)).mono ?_)
      rintro e w11a ⟨rfl, v11, h11⟩
      have U11a := U10.turn 1 rfl h11
      simp only [List.eraseIdx_cons_succ, List.eraseIdx_cons_zero, List.cons_append, List.nil_append] at U11a
      have y := (U11a.blk 1 rfl).cell (j := 5) (v := .int .u8 0) rfl
      have yf := (U11a.blk 1 rfl).frozen
      clear h11 U10
      go_wp2_with fail
      refine calls_genP fun w11 hw11 => ?_
      have U11 := (U11a.put 1 rfl 5 (.int .u8 st)).same hw11
      simp only [List.eraseIdx_cons_succ, List.eraseIdx_cons_zero, List.setIfInBounds_toArray, List.set_cons_succ, List.set_cons_zero] at U11
      clear hw11 U11a y yf
      (with_reducible refine (rByteN g _ pr hpr _ w11 (U11.get 1 rfl)).mono ?_)
      rintro e w12a ⟨rfl, v12, h12⟩
      have U12a := U11.turn 1 rfl h12
      simp only [List.eraseIdx_cons_succ, List.eraseIdx_cons_zero, List.cons_append, List.nil_append] at U12a
      have y := (U12a.blk 1 rfl).cell (j := 6) (v := .int .u8 0) rfl
      have yf := (U12a.blk 1 rfl).frozen
      clear h12 U11
      go_wp2_with fail
      refine calls_genP fun w12 hw12 => ?_
      have U12 := (U12a.put 1 rfl 6 (.int .u8 pr)).same hw12
      simp only [List.eraseIdx_cons_succ, List.eraseIdx_cons_zero, List.setIfInBounds_toArray, List.set_cons_succ, List.set_cons_zero] at U12
      clear hw12 U12a y yf
      (with_reducible refine (rInt g _ va _ w12 hva (U12.get 1 rfl)).mono ?_)
      rintro e w13a ⟨rfl, v13, h13⟩
      have U13a := U12.turn 1 rfl h13
      simp only [List.eraseIdx_cons_succ, List.eraseIdx_cons_zero, List.cons_append, List.nil_append] at U13a
      have y := (U13a.blk 1 rfl).cell (j := 7) (v := .int .i64 0) rfl
      have yf := (U13a.blk 1 rfl).frozen
      clear h13 U12
      go_wp2_with fail
      refine calls_genP fun w13 hw13 => ?_
      have U13 := (U13a.put 1 rfl 7 (.int .i64 va)).same hw13
      simp only [List.eraseIdx_cons_succ, List.eraseIdx_cons_zero, List.setIfInBounds_toArray, List.set_cons_succ, List.set_cons_zero] at U13
      clear hw13 U13a y yf
      (with_reducible refine (rByteN g _ ow how _ w13 (U13.get 1 rfl)).mono ?_)
      rintro e w14a ⟨rfl, v14, h14⟩
      have U14a := U13.turn 1 rfl h14
      simp only [List.eraseIdx_cons_succ, List.eraseIdx_cons_zero, List.cons_append, List.nil_append] at U14a
      clear h14 U13
      have e0 := (U14a.blk 1 rfl).cell (j := 0) (v := .int .u8 o) rfl
      have e1 := (U14a.blk 1 rfl).cell (j := 1) (v := .int .u64 sq) rfl
      have e2 := (U14a.blk 1 rfl).cell (j := 2) (v := .int .u64 tm) rfl
      have e3 := (U14a.blk 1 rfl).cell (j := 3) (v := .string ru) rfl
      have e4 := (U14a.blk 1 rfl).cell (j := 4) (v := .slice A k c) rfl
      have e5 := (U14a.blk 1 rfl).cell (j := 5) (v := .int .u8 st) rfl
      have e6 := (U14a.blk 1 rfl).cell (j := 6) (v := .int .u8 pr) rfl
      have e7 := (U14a.blk 1 rfl).cell (j := 7) (v := .int .i64 va) rfl
      have e8 := (U14a.blk 1 rfl).cell (j := 8) (v := .int .u8 0) rfl
      have ef := (U14a.blk 1 rfl).frozen
      have z0 := (U14a.blk 3 rfl).cell (j := 0) (v := .int .u8 0) rfl
      have z1 := (U14a.blk 3 rfl).cell (j := 1) (v := .int .u64 0) rfl
      have z2 := (U14a.blk 3 rfl).cell (j := 2) (v := .int .u64 0) rfl
      have z3 := (U14a.blk 3 rfl).cell (j := 3) (v := .string ⟨#[]⟩) rfl
      have z4 := (U14a.blk 3 rfl).cell (j := 4) (v := .slice none 0 0) rfl
      have z5 := (U14a.blk 3 rfl).cell (j := 5) (v := .int .u8 0) rfl
      have z6 := (U14a.blk 3 rfl).cell (j := 6) (v := .int .u8 0) rfl
      have z7 := (U14a.blk 3 rfl).cell (j := 7) (v := .int .i64 0) rfl
      have z8 := (U14a.blk 3 rfl).cell (j := 8) (v := .int .u8 0) rfl
      have zf := (U14a.blk 3 rfl).frozen
      go_wp2_with fail
      refine bodyPost_gen fun wz hwz => ?_
      have V := (((((((((((U14a.put 1 rfl 8 (.int .u8 ow)).put 3 rfl 0 (.int .u8 o)).put 0 rfl 1 (.int .u64 sq)).put 0 rfl 2 (.int .u64 tm)).put 0 rfl 3 (.string ru)).put 0 rfl 4 (.slice A k c)).put 0 rfl 5 (.int .u8 st)).put 0 rfl 6 (.int .u8 pr)).put 0 rfl 7 (.int .i64 va)).put 0 rfl 8 (.int .u8 ow))).same hwz
      simp only [List.eraseIdx_cons_succ, List.eraseIdx_cons_zero, List.setIfInBounds_toArray, List.set_cons_succ, List.set_cons_zero] at V
      clear hwz U14a
      have a0 := (V.blk 0 rfl).cell (j := 0) (v := .int .u8 o) rfl
      have a1 := (V.blk 0 rfl).cell (j := 1) (v := .int .u64 sq) rfl
      have a2 := (V.blk 0 rfl).cell (j := 2) (v := .int .u64 tm) rfl
      have a3 := (V.blk 0 rfl).cell (j := 3) (v := .string ru) rfl
      have a4 := (V.blk 0 rfl).cell (j := 4) (v := .slice A k c) rfl
      have a5 := (V.blk 0 rfl).cell (j := 5) (v := .int .u8 st) rfl
      have a6 := (V.blk 0 rfl).cell (j := 6) (v := .int .u8 pr) rfl
      have a7 := (V.blk 0 rfl).cell (j := 7) (v := .int .i64 va) rfl
      have a8 := (V.blk 0 rfl).cell (j := 8) (v := .int .u8 ow) rfl
      have V2 := V.pick [2, 3] (by decide)
      simp only [List.filterMap_cons, List.filterMap_nil, List.getElem?_cons_zero, List.getElem?_cons_succ] at V2
      refine bodyPost_ret (v := .agg #[.int .u8 o, .int .u64 sq, .int .u64 tm, .string ru, .slice A k c, .int .u8 st, .int .u8 pr, .int .i64 va, .int .u8 ow]) ?_ rfl ⟨A, c, _, rfl, V2⟩
      simp [results, Tryz.results99, go_sem, a0, a1, a2, a3, a4, a5, a6, a7, a8]
end Go.Proofs.YtdmdfccadjfpiaaGreat
namespace Go.Proofs.YtdmdfccadjfpiaaGreat
open Go.RowKit
set_option maxRecDepth 100000
variable {T : List Nat} {ob : Nat → Option Obj}

set_option maxHeartbeats 4000000 in
theorem takeGap (g : Nat) (v : Value) (go gf gt : Nat) (rest : List UInt8) (w : World) (hP : (chRdr T ob g v (1 :: (putG go gf gt ++ rest))).P w) (hc : chkGap go gf gt = 0) :
    Calls Tryz.prog 77 #[.pointer (some ⟨g, 0, none⟩)] w fun e w' => ∃ v', e = .returned (.agg #[.bool true, .int .u8 0, .int .u64 0, .int .u64 0, .string ⟨#[]⟩, .slice none 0 0, .int .u8 0, .int .u8 0, .int .i64 0, .int .u8 0, .int .u8 go, .int .u64 gf, .int .u64 gt]) ∧ Upd (chRdr T ob g v (1 :: (putG go gf gt ++ rest))).fp w [chRdr T ob g v' rest] w' := by
  have hz : go < 32 ∧ gf < 18446744073709551616 ∧ gt < 18446744073709551616 := by
    unfold chkGap at hc
    split at hc
    · cases hc
    · omega
  have hpg : putG go gf gt ++ rest = UInt8.ofNat go :: (uvar gf ++ (uvar gt ++ rest)) := by simp [putG]
  rw [hpg] at hP ⊢
  clear hpg
  obtain ⟨S, hS⟩ : ∃ S, S = (chRdr T ob g v (1 :: (UInt8.ofNat go :: (uvar gf ++ (uvar gt ++ rest))))).fp := ⟨_, rfl⟩
  have U0 := Upd.one _ w hP
  rw [← hS] at U0 ⊢
  clear hS hP
  go_enter Tryz.func77, Tryz.ntmps77
  go_wp2_with fail
  refine calls_genP fun w1 hw1 => ?_
  have U1 := (U0.alloc #[.bool false, .int .u8 0, .int .u64 0, .int .u64 0, .string ⟨#[]⟩, .slice none 0 0, .int .u8 0, .int .u8 0, .int .i64 0, .int .u8 0, .int .u8 0, .int .u64 0, .int .u64 0] 36).same hw1
  clear hw1 U0
  have K : Calls Tryz.prog 98 #[.pointer (some ⟨g, 0, none⟩)] w1 _ := rBool g v true _ w1 (U1.get 1 rfl)
  (with_reducible refine K.mono ?_)
  rintro e w2 ⟨rfl, v2, h2⟩
  have U2 := U1.turn 1 rfl h2
  simp only [List.eraseIdx_cons_succ, List.eraseIdx_cons_zero, List.cons_append, List.nil_append] at U2
  clear h2 K U1
  have U3 := U2.alloc #[.bool true, .int .u8 0, .int .u64 0, .int .u64 0, .string ⟨#[]⟩, .slice none 0 0, .int .u8 0, .int .u8 0, .int .i64 0, .int .u8 0, .int .u8 0, .int .u64 0, .int .u64 0] 36
  have x0 := (U3.blk 0 rfl).cell (j := 0) (v := .bool true) rfl
  go_wp2_with fail
  refine calls_genP fun w3 hw3 => ?_
  have U4 := U3.same hw3
  clear hw3 U3 U2 x0
  (with_reducible refine (rByteN g _ go (by omega) _ w3 (U4.get 1 rfl)).mono ?_)
  rintro e w4 ⟨rfl, v4, h4⟩
  have U5 := U4.turn 1 rfl h4
  simp only [List.eraseIdx_cons_succ, List.eraseIdx_cons_zero, List.cons_append, List.nil_append] at U5
  clear h4 U4
  go_wp2_with fail
  (with_reducible refine (rUint g _ gf _ w4 (U5.get 0 rfl) hz.2.1).mono ?_)
  rintro e w5 ⟨rfl, v5, h5⟩
  have U6 := U5.turn 0 rfl h5
  simp only [List.eraseIdx_cons_zero, List.cons_append, List.nil_append] at U6
  clear h5 U5
  go_wp2_with fail
  (with_reducible refine (rUint g _ gt _ w5 (U6.get 0 rfl) hz.2.2).mono ?_)
  rintro e w6 ⟨rfl, v6, h6⟩
  have U7 := U6.turn 0 rfl h6
  simp only [List.eraseIdx_cons_zero, List.cons_append, List.nil_append] at U7
  clear h6 U6
  have y10 := (U7.blk 1 rfl).cell (j := 10) (v := .int .u8 0) rfl
  have y11 := (U7.blk 1 rfl).cell (j := 11) (v := .int .u64 0) rfl
  have y12 := (U7.blk 1 rfl).cell (j := 12) (v := .int .u64 0) rfl
  have yf := (U7.blk 1 rfl).frozen
  go_wp2_with fail
  refine calls_genP fun w7 hw7 => ?_
  have U8 := (((U7.put 1 rfl 10 (.int .u8 go)).put 0 rfl 11 (.int .u64 gf)).put 0 rfl 12 (.int .u64 gt)).same hw7
  simp only [List.eraseIdx_cons_succ, List.eraseIdx_cons_zero, List.setIfInBounds_toArray, List.set_cons_succ, List.set_cons_zero] at U8
  clear hw7 U7 y10 y11 y12 yf
  (with_reducible refine (rErr g _ rest w7 (U8.get 1 rfl)).mono ?_)
  rintro e wa ⟨rfl, rfl⟩
  have e0 := (U8.blk 0 rfl).cell (j := 0) (v := .bool true) rfl
  have e1 := (U8.blk 0 rfl).cell (j := 1) (v := .int .u8 0) rfl
  have e2 := (U8.blk 0 rfl).cell (j := 2) (v := .int .u64 0) rfl
  have e3 := (U8.blk 0 rfl).cell (j := 3) (v := .int .u64 0) rfl
  have e4 := (U8.blk 0 rfl).cell (j := 4) (v := .string ⟨#[]⟩) rfl
  have e5 := (U8.blk 0 rfl).cell (j := 5) (v := .slice none 0 0) rfl
  have e6 := (U8.blk 0 rfl).cell (j := 6) (v := .int .u8 0) rfl
  have e7 := (U8.blk 0 rfl).cell (j := 7) (v := .int .u8 0) rfl
  have e8 := (U8.blk 0 rfl).cell (j := 8) (v := .int .i64 0) rfl
  have e9 := (U8.blk 0 rfl).cell (j := 9) (v := .int .u8 0) rfl
  have e10 := (U8.blk 0 rfl).cell (j := 10) (v := .int .u8 go) rfl
  have e11 := (U8.blk 0 rfl).cell (j := 11) (v := .int .u64 gf) rfl
  have e12 := (U8.blk 0 rfl).cell (j := 12) (v := .int .u64 gt) rfl
  have ef := (U8.blk 0 rfl).frozen
  go_wp2_with fail
  have KC := itCheck_true 0 0 0 ⟨#[]⟩ none 0 0 0 0 0 0 go gf gt wa
  rw [hc] at KC
  have KC : Calls Tryz.prog 35 #[.agg #[.bool true, .int .u8 0, .int .u64 0, .int .u64 0, .string ⟨#[]⟩, .slice none 0 0, .int .u8 0, .int .u8 0, .int .i64 0, .int .u8 0, .int .u8 go, .int .u64 gf, .int .u64 gt]] wa fun e w' => e = .returned (.int .i64 0) ∧ Below wa.heap.size wa w' := KC
  (with_reducible refine KC.mono ?_)
  rintro e wb ⟨rfl, hbb⟩
  have UB := U8.grow hbb
  clear KC hbb U8 e0 e1 e2 e3 e4 e5 e6 e7 e8 e9 e10 e11 e12 ef
  go_wp2_with fail
  (with_reducible refine (rErr g _ rest wb (UB.get 1 rfl)).mono ?_)
  rintro e wc ⟨rfl, rfl⟩
  have e0 := (UB.blk 0 rfl).cell (j := 0) (v := .bool true) rfl
  have e1 := (UB.blk 0 rfl).cell (j := 1) (v := .int .u8 0) rfl
  have e2 := (UB.blk 0 rfl).cell (j := 2) (v := .int .u64 0) rfl
  have e3 := (UB.blk 0 rfl).cell (j := 3) (v := .int .u64 0) rfl
  have e4 := (UB.blk 0 rfl).cell (j := 4) (v := .string ⟨#[]⟩) rfl
  have e5 := (UB.blk 0 rfl).cell (j := 5) (v := .slice none 0 0) rfl
  have e6 := (UB.blk 0 rfl).cell (j := 6) (v := .int .u8 0) rfl
  have e7 := (UB.blk 0 rfl).cell (j := 7) (v := .int .u8 0) rfl
  have e8 := (UB.blk 0 rfl).cell (j := 8) (v := .int .i64 0) rfl
  have e9 := (UB.blk 0 rfl).cell (j := 9) (v := .int .u8 0) rfl
  have e10 := (UB.blk 0 rfl).cell (j := 10) (v := .int .u8 go) rfl
  have e11 := (UB.blk 0 rfl).cell (j := 11) (v := .int .u64 gf) rfl
  have e12 := (UB.blk 0 rfl).cell (j := 12) (v := .int .u64 gt) rfl
  have z0 := (UB.blk 2 rfl).cell (j := 0) (v := .bool false) rfl
  have z1 := (UB.blk 2 rfl).cell (j := 1) (v := .int .u8 0) rfl
  have z2 := (UB.blk 2 rfl).cell (j := 2) (v := .int .u64 0) rfl
  have z3 := (UB.blk 2 rfl).cell (j := 3) (v := .int .u64 0) rfl
  have z4 := (UB.blk 2 rfl).cell (j := 4) (v := .string ⟨#[]⟩) rfl
  have z5 := (UB.blk 2 rfl).cell (j := 5) (v := .slice none 0 0) rfl
  have z6 := (UB.blk 2 rfl).cell (j := 6) (v := .int .u8 0) rfl
  have z7 := (UB.blk 2 rfl).cell (j := 7) (v := .int .u8 0) rfl
  have z8 := (UB.blk 2 rfl).cell (j := 8) (v := .int .i64 0) rfl
  have z9 := (UB.blk 2 rfl).cell (j := 9) (v := .int .u8 0) rfl
  have z10 := (UB.blk 2 rfl).cell (j := 10) (v := .int .u8 0) rfl
  have z11 := (UB.blk 2 rfl).cell (j := 11) (v := .int .u64 0) rfl
  have z12 := (UB.blk 2 rfl).cell (j := 12) (v := .int .u64 0) rfl
  have zf := (UB.blk 2 rfl).frozen
  go_wp2_with fail
  refine bodyPost_gen fun wz hwz => ?_
  have V := ((((((((((((((UB.put 2 rfl 0 (.bool true)).put 0 rfl 1 (.int .u8 0)).put 0 rfl 2 (.int .u64 0)).put 0 rfl 3 (.int .u64 0)).put 0 rfl 4 (.string ⟨#[]⟩)).put 0 rfl 5 (.slice none 0 0)).put 0 rfl 6 (.int .u8 0)).put 0 rfl 7 (.int .u8 0)).put 0 rfl 8 (.int .i64 0)).put 0 rfl 9 (.int .u8 0)).put 0 rfl 10 (.int .u8 go)).put 0 rfl 11 (.int .u64 gf)).put 0 rfl 12 (.int .u64 gt))).same hwz
  simp only [List.eraseIdx_cons_succ, List.eraseIdx_cons_zero, List.setIfInBounds_toArray, List.set_cons_succ, List.set_cons_zero] at V
  clear hwz UB
  have a0 := (V.blk 0 rfl).cell (j := 0) (v := .bool true) rfl
  have a1 := (V.blk 0 rfl).cell (j := 1) (v := .int .u8 0) rfl
  have a2 := (V.blk 0 rfl).cell (j := 2) (v := .int .u64 0) rfl
  have a3 := (V.blk 0 rfl).cell (j := 3) (v := .int .u64 0) rfl
  have a4 := (V.blk 0 rfl).cell (j := 4) (v := .string ⟨#[]⟩) rfl
  have a5 := (V.blk 0 rfl).cell (j := 5) (v := .slice none 0 0) rfl
  have a6 := (V.blk 0 rfl).cell (j := 6) (v := .int .u8 0) rfl
  have a7 := (V.blk 0 rfl).cell (j := 7) (v := .int .u8 0) rfl
  have a8 := (V.blk 0 rfl).cell (j := 8) (v := .int .i64 0) rfl
  have a9 := (V.blk 0 rfl).cell (j := 9) (v := .int .u8 0) rfl
  have a10 := (V.blk 0 rfl).cell (j := 10) (v := .int .u8 go) rfl
  have a11 := (V.blk 0 rfl).cell (j := 11) (v := .int .u64 gf) rfl
  have a12 := (V.blk 0 rfl).cell (j := 12) (v := .int .u64 gt) rfl
  have V2 := V.pick [2] (by decide)
  simp only [List.filterMap_cons, List.filterMap_nil, List.getElem?_cons_zero, List.getElem?_cons_succ] at V2
  refine bodyPost_ret (v := .agg #[.bool true, .int .u8 0, .int .u64 0, .int .u64 0, .string ⟨#[]⟩, .slice none 0 0, .int .u8 0, .int .u8 0, .int .i64 0, .int .u8 0, .int .u8 go, .int .u64 gf, .int .u64 gt]) ?_ rfl ⟨_, rfl, V2⟩
  simp [results, Tryz.results77, go_sem, a0, a1, a2, a3, a4, a5, a6, a7, a8, a9, a10, a11, a12]
set_option maxHeartbeats 4000000 in
theorem takeItE (g : Nat) (v : Value) (o sq tm : Nat) (ru : ByteArray) (ps : List Pr) (st pr : Nat) (va : Int) (ow : Nat) (rest : List UInt8) (w : World) (hP : (chRdr T ob g v (0 :: (putE o sq tm ru ps st pr va ow ++ rest))).P w) (hva : -9223372036854775808 ≤ va ∧ va ≤ 9223372036854775807) (hst : st < 256) (hc : chkE o sq tm ru ps st pr ow = 0) :
    Calls Tryz.prog 77 #[.pointer (some ⟨g, 0, none⟩)] w fun e w' => ∃ A c v', e = .returned (.agg #[.bool false, .int .u8 o, .int .u64 sq, .int .u64 tm, .string ru, .slice A ps.length c, .int .u8 st, .int .u8 pr, .int .i64 va, .int .u8 ow, .int .u8 0, .int .u64 0, .int .u64 0]) ∧ Upd (chRdr T ob g v (0 :: (putE o sq tm ru ps st pr va ow ++ rest))).fp w [chRdr T ob g v' rest, chRow 137 2 (.slice A ps.length c) ps.length (pairCells ps)] w' := by
  have hz := chkE_zero hc
  have hz2 : o < 32 ∧ sq < 18446744073709551616 ∧ tm < 18446744073709551616 ∧ pr < 256 ∧ ow < 256 := by
    unfold chkE at hc
    split at hc
    · cases hc
    split at hc
    · cases hc
    split at hc
    · cases hc
    omega
  obtain ⟨S, hS⟩ : ∃ S, S = (chRdr T ob g v (0 :: (putE o sq tm ru ps st pr va ow ++ rest))).fp := ⟨_, rfl⟩
  have U0 := Upd.one _ w hP
  rw [← hS] at U0 ⊢
  clear hS hP
  go_enter Tryz.func77, Tryz.ntmps77
  go_wp2_with fail
  refine calls_genP fun w1 hw1 => ?_
  have U1 := (U0.alloc #[.bool false, .int .u8 0, .int .u64 0, .int .u64 0, .string ⟨#[]⟩, .slice none 0 0, .int .u8 0, .int .u8 0, .int .i64 0, .int .u8 0, .int .u8 0, .int .u64 0, .int .u64 0] 36).same hw1
  clear hw1 U0
  have K : Calls Tryz.prog 98 #[.pointer (some ⟨g, 0, none⟩)] w1 _ := rBool g v false _ w1 (U1.get 1 rfl)
  (with_reducible refine K.mono ?_)
  rintro e w2 ⟨rfl, v2, h2⟩
  have U2 := U1.turn 1 rfl h2
  simp only [List.eraseIdx_cons_succ, List.eraseIdx_cons_zero, List.cons_append, List.nil_append] at U2
  clear h2 K U1
  have U3 := U2.alloc #[.bool false, .int .u8 0, .int .u64 0, .int .u64 0, .string ⟨#[]⟩, .slice none 0 0, .int .u8 0, .int .u8 0, .int .i64 0, .int .u8 0, .int .u8 0, .int .u64 0, .int .u64 0] 36
  have x0 := (U3.blk 0 rfl).cell (j := 0) (v := .bool false) rfl
  go_wp2_with fail
  refine calls_genP fun w3 hw3 => ?_
  have U4 := U3.same hw3
  clear hw3 U3 U2 x0
  (with_reducible refine (takeEv g _ o sq tm ru ps st pr va ow rest w3 (U4.get 1 rfl) (by omega) hz2.2.1 hz2.2.2.1 hz.1 hz.2.1 hz.2.2 hst hz2.2.2.2.1 hva hz2.2.2.2.2).mono ?_)
  rintro e w4 ⟨A, c, v4, rfl, h4⟩
  have U5 := U4.turn 1 rfl h4
  simp only [List.eraseIdx_cons_succ, List.eraseIdx_cons_zero, List.cons_append, List.nil_append] at U5
  clear h4 U4
  have y1 := (U5.blk 2 rfl).cell (j := 1) (v := .int .u8 0) rfl
  have y2 := (U5.blk 2 rfl).cell (j := 2) (v := .int .u64 0) rfl
  have y3 := (U5.blk 2 rfl).cell (j := 3) (v := .int .u64 0) rfl
  have y4 := (U5.blk 2 rfl).cell (j := 4) (v := .string ⟨#[]⟩) rfl
  have y5 := (U5.blk 2 rfl).cell (j := 5) (v := .slice none 0 0) rfl
  have y6 := (U5.blk 2 rfl).cell (j := 6) (v := .int .u8 0) rfl
  have y7 := (U5.blk 2 rfl).cell (j := 7) (v := .int .u8 0) rfl
  have y8 := (U5.blk 2 rfl).cell (j := 8) (v := .int .i64 0) rfl
  have y9 := (U5.blk 2 rfl).cell (j := 9) (v := .int .u8 0) rfl
  have yf := (U5.blk 2 rfl).frozen
  go_wp2_with fail
  refine calls_genP fun w7 hw7 => ?_
  have U8 := (((((((((U5.put 2 rfl 1 (.int .u8 o)).put 0 rfl 2 (.int .u64 sq)).put 0 rfl 3 (.int .u64 tm)).put 0 rfl 4 (.string ru)).put 0 rfl 5 (.slice A ps.length c)).put 0 rfl 6 (.int .u8 st)).put 0 rfl 7 (.int .u8 pr)).put 0 rfl 8 (.int .i64 va)).put 0 rfl 9 (.int .u8 ow)).same hw7
  simp only [List.eraseIdx_cons_succ, List.eraseIdx_cons_zero, List.setIfInBounds_toArray, List.set_cons_succ, List.set_cons_zero] at U8
  clear hw7 U5 y1 y2 y3 y4 y5 y6 y7 y8 y9 yf
  (with_reducible refine (rErr g _ rest w7 (U8.get 1 rfl)).mono ?_)
  rintro e wa ⟨rfl, rfl⟩
  have e0 := (U8.blk 0 rfl).cell (j := 0) (v := .bool false) rfl
  have e1 := (U8.blk 0 rfl).cell (j := 1) (v := .int .u8 o) rfl
  have e2 := (U8.blk 0 rfl).cell (j := 2) (v := .int .u64 sq) rfl
  have e3 := (U8.blk 0 rfl).cell (j := 3) (v := .int .u64 tm) rfl
  have e4 := (U8.blk 0 rfl).cell (j := 4) (v := .string ru) rfl
  have e5 := (U8.blk 0 rfl).cell (j := 5) (v := .slice A ps.length c) rfl
  have e6 := (U8.blk 0 rfl).cell (j := 6) (v := .int .u8 st) rfl
  have e7 := (U8.blk 0 rfl).cell (j := 7) (v := .int .u8 pr) rfl
  have e8 := (U8.blk 0 rfl).cell (j := 8) (v := .int .i64 va) rfl
  have e9 := (U8.blk 0 rfl).cell (j := 9) (v := .int .u8 ow) rfl
  have e10 := (U8.blk 0 rfl).cell (j := 10) (v := .int .u8 0) rfl
  have e11 := (U8.blk 0 rfl).cell (j := 11) (v := .int .u64 0) rfl
  have e12 := (U8.blk 0 rfl).cell (j := 12) (v := .int .u64 0) rfl
  have ef := (U8.blk 0 rfl).frozen
  go_wp2_with fail
  have KC := itCheck_false o sq tm ru A ps.length c ps st pr va ow 0 0 0 wa (by unfold maxLen; omega) (rd_of_owns (U8.row 2 rfl)) (fun p hp => by have := hz.2.2 p hp; unfold maxLen; omega)
  rw [hc] at KC
  have KC : Calls Tryz.prog 35 #[.agg #[.bool false, .int .u8 o, .int .u64 sq, .int .u64 tm, .string ru, .slice A ps.length c, .int .u8 st, .int .u8 pr, .int .i64 va, .int .u8 ow, .int .u8 0, .int .u64 0, .int .u64 0]] wa fun e w' => e = .returned (.int .i64 0) ∧ Below wa.heap.size wa w' := KC
  (with_reducible refine KC.mono ?_)
  rintro e wb ⟨rfl, hbb⟩
  have UB := U8.grow hbb
  clear KC hbb U8 e0 e1 e2 e3 e4 e5 e6 e7 e8 e9 e10 e11 e12 ef
  go_wp2_with fail
  (with_reducible refine (rErr g _ rest wb (UB.get 1 rfl)).mono ?_)
  rintro e wc ⟨rfl, rfl⟩
  have e0 := (UB.blk 0 rfl).cell (j := 0) (v := .bool false) rfl
  have e1 := (UB.blk 0 rfl).cell (j := 1) (v := .int .u8 o) rfl
  have e2 := (UB.blk 0 rfl).cell (j := 2) (v := .int .u64 sq) rfl
  have e3 := (UB.blk 0 rfl).cell (j := 3) (v := .int .u64 tm) rfl
  have e4 := (UB.blk 0 rfl).cell (j := 4) (v := .string ru) rfl
  have e5 := (UB.blk 0 rfl).cell (j := 5) (v := .slice A ps.length c) rfl
  have e6 := (UB.blk 0 rfl).cell (j := 6) (v := .int .u8 st) rfl
  have e7 := (UB.blk 0 rfl).cell (j := 7) (v := .int .u8 pr) rfl
  have e8 := (UB.blk 0 rfl).cell (j := 8) (v := .int .i64 va) rfl
  have e9 := (UB.blk 0 rfl).cell (j := 9) (v := .int .u8 ow) rfl
  have e10 := (UB.blk 0 rfl).cell (j := 10) (v := .int .u8 0) rfl
  have e11 := (UB.blk 0 rfl).cell (j := 11) (v := .int .u64 0) rfl
  have e12 := (UB.blk 0 rfl).cell (j := 12) (v := .int .u64 0) rfl
  have z0 := (UB.blk 3 rfl).cell (j := 0) (v := .bool false) rfl
  have z1 := (UB.blk 3 rfl).cell (j := 1) (v := .int .u8 0) rfl
  have z2 := (UB.blk 3 rfl).cell (j := 2) (v := .int .u64 0) rfl
  have z3 := (UB.blk 3 rfl).cell (j := 3) (v := .int .u64 0) rfl
  have z4 := (UB.blk 3 rfl).cell (j := 4) (v := .string ⟨#[]⟩) rfl
  have z5 := (UB.blk 3 rfl).cell (j := 5) (v := .slice none 0 0) rfl
  have z6 := (UB.blk 3 rfl).cell (j := 6) (v := .int .u8 0) rfl
  have z7 := (UB.blk 3 rfl).cell (j := 7) (v := .int .u8 0) rfl
  have z8 := (UB.blk 3 rfl).cell (j := 8) (v := .int .i64 0) rfl
  have z9 := (UB.blk 3 rfl).cell (j := 9) (v := .int .u8 0) rfl
  have z10 := (UB.blk 3 rfl).cell (j := 10) (v := .int .u8 0) rfl
  have z11 := (UB.blk 3 rfl).cell (j := 11) (v := .int .u64 0) rfl
  have z12 := (UB.blk 3 rfl).cell (j := 12) (v := .int .u64 0) rfl
  have zf := (UB.blk 3 rfl).frozen
  go_wp2_with fail
  refine bodyPost_gen fun wz hwz => ?_
  have V := ((((((((((((((UB.put 3 rfl 0 (.bool false)).put 0 rfl 1 (.int .u8 o)).put 0 rfl 2 (.int .u64 sq)).put 0 rfl 3 (.int .u64 tm)).put 0 rfl 4 (.string ru)).put 0 rfl 5 (.slice A ps.length c)).put 0 rfl 6 (.int .u8 st)).put 0 rfl 7 (.int .u8 pr)).put 0 rfl 8 (.int .i64 va)).put 0 rfl 9 (.int .u8 ow)).put 0 rfl 10 (.int .u8 0)).put 0 rfl 11 (.int .u64 0)).put 0 rfl 12 (.int .u64 0))).same hwz
  simp only [List.eraseIdx_cons_succ, List.eraseIdx_cons_zero, List.setIfInBounds_toArray, List.set_cons_succ, List.set_cons_zero] at V
  clear hwz UB
  have a0 := (V.blk 0 rfl).cell (j := 0) (v := .bool false) rfl
  have a1 := (V.blk 0 rfl).cell (j := 1) (v := .int .u8 o) rfl
  have a2 := (V.blk 0 rfl).cell (j := 2) (v := .int .u64 sq) rfl
  have a3 := (V.blk 0 rfl).cell (j := 3) (v := .int .u64 tm) rfl
  have a4 := (V.blk 0 rfl).cell (j := 4) (v := .string ru) rfl
  have a5 := (V.blk 0 rfl).cell (j := 5) (v := .slice A ps.length c) rfl
  have a6 := (V.blk 0 rfl).cell (j := 6) (v := .int .u8 st) rfl
  have a7 := (V.blk 0 rfl).cell (j := 7) (v := .int .u8 pr) rfl
  have a8 := (V.blk 0 rfl).cell (j := 8) (v := .int .i64 va) rfl
  have a9 := (V.blk 0 rfl).cell (j := 9) (v := .int .u8 ow) rfl
  have a10 := (V.blk 0 rfl).cell (j := 10) (v := .int .u8 0) rfl
  have a11 := (V.blk 0 rfl).cell (j := 11) (v := .int .u64 0) rfl
  have a12 := (V.blk 0 rfl).cell (j := 12) (v := .int .u64 0) rfl
  have V2 := V.pick [2, 3] (by decide)
  simp only [List.filterMap_cons, List.filterMap_nil, List.getElem?_cons_zero, List.getElem?_cons_succ] at V2
  refine bodyPost_ret (v := .agg #[.bool false, .int .u8 o, .int .u64 sq, .int .u64 tm, .string ru, .slice A ps.length c, .int .u8 st, .int .u8 pr, .int .i64 va, .int .u8 ow, .int .u8 0, .int .u64 0, .int .u64 0]) ?_ rfl ⟨A, c, _, rfl, V2⟩
  simp [results, Tryz.results77, go_sem, a0, a1, a2, a3, a4, a5, a6, a7, a8, a9, a10, a11, a12]
end Go.Proofs.YtdmdfccadjfpiaaGreat
