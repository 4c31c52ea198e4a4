/-
  item.Put: an item behind what was put.
-/
import Derived.Test.YtdmdfccadjfpiaaGreatItT
import Derived.Test.YtdmdfccadjfpiaaGreatPackW
namespace Go.Proofs.YtdmdfccadjfpiaaGreat
open Go.RowKit
set_option maxRecDepth 100000

def pairsP (ps : List Pr) : List UInt8 := ps.flatMap fun p => textP p.1 ++ textP p.2
theorem pairsP_snoc (ps : List Pr) (p : Pr) : pairsP (ps ++ [p]) = (pairsP ps ++ textP p.1) ++ textP p.2 := by simp [pairsP]
def putE (o sq tm : Nat) (ru : ByteArray) (ps : List Pr) (st pr : Nat) (va : Int) (ow : Nat) : List UInt8 :=
  (((((((([UInt8.ofNat o] ++ uvar sq) ++ uvar tm) ++ textP ru) ++ uvar ps.length) ++ pairsP ps) ++ [UInt8.ofNat st]) ++ [UInt8.ofNat pr]) ++ uvar (zig va)) ++ [UInt8.ofNat ow]
def putG (go gf gt : Nat) : List UInt8 := ([UInt8.ofNat go] ++ uvar gf) ++ uvar gt
/-- An item as bytes. -/
def putL (a : ItV) : List UInt8 := if a.gap then 1 :: putG a.go a.gf a.gt else 0 :: putE a.o a.sq a.tm a.ru a.ps a.st a.pr a.va a.ow
theorem textP_len {s : ByteArray} {n : Nat} (h : s.size ≤ n) (hn : n ≤ 1000000) : (textP s).length ≤ 10 + n := by
  unfold textP
  have := uvar_len64 (n := s.size) (by omega)
  rw [List.length_append]
  have : s.toList.length = s.size := by rw [ByteArray.toList_eq, Array.length_toList]; rfl
  omega
theorem pairsP_len : ∀ (ps : List Pr), (∀ p ∈ ps, p.1.size ≤ 16 ∧ p.2.size ≤ 16) → (pairsP ps).length ≤ 52 * ps.length := by
  intro ps
  induction ps with
  | nil => intro _; simp [pairsP]
  | cons p r ih =>
    intro h
    have h1 := ih fun q hq => h q (.tail _ hq)
    have h2 := h p (.head _)
    have h3 := textP_len h2.1 (by omega)
    have h4 := textP_len h2.2 (by omega)
    have e : pairsP (p :: r) = (textP p.1 ++ textP p.2) ++ pairsP r := by simp [pairsP]
    rw [e, List.length_append, List.length_append, List.length_cons]
    omega
theorem wrTrue (g : Nat) (v : Value) (bs : List UInt8) (w : World) (hP : (chWr g v bs).P w) (hl : bs.length ≤ 549755813888) :
    Calls Tryz.prog 65 #[.pointer (some ⟨g, 0, none⟩), .bool true] w fun e w' => e = .returned (.tuple #[]) ∧ ∃ v', Upd (chWr g v bs).fp w [chWr g v' (bs ++ [1])] w' := wrBool g v bs true w hP hl
theorem wrFalse (g : Nat) (v : Value) (bs : List UInt8) (w : World) (hP : (chWr g v bs).P w) (hl : bs.length ≤ 549755813888) :
    Calls Tryz.prog 65 #[.pointer (some ⟨g, 0, none⟩), .bool false] w fun e w' => e = .returned (.tuple #[]) ∧ ∃ v', Upd (chWr g v bs).fp w [chWr g v' (bs ++ [0])] w' := wrBool g v bs false w hP hl
theorem wrByteN (g : Nat) (v : Value) (bs : List UInt8) (n : Nat) (hn : n < 256) (w : World) (hP : (chWr g v bs).P w) (hl : bs.length ≤ 1099511627776) :
    Calls Tryz.prog 38 #[.pointer (some ⟨g, 0, none⟩), .int .u8 n] w fun e w' => e = .returned (.tuple #[]) ∧ ∃ v', Upd (chWr g v bs).fp w [chWr g v' (bs ++ [UInt8.ofNat n])] w' := by
  have := wrByte g v bs (UInt8.ofNat n) w hP hl
  rwa [UInt8.toNat_ofNat', Nat.mod_eq_of_lt (by omega)] at this
theorem take_snocP {α : Type} {l : List α} {k : Nat} {a : α} (h : l[k]? = some a) : l.take (k + 1) = l.take k ++ [a] := by
  obtain ⟨hk, rfl⟩ := List.getElem?_eq_some_iff.1 h
  rw [List.take_succ_eq_append_getElem hk]
set_option maxHeartbeats 4000000 in
theorem itPut_gap (g : Nat) (v : Value) (bs : List UInt8) (o sq tm : Nat) (ru : ByteArray) (Al : Option Addr) (nl cl : Nat) (st pr : Nat) (va : Int) (ow go gf gt : Nat) (w : World) (hP : (chWr g v bs).P w) (hbs : bs.length ≤ 1000)
    (hgo : go < 256) (hgf : gf < 18446744073709551616) (hgt : gt < 18446744073709551616) :
    Calls Tryz.prog 40 #[.pointer (some ⟨g, 0, none⟩), .agg #[.bool true, .int .u8 o, .int .u64 sq, .int .u64 tm, .string ru, .slice Al nl cl, .int .u8 st, .int .u8 pr, .int .i64 va, .int .u8 ow, .int .u8 go, .int .u64 gf, .int .u64 gt]] w fun e w' => e = .returned (.tuple #[]) ∧ ∃ v', Upd (chWr g v bs).fp w [chWr g v' (bs ++ (1 :: putG go gf gt))] w' := by
  obtain ⟨S, hS⟩ : ∃ S, S = (chWr g v bs).fp := ⟨_, rfl⟩
  have U0 := Upd.one (chWr g v bs) w hP
  rw [← hS] at U0 ⊢
  clear hS hP
  have l1 := uvar_len64 hgf
  go_enter Tryz.func40, Tryz.ntmps40
  go_wp2_with fail
  refine calls_genP fun w1 hw1 => ?_
  have U1 := (U0.alloc #[.bool true, .int .u8 o, .int .u64 sq, .int .u64 tm, .string ru, .slice Al nl cl, .int .u8 st, .int .u8 pr, .int .i64 va, .int .u8 ow, .int .u8 go, .int .u64 gf, .int .u64 gt] 36).same hw1
  clear hw1 U0
  (with_reducible refine (wrTrue g _ _  w1 (U1.get 1 rfl) (by omega)).mono ?_)
  rintro e w2 ⟨rfl, v1, h1⟩
  have U2 := U1.turn 1 rfl h1
  simp only [List.eraseIdx_cons_succ, List.eraseIdx_cons_zero, List.cons_append, List.nil_append] at U2
  clear h1 U1
  have y0 := (U2.blk 1 rfl).cell (j := 0) (v := .bool true) rfl
  have y10 := (U2.blk 1 rfl).cell (j := 10) (v := .int .u8 go) rfl
  go_wp2_with fail
  (with_reducible refine (wrByteN g _ _ go hgo w2 (U2.get 0 rfl) (by simp only [List.length_append, List.length_cons, List.length_nil]; omega)).mono ?_)
  rintro e w3 ⟨rfl, v2, h2⟩
  have U3 := U2.turn 0 rfl h2
  simp only [List.eraseIdx_cons_zero, List.cons_append, List.nil_append] at U3
  clear h2 U2
  clear y0 y10
  have y11 := (U3.blk 1 rfl).cell (j := 11) (v := .int .u64 gf) rfl
  go_wp2_with fail
  (with_reducible refine (wrUint g _ _ gf w3 (U3.get 0 rfl) (by simp only [List.length_append, List.length_cons, List.length_nil]; omega) hgf).mono ?_)
  rintro e w4 ⟨rfl, v3, h3⟩
  have U4 := U3.turn 0 rfl h3
  simp only [List.eraseIdx_cons_zero, List.cons_append, List.nil_append] at U4
  clear h3 U3
  clear y11
  have y12 := (U4.blk 1 rfl).cell (j := 12) (v := .int .u64 gt) rfl
  go_wp2_with fail
  (with_reducible refine (wrUint g _ _ gt w4 (U4.get 0 rfl) (by simp only [List.length_append, List.length_cons, List.length_nil]; omega) hgt).mono ?_)
  rintro e w5 ⟨rfl, v4, h4⟩
  have U5 := U4.turn 0 rfl h4
  simp only [List.eraseIdx_cons_zero, List.cons_append, List.nil_append] at U5
  clear h4 U4
  clear y12
  have U6 := U5.drop 1
  simp only [List.eraseIdx_cons_succ, List.eraseIdx_cons_zero] at U6
  have ea : (((bs ++ [1]) ++ [UInt8.ofNat go]) ++ uvar gf) ++ uvar gt = bs ++ (1 :: putG go gf gt) := by simp [putG]
  rw [ea] at U6
  have HR := Lib.hid U6
  clear ea U5 U6
  go_wp2_with fail
  (try simp only [Exit.inBlock, Exit.then]); refine bodyPost_ret (results_none rfl _ _ _) rfl ?_
  exact ⟨rfl, _, HR.out⟩
set_option maxHeartbeats 8000000 in
theorem itPut_ev (g : Nat) (v : Value) (bs : List UInt8) (o sq tm : Nat) (ru : ByteArray) (Al : Option Addr) (nl cl : Nat) (ps : List Pr) (st pr : Nat) (va : Int) (ow go gf gt : Nat) (w : World) (hP : (chWr g v bs).P w) (hbs : bs.length ≤ 1000)
    (hrd : Rd w 2 (.slice Al nl cl) nl (pairCells ps)) (hnl : nl = ps.length) (hd : ∀ b ∈ rdFp (.slice Al nl cl) nl, b ∉ (chWr g v bs).fp)
    (ho : o < 256) (hsq : sq < 18446744073709551616) (htm : tm < 18446744073709551616) (hru : ru.size ≤ 16) (hn8 : nl ≤ 8) (hps : ∀ p ∈ ps, p.1.size ≤ 16 ∧ p.2.size ≤ 16) (hst : st < 256) (hpr : pr < 256) (hva : -9223372036854775808 ≤ va ∧ va ≤ 9223372036854775807) (how : ow < 256) :
    Calls Tryz.prog 40 #[.pointer (some ⟨g, 0, none⟩), .agg #[.bool false, .int .u8 o, .int .u64 sq, .int .u64 tm, .string ru, .slice Al nl cl, .int .u8 st, .int .u8 pr, .int .i64 va, .int .u8 ow, .int .u8 go, .int .u64 gf, .int .u64 gt]] w fun e w' => e = .returned (.tuple #[]) ∧ ∃ v', Upd (chWr g v bs).fp w [chWr g v' (bs ++ (0 :: putE o sq tm ru ps st pr va ow))] w' := by
  obtain ⟨S, hS⟩ : ∃ S, S = (chWr g v bs).fp := ⟨_, rfl⟩
  have U0 := Upd.one (chWr g v bs) w hP
  rw [← hS] at U0 hd ⊢
  clear hS hP
  obtain ⟨all, hall⟩ : ∃ all, all = bs ++ (0 :: putE o sq tm ru ps st pr va ow) := ⟨_, rfl⟩
  have HA := Lib.hid hall
  rw [← hall]
  clear hall
  have l1 := uvar_len64 hsq
  have l2 := uvar_len64 htm
  have l3 := textP_len hru (by omega)
  have l4 := uvar_len64 (n := nl) (by omega)
  have l5 := pairsP_len ps hps
  have lz : zig va < 18446744073709551616 := by unfold zig; split <;> omega
  have l6 := uvar_len64 lz
  have HN := Lib.hid hnl
  rw [← hnl] at l5
  clear hnl
  have wn : IntKind.u64.wrap (nl : Int) = (nl : Int) := by rw [IntKind.wrap_u64]; omega
  go_enter Tryz.func40, Tryz.ntmps40
  go_wp2_with fail
  refine calls_genP fun w1 hw1 => ?_
  have U1 := (U0.alloc #[.bool false, .int .u8 o, .int .u64 sq, .int .u64 tm, .string ru, .slice Al nl cl, .int .u8 st, .int .u8 pr, .int .i64 va, .int .u8 ow, .int .u8 go, .int .u64 gf, .int .u64 gt] 36).same hw1
  clear hw1 U0
  (with_reducible refine (wrFalse g _ _  w1 (U1.get 1 rfl) (by omega)).mono ?_)
  rintro e w2 ⟨rfl, v1, h1⟩
  have U2 := U1.turn 1 rfl h1
  simp only [List.eraseIdx_cons_succ, List.eraseIdx_cons_zero, List.cons_append, List.nil_append] at U2
  clear h1 U1
  have e0 := (U2.blk 1 rfl).cell (j := 0) (v := .bool false) rfl
  have e1 := (U2.blk 1 rfl).cell (j := 1) (v := .int .u8 o) rfl
  have e2 := (U2.blk 1 rfl).cell (j := 2) (v := .int .u64 sq) rfl
  have e3 := (U2.blk 1 rfl).cell (j := 3) (v := .int .u64 tm) rfl
  have e4 := (U2.blk 1 rfl).cell (j := 4) (v := .string ru) rfl
  have e5 := (U2.blk 1 rfl).cell (j := 5) (v := .slice Al nl cl) rfl
  have e6 := (U2.blk 1 rfl).cell (j := 6) (v := .int .u8 st) rfl
  have e7 := (U2.blk 1 rfl).cell (j := 7) (v := .int .u8 pr) rfl
  have e8 := (U2.blk 1 rfl).cell (j := 8) (v := .int .i64 va) rfl
  have e9 := (U2.blk 1 rfl).cell (j := 9) (v := .int .u8 ow) rfl
  go_wp2_with fail
  refine calls_genP fun w3 hw3 => ?_
  have U3 := ((U2.alloc #[.int .u8 o, .int .u64 sq, .int .u64 tm, .string ru, .slice Al nl cl, .int .u8 st, .int .u8 pr, .int .i64 va, .int .u8 ow] 32).same hw3).drop 2
  simp only [List.eraseIdx_cons_succ, List.eraseIdx_cons_zero] at U3
  clear hw3 U2 e0 e1 e2 e3 e4 e5 e6 e7 e8 e9
  (with_reducible refine (wrByteN g _ _ o ho w3 (U3.get 1 rfl) (by simp only [List.length_append, List.length_cons, List.length_nil]; omega)).mono ?_)
  rintro e w4 ⟨rfl, v2, h2⟩
  have U4 := U3.turn 1 rfl h2
  simp only [List.eraseIdx_cons_succ, List.eraseIdx_cons_zero, List.cons_append, List.nil_append] at U4
  clear h2 U3
  have y1 := (U4.blk 1 rfl).cell (j := 1) (v := .int .u64 sq) rfl
  go_wp2_with fail
  (with_reducible refine (wrUint g _ _ sq w4 (U4.get 0 rfl) (by simp only [List.length_append, List.length_cons, List.length_nil]; omega) hsq).mono ?_)
  rintro e w5 ⟨rfl, v3, h3⟩
  have U5 := U4.turn 0 rfl h3
  simp only [List.eraseIdx_cons_zero, List.cons_append, List.nil_append] at U5
  clear h3 U4
  clear y1
  have y2 := (U5.blk 1 rfl).cell (j := 2) (v := .int .u64 tm) rfl
  go_wp2_with fail
  (with_reducible refine (wrUint g _ _ tm w5 (U5.get 0 rfl) (by simp only [List.length_append, List.length_cons, List.length_nil]; omega) htm).mono ?_)
  rintro e w6 ⟨rfl, v4, h4⟩
  have U6 := U5.turn 0 rfl h4
  simp only [List.eraseIdx_cons_zero, List.cons_append, List.nil_append] at U6
  clear h4 U5
  clear y2
  have y3 := (U6.blk 1 rfl).cell (j := 3) (v := .string ru) rfl
  go_wp2_with fail
  (with_reducible refine (wrText g _ _ ru w6 (U6.get 0 rfl) (by simp only [List.length_append, List.length_cons, List.length_nil]; omega) (by omega)).mono ?_)
  rintro e w7 ⟨rfl, v5, h5⟩
  have U7 := U6.turn 0 rfl h5
  simp only [List.eraseIdx_cons_zero, List.cons_append, List.nil_append] at U7
  clear h5 U6
  clear y3
  have y4 := (U7.blk 1 rfl).cell (j := 4) (v := .slice Al nl cl) rfl
  go_wp2_with fail
  (with_reducible refine (wrUint g _ _ nl w7 (U7.get 0 rfl) (by simp only [List.length_append, List.length_cons, List.length_nil]; omega) (by omega)).mono ?_)
  rintro e w8 ⟨rfl, v6, h6⟩
  have U8 := U7.turn 0 rfl h6
  simp only [List.eraseIdx_cons_zero, List.cons_append, List.nil_append] at U8
  clear h6 U7
  clear y4
  have y4 := (U8.blk 1 rfl).cell (j := 4) (v := .slice Al nl cl) rfl
  obtain ⟨pre, hpre⟩ : ∃ pre, pre = (((((bs ++ [0]) ++ [UInt8.ofNat o]) ++ uvar sq) ++ uvar tm) ++ textP ru) ++ uvar nl := ⟨_, rfl⟩
  have hpl : pre.length ≤ 1100 := by rw [hpre]; simp only [List.length_append, List.length_cons, List.length_nil]; omega
  rw [← hpre] at U8
  have HP := Lib.hid hpre
  clear hpre
  go_wp2_with fail
  go_loopw [55] (fun i wr => ∃ (k : Nat) (v7 : Value), k ≤ nl ∧ i = .int .i64 k ∧ Upd S w [chWr g v7 (pre ++ pairsP (ps.take k)), chBlk w2.heap.size #[.int .u8 o, .int .u64 sq, .int .u64 tm, .string ru, .slice Al nl cl, .int .u8 st, .int .u8 pr, .int .i64 va, .int .u8 ow] 32] wr) (fun i _ => nl - (intOf i).toNat)
  case atStart => exact ⟨0, _, Nat.zero_le _, rfl, by rw [List.take_zero, show pairsP [] = [] from rfl, List.append_nil]; exact U8⟩
  case round =>
    obtain ⟨k, v7, hk, rfl, R1⟩ := hrel
    clear U8 y4
    have hpk : (pairsP (ps.take k)).length ≤ 416 := by
      have h := pairsP_len (ps.take k) fun p hp => hps p (List.mem_of_mem_take hp)
      rw [List.length_take] at h
      omega
    by_cases hkn : k < nl
    · obtain ⟨⟨p1, p2⟩, hp⟩ : ∃ p, ps[k]? = some p := ⟨_, List.getElem?_eq_getElem (by rw [← HN.out]; exact hkn)⟩
      have hpa := pairCells_at ps k _ hp
      have hz := hps _ (List.mem_of_getElem? hp)
      simp only at hpa hz
      have hr := R1.rd (by decide) hrd hd
      obtain ⟨A', c', he, _, _, _, h4⟩ := hr
      injection he with he1 he2 he3
      subst he1 he3
      obtain ⟨b, oo, rfl, hat⟩ := h4 (by omega)
      have x0 := hat.nth0 (Below.refl wr.heap.size wr) (k * 2) (.string p1) hpa.1
      have x1 := hat.nth (Below.refl wr.heap.size wr) (k * 2) 1 (.string p2) hpa.2
      have hps1 : pairsP (ps.take (k + 1)) = (pairsP (ps.take k) ++ textP p1) ++ textP p2 := by rw [take_snocP hp, pairsP_snoc]
      have HS := Lib.hid hps1
      have m1 := textP_len hz.1 (by omega)
      clear hps1 hpa hp h4 hat
      go_wp2_with fail
      refine calls_genP fun wa hwa => ?_
      have R2 := (R1.alloc #[.string p1, .string p2] 137).same hwa
      clear hwa R1 x0 x1
      (with_reducible refine (wrText g _ _ p1 wa (R2.get 1 rfl) (by simp only [List.length_append]; omega) (by omega)).mono ?_)
      rintro e wb ⟨rfl, va1, ha⟩
      have R3 := R2.turn 1 rfl ha
      simp only [List.eraseIdx_cons_succ, List.eraseIdx_cons_zero, List.cons_append, List.nil_append] at R3
      clear ha R2
      have x1 := (R3.blk 1 rfl).cell (j := 1) (v := .string p2) rfl
      go_wp2_with fail
      (with_reducible refine (wrText g _ _ p2 wb (R3.get 0 rfl) (by simp only [List.length_append]; omega) (by omega)).mono ?_)
      rintro e wc ⟨rfl, vb1, hb⟩
      have R4 := (R3.turn 0 rfl hb).drop 1
      simp only [List.eraseIdx_cons_succ, List.eraseIdx_cons_zero, List.cons_append, List.nil_append] at R4
      clear hb R3 x1
      rw [List.append_assoc, List.append_assoc, ← List.append_assoc (pairsP _), ← HS.out] at R4
      have HR := Lib.hid R4
      clear R4
      go_wp2_with fail
      exact ⟨⟨k + 1, _, by omega, by go_num, HR.out⟩, by simp [intOf]; omega⟩
    · have hkk : ps.take k = ps := by rw [List.take_of_length_le]; have := HN.out; omega
      rw [hkk] at R1 hpk
      clear hkk
      have y5 := (R1.blk 1 rfl).cell (j := 5) (v := .int .u8 st) rfl
      go_wp2_with fail
      (with_reducible refine (wrByteN g _ _ st hst wr (R1.get 0 rfl) (by simp only [List.length_append]; omega)).mono ?_)
      rintro e wa ⟨rfl, v11, h11⟩
      have R2 := R1.turn 0 rfl h11
      simp only [List.eraseIdx_cons_zero, List.cons_append, List.nil_append] at R2
      clear h11 R1
      clear y5
      have y6 := (R2.blk 1 rfl).cell (j := 6) (v := .int .u8 pr) rfl
      go_wp2_with fail
      (with_reducible refine (wrByteN g _ _ pr hpr wa (R2.get 0 rfl) (by simp only [List.length_append, List.length_cons, List.length_nil]; omega)).mono ?_)
      rintro e wb ⟨rfl, v12, h12⟩
      have R3 := R2.turn 0 rfl h12
      simp only [List.eraseIdx_cons_zero, List.cons_append, List.nil_append] at R3
      clear h12 R2
      clear y6
      have y7 := (R3.blk 1 rfl).cell (j := 7) (v := .int .i64 va) rfl
      go_wp2_with fail
      (with_reducible refine (wrInt g _ _ va wb (R3.get 0 rfl) (by simp only [List.length_append, List.length_cons, List.length_nil]; omega) hva).mono ?_)
      rintro e wc ⟨rfl, v13, h13⟩
      have R4 := R3.turn 0 rfl h13
      simp only [List.eraseIdx_cons_zero, List.cons_append, List.nil_append] at R4
      clear h13 R3
      clear y7
      have y8 := (R4.blk 1 rfl).cell (j := 8) (v := .int .u8 ow) rfl
      go_wp2_with fail
      (with_reducible refine (wrByteN g _ _ ow how wc (R4.get 0 rfl) (by simp only [List.length_append, List.length_cons, List.length_nil]; omega)).mono ?_)
      rintro e wd ⟨rfl, v14, h14⟩
      have R5 := R4.turn 0 rfl h14
      simp only [List.eraseIdx_cons_zero, List.cons_append, List.nil_append] at R5
      clear h14 R4
      clear y8
      have R6 := R5.drop 1
      simp only [List.eraseIdx_cons_succ, List.eraseIdx_cons_zero] at R6
      have ea : ((((pre ++ pairsP ps) ++ [UInt8.ofNat st]) ++ [UInt8.ofNat pr]) ++ uvar (zig va)) ++ [UInt8.ofNat ow] = all := by
        rw [HA.out, HP.out, HN.out]
        simp [putE]
      rw [ea] at R6
      have HR := Lib.hid R6
      clear ea R5 R6
      go_wp2_with fail
      go_end0
      exact ⟨rfl, _, HR.out⟩
end Go.Proofs.YtdmdfccadjfpiaaGreat
