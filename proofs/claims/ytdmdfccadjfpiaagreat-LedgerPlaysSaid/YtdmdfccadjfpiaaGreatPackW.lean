/-
  pack.Writer: what each method leaves behind what was put.
-/
import Derived.Test.YtdmdfccadjfpiaaGreatSt2
import Derived.Test.YtdmdfccadjfpiaaGreatSum
import Derived.Lib.AppendStr
namespace Go.Proofs.YtdmdfccadjfpiaaGreat
open Go.RowKit
set_option maxRecDepth 100000

/-- A writer: its block, and the row of what was put. -/
def chWr (g : Nat) (v : Value) (bs : List UInt8) : Chunk :=
  ⟨g :: v.ownBlock.toList, fun w => Blk w g #[v] 86 ∧ w.ownsRow 0 5 1 v bs.length (u8L bs), fun w w' h hP => ⟨(h g (.head _)).trans hP.1, (chRow 5 1 v bs.length (u8L bs)).loc w w' (fun b hb => h b (.tail _ hb)) hP.2⟩, fun w hP b hb => by
    rcases List.mem_cons.1 hb with rfl | hb
    · exact hP.1.lt
    · exact (chRow 5 1 v bs.length (u8L bs)).inn w hP.2 b hb⟩
theorem Upd.wr {S : List Nat} {w0 w : World} {C : List Chunk} (h : Upd S w0 C w) (i : Nat) {g : Nat} {v : Value} {bs : List UInt8} (hi : C[i]? = some (chWr g v bs)) : Blk w g #[v] 86 ∧ w.ownsRow 0 5 1 v bs.length (u8L bs) := h.get i hi
/-- The writer's two parts. -/
theorem wr_open {w : World} {g : Nat} {v : Value} {bs : List UInt8} (hP : (chWr g v bs).P w) : Upd (chWr g v bs).fp w [chBlk g #[v] 86, chRow 5 1 v bs.length (u8L bs)] w := by
  refine ⟨rfl, rfl, rfl, Nat.le_refl _, fun _ _ _ => rfl, fun c hc => ?_, fun c hc b hb => ?_, ?_⟩
  · simp only [List.mem_cons, List.not_mem_nil, or_false] at hc
    rcases hc with rfl | rfl
    · exact hP.1
    · exact hP.2
  · simp only [List.mem_cons, List.not_mem_nil, or_false] at hc
    rcases hc with rfl | rfl
    · rw [chBlk_fp.1 hb]; exact .inl (.head _)
    · exact .inl (.tail _ hb)
  · rw [List.pairwise_cons]
    refine ⟨fun d hd b hb hb' => ?_, by simp⟩
    rw [List.mem_singleton.1 hd] at hb'
    rw [chBlk_fp.1 hb] at hb'
    exact owns_ne hP.2 hP.1 (by decide) (chRow_fp.1 hb').symm
theorem Upd.wrClose {S : List Nat} {w0 w : World} {C : List Chunk} {g : Nat} {v : Value} {bs : List UInt8} (h : Upd S w0 (chBlk g #[v] 86 :: chRow 5 1 v bs.length (u8L bs) :: C) w) : Upd S w0 (chWr g v bs :: C) w :=
  h.join (chWr g v bs) ⟨h.blk 0 rfl, h.row 1 rfl⟩ fun b hb => by
    rcases List.mem_cons.1 hb with rfl | hb
    · exact .inl (chBlk_fp.2 rfl)
    · exact .inr hb
/-- A new writer. -/
theorem Upd.wrNew {S : List Nat} {w0 w : World} {C : List Chunk} {g : Nat} (h : Upd S w0 (chBlk g #[.slice none 0 0] 86 :: C) w) : Upd S w0 (chWr g (.slice none 0 0) [] :: C) w :=
  ((h.nilRow 5 1).front 1 rfl).wrClose
theorem infoU8 : (Tryz.prog.info? 5).map (fun i => (i.zero, i.size, i.bytes)) = some (some (.int .u8 0), 1, 1) := by kernel_rfl
theorem rd_one {w : World} {g n : Nat} {cs : Array Value} {t : TypeId} (h : Blk w g cs t) (hn : cs.size = n) : Rd w n (.slice (some ⟨g, 0, none⟩) 1 1) 1 cs.toList :=
  ⟨_, _, rfl, by simp [hn], Nat.le_refl _, by unfold maxLen; omega, fun _ => ⟨_, _, rfl, fun j u hj => by rw [Nat.zero_add]; exact h.cell (by simpa using hj)⟩⟩
theorem u8L_oneW (c : UInt8) : u8L [c] = [.int .u8 c.toNat] := rfl







/-- A number, seven bits a byte, the lowest first; the eighth says that more follow. -/
def uvar (n : Nat) : List UInt8 := if n < 128 then [UInt8.ofNat n] else UInt8.ofNat (n % 128 + 128) :: uvar (n / 128)
termination_by n
decreasing_by omega
theorem uvar_small {n : Nat} (h : n < 128) : uvar n = [UInt8.ofNat n] := by rw [uvar, if_pos h]
theorem uvar_big {n : Nat} (h : 128 ≤ n) : uvar n = UInt8.ofNat (n % 128 + 128) :: uvar (n / 128) := by rw [uvar, if_neg (by omega)]
theorem uvar_len : ∀ (k n : Nat), n < 128 ^ (k + 1) → (uvar n).length ≤ k + 1 := by
  intro k
  induction k with
  | zero => intro n h; rw [uvar_small (by simpa using h)]; simp
  | succ k ih =>
    intro n h
    by_cases hn : n < 128
    · rw [uvar_small hn]; simp
    · rw [uvar_big (by omega), List.length_cons]
      have := ih (n / 128) (by rw [Nat.div_lt_iff_lt_mul (by omega)]; rw [Nat.pow_succ] at h; exact h)
      omega
theorem uvar_len64 {n : Nat} (h : n < 18446744073709551616) : (uvar n).length ≤ 10 := uvar_len 9 n (by omega)
/-- A number that may be below 0: its sign is its lowest bit. -/
def zig (n : Int) : Nat := if 0 ≤ n then 2 * n.toNat else 2 * (-n).toNat - 1
def textP (s : ByteArray) : List UInt8 := uvar s.size ++ s.toList

/-- The row behind an append becomes the writer's. -/
theorem Upd.wrStore {S : List Nat} {w0 w : World} {C : List Chunk} {g n : Nat} {v v' : Value} {xs : List Value} {l : List UInt8} (h : Upd S w0 (chRow 5 1 v' n xs :: chBlk g #[v] 86 :: C) w) (hn : n = l.length) (hx : xs = u8L l) : Upd S w0 (chWr g v' l :: C) (w.setCell ⟨g, 0, none⟩ v') := by
  subst hn hx
  have T3 := h.put 1 rfl 0 v'
  simp only [List.eraseIdx_cons_succ, List.eraseIdx_cons_zero, List.setIfInBounds_toArray, List.set_cons_zero] at T3
  exact T3.wrClose
theorem u8L_app (a b : List UInt8) : u8L (a ++ b) = u8L a ++ u8L b := by simp [u8L]
set_option maxHeartbeats 2000000 in
theorem wrByte (g : Nat) (v : Value) (bs : List UInt8) (c : UInt8) (w : World) (hP : (chWr g v bs).P w) (hl : bs.length ≤ 1099511627776) :
    Calls Tryz.prog 38 #[.pointer (some ⟨g, 0, none⟩), .int .u8 c.toNat] w fun e w' => e = .returned (.tuple #[]) ∧ ∃ v', Upd (chWr g v bs).fp w [chWr g v' (bs ++ [c])] w' := by
  obtain ⟨i0, hi, hz0, hz1, hz2⟩ := info_parts infoU8
  have S0 := wr_open hP
  obtain ⟨A, k, rfl⟩ := owns_slice hP.2
  have x0 := (S0.blk 0 rfl).cell (j := 0) (v := .slice A bs.length k) rfl
  clear hP
  go_enter Tryz.func38, Tryz.ntmps38
  go_wp2_with (at_builtin; refine wpl_stop fun W hW => ?_)
  refine Stopped.mk ?_
  have T1 := (S0.alloc #[.int .u8 (c.toNat)] 5).same hW
  clear S0 hW x0
  refine wpl_append_rd rfl (.tmp 10) (.tmp 12) 58 rfl 0 5 i0 _ 1 1 Tryz.underlying58 hi hz0 hz1 hz2 rfl (by decide) _ bs.length _ rfl (T1.row 2 rfl) _ 1 _ rfl (rd_one (T1.blk 0 rfl) (n := 1) rfl) (by intro u hu; simp at hu; rcases hu with rfl; rfl) (by unfold maxLen; omega) (by omega) (Nat.zero_le _) fun v4 w4 hown4 hgr4 hv4 => ?_
  have T2 := ((T1.app 2 rfl hown4 hgr4 hv4).drop 1)
  simp only [List.eraseIdx_cons_succ, List.eraseIdx_cons_zero] at T2
  have x0 := (T2.blk 1 rfl).cell (j := 0) (v := .slice A bs.length k) rfl
  have z0 := (T2.blk 1 rfl).frozen 0
  obtain ⟨A4, c4, rfl⟩ := owns_slice hown4
  clear hown4 hgr4 hv4 T1
  have T4 := T2.wrStore (l := bs ++ [c]) (by simp) (by rw [u8L_app]; rfl)
  have HT := Lib.hid T4
  clear T2 T4
  go_wp2_with fail
  go_end0
  exact ⟨rfl, _, HT.out⟩

theorem or128 (m : Nat) : bits .or .u8 ((m : Int) % 256) 128 = ((m % 128 + 128 : Nat) : Int) := by
  have h : ∀ x : Fin 256, bits .or .u8 ((x.val : Nat) : Int) 128 = ((x.val % 128 + 128 : Nat) : Int) := by decide +kernel
  have := h ⟨m % 256, Nat.mod_lt _ (by omega)⟩
  simp only at this
  rw [show ((m % 256 : Nat) : Int) = (m : Int) % 256 by omega] at this
  rw [this]
  omega
set_option maxHeartbeats 4000000 in
theorem wrUint (g : Nat) (v : Value) (bs : List UInt8) (n : Nat) (w : World) (hP : (chWr g v bs).P w) (hl : bs.length ≤ 549755813888) (hn : n < 18446744073709551616) :
    Calls Tryz.prog 39 #[.pointer (some ⟨g, 0, none⟩), .int .u64 n] w fun e w' => e = .returned (.tuple #[]) ∧ ∃ v', Upd (chWr g v bs).fp w [chWr g v' (bs ++ uvar n)] w' := by
  obtain ⟨i0, hi, hz0, hz1, hz2⟩ := info_parts infoU8
  have hlen := uvar_len64 hn
  obtain ⟨S, hS⟩ : ∃ S, S = (chWr g v bs).fp := ⟨_, rfl⟩
  have U0 := Upd.one (chWr g v bs) w hP
  rw [← hS] at U0 ⊢
  clear hS hP
  obtain ⟨all, hall⟩ : ∃ all, all = bs ++ uvar n := ⟨_, rfl⟩
  have hal : all.length ≤ 549755813898 := by rw [hall, List.length_append]; omega
  have HA := Lib.hid hall
  rw [← hall]
  clear hall hlen
  go_enter Tryz.func39, Tryz.ntmps39
  go_wp2_with fail
  go_loopw [1] (fun nv wr => ∃ (m : Nat) (pre : List UInt8) (v' : Value), nv = .int .u64 m ∧ m < 18446744073709551616 ∧ all = pre ++ uvar m ∧ Upd S w [chWr g v' pre] wr) (fun nv _ => (intOf nv).toNat)
  case atStart => exact ⟨n, bs, v, rfl, hn, HA.out, U0⟩
  case round =>
    obtain ⟨m, pre, v', rfl, hm, ha, U1⟩ := hrel
    clear U0
    have hpl : pre.length ≤ 549755813898 := by rw [ha, List.length_append] at hal; omega
    obtain ⟨A, k, rfl⟩ := owns_slice (U1.wr 0 rfl).2
    have S0 := U1.turn 0 rfl (wr_open (U1.get 0 rfl))
    simp only [List.eraseIdx_cons_zero, List.append_nil] at S0
    have x0 := (S0.blk 0 rfl).cell (j := 0) (v := .slice A pre.length k) rfl
    have HA := Lib.hid ha
    clear ha U1
    by_cases hb : m < 128
    case pos =>
      have hb0 : decide ((128 : Int) ≤ (m : Int)) = false := by simp; omega
      go_wp2_with (at_builtin; refine wpl_stop fun W hW => ?_)
      refine Stopped.mk ?_
      have T1 := (S0.alloc #[.int .u8 (m)] 5).same hW
      clear S0 hW x0
      refine wpl_append_rd rfl (.tmp 26) (.tmp 29) 58 rfl 0 5 i0 _ 1 1 Tryz.underlying58 hi hz0 hz1 hz2 rfl (by decide) _ pre.length _ rfl (T1.row 2 rfl) _ 1 _ rfl (rd_one (T1.blk 0 rfl) (n := 1) rfl) (by intro u hu; simp at hu; rcases hu with rfl; rfl) (by unfold maxLen; omega) (by omega) (Nat.zero_le _) fun v4 w4 hown4 hgr4 hv4 => ?_
      have T2 := ((T1.app 2 rfl hown4 hgr4 hv4).drop 1)
      simp only [List.eraseIdx_cons_succ, List.eraseIdx_cons_zero] at T2
      have x0 := (T2.blk 1 rfl).cell (j := 0) (v := .slice A pre.length k) rfl
      have z0 := (T2.blk 1 rfl).frozen 0
      obtain ⟨A4, c4, rfl⟩ := owns_slice hown4
      clear hown4 hgr4 hv4 T1
      have T4 := T2.wrStore (l := pre ++ uvar m) (by rw [uvar_small hb]; simp) (by rw [uvar_small hb, u8L_app]; simp [u8L, UInt8.toNat_ofNat']; omega)
      rw [← HA.out] at T4
      have HT := Lib.hid T4
      clear T2 T4
      go_wp2_with fail
      go_end0
      exact ⟨rfl, _, HT.out⟩
    case neg =>
      have hb0 : decide ((128 : Int) ≤ (m : Int)) = true := by simp; omega
      have hor := or128 m
      go_wp2_with (at_builtin; refine wpl_stop fun W hW => ?_)
      refine Stopped.mk ?_
      have T1 := (S0.alloc #[.int .u8 ((m % 128 + 128 : Nat))] 5).same hW
      clear S0 hW x0
      refine wpl_append_rd rfl (.tmp 12) (.tmp 16) 58 rfl 0 5 i0 _ 1 1 Tryz.underlying58 hi hz0 hz1 hz2 rfl (by decide) _ pre.length _ rfl (T1.row 2 rfl) _ 1 _ rfl (rd_one (T1.blk 0 rfl) (n := 1) rfl) (by intro u hu; simp at hu; rcases hu with rfl; rfl) (by unfold maxLen; omega) (by omega) (Nat.zero_le _) fun v4 w4 hown4 hgr4 hv4 => ?_
      have T2 := ((T1.app 2 rfl hown4 hgr4 hv4).drop 1)
      simp only [List.eraseIdx_cons_succ, List.eraseIdx_cons_zero] at T2
      have x0 := (T2.blk 1 rfl).cell (j := 0) (v := .slice A pre.length k) rfl
      have z0 := (T2.blk 1 rfl).frozen 0
      obtain ⟨A4, c4, rfl⟩ := owns_slice hown4
      clear hown4 hgr4 hv4 T1
      have T4 := T2.wrStore (l := pre ++ [UInt8.ofNat (m % 128 + 128)]) (by simp) (by rw [u8L_app]; simp [u8L, UInt8.toNat_ofNat']; omega)
      have HT := Lib.hid T4
      have ha2 : all = (pre ++ [UInt8.ofNat (m % 128 + 128)]) ++ uvar (m / 128) := by rw [HA.out, uvar_big (n := m) (by omega)]; simp
      have HA2 := Lib.hid ha2
      clear T2 T4 ha2
      go_wp2_with fail
      exact ⟨⟨m / 128, _, _, by go_num, by omega, HA2.out, HT.out⟩, by simp [intOf]; omega⟩

set_option maxHeartbeats 2000000 in
theorem wrBool (g : Nat) (v : Value) (bs : List UInt8) (b : Bool) (w : World) (hP : (chWr g v bs).P w) (hl : bs.length ≤ 549755813888) :
    Calls Tryz.prog 65 #[.pointer (some ⟨g, 0, none⟩), .bool b] w fun e w' => e = .returned (.tuple #[]) ∧ ∃ v', Upd (chWr g v bs).fp w [chWr g v' (bs ++ [if b then 1 else 0])] w' := by
  have K := fun c => wrByte g v bs c w hP (by omega)
  cases b
  · have K0 := Lib.hid (show Calls _ _ #[.pointer (some ⟨g, 0, none⟩), .int .u8 0] w _ from K 0)
    clear K
    go_enter Tryz.func65, Tryz.ntmps65
    go_wp2_with fail
    (with_reducible refine K0.out.mono ?_)
    rintro e w1 ⟨rfl, v1, h1⟩
    have HT := Lib.hid h1
    clear h1
    go_wp2_with fail
    go_end0
    exact ⟨rfl, _, HT.out⟩
  · have K0 := Lib.hid (show Calls _ _ #[.pointer (some ⟨g, 0, none⟩), .int .u8 1] w _ from K 1)
    clear K
    go_enter Tryz.func65, Tryz.ntmps65
    go_wp2_with fail
    (with_reducible refine K0.out.mono ?_)
    rintro e w1 ⟨rfl, v1, h1⟩
    have HT := Lib.hid h1
    clear h1
    go_wp2_with fail
    (try simp only [Exit.inBlock, Exit.then]); refine bodyPost_ret (results_none rfl _ _ _) rfl ?_
    exact ⟨rfl, _, HT.out⟩

theorem xor_ones64 (x : Nat) (h : x < 18446744073709551616) : x ^^^ 18446744073709551615 = 18446744073709551615 - x := by
  have := (BitVec.ofNat 64 x).toNat_not
  have h2 : (~~~ (BitVec.ofNat 64 x)) = BitVec.ofNat 64 x ^^^ BitVec.allOnes 64 := by rw [BitVec.xor_allOnes]
  rw [h2, BitVec.toNat_xor, BitVec.toNat_ofNat, BitVec.toNat_allOnes, Nat.mod_eq_of_lt h] at this
  exact this
theorem zig_bits (n : Int) (hn : -9223372036854775808 ≤ n ∧ n ≤ 9223372036854775807) : bits BinOp.xor IntKind.u64 (IntKind.u64.wrap (IntKind.u64.wrap n * 2)) (IntKind.u64.wrap (n / 9223372036854775808)) = (zig n : Int) := by
  unfold zig
  by_cases h : 0 ≤ n
  · have e1 : n / 9223372036854775808 = 0 := by omega
    have e2 : IntKind.u64.wrap (IntKind.u64.wrap n * 2) = ((2 * n.toNat : Nat) : Int) := by rw [IntKind.wrap_u64, IntKind.wrap_u64]; omega
    rw [if_pos h, e1, e2]
    have := u64_xor_nat (2 * n.toNat) 0 (by omega) (by omega)
    rw [Nat.xor_zero] at this
    exact this
  · have e1 : n / 9223372036854775808 = -1 := by omega
    have e2 : IntKind.u64.wrap (IntKind.u64.wrap n * 2) = ((18446744073709551616 - 2 * (-n).toNat : Nat) : Int) := by rw [IntKind.wrap_u64, IntKind.wrap_u64]; omega
    have e3 : IntKind.u64.wrap (-1) = ((18446744073709551615 : Nat) : Int) := by decide
    rw [if_neg h, e1, e2, e3, u64_xor_nat _ _ (by omega) (by omega)]
    have e4 : (18446744073709551616 - 2 * (-n).toNat) ^^^ 18446744073709551615 = 18446744073709551615 - (18446744073709551616 - 2 * (-n).toNat) := xor_ones64 _ (by omega)
    rw [e4]
    omega
set_option maxHeartbeats 2000000 in
theorem wrInt (g : Nat) (v : Value) (bs : List UInt8) (n : Int) (w : World) (hP : (chWr g v bs).P w) (hl : bs.length ≤ 549755813888) (hn : -9223372036854775808 ≤ n ∧ n ≤ 9223372036854775807) :
    Calls Tryz.prog 67 #[.pointer (some ⟨g, 0, none⟩), .int .i64 n] w fun e w' => e = .returned (.tuple #[]) ∧ ∃ v', Upd (chWr g v bs).fp w [chWr g v' (bs ++ uvar (zig n))] w' := by
  have hz : zig n < 18446744073709551616 := by unfold zig; split <;> omega
  have K := wrUint g v bs (zig n) w hP hl hz
  have HK := Lib.hid K
  have HZ := Lib.hid (zig_bits n hn)
  clear K hP
  go_enter Tryz.func67, Tryz.ntmps67
  go_wp2_with fail
  rw [HZ.out]
  (with_reducible refine HK.out.mono ?_)
  rintro e w1 ⟨rfl, v1, h1⟩
  have HT := Lib.hid h1
  clear h1
  go_wp2_with fail
  go_end0
  exact ⟨rfl, _, HT.out⟩

/-- A string's bytes onto a row of the call's own. -/
theorem run_append_str {P : Program} {w : World} (base : Nat) (t u ty e : TypeId) (i : TypeInfo) (ht : P.underlying t = some (.slice e)) (hu : P.underlying u = some .string) (hi : P.info? e = some i) (hz : i.zero = some (.int .u8 0))
    (hsize : i.size = 1) (hby : i.bytes = 1) (v : Value) (n : Nat) (xs : List Value) (hown : w.ownsRow base e 1 v n xs) (s : ByteArray)
    (h63 : n + s.size ≤ maxLen) (hbytes : n + s.size ≤ 140737488355328) (hbase : base ≤ w.heap.size) :
    ∃ v' w', (Builtin.append_ #[t, u] ty #[v, .string s]).run P w = .ok v' w' ∧ w'.ownsRow base e 1 v' (n + s.size) (xs ++ Lib.strCells s) ∧ w.grownBy w' v.ownBlock ∧ (∀ g, v'.ownBlock = some g → v.ownBlock = some g ∨ w.heap.size ≤ g) := by
  obtain ⟨v', w', r1, r2, r3, r4⟩ := Lib.run_append_own_string (P := P) w base t u ty e i ht hu hi hz hsize hby v n xs hown s h63 hbytes hbase
  refine ⟨v', w', r1, r2, r3, fun g hg => ?_⟩
  have hxl : xs.length = n := by simpa using hown.1
  rcases hown.2 with ⟨rfl, rfl⟩ | ⟨q, cap, cur, rfl, hbg, hg2, hnc, hcm, hcs, htake⟩
  · have hx : xs = [] := List.eq_nil_of_length_eq_zero hxl
    subst hx
    obtain ⟨v2, w2, s1, s2, _, _⟩ := Lib.run_append_own_string (P := P) w w.heap.size t u ty e i ht hu hi hz hsize hby (.slice none 0 0) 0 [] (World.ownsRow_nil w _ e 1) s h63 hbytes (Nat.le_refl _)
    rw [r1] at s1
    injection s1 with s1 s1'
    subst s1 s1'
    exact .inr (owns_ge s2 g hg)
  · by_cases hroom : n + s.size ≤ cap
    · have hr := Lib.run_append_room_string (P := P) w t u ty e i ht hu hi hsize q n cap cur hg2 s hroom (by have e : cur.size = cap := (by simpa using hcs); omega)
      rw [r1] at hr
      injection hr with hr _
      subst hr
      exact .inl hg
    · have holds : ∀ j u, xs[j]? = some u → w.cell? ((⟨q, 0, none⟩ : Addr).add j) = some u := hown.cells (g := q) rfl
      have hr := Lib.run_append_grow_string (P := P) w t u ty e i (.int .u8 0) ht hu hi hz ⟨q, 0, none⟩ n cap xs (by rw [hsize]; simpa using hxl) holds s (by omega) (by unfold maxLen at h63; omega) (by rw [hby]; exact growslice_fits (by omega) (by omega))
      rw [r1] at hr
      injection hr with hr _
      subst hr
      have e : w.heap.size = g := Option.some.inj hg
      exact .inr (by omega)
theorem Upd.appS {S : List Nat} {w0 w w' : World} {C : List Chunk} (h : Upd S w0 C w) (i : Nat) {e : TypeId} {size : Nat} {v v' : Value} {n n' : Nat} {xs xs' : List Value} (hi : C[i]? = some (chRow e size v n xs))
    {base : Nat} (hr : w'.ownsRow base e size v' n' xs') (hg : w.grownBy w' v.ownBlock) (hv : ∀ g, v'.ownBlock = some g → v.ownBlock = some g ∨ w.heap.size ≤ g) : Upd S w0 (chRow e size v' n' xs' :: C.eraseIdx i) w' := by
  have : Upd (chRow e size v n xs).fp w [chRow e size v' n' xs'] w' :=
    ⟨hg.os, hg.tape, hg.output, hg.size, fun k hk hne => hg.block k hk (fun he => hne (by simp [chRow, ← he])), fun d hd => by rw [List.mem_singleton.1 hd]; exact owns_base hr fun _ _ => Nat.zero_le _, fun d hd b hb => by
      rw [List.mem_singleton.1 hd] at hb
      rcases hv b (chRow_fp.1 hb) with hv | hv
      · exact .inl (chRow_fp.2 hv)
      · exact .inr hv, by simp⟩
  exact h.turn i hi this
theorem wpl_append_str {P : Program} {ops : Array Oper} {rest : List Oper} {o : Oper} {a : Act} {w : World} {Q : Exit → Act → World → Prop} (hgd : o.guard = none) (sl x : Operand) (t u : TypeId)
    (ho : o.op = .call { callee := .builtin .append, args := #[sl, x], argTypes := #[t, u] })
    (base : Nat) (e : TypeId) (i : TypeInfo) (ht : P.underlying t = some (.slice e)) (hu : P.underlying u = some .string) (hi : P.info? e = some i) (hz : i.zero = some (.int .u8 0))
    (hsize : i.size = 1) (hby : i.bytes = 1)
    (v : Value) (n : Nat) (xs : List Value) (hs : a.eval sl = v) (hown : w.ownsRow base e 1 v n xs) (s : ByteArray) (hx : a.eval x = .string s)
    (h63 : n + s.size ≤ maxLen) (hbytes : n + s.size ≤ 140737488355328) (hbase : base ≤ w.heap.size)
    (h : ∀ v' w', w'.ownsRow base e 1 v' (n + s.size) (xs ++ Lib.strCells s) → w.grownBy w' v.ownBlock → (∀ g, v'.ownBlock = some g → v.ownBlock = some g ∨ w.heap.size ≤ g) → wpList P ops Q rest (a.put o.dst v') w') : wpList P ops Q (o :: rest) a w := by
  refine wpList_plain hgd fun K hK => ?_
  obtain ⟨v', w', hr, h2, h3, h4⟩ := run_append_str (P := P) base t u o.type e i ht hu hi hz hsize hby v n xs hown s h63 hbytes hbase
  unfold Oper.wp execOp
  simp only [ho, resolve, invoke, builtin, Sem.run_bind, Sem.run_pure, Result.andThen_ok, List.map_toArray, List.map_cons, List.map_nil, hs, hx, hr]
  exact hK _ _ (h v' w' h2 h3 h4)

set_option maxHeartbeats 2000000 in
theorem wrText (g : Nat) (v : Value) (bs : List UInt8) (s : ByteArray) (w : World) (hP : (chWr g v bs).P w) (hl : bs.length ≤ 274877906944) (hs : s.size ≤ 1099511627776) :
    Calls Tryz.prog 66 #[.pointer (some ⟨g, 0, none⟩), .string s] w fun e w' => e = .returned (.tuple #[]) ∧ ∃ v', Upd (chWr g v bs).fp w [chWr g v' (bs ++ textP s)] w' := by
  obtain ⟨i0, hi, hz0, hz1, hz2⟩ := info_parts infoU8
  have K := wrUint g v bs s.size w hP (by omega) (by omega)
  have hul := uvar_len64 (n := s.size) (by omega)
  have HK := Lib.hid K
  clear K hP
  go_enter Tryz.func66, Tryz.ntmps66
  go_wp2_with fail
  (with_reducible refine HK.out.mono ?_)
  rintro e w1 ⟨rfl, v1, h1⟩
  obtain ⟨A, k, rfl⟩ := owns_slice (h1.wr 0 rfl).2
  have S0 := h1.turn 0 rfl (wr_open (h1.get 0 rfl))
  simp only [List.eraseIdx_cons_zero, List.append_nil] at S0
  have x0 := (S0.blk 0 rfl).cell (j := 0) (v := .slice A (bs ++ uvar s.size).length k) rfl
  have hpl : (bs ++ uvar s.size).length ≤ 274877906954 := by rw [List.length_append]; omega
  obtain ⟨pre, hpre⟩ : ∃ pre, pre = bs ++ uvar s.size := ⟨_, rfl⟩
  rw [← hpre] at S0 x0 hpl
  have HP := Lib.hid hpre
  clear h1 hpre hul
  go_wp2_with (at_builtin; refine wpl_stop fun W hW => ?_)
  refine Stopped.mk ?_
  have T1 := S0.same hW
  clear S0 hW
  refine wpl_append_str rfl (.tmp 15) (.tmp 16) 58 9 rfl 0 5 i0 Tryz.underlying58 Tryz.underlying9 hi hz0 hz1 hz2 _ pre.length _ rfl (T1.row 1 rfl) s rfl (by unfold maxLen; omega) (by omega) (Nat.zero_le _) fun v4 w4 hown4 hgr4 hv4 => ?_
  have T2 := T1.appS 1 rfl hown4 hgr4 hv4
  simp only [List.eraseIdx_cons_succ, List.eraseIdx_cons_zero] at T2
  have x0 := (T2.blk 1 rfl).cell (j := 0) (v := .slice A pre.length k) rfl
  have z0 := (T2.blk 1 rfl).frozen 0
  obtain ⟨A4, c4, rfl⟩ := owns_slice hown4
  have T4 := T2.wrStore (l := pre ++ s.toList) (by rw [List.length_append, ByteArray.toList_eq, Array.length_toList]; rfl) (by rw [u8L_app, ByteArray.toList_eq]; rfl)
  have HT := Lib.hid T4
  clear hown4 hgr4 hv4 T1 T2 T4
  go_wp2_with fail
  go_end0
  exact ⟨rfl, _, by unfold textP; rw [← List.append_assoc, ← HP.out]; exact HT.out⟩

set_option maxHeartbeats 2000000 in
theorem wrBytes (g : Nat) (v : Value) (bs : List UInt8) (w : World) (hP : (chWr g v bs).P w) (hl : bs.length ≤ 549755813888) :
    Calls Tryz.prog 42 #[.pointer (some ⟨g, 0, none⟩)] w fun e w' => ∃ v', e = .returned v' ∧ w'.ownsRow w.heap.size 5 1 v' bs.length (u8L bs) ∧ Below w.heap.size w w' := by
  obtain ⟨i0, hi, hz0, hz1, hz2⟩ := info_parts infoU8
  obtain ⟨A, k, rfl⟩ := owns_slice hP.2
  have hr := rd_of_owns hP.2
  have x0 := (hP.1.alloc (.cells #[] 5)).cell (j := 0) (v := .slice A bs.length k) rfl
  have hba : Below w.heap.size w (w.alloc (.cells #[] 5)) := (Below.refl _ _).alloc (Nat.le_refl _) _
  have hB0 := Blk.new w #[] 5
  have hr2 := hr.below hba
  have HR := Lib.hid hr2
  clear hP hr hr2
  go_enter Tryz.func42, Tryz.ntmps42
  go_wp2_with (at_builtin; refine wpl_stop fun W hW => ?_)
  refine Stopped.mk ?_
  rw [← hW] at hB0 hba HR
  have hown := owns_of_blk hB0 (Nat.le_refl _) (by simp [maxLen])
  refine wpl_append_rd rfl (.tmp 5) (.tmp 9) 58 rfl w.heap.size 5 i0 _ 1 1 Tryz.underlying58 hi hz0 hz1 hz2 rfl (by decide) _ 0 _ rfl hown _ bs.length _ rfl HR.out (by intro u hu; simp [u8L] at hu; obtain ⟨_, _, rfl⟩ := hu; rfl) (by unfold maxLen; omega) (by omega) hba.size fun v4 w4 hown4 hgr4 hv4 => ?_
  rw [Nat.zero_add, show (#[] : Array Value).toList = [] from rfl, List.nil_append] at hown4
  have hb4 : Below w.heap.size w w4 := by
    refine ⟨hgr4.os.trans hba.os, hgr4.tape.trans hba.tape, hgr4.output.trans hba.output, Nat.le_trans hba.size hgr4.size, fun q hq => (hgr4.block q (Nat.lt_of_lt_of_le hq hba.size) fun he => ?_).trans (hba.block q hq)⟩
    have : q = w.heap.size := by injection he
    omega
  obtain ⟨A4, c4, rfl⟩ := owns_slice hown4
  have HO := Lib.hid hown4
  clear hown4 hgr4 hv4 hown hba hB0 HR hW x0
  go_wp2_with fail
  go_ret
  exact ⟨_, rfl, HO.out, hb4⟩
end Go.Proofs.YtdmdfccadjfpiaaGreat
