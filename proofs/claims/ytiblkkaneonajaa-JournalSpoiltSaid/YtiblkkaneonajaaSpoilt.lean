/-
  The walk of JournalSpoilt.
-/
import Derived.Test.YtiblkkaneonajaaOpen
import Derived.Deep.AppendLies
namespace Go.Proofs.Ytiblkkaneonajaa
open Go.RowKit FreeNew
set_option maxRecDepth 100000
attribute [local go_sem] out

theorem infoInt : (Try.prog.info? 3).map (fun i => (i.zero, i.size, i.bytes)) = some (some (.int .i64 0), 1, 8) := by kernel_rfl
/-- Where each record ends. -/
def endsV (rs : List (List UInt8)) (k : Nat) : List Value := (List.range k).map fun j => .int .i64 (lenR (rs.take (j + 1)) : Nat)
theorem endsV_succ (rs : List (List UInt8)) (k : Nat) : endsV rs (k + 1) = endsV rs k ++ [.int .i64 (lenR (rs.take (k + 1)) : Nat)] := by
  unfold endsV
  rw [List.range_succ, List.map_append]
  rfl
theorem lenR_le (rs : List (List UInt8)) (B : Nat) (h : ∀ r ∈ rs, r.length ≤ B) : lenR rs ≤ (B + 8) * rs.length := by
  induction rs with
  | nil => simp [lenR]
  | cons r rs ih =>
    have h1 := h r (.head _)
    have h2 := ih fun x hx => h x (.tail _ hx)
    simp only [lenR, List.length_cons]
    rw [Nat.mul_succ]
    omega
theorem spoilt_scan (rs : List (List UInt8)) (q i : Nat) (r : List UInt8) (y : UInt8) (hr : rs[q]? = some r) (h1 : lenR (rs.take q) ≤ i) (h2 : i < lenR (rs.take (q + 1))) (hb : ∀ r ∈ rs, r.length ≤ 60) :
    scanL ((layAll rs).set i y) = rs.take q ++ scanL ((layL r ++ layAll (rs.drop (q + 1))).set (i - lenR (rs.take q)) y) ∧
      (4 ≤ i - lenR (rs.take q) → (∀ x, (layAll rs)[i]? = some x → x ≠ y) → scanL ((layAll rs).set i y) = rs.take q) := by
  have hq : q < rs.length := by
    rcases Nat.lt_or_ge q rs.length with h | h
    · exact h
    · rw [List.getElem?_eq_none h] at hr; cases hr
  have hrq : rs[q] = r := by rw [List.getElem?_eq_getElem hq] at hr; exact Option.some.inj hr
  have hsp : rs = rs.take q ++ r :: rs.drop (q + 1) := by rw [← hrq, List.getElem_cons_drop, List.take_append_drop]
  have hlay : layAll rs = layAll (rs.take q) ++ (layL r ++ layAll (rs.drop (q + 1))) := by
    conv => lhs; rw [hsp]
    rw [layAll_append]
    rfl
  have hl : lenR (rs.take (q + 1)) = lenR (rs.take q) + (r.length + 8) := by
    rw [List.take_add_one, hr, lenR_append]
    simp [lenR]
  have hset : (layAll rs).set i y = layAll (rs.take q) ++ (layL r ++ layAll (rs.drop (q + 1))).set (i - lenR (rs.take q)) y := by
    rw [hlay, set_right _ _ _ _ (by rw [layAll_len]; exact h1), layAll_len]
  have hbt : ∀ x ∈ rs.take q, x.length ≤ 524288 := fun x hx => by have := hb x (List.mem_of_mem_take hx); omega
  have e1 : scanL ((layAll rs).set i y) = rs.take q ++ scanL ((layL r ++ layAll (rs.drop (q + 1))).set (i - lenR (rs.take q)) y) := by rw [hset, scanL_all _ _ hbt]
  refine ⟨e1, fun h4 hne => ?_⟩
  have hjl : i - lenR (rs.take q) < (layL r).length := by rw [layL_len]; omega
  obtain ⟨x, hx⟩ : ∃ x, (layL r)[i - lenR (rs.take q)]? = some x := ⟨_, List.getElem?_eq_getElem hjl⟩
  have hxa : (layAll rs)[i]? = some x := by
    rw [hlay, List.getElem?_append_right (by rw [layAll_len]; exact h1), layAll_len, List.getElem?_append_left hjl]
    exact hx
  have hrb : r.length ≤ 524288 := by have := hb r (List.mem_of_getElem? hr); omega
  rw [e1, scanL_none (takeL_bad r _ hrb _ x y h4 hx (hne x hxa)), List.append_nil]

set_option maxHeartbeats 8000000 in
theorem spoiltWalk (v0 : Value) (ps : List (Value × List UInt8)) (at_ turn : Nat) (w : World) (h0 : Rd w 1 v0 ps.length (ps.map (·.1))) (hp : ∀ p ∈ ps, Rd w 1 p.1 p.2.length (u8L p.2)) (hat : at_ < 65536) (hturn : turn < 256) :
    Calls Try.prog 4 #[v0, .int .u16 at_, .int .u8 turn] w fun e w' => e = .returned (.bool true) ∧ Below w.heap.size w w' := by
  have h0' := h0
  have hp' := hp
  obtain ⟨A0, c0, rfl, r1, r2, r3, r4⟩ := h0
  obtain ⟨i1, hi1, hz3, hz4, hz5⟩ := info_parts infoByte
  obtain ⟨i2, hi2, hz6, hz7, hz8⟩ := info_parts infoInt
  unfold maxLen at r3
  obtain ⟨rs, hrs⟩ : ∃ rs, rs = ps.map (·.2) := ⟨_, rfl⟩
  have hrl : rs.length = ps.length := by rw [hrs]; simp
  have HRS := Lib.hid hrs
  have HRL := Lib.hid hrl
  clear hrs hrl
  go_enter Try.func4, Try.ntmps4
  go_wp2_with fail
  (with_reducible refine (jAwake w).mono ?_)
  rintro e w1 ⟨rfl, hb1⟩
  by_cases hl15 : 15 < ps.length
  · go_wp2_with fail
    go_ret
    exact ⟨rfl, hb1⟩
  by_cases hlz : ps.length = 0
  · go_wp2_with fail
    go_ret
    exact ⟨rfl, hb1⟩
  by_cases hz : turn = 0
  · go_wp2_with fail
    go_ret
    exact ⟨rfl, hb1⟩
  have hps0 : 0 < ps.length := by omega
  have t0 : ((ps.length : Int) == 0) = false := by rw [beq_eq_false_iff_ne]; omega
  have t1 : ((turn : Int) == 0) = false := by rw [beq_eq_false_iff_ne]; omega
  have HZ := Lib.hid hz
  clear hz hlz
  go_wp2_with fail
  (with_reducible refine (crcNew w1).mono ?_)
  rintro e w2 ⟨rfl, hT2, hb2⟩
  have hbe2 : Below w.heap.size w w2 := hb1.trans (hb2.mono hb1.size)
  have htb : w.heap.size ≤ w1.heap.size := hb1.size
  generalize w1.heap.size = tb at hT2 htb hb2 ⊢
  clear hb1 hb2
  go_wp2_with fail
  go_loopw [8, 9, 40] (fun v8 v9 i wr => ∃ k : Nat, k ≤ ps.length ∧ i = .int .i64 k ∧ wr.ownsRow w.heap.size 5 1 v8 (layAll (rs.take k)).length (u8L (layAll (rs.take k))) ∧ wr.ownsRow w.heap.size 3 1 v9 k (endsV rs k) ∧ (∀ r ∈ rs.take k, r.length ≤ 60) ∧ TabOk wr tb ∧ Below w.heap.size w wr) (fun _ _ i _ => ps.length - (intOf i).toNat)
  case atStart => exact ⟨0, Nat.zero_le _, rfl, World.ownsRow_nil _ _ _ _, World.ownsRow_nil _ _ _ _, by simp, hT2, hbe2⟩
  case round =>
    obtain ⟨k, hk, rfl, hv8, hv9, h60, hT, hB⟩ := hrel
    obtain ⟨A8, c8, rfl⟩ := owns_slice hv8
    obtain ⟨A9, c9, rfl⟩ := owns_slice hv9
    clear hT2 hbe2
    have hacc : (layAll (rs.take k)).length ≤ 68 * k := by
      rw [layAll_len]
      have h1 := lenR_le _ 60 h60
      have h2 : (rs.take k).length ≤ k := List.length_take_le _ _
      have h3 := Nat.mul_le_mul_left 68 h2
      omega
    by_cases hlt : k < ps.length
    · obtain ⟨x, hpk⟩ : ∃ p, ps[k]? = some p := ⟨_, List.getElem?_eq_getElem hlt⟩
      have hmem := List.mem_of_getElem? hpk
      obtain ⟨q, o, rfl, hr⟩ := r4 (by omega)
      have hx0 := (hp x hmem).below hB
      have cx : wr.cell? ⟨q, o + k, none⟩ = some x.1 := RdAt.nth0 hr hB k _ (by simp [hpk])
      obtain ⟨vx, lx⟩ := x
      have hrk : rs[k]? = some lx := by rw [HRS.out, List.getElem?_map, hpk]; rfl
      simp only at hx0 cx
      have hx1 := hx0
      obtain ⟨Ax, cc, rfl, q1, q2, q3, q4⟩ := hx0
      clear r4 hr hp hpk hmem q4 q1
      unfold maxLen at q3
      by_cases h60' : 60 < lx.length
      · go_wp2_with fail
        go_ret
        exact ⟨rfl, hB⟩
      · have hnew : layAll (rs.take (k + 1)) = layAll (rs.take k) ++ layL lx := by
          rw [List.take_add_one, hrk, layAll_append]
          simp [layAll]
        have h60n : ∀ r ∈ rs.take (k + 1), r.length ≤ 60 := by
          intro r hr
          rw [List.take_add_one, hrk] at hr
          rcases List.mem_append.1 hr with h | h
          · exact h60 r h
          · simp at h; subst h; omega
        have HNW := Lib.hid hnew
        have H60 := Lib.hid h60n
        have HEN := Lib.hid (endsV_succ rs k)
        have hlen2 : lenR (rs.take (k + 1)) = (layAll (rs.take k) ++ layL lx).length := by rw [← hnew, layAll_len]
        have HL2 := Lib.hid hlen2
        clear hnew h60n h60 hrk hlen2
        generalize layAll (rs.take k) = acc at hv8 hacc HNW HL2 ⊢
        go_wp2_with fail
        (with_reducible refine (jLay tb _ lx _ hT hx1 (by omega)).mono ?_)
        rintro e w3 ⟨vy, rfl, hy3, hT3, hB3⟩
        have hv83 := owns_but hv8 hT hB3 (by decide)
        have hv93 := owns_but hv9 hT hB3 (by decide)
        have hbe3 := hB3.below hB (Nat.le_refl _) htb
        have hyl : (layL lx).length = lx.length + 8 := layL_len lx
        rw [hyl] at hy3
        obtain ⟨Ay, cy, rfl⟩ := owns_slice hy3
        have hy5 := rd_of_owns hy3
        clear hv8 hv9 hT hB hx1 hB3 hy3 cx
        go_wp2_with (at_builtin; refine wpl_stop fun W hW => ?_)
        refine Stopped.mk ?_
        subst hW
        refine wpl_append_rd rfl (.tmp 53) (.tmp 54) 23 rfl w.heap.size 5 i1 _ 1 1 Try.underlying23 hi1 hz3 hz4 hz5 rfl (by decide) _ acc.length _ rfl hv83 _ (lx.length + 8) _ rfl hy5 (u8L_one _) (by unfold maxLen; omega) (by omega) hbe3.size fun v6 w6 hown6 hgr6 _ => ?_
        have hT6 := hT3.grown hv83 hgr6 (by decide)
        have hv96 := hv93.kept hgr6 (owns_row_ne hv93 hv83 (by decide))
        have hbe6 : Below w.heap.size w w6 := hbe3.grown hgr6 hbe3.size (fun q hq => (hv83.lt q hq).1)
        have hown6 : w6.ownsRow w.heap.size 5 1 v6 (acc ++ layL lx).length (u8L (acc ++ layL lx)) := by
          have e : (acc ++ layL lx).length = acc.length + (lx.length + 8) := by simp [hyl]
          rw [e]
          simpa [u8L] using hown6
        have hacc6 : (acc ++ layL lx).length ≤ 68 * (k + 1) := by simp only [List.length_append, hyl]; omega
        obtain ⟨acc6, ea⟩ : ∃ a, a = acc ++ layL lx := ⟨_, rfl⟩
        have hnw := HNW.out
        have hl2 := HL2.out
        rw [← ea] at hown6 hacc6 hnw hl2
        have HNW6 := Lib.hid hnw
        have HL6 := Lib.hid hl2
        clear hv83 hT3 hbe3 hgr6 hy5 hyl ea hnw hl2 hv93 HNW HL2
        obtain ⟨A6, c6, rfl⟩ := owns_slice hown6
        go_wp2_with (at_builtin; refine wpl_stop fun W hW => ?_)
        refine Stopped.mk ?_
        subst hW
        refine wpl_gen fun W hW => ?_
        have hBW : Blk W w6.heap.size #[.int .i64 acc6.length] 3 := by rw [hW]; exact Blk.new _ _ _
        have hbW : Below w6.heap.size w6 W := by rw [hW]; exact (Below.refl _ _).alloc (Nat.le_refl _) _
        clear hW
        have hv9W := owns_below hv96 hbW
        have hv6W := owns_below hown6 hbW
        have hsz := hbe6.size
        have hnx : Rd W 1 (.slice (some ⟨w6.heap.size, 0, none⟩) 1 1) 1 [.int .i64 acc6.length] := ⟨_, _, rfl, rfl, Nat.le_refl _, by unfold maxLen; omega, fun _ => ⟨_, _, rfl, fun j u hj => by
          match j, hj with
          | 0, hj => simp at hj; subst hj; exact hBW.cell rfl
          | j + 1, hj => simp at hj⟩⟩
        refine wpl_append_rd rfl (.tmp 56) (.tmp 59) 39 rfl w.heap.size 3 i2 _ 1 8 Try.underlying39 hi2 hz6 hz7 hz8 rfl (by decide) _ k _ rfl hv9W _ 1 _ rfl hnx (by simp [Value.oneCell']) (by unfold maxLen; omega) (by omega) (Nat.le_trans hsz hbW.size) fun v10 w10 hown10 hgr10 _ => ?_
        have hT10 := (hT6.below hbW).grown hv9W hgr10 (by decide)
        have hv610 := hv6W.kept hgr10 (owns_row_ne hv6W hv9W (by decide))
        have hbe10 : Below w.heap.size w w10 := (hbe6.trans (hbW.mono hsz)).grown hgr10 (Nat.le_trans hsz hbW.size) (fun q hq => (hv9W.lt q hq).1)
        have hown10 : w10.ownsRow w.heap.size 3 1 v10 (k + 1) (endsV rs (k + 1)) := by
          rw [HEN.out, HL6.out]
          exact hown10
        have hfin : w10.ownsRow w.heap.size 5 1 (.slice A6 acc6.length c6) (layAll (rs.take (k + 1))).length (u8L (layAll (rs.take (k + 1)))) := by rw [HNW6.out]; exact hv610
        obtain ⟨A10, c10, rfl⟩ := owns_slice hown10
        clear hT6 hown6 hv96 hbW hBW hv9W hv6W hnx hgr10 hv610
        go_wp2_with fail
        go_roundw
        case rel => exact ⟨k + 1, by omega, by go_num, hfin, hown10, H60.out, hT10, hbe10⟩
        case measure => simp [intOf]; omega
    · obtain rfl : k = ps.length := by omega
      have htk : rs.take ps.length = rs := by rw [← HRL.out, List.take_length]
      rw [htk] at hv8 hacc h60 ⊢
      have hrs0 : 0 < rs.length := by rw [HRL.out]; exact hps0
      have hpos : 0 < (layAll rs).length := by
        rw [layAll_len]
        have := lenR_ge rs
        omega
      clear htk r4 hk hlt
      have H60 := Lib.hid h60
      obtain ⟨acc, hac⟩ : ∃ acc, acc = layAll rs := ⟨_, rfl⟩
      have HAC := Lib.hid hac
      rw [← hac] at hv8 hacc hpos ⊢
      have hacb : acc.length ≤ 1020 := by omega
      clear hac h60 hacc
      have HV9 := Lib.hid hv9
      obtain ⟨g, cap, hgv, hgb, hglt⟩ := hv8.form hpos
      injection hgv with hgv _ hcap
      subst hgv
      subst hcap
      obtain ⟨i, hi⟩ : ∃ i, i = at_ % acc.length := ⟨_, rfl⟩
      have ei : (at_ : Int).tmod (acc.length : Int) = (i : Int) := by rw [hi]; rfl
      have hil : i < acc.length := by rw [hi]; exact Nat.mod_lt _ hpos
      clear hi
      obtain ⟨x, hx⟩ : ∃ x, acc[i]? = some x := ⟨_, List.getElem?_eq_getElem hil⟩
      have ci : wr.cell? ⟨g, i, none⟩ = some (.int .u8 x.toNat) := by
        rw [hv8.cellAt i (by omega)]; simp [u8L, hx]
      have fi := hv8.frozenAt i
      have hx8 := x.toNat_lt
      obtain ⟨y, hy⟩ : ∃ y, y = x.toNat ^^^ turn := ⟨_, rfl⟩
      have ly : y < 256 := by rw [hy]; exact Nat.xor_lt_two_pow (n := 8) (by omega) (by omega)
      have ey : bits .xor .u8 (x.toNat : Int) (turn : Int) = (y : Int) := by rw [hy]; exact u8_xor_nat x.toNat turn (by omega) (by omega)
      have hyx : x ≠ UInt8.ofNat y := by
        intro h
        have h2 := congrArg UInt8.toNat h
        rw [UInt8.toNat_ofNat', Nat.mod_eq_of_lt ly, hy] at h2
        have h3 := congrArg (x.toNat ^^^ ·) h2
        simp only [← Nat.xor_assoc, Nat.xor_self, Nat.zero_xor] at h3
        exact HZ.out h3.symm
      have Hx := Lib.hid hx
      have Hyx := Lib.hid hyx
      clear hx hy hyx
      have li : (i : Int) < (acc.length : Int) := by omega
      have li0 : 0 ≤ (i : Int) := by omega
      have lpz : ¬ (acc.length : Int) = 0 := by omega
      go_wp2_with fail
      refine wp_gen fun wX hwX => ?_
      obtain ⟨acc', hacc', hvX⟩ : ∃ acc' : List UInt8, acc' = acc.set i (UInt8.ofNat y) ∧ wX.ownsRow w.heap.size 5 1 (.slice (some ⟨g, 0, none⟩) acc.length c8) acc.length (u8L acc') := by
        refine ⟨acc.set i (UInt8.ofNat y), rfl, ?_⟩
        have h := (hv8.stored i (.int .u8 y)).1
        have e : (u8L acc).set i (.int .u8 y) = u8L (acc.set i (UInt8.ofNat y)) := by
          unfold u8L
          rw [List.map_set]
          have : (UInt8.ofNat y).toNat = y := by rw [UInt8.toNat_ofNat', Nat.mod_eq_of_lt ly]
          rw [this]
        rw [e] at h
        rw [hwX]
        exact h
      have hvX9 : wX.ownsRow w.heap.size 3 1 (.slice A9 ps.length c9) ps.length (endsV rs ps.length) := by
        rw [hwX]
        exact hv9.kept (grown_set g i _) (owns_row_ne hv9 hv8 (by decide))
      have hTX : TabOk wX tb := by rw [hwX]; exact hT.grown hv8 (grown_set g i _) (by decide)
      have hbeX : Below w.heap.size w wX := by rw [hwX]; exact hB.grown (grown_set g i _) hB.size (fun q hq => by cases hq; exact hgb)
      have HA' := Lib.hid hacc'
      have hal' : acc'.length = acc.length := by rw [hacc']; simp
      clear hv8 hv9 hT hB hwX ci fi ey ei hx8 ly lpz hacc' HV9
      obtain ⟨g9, cap9, hgv9, hgb9, hglt9⟩ := hvX9.form hps0
      injection hgv9 with hgv9 _ hcap9
      subst hgv9
      subst hcap9
      have hend : ∀ q, q < ps.length → wX.cell? ⟨g9, q, none⟩ = some (.int .i64 (lenR (rs.take (q + 1)) : Nat)) := by
        intro q hq
        rw [hvX9.cellAt q (by omega)]
        simp [endsV, hq]
      have HEND := Lib.hid hend
      clear hend hvX9
      have hNi : i < lenR rs := by rw [← layAll_len, ← HAC.out]; exact hil
      go_loopw [15] (fun v wr => ∃ q : Nat, q < ps.length ∧ v = .int .i64 q ∧ lenR (rs.take q) ≤ i ∧ wr = wX) (fun v _ => ps.length - (intOf v).toNat)
      case atStart => exact ⟨0, hps0, rfl, Nat.zero_le _, rfl⟩
      case round =>
        obtain ⟨q, hq, rfl, hqi, rfl⟩ := hrel
        have ce := HEND.out q hq
        obtain ⟨E, hE⟩ : ∃ E, E = lenR (rs.take (q + 1)) := ⟨_, rfl⟩
        rw [← hE] at ce
        have HE := Lib.hid hE
        have hqn : q + 1 = ps.length → i < E := by
          intro h
          rw [hE, h, ← HRL.out, List.take_length]
          exact hNi
        clear hE
        by_cases hle : E ≤ i
        · have hq1 : q + 1 < ps.length := by
            rcases Nat.lt_or_ge (q + 1) ps.length with h | h
            · exact h
            · have := hqn (by omega); omega
          clear hqn
          go_wp2_with fail
          go_roundw
          case rel => exact ⟨q + 1, hq1, by go_num, by rw [← HE.out]; exact hle, trivial⟩
          case measure => simp [intOf]; omega
        · have hiE : i < lenR (rs.take (q + 1)) := by rw [← HE.out]; omega
          have hrq : rs[q]? = some (rs[q]'(by rw [HRL.out]; exact hq)) := List.getElem?_eq_getElem _
          generalize rs[q]'(by rw [HRL.out]; exact hq) = rq at hrq
          have h60a : ∀ r ∈ rs, r.length ≤ 60 := H60.out
          have hsc := spoilt_scan rs q i rq (UInt8.ofNat y) hrq hqi hiE h60a
          rw [← HAC.out, ← HA'.out] at hsc
          have HSC := Lib.hid hsc
          have HQI := Lib.hid hqi
          have HIE := Lib.hid hiE
          obtain ⟨st, hst⟩ : ∃ st, st = lenR (rs.take q) := ⟨_, rfl⟩
          have hsti : st ≤ i := by rw [hst]; exact hqi
          have HST := Lib.hid hst
          clear hqn hsc hqi hiE hrq h60a hst
          go_wp2_with fail
          (with_reducible refine (diskNew _).mono ?_)
          rintro e wD ⟨d, m, rfl, hdX, hmX, hDD, hbD⟩
          have hTD := hTX.below hbD
          have hbeD := hbeX.trans (hbD.mono hbeX.size)
          have hrdD := (rd_of_owns hvX).below hbD
          have hceD : ∀ q, q < ps.length → wD.cell? ⟨g9, q, none⟩ = some (.int .i64 (lenR (rs.take (q + 1)) : Nat)) := fun q hq => (hbD.cell (World.block_lt_of_cell? _ _ (HEND.out q hq))).trans (HEND.out q hq)
          have hdm9 : g9 ∉ [d, m] := by
            intro h
            simp only [List.mem_cons, List.mem_nil_iff, or_false] at h
            rcases h with h | h <;> omega
          have hApp := diskAppend d m [] ⟨#[106]⟩ _ acc' wD hDD (by decide) (by decide) (.inr (by decide)) (by rw [hal']; exact hrdD) (by show 0 + acc'.length ≤ _; omega)
          have HCE := Lib.hid hceD
          have hszX := hbeX.size
          clear hceD hrdD hvX hTX hbeX hbD ce
          have HAL := Lib.hid hal'
          clear hal'
          go_wp2_with fail
          (with_reducible refine hApp.mono ?_)
          rintro e wE ⟨rfl, ⟨vf, hDE⟩, hME⟩
          have hDE : DiskAt wE d m [⟨⟨#[106]⟩, vf, acc', 0⟩] := hDE
          have hTE := hME.tab hTD (hDD.tab_ne hTD)
          have hdmw : ∀ z ∈ [d, m], w.heap.size ≤ z := fun z hz => by
            simp only [List.mem_cons, List.mem_nil_iff, or_false] at hz
            rcases hz with rfl | rfl <;> omega
          have hbeE := hME.below hbeD (Nat.le_refl _) hdmw
          have hceE : ∀ q, q < ps.length → wE.cell? ⟨g9, q, none⟩ = some (.int .i64 (lenR (rs.take (q + 1)) : Nat)) := fun q hq => by
            have c := HCE.out q hq
            rw [World.cell?_of_block (w := wD) (hME.block g9 (World.block_lt_of_cell? _ _ c) hdm9)]
            exact c
          have hOp := jOpenSome d m tb _ ⟨#[106]⟩ _ wE hDE (by simp [findF]; rfl) hTE
          have HCE2 := Lib.hid hceE
          have HDMW := Lib.hid hdmw
          clear hApp hTD hbeD hME hDD HCE hceE hdmw
          go_wp2_with fail
          (with_reducible refine hOp.mono ?_)
          rintro e wF ⟨j, vg, pg, fs', f', rfl, hpg, hvg, hall, hjw, hBj, hDF, hfF, hfb, hfs, _, hTF, hMF⟩
          simp only at hpg hfb hfs
          have hneT : g9 ∉ [d, m, tb] := by
            have h1 := hDE.tab_ne hTE
            intro h
            simp only [List.mem_cons, List.mem_nil_iff, or_false] at h hdm9
            rcases h with h | h | h
            · exact hdm9 (.inl h)
            · exact hdm9 (.inr h)
            · exact (hTE.far (HCE2.out 0 hps0) (fun n => by simp)) h
          have hceF : ∀ q, q < ps.length → wF.cell? ⟨g9, q, none⟩ = some (.int .i64 (lenR (rs.take (q + 1)) : Nat)) := fun q hq => by
            have c := HCE2.out q hq
            rw [World.cell?_of_block (w := wE) (hMF.block g9 (World.block_lt_of_cell? _ _ c) hneT)]
            exact c
          have hbeF := hMF.below hbeE (Nat.le_refl _) (fun z hz => by
            simp only [List.mem_cons, List.mem_nil_iff, or_false] at hz
            rcases hz with rfl | rfl | rfl
            · exact HDMW.out _ (by simp)
            · exact HDMW.out _ (by simp)
            · exact htb)
          have hRd := diskReadSome d m fs' ⟨#[106]⟩ f' wF hDF hfF
          have HPG := Lib.hid hpg
          have HFB := Lib.hid hfb
          have HFS := Lib.hid hfs
          have HFF := Lib.hid hfF
          have HCE3 := Lib.hid hceF
          obtain ⟨Ag, cg, rfl⟩ := owns_slice hvg
          have hgc : pg.length ≤ cg ∧ cg ≤ maxLen := by
            obtain ⟨A, c, he, _, h2, h3, _⟩ := rd_of_owns hvg
            cases he
            exact ⟨h2, h3⟩
          obtain ⟨hgc, hgm⟩ := hgc
          unfold maxLen at hgm
          have hqp : q ≤ pg.length := by
            have h1 := congrArg List.length hpg
            have h2 := congrArg List.length HSC.out.1
            rw [h2] at h1
            simp only [List.length_map, List.length_append, List.length_take] at h1
            have := HRL.out
            omega
          clear hOp hTE hbeE hMF hDE HCE2 HDMW hceF hpg hfb hfs hfF hneT hdm9 hBj
          go_wp2_with fail
          (with_reducible refine hRd.mono ?_)
          rintro e wG ⟨vl, rfl, hvl, hbG⟩
          have hbeG := hbeF.trans (hbG.mono hbeF.size)
          have hvgG := owns_below hvg hbG
          have hallG := hall.below hbG
          have hDG := hDF.below hbG
          have hceG : ∀ q, q < ps.length → wG.cell? ⟨g9, q, none⟩ = some (.int .i64 (lenR (rs.take (q + 1)) : Nat)) := fun q hq => (hbG.cell (World.block_lt_of_cell? _ _ (HCE3.out q hq))).trans (HCE3.out q hq)
          obtain ⟨Al, cl, rfl⟩ := owns_slice hvl
          have hsame : ∀ n, n ≤ q → n = q → ∀ w', Below wG.heap.size wG w' → Calls Try.prog 14 #[.slice Ag q cg, .slice A0 q c0] w' fun e w'' => e = .returned (.bool true) ∧ Below w'.heap.size w' w'' := by
            intro n _ _ w' hw
            have g1 := ((rd_of_owns hvgG).below hw).pre hqp
            have g2 := (h0'.below (hbeG.trans (hw.mono hbeG.size))).pre (Nat.le_of_lt hq)
            rw [← List.map_take] at g1 g2
            have e1 : (pg.take q).length = q := by simp; omega
            have e2 : (ps.take q).length = q := by simp; omega
            have := sameRecs _ _ (pg.take q) (ps.take q) w' (by rw [e1]; exact g1) (by rw [e2]; exact g2) (fun p hp => (rd_of_owns (hallG p (List.mem_of_mem_take hp))).below hw) (fun p hp => (hp' p (List.mem_of_mem_take hp)).below (hbeG.trans (hw.mono hbeG.size)))
            have e : sameL ((pg.take q).map (·.2)) ((ps.take q).map (·.2)) = true := by
              refine decide_eq_true ?_
              rw [List.map_take, List.map_take, HPG.out, HSC.out.1, ← HRS.out]
              have : (rs.take q).length = q := by simp; have := HRL.out; omega
              rw [List.take_left' this]
            rw [e] at this
            exact this
          have HSM := Lib.hid (hsame q (Nat.le_refl _) rfl)
          have hq0c := Nat.le_of_lt hq
          have hqc0 : q ≤ c0 := by omega
          have hqcg : q ≤ cg := by omega
          clear hsame hRd hbeF hvl hvg hall hDF hbG hTF HCE3 hvgG hallG h0' hp'
          by_cases hq0 : q = 0
          · obtain rfl : st = 0 := by have := HST.out; rw [hq0] at this; simpa [lenR] using this
            obtain rfl := hq0
            by_cases hj4 : i - 0 < 4
            · have hj4' : ((i : Int) < 4) := by omega
              go_wp2_with fail
              refine region_free (fun w' => Below wG.heap.size wG w') [] [] (List.range 18) (by kernel_rfl) (by kernel_rfl) (by kernel_rfl) (Below.refl _ _).drew ?_
              simp only [List.range, List.range.loop]
              repeat (first
                | (refine RelSeq.pure_ (c := ?_) rfl rfl ?_ ?_; rotate_left; (focus (intro x w'; dsimp only; go_simp; (repeat' apply And.intro) <;> first | with_reducible rfl | assumption)); simp only [Act.put, List.setIfInBounds_toArray, List.set_cons_zero, List.set_cons_succ])
                | (refine RelSeq.skip_ rfl (fun _ => rfl) ?_; simp only [Act.put, List.setIfInBounds_toArray, List.set_cons_zero, List.set_cons_succ])
                | (refine RelSeq.pureG_ (c := ?_) rfl (fun _ => rfl) rfl ?_ ?_; rotate_left; (focus (intro x w'; dsimp only; go_simp; (repeat' apply And.intro) <;> first | with_reducible rfl | assumption)); simp only [Act.put, List.setIfInBounds_toArray, List.set_cons_zero, List.set_cons_succ])
                | (refine RelSeq.grow_ (c := ?_) rfl rfl ?_ ?_; rotate_left; (focus (intro x w' hw _; dsimp only; have hbr := Below.refl w'.heap.size w'; go_simp; (repeat' apply And.intro) <;> first | with_reducible rfl | assumption)); simp only [Act.put, List.setIfInBounds_toArray, List.set_cons_zero, List.set_cons_succ])
                | (refine RelSeq.growG_ (c := ?_) rfl (fun _ => rfl) rfl ?_ ?_; rotate_left; (focus (intro x w' hw _; dsimp only; have hbr := Below.refl w'.heap.size w'; go_simp; (repeat' apply And.intro) <;> first | with_reducible rfl | assumption)); simp only [Act.put, List.setIfInBounds_toArray, List.set_cons_zero, List.set_cons_succ]))
              refine RelSeq.growG_ (c := .bool true) rfl (fun _ => rfl) rfl ?_ ?_
              focus
                intro x w' hw _; dsimp only
                have hS := HSM.out w' hw
                go_simp
                (with_reducible refine hS.mono ?_)
                rintro e w9 ⟨rfl, hb9⟩
                have hw9 := hw.trans (hb9.mono hw.size)
                go_simp
                all_goals ((repeat' apply And.intro) <;> first | assumption | with_reducible rfl)
              simp only [Act.put, List.setIfInBounds_toArray, List.set_cons_zero, List.set_cons_succ]
              repeat (first
                | (refine RelSeq.pure_ (c := ?_) rfl rfl ?_ ?_; rotate_left; (focus (intro x w'; dsimp only; go_simp; (repeat' apply And.intro) <;> first | with_reducible rfl | assumption)); simp only [Act.put, List.setIfInBounds_toArray, List.set_cons_zero, List.set_cons_succ])
                | (refine RelSeq.skip_ rfl (fun _ => rfl) ?_; simp only [Act.put, List.setIfInBounds_toArray, List.set_cons_zero, List.set_cons_succ])
                | (refine RelSeq.pureG_ (c := ?_) rfl (fun _ => rfl) rfl ?_ ?_; rotate_left; (focus (intro x w'; dsimp only; go_simp; (repeat' apply And.intro) <;> first | with_reducible rfl | assumption)); simp only [Act.put, List.setIfInBounds_toArray, List.set_cons_zero, List.set_cons_succ])
                | (refine RelSeq.grow_ (c := ?_) rfl rfl ?_ ?_; rotate_left; (focus (intro x w' hw _; dsimp only; have hbr := Below.refl w'.heap.size w'; go_simp; (repeat' apply And.intro) <;> first | with_reducible rfl | assumption)); simp only [Act.put, List.setIfInBounds_toArray, List.set_cons_zero, List.set_cons_succ])
                | (refine RelSeq.growG_ (c := ?_) rfl (fun _ => rfl) rfl ?_ ?_; rotate_left; (focus (intro x w' hw _; dsimp only; have hbr := Below.refl w'.heap.size w'; go_simp; (repeat' apply And.intro) <;> first | with_reducible rfl | assumption)); simp only [Act.put, List.setIfInBounds_toArray, List.set_cons_zero, List.set_cons_succ]))
              refine RelSeq.nil_ fun z wH hwH _ _ => TailSeq.nil_ ?_
              have hbeH := hbeG.trans (hwH.mono hbeG.size)
              clear hbeG hwH
              go_wp2_with fail
              go_ret
              exact ⟨rfl, hbeH⟩
            · have hj4' : ¬ ((i : Int) < 4) := by omega
              have hfull : scanL acc' = rs.take 0 := HSC.out.2 (by rw [← HST.out]; omega) (fun x' hx' => by rw [Hx.out] at hx'; injection hx' with hx'; rw [← hx']; exact Hyx.out)
              have hpgl : pg.length = 0 := by
                have := congrArg List.length HPG.out
                rw [hfull] at this
                simp only [List.length_map, List.length_take] at this
                have := HRL.out
                omega
              have hlr : lenR (scanL acc') = 0 := by rw [hfull, ← HST.out]
              have hn2 : f'.bytes.length = 0 := by rw [HFB.out, hlr]; have := HAL.out; simp <;> omega
              have hsy : f'.synced = 0 := by rw [HFS.out, hlr, if_pos (by have := HAL.out; omega)]
              have HN2 := Lib.hid hn2
              have HSY := Lib.hid hsy
              clear hfull hlr hsy
              go_wp2_with fail
              (with_reducible refine (HSM.out wG (Below.refl _ _)).mono ?_)
              rintro e wI ⟨rfl, hbI⟩
              have hLo := diskLooseSome d m fs' ⟨#[106]⟩ f' wI (hDG.below hbI) HFF.out
              rw [HN2.out, HSY.out, Nat.sub_self] at hLo
              have hbeI := hbeG.trans (hbI.mono hbeG.size)
              clear hbI hbeG
              go_wp2_with fail
              (with_reducible refine hLo.mono ?_)
              rintro e wJ ⟨rfl, hbJ⟩
              have hbeJ := hbeI.trans (hbJ.mono hbeI.size)
              clear hbJ hbeI hLo
              go_wp2_with fail
              go_ret
              exact ⟨rfl, hbeJ⟩
          · have w1' : IntKind.i64.wrap ((q : Int) - 1) = (q : Int) - 1 := IntWalk.i64_in _ (by omega)
            have w2' : ((q : Int) - 1).toNat = q - 1 := by omega
            have cq := hceG (q - 1) (by omega)
            rw [show q - 1 + 1 = q by omega, ← HST.out] at cq
            have l0 : (q : Int) - 1 < (ps.length : Int) := by omega
            have l1 : 0 ≤ (q : Int) - 1 := by omega
            have l2 : 0 < q := by omega
            have w3' : IntKind.i64.wrap ((i : Int) - (st : Int)) = (i : Int) - (st : Int) := IntWalk.i64_in _ (by omega)
            by_cases hj4 : i - st < 4
            · have hj4' : ((i : Int) - (st : Int) < 4) := by omega
              go_wp2_with fail
              refine region_free (fun w' => Below wG.heap.size wG w') [] [] (List.range 18) (by kernel_rfl) (by kernel_rfl) (by kernel_rfl) (Below.refl _ _).drew ?_
              simp only [List.range, List.range.loop]
              repeat (first
                | (refine RelSeq.pure_ (c := ?_) rfl rfl ?_ ?_; rotate_left; (focus (intro x w'; dsimp only; go_simp; (repeat' apply And.intro) <;> first | with_reducible rfl | assumption)); simp only [Act.put, List.setIfInBounds_toArray, List.set_cons_zero, List.set_cons_succ])
                | (refine RelSeq.skip_ rfl (fun _ => rfl) ?_; simp only [Act.put, List.setIfInBounds_toArray, List.set_cons_zero, List.set_cons_succ])
                | (refine RelSeq.pureG_ (c := ?_) rfl (fun _ => rfl) rfl ?_ ?_; rotate_left; (focus (intro x w'; dsimp only; go_simp; (repeat' apply And.intro) <;> first | with_reducible rfl | assumption)); simp only [Act.put, List.setIfInBounds_toArray, List.set_cons_zero, List.set_cons_succ])
                | (refine RelSeq.grow_ (c := ?_) rfl rfl ?_ ?_; rotate_left; (focus (intro x w' hw _; dsimp only; have hbr := Below.refl w'.heap.size w'; go_simp; (repeat' apply And.intro) <;> first | with_reducible rfl | assumption)); simp only [Act.put, List.setIfInBounds_toArray, List.set_cons_zero, List.set_cons_succ])
                | (refine RelSeq.growG_ (c := ?_) rfl (fun _ => rfl) rfl ?_ ?_; rotate_left; (focus (intro x w' hw _; dsimp only; have hbr := Below.refl w'.heap.size w'; go_simp; (repeat' apply And.intro) <;> first | with_reducible rfl | assumption)); simp only [Act.put, List.setIfInBounds_toArray, List.set_cons_zero, List.set_cons_succ]))
              refine RelSeq.growG_ (c := .bool true) rfl (fun _ => rfl) rfl ?_ ?_
              focus
                intro x w' hw _; dsimp only
                have hS := HSM.out w' hw
                go_simp
                (with_reducible refine hS.mono ?_)
                rintro e w9 ⟨rfl, hb9⟩
                have hw9 := hw.trans (hb9.mono hw.size)
                go_simp
                all_goals ((repeat' apply And.intro) <;> first | assumption | with_reducible rfl)
              simp only [Act.put, List.setIfInBounds_toArray, List.set_cons_zero, List.set_cons_succ]
              repeat (first
                | (refine RelSeq.pure_ (c := ?_) rfl rfl ?_ ?_; rotate_left; (focus (intro x w'; dsimp only; go_simp; (repeat' apply And.intro) <;> first | with_reducible rfl | assumption)); simp only [Act.put, List.setIfInBounds_toArray, List.set_cons_zero, List.set_cons_succ])
                | (refine RelSeq.skip_ rfl (fun _ => rfl) ?_; simp only [Act.put, List.setIfInBounds_toArray, List.set_cons_zero, List.set_cons_succ])
                | (refine RelSeq.pureG_ (c := ?_) rfl (fun _ => rfl) rfl ?_ ?_; rotate_left; (focus (intro x w'; dsimp only; go_simp; (repeat' apply And.intro) <;> first | with_reducible rfl | assumption)); simp only [Act.put, List.setIfInBounds_toArray, List.set_cons_zero, List.set_cons_succ])
                | (refine RelSeq.grow_ (c := ?_) rfl rfl ?_ ?_; rotate_left; (focus (intro x w' hw _; dsimp only; have hbr := Below.refl w'.heap.size w'; go_simp; (repeat' apply And.intro) <;> first | with_reducible rfl | assumption)); simp only [Act.put, List.setIfInBounds_toArray, List.set_cons_zero, List.set_cons_succ])
                | (refine RelSeq.growG_ (c := ?_) rfl (fun _ => rfl) rfl ?_ ?_; rotate_left; (focus (intro x w' hw _; dsimp only; have hbr := Below.refl w'.heap.size w'; go_simp; (repeat' apply And.intro) <;> first | with_reducible rfl | assumption)); simp only [Act.put, List.setIfInBounds_toArray, List.set_cons_zero, List.set_cons_succ]))
              refine RelSeq.nil_ fun z wH hwH _ _ => TailSeq.nil_ ?_
              have hbeH := hbeG.trans (hwH.mono hbeG.size)
              clear hbeG hwH
              go_wp2_with fail
              go_ret
              exact ⟨rfl, hbeH⟩
            · have hj4' : ¬ ((i : Int) - (st : Int) < 4) := by omega
              have hfull : scanL acc' = rs.take q := HSC.out.2 (by rw [← HST.out]; omega) (fun x' hx' => by rw [Hx.out] at hx'; injection hx' with hx'; rw [← hx']; exact Hyx.out)
              have hpgl : pg.length = q := by
                have := congrArg List.length HPG.out
                rw [hfull] at this
                simp only [List.length_map, List.length_take] at this
                have := HRL.out
                omega
              have hlr : lenR (scanL acc') = st := by rw [hfull, ← HST.out]
              have hn2 : f'.bytes.length = st := by rw [HFB.out, hlr]; have := HAL.out; simp <;> omega
              have hsy : f'.synced = st := by rw [HFS.out, hlr, if_pos (by have := HAL.out; omega)]
              have HN2 := Lib.hid hn2
              have HSY := Lib.hid hsy
              clear hfull hlr hsy
              go_wp2_with fail
              (with_reducible refine (HSM.out wG (Below.refl _ _)).mono ?_)
              rintro e wI ⟨rfl, hbI⟩
              have hLo := diskLooseSome d m fs' ⟨#[106]⟩ f' wI (hDG.below hbI) HFF.out
              rw [HN2.out, HSY.out, Nat.sub_self] at hLo
              have hbeI := hbeG.trans (hbI.mono hbeG.size)
              clear hbI hbeG
              go_wp2_with fail
              (with_reducible refine hLo.mono ?_)
              rintro e wJ ⟨rfl, hbJ⟩
              have hbeJ := hbeI.trans (hbJ.mono hbeI.size)
              clear hbJ hbeI hLo
              go_wp2_with fail
              go_ret
              exact ⟨rfl, hbeJ⟩
end Go.Proofs.Ytiblkkaneonajaa
