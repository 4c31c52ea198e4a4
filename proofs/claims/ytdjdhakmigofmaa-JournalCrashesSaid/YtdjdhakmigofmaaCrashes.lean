/-
  The walk of JournalCrashes.
-/
import Derived.Test.YtdjdhakmigofmaaCrashM
import Derived.Test.YtdjdhakmigofmaaJname
namespace Go.Proofs.Ytdjdhakmigofmaa
open Go.RowKit FreeNew
set_option maxRecDepth 100000
attribute [local go_sem] out

def filesJ (q : Nat) (fs : List FileV) (acc : List UInt8) (k : Nat) : Prop := (q = 0 ∧ fs = [] ∧ acc = [] ∧ k = 0) ∨ (0 < q ∧ ∃ v, fs = [⟨⟨#[106]⟩, v, acc, k⟩])
theorem filesJ_had {q : Nat} {fs : List FileV} {acc : List UInt8} {k : Nat} (h : filesJ q fs acc k) : hadF fs ⟨#[106]⟩ = (acc, k) ∧ (∀ v a n, putF fs ⟨⟨#[106]⟩, v, a, n⟩ = [⟨⟨#[106]⟩, v, a, n⟩]) ∧ fs.length ≠ 64 := by
  rcases h with ⟨_, rfl, rfl, rfl⟩ | ⟨_, v, rfl⟩
  · exact ⟨rfl, fun _ _ _ => rfl, by decide⟩
  · exact ⟨rfl, fun _ _ _ => rfl, by show 1 ≠ 64; decide⟩
theorem lenR_bound (rs : List (List UInt8)) (B : Nat) (h : ∀ r ∈ rs, r.length ≤ B) : lenR rs ≤ (B + 8) * rs.length := by
  induction rs with
  | nil => simp [lenR]
  | cons r t ih =>
    have h1 := ih (fun x hx => h x (.tail _ hx))
    have h2 := h r (.head _)
    simp only [lenR, List.length_cons, Nat.mul_add]
    omega

theorem crashJ (d m q n : Nat) (fs : List FileV) (rs : List (List UInt8)) (v : Value) (t1 t2 : Nat) (w : World) (hD : DiskAt w d m fs) (hfs : filesJ q fs (layAll rs) (lenR (rs.take n))) (hq : rs.length = q) (hn : n ≤ q) (hall : ∀ r ∈ rs, r.length ≤ 524288)
    (hrd : Rd w 2 v ([(t1, t2)] : List (Nat × Nat)).length (tearCells [(t1, t2)])) (ht1 : t1 < 65536) (ht2 : t2 < 65536) :
    Calls Try.prog 12 #[.pointer (some ⟨d, 0, none⟩), v] w fun e w' => e = .returned (.tuple #[]) ∧ (∃ fs' R g, DiskAt w' d m fs' ∧ oneJ fs' ⟨#[106]⟩ R ∧ scanL R = rs.take g ∧ n ≤ g ∧ g ≤ rs.length) ∧ Mod [d, m] w w' := by
  rcases hfs with ⟨hq0, rfl, _, _⟩ | ⟨hq0, v1, rfl⟩
  · refine (diskCrashNone d m v w hD).mono fun e w' ⟨h1, h2, h3⟩ => ⟨h1, ⟨[], [], 0, h2, .inl ⟨rfl, rfl⟩, by rw [scanL_nil]; rfl, by omega, Nat.zero_le _⟩, h3⟩
  · refine (diskCrashTorn d m _ v (t1, t2) [] w hD hrd ht1 ht2).mono ?_
    rintro e w' ⟨h1, ⟨v', h2⟩, h3⟩
    obtain ⟨g, hng, hgl, hsc⟩ := scan_crash rs hall n (by omega) t1 t2
    exact ⟨h1, ⟨_, _, g, h2, .inr ⟨v', rfl⟩, hsc, hng, hgl⟩, h3⟩

set_option maxHeartbeats 4000000 in
theorem crashesWalk (v0 : Value) (ps : List (Value × List UInt8)) (sync t1 t2 : Nat) (v3 : Value) (ms : List (Value × List UInt8)) (w : World) (h0 : Rd w 1 v0 ps.length (ps.map (·.1))) (hp : ∀ p ∈ ps, Rd w 1 p.1 p.2.length (u8L p.2)) (ht1 : t1 < 65536) (ht2 : t2 < 65536)
    (h3 : Rd w 1 v3 ms.length (ms.map (·.1))) (hm : ∀ p ∈ ms, Rd w 1 p.1 p.2.length (u8L p.2)) :
    Calls Try.prog 7 #[v0, .int .u8 sync, .agg #[.int .u16 t1, .int .u16 t2], v3] w fun e w' => e = .returned (.bool true) ∧ Below w.heap.size w w' := by
  have h00 := h0
  have h30 := h3
  obtain ⟨A0, c0, rfl, r1, r2, r3, r4⟩ := h0
  obtain ⟨A3, c3, rfl, s1, s2, s3, s4⟩ := h3
  unfold maxLen at r3 s3
  obtain ⟨i0, hi, hz0, hz1, hz2⟩ := info_parts infoRow
  obtain ⟨rs, hrs⟩ : ∃ rs, rs = ps.map (·.2) := ⟨_, rfl⟩
  have hrl : rs.length = ps.length := by rw [hrs]; simp
  have HRS := Lib.hid hrs
  have HRL := Lib.hid hrl
  clear hrs hrl
  go_enter Try.func7, Try.ntmps7
  go_wp2_with fail
  refine calls_gen fun w0 hw0 => ?_
  have hb0 : Below w.heap.size w w0 := by rw [hw0]; exact (Below.refl _ _).alloc (Nat.le_refl _) _
  have hBT0 : Blk w0 w.heap.size #[.int .u16 t1, .int .u16 t2] 57 := by rw [hw0]; exact Blk.new _ _ _
  clear hw0
  (with_reducible refine (jAwake _).mono ?_)
  rintro e w1 ⟨rfl, hb1⟩
  have hBT1 := hBT0.below hb1 hBT0.lt
  have hbe1 := hb0.trans (hb1.mono hb0.size)
  clear hb0 hb1 hBT0
  by_cases hl1 : 20 < ps.length
  · go_wp2_with fail
    go_ret
    exact ⟨rfl, hbe1⟩
  by_cases hl2 : 10 < ms.length
  · go_wp2_with fail
    go_ret
    exact ⟨rfl, hbe1⟩
  go_wp2_with fail
  (with_reducible refine (diskNew _).mono ?_)
  rintro e w2 ⟨d, m, rfl, hld, hlm, hD2, hb2⟩
  have hbe2 : Below w.heap.size w w2 := hbe1.trans (hb2.mono hbe1.size)
  have hBT2 := hBT1.below hb2 hBT1.lt
  have htbk := hBT1.lt
  have hsz1 := hbe1.size
  have hsz2 := hb2.size
  clear hb2 hBT1 hbe1
  go_wp2_with fail
  (with_reducible refine (crcNew _).mono ?_)
  rintro e w3 ⟨rfl, hT3, hb3⟩
  have hD3 := hD2.below hb3
  have hBT3 := hBT2.below hb3 hBT2.lt
  have hbe3 := hbe2.trans (hb3.mono hbe2.size)
  have htb : w.heap.size < w2.heap.size := by omega
  have hsz4 : w2.heap.size ≤ w3.heap.size := hb3.size
  generalize w2.heap.size = tb at hT3 htb hsz2 hsz4 hb3 ⊢
  clear hb3 hD2 hBT2 hbe2
  go_wp2_with fail
  (with_reducible refine (jOpenNew d m tb [] ⟨#[106]⟩ w3 hD3 rfl hT3).mono ?_)
  rintro e w4 ⟨j, A4, c4, rfl, hlj, hj4, hD4, hT4, hB4⟩
  have hbe4 := hB4.below hbe3 (Nat.le_refl _) (by omega)
  have hBT4 := hBT3.but_ hT3 hB4 (by decide)
  have hN := diskNames d m [] w4 hD4 (by decide)
  have el : (namesF []).length = 0 := by simp [namesF]
  rw [el] at hN
  have hsz3 := hbe3.size
  clear hB4 hD3 hT3 hBT3 hbe3
  go_wp2_with fail
  (with_reducible refine hN.mono ?_)
  rintro e w5 ⟨v5, rfl, hv5, hb5⟩
  obtain ⟨A5, c5, rfl⟩ := owns_slice hv5
  have hD5 := hD4.below hb5
  have hT5 := hT4.below hb5
  have hj5 := hj4.below hb5 hj4.lt
  have hBT5 := hBT4.below hb5 hBT4.lt
  have hbe5 := hbe4.trans (hb5.mono hbe4.size)
  clear hN hv5 hb5 hD4 hT4 hj4 hBT4 hbe4 el
  go_wp2_with fail
  have hin : ∀ x ∈ [d, m, tb, j], w.heap.size + 1 ≤ x := by
    intro x hx
    simp only [List.mem_cons, List.mem_nil_iff, or_false] at hx
    rcases hx with rfl | rfl | rfl | rfl <;> omega
  have hin2 : ∀ x ∈ [d, m], w.heap.size + 1 ≤ x := fun x hx => hin x (by simp only [List.mem_cons, List.mem_nil_iff, or_false] at hx ⊢; rcases hx with h | h <;> simp [h])
  have hnt : w.heap.size ∉ [d, m, tb, j] := fun h => by have := hin _ h; omega
  have hnt2 : w.heap.size ∉ [d, m] := fun h => by have := hin2 _ h; omega
  have hjdm := hD5.notJ hj5
  have hbj := hT5.notJ hj5
  have hbdm := hD5.tab_ne hT5
  obtain ⟨S, hS⟩ : ∃ S, S = sync % 20 := ⟨_, rfl⟩
  have eS : (sync : Int).tmod 20 = (S : Int) := by rw [hS]; rfl
  have hS20 : S < 20 := by omega
  clear hS hld hlm hlj htbk hsz1 hsz2 hsz3 hsz4 htb
  go_loopw [14, 62] (fun sv i wr => ∃ (q n : Nat) (fs : List FileV), q ≤ ps.length ∧ n ≤ q ∧ sv = .int .i64 n ∧ i = .int .i64 q ∧ (∀ r ∈ rs.take q, r.length ≤ 100) ∧ filesJ q fs (layAll (rs.take q)) (lenR (rs.take n)) ∧ DiskAt wr d m fs ∧ TabOk wr tb ∧
    Blk wr j #[.pointer (some ⟨d, 0, none⟩), .pointer (some ⟨tb, 0, none⟩), .string ⟨#[106]⟩, .int .i64 (lenR (rs.take q) : Nat)] 114 ∧ Blk wr w.heap.size #[.int .u16 t1, .int .u16 t2] 57 ∧ Below w.heap.size w wr) (fun _ i _ => ps.length - (intOf i).toNat)
  case atStart => exact ⟨0, 0, [], Nat.zero_le _, Nat.le_refl _, rfl, rfl, by simp, .inl ⟨rfl, rfl, rfl, rfl⟩, hD5, hT5, hj5, hBT5, hbe5⟩
  case round =>
    obtain ⟨q, n, fs, hq, hnq, rfl, rfl, hall, hfs, hD, hT, hj, hBT, hB⟩ := hrel
    clear hD5 hT5 hj5 hBT5 hbe5
    by_cases hlt : q < ps.length
    · obtain ⟨x, hpk⟩ : ∃ p, ps[q]? = some p := ⟨_, List.getElem?_eq_getElem hlt⟩
      have hmem := List.mem_of_getElem? hpk
      obtain ⟨b, o, rfl, hr⟩ := r4 (by omega)
      have hx0 := hp x hmem
      have cx : wr.cell? ⟨b, o + q, none⟩ = some x.1 := RdAt.nth0 hr hB q _ (by simp [hpk])
      obtain ⟨vx, lx⟩ := x
      have hrk : rs[q]? = some lx := by rw [HRS.out, List.getElem?_map, hpk]; rfl
      simp only at hx0 cx
      have hx1 := hx0
      obtain ⟨Ax, cc, rfl, q1, q2, q3, q4⟩ := hx0
      clear r4 hr hp hpk hmem q4 q1
      unfold maxLen at q3
      by_cases h100 : 100 < lx.length
      · go_wp2_with fail
        go_ret
        exact ⟨rfl, hB⟩
      · have htk : rs.take (q + 1) = rs.take q ++ [lx] := by rw [List.take_add_one, hrk]; rfl
        have hnew : layAll (rs.take (q + 1)) = layAll (rs.take q) ++ layL lx := by rw [htk, layAll_append]; simp [layAll]
        have hlenk : lenR (rs.take (q + 1)) = lenR (rs.take q) + (lx.length + 8) := by rw [htk, lenR_append]; simp [lenR]
        have halln : ∀ r ∈ rs.take (q + 1), r.length ≤ 100 := by
          intro r hr
          rw [htk] at hr
          rcases List.mem_append.1 hr with h | h
          · exact hall r h
          · simp at h; subst h; omega
        have hbd : lenR (rs.take q) ≤ 2160 := by
          have h1 := lenR_bound _ 100 hall
          have h2 : (rs.take q).length ≤ q := List.length_take_le _ _
          have h3 := Nat.mul_le_mul_left (100 + 8) h2
          omega
        obtain ⟨hh1, hh2, hh3⟩ := filesJ_had hfs
        have hAp := jAppendOk j d m tb (lenR (rs.take q)) fs ⟨#[106]⟩ _ lx wr hj hT hD (hx1.below hB) (by omega) (by decide) (by decide) (.inr hh3) (by rw [hh1]; show (layAll (rs.take q)).length + (lx.length + 8) ≤ 1048576; rw [layAll_len]; omega) (by omega) hbdm
        rw [hh1] at hAp
        simp only [hh2] at hAp
        rw [← hnew, ← hlenk] at hAp
        have HNK := Lib.hid (And.intro hnew hlenk)
        have HALL := Lib.hid halln
        clear hh1 hh2 hh3 hfs hD hT hj hall htk hnew hlenk halln hrk hbd
        go_wp2_with fail
        (with_reducible refine hAp.mono ?_)
        rintro e w7 ⟨rfl, hj7, hT7, ⟨v7, hD7⟩, hM7⟩
        have hBT7 := hM7.blk hBT hnt
        have hB7 := hM7.below hB (Nat.le_refl _) (fun x hx => by have := hin x hx; omega)
        clear hAp hM7 hB hBT cx
        by_cases hqS : q = S
        · subst hqS
          have hSy := jSyncOne j d m ⟨⟨#[106]⟩, v7, layAll (rs.take (q + 1)), lenR (rs.take n)⟩ _ _ w7 hj7 hD7
          go_wp2_with fail
          (with_reducible refine hSy.mono ?_)
          rintro e w8 ⟨rfl, hD8, hM8⟩
          have hD8' : DiskAt w8 d m [⟨⟨#[106]⟩, v7, layAll (rs.take (q + 1)), lenR (rs.take (q + 1))⟩] := by rw [← layAll_len]; exact hD8
          have hj8 := hM8.blk hj7 hjdm
          have hT8 := hM8.tab hT7 hbdm
          have hBT8 := hM8.blk hBT7 hnt2
          have hB8 := hM8.below hB7 (Nat.le_refl _) (fun x hx => by have := hin2 x hx; omega)
          clear hSy hD8 hM8 hj7 hT7 hBT7 hB7 hD7
          go_wp2_with fail
          go_roundw
          case rel => exact ⟨q + 1, q + 1, _, by omega, Nat.le_refl _, by go_num, by go_num, HALL.out, .inr ⟨by omega, _, rfl⟩, hD8', hT8, hj8, hBT8, hB8⟩
          case measure => simp [intOf]; omega
        · have hne : ((q : Int) == (S : Int)) = false := by rw [beq_eq_false_iff_ne]; omega
          clear hqS
          go_wp2_with fail
          go_roundw
          case rel => exact ⟨q + 1, n, _, by omega, by omega, rfl, by go_num, HALL.out, .inr ⟨by omega, _, rfl⟩, hD7, hT7, hj7, hBT7, hB7⟩
          case measure => simp [intOf]; omega
    · obtain rfl : q = ps.length := by omega
      have htk : rs.take ps.length = rs := by rw [← HRL.out, List.take_length]
      rw [htk] at hall hfs hj
      clear htk r4 hlt
      have c60 : wr.cell? ⟨w.heap.size, 0, none⟩ = some (.int .u16 t1) := hBT.cell rfl
      have c61 : wr.cell? ⟨w.heap.size, 1, none⟩ = some (.int .u16 t2) := hBT.cell rfl
      clear hj
      go_wp2_with fail
      refine calls_gen fun w7 hw7 => ?_
      have hb7 : Below wr.heap.size wr w7 := by rw [hw7]; exact (Below.refl _ _).alloc (Nat.le_refl _) _
      have hB7 : Blk w7 wr.heap.size #[.int .u16 t1, .int .u16 t2] 57 := by rw [hw7]; exact Blk.new _ _ _
      clear hw7 c60 c61 hBT
      have hD7 := hD.below hb7
      have hT7 := hT.below hb7
      have hbe7 := hB.trans (hb7.mono hB.size)
      have hrd : Rd w7 2 (.slice (some ⟨wr.heap.size, 0, none⟩) 1 1) ([(t1, t2)] : List (Nat × Nat)).length (tearCells [(t1, t2)]) := ⟨_, _, rfl, rfl, Nat.le_refl _, by unfold maxLen; show 1 ≤ _; omega, fun _ => ⟨_, _, rfl, fun k u hk => by
        match k, hk with
        | 0, hk => simp [tearCells] at hk; subst hk; exact hB7.cell rfl
        | 1, hk => simp [tearCells] at hk; subst hk; exact hB7.cell rfl
        | k + 2, hk => simp [tearCells] at hk⟩⟩
      clear hb7 hB7 hD hT hB
      have hall' : ∀ r ∈ rs, r.length ≤ 524288 := fun r hr => Nat.le_trans (hall r hr) (by decide)
      have hCr := crashJ d m ps.length n fs rs _ t1 t2 w7 hD7 hfs HRL.out hnq hall' hrd ht1 ht2
      (with_reducible refine hCr.mono ?_)
      rintro e w8 ⟨rfl, ⟨fs8, R, g, hD8, ho8, hsc, hng, hgl⟩, hM8⟩
      have hT8 := hM8.tab hT7 hbdm
      have hbe8 := hM8.below hbe7 (Nat.le_refl _) (fun x hx => by have := hin2 x hx; omega)
      have hOp := jOpenAny d m tb ⟨#[106]⟩ fs8 R w8 hD8 ho8 hT8
      rw [hsc] at hOp
      have hsz8 := hbe8.size
      clear hCr hM8 hD8 ho8 hT8 hT7 hD7 hrd hbe7 hsc hfs hall'
      go_wp2_with fail
      (with_reducible refine hOp.mono ?_)
      rintro e w9 ⟨j2, vg, pg, fs9, rfl, hpg, hvg, hog, hjw, hj9, hD9, ho9, hT9, hM9⟩
      have hbe9 := hM9.below hbe8 (Nat.le_refl _) (fun x hx => by have := hin x (by simp only [List.mem_cons, List.mem_nil_iff, or_false] at hx ⊢; rcases hx with h | h | h <;> simp [h]); omega)
      have hpl : pg.length = g := by
        have := congrArg List.length hpg
        rw [List.length_map, List.length_take] at this
        omega
      have hvg' := owns_mono hvg hbe8.size
      have hog' : OwnAll w9 w.heap.size pg := fun p hp => owns_mono (hog p hp) hbe8.size
      obtain ⟨Ag, cg, rfl⟩ := owns_slice hvg
      have hrg := rd_of_owns hvg
      clear hOp hvg hog hM9 hbe8
      have hqs : (ps.take g).length = g := by rw [List.length_take]; have := HRL.out; omega
      have h0g : Rd w9 1 (.slice A0 g c0) (ps.take g).length ((ps.take g).map (·.1)) := by
        rw [hqs, List.map_take]
        exact (h00.below hbe9).pre (by have := HRL.out; omega)
      have hSa := sameRecs (.slice Ag pg.length cg) (.slice A0 g c0) pg (ps.take g) w9 hrg h0g (fun p hp => rd_of_owns (hog' p hp)) (fun p hpp => (hp p (List.mem_of_mem_take hpp)).below hbe9)
      have hsl : sameL (pg.map (·.2)) ((ps.take g).map (·.2)) = true := by rw [hpg, HRS.out, ← List.map_take]; exact decide_eq_true rfl
      rw [hsl, hpl] at hSa
      rw [hpl] at hrg hvg' ⊢
      have k1 : decide (g < n) = false := by simp; omega
      have k2 : decide (ps.length < g) = false := by have := HRL.out; simp; omega
      have HPL := Lib.hid hpl
      have hgp : g ≤ ps.length := by have := HRL.out; omega
      have hgc : g ≤ c0 := by omega
      clear hpl hsl h0g hqs
      go_wp2_with fail
      (with_reducible refine hSa.mono ?_)
      rintro e w10 ⟨rfl, hb10⟩
      have hrg10 := hrg.below hb10
      have hvg10 := owns_below hvg' hb10
      have hbe10 := hbe9.trans (hb10.mono hbe9.size)
      clear hSa
      go_wp2_with (at_builtin; refine wpl_stop fun W hW => ?_)
      refine Stopped.mk ?_
      subst hW
      refine wpl_gen fun W hW => ?_
      have hbW : Below w10.heap.size w10 W := by rw [hW]; exact (Below.refl _ _).alloc (Nat.le_refl _) _
      have hownW : W.ownsRow w.heap.size 27 1 (.slice (some ⟨w10.heap.size, 0, none⟩) 0 0) 0 [] := by
        rw [hW]
        refine ⟨rfl, .inr ⟨w10.heap.size, 0, #[], rfl, hbe10.size, ?_, Nat.le_refl _, Nat.zero_le _, rfl, rfl⟩⟩
        show (w10.heap.push _)[w10.heap.size]? = _
        exact Array.getElem?_push_size
      have hrgW := hrg10.below hbW
      have hone : ∀ u ∈ pg.map (·.1), u.oneCell' = true := by
        intro u hu
        obtain ⟨p, hpp, rfl⟩ := List.mem_map.1 hu
        obtain ⟨_, _, e⟩ := owns_slice (hog' p hpp)
        rw [e]
        rfl
      have hbeW := hbe10.trans (hbW.mono hbe10.size)
      clear hW
      refine wpl_append_rd rfl (.tmp 125) (.tmp 126) 22 rfl w.heap.size 27 i0 _ 1 24 Try.underlying22 hi hz0 hz1 hz2 rfl (by decide) _ 0 _ rfl hownW _ g _ rfl hrgW hone (by unfold maxLen; omega) (by omega) hbeW.size fun v11 w11 hown11 hgr11 _ => ?_
      have hb11 : Below w10.heap.size w10 w11 := hbW.grown hgr11 hbW.size (fun q hq => by cases hq; exact Nat.le_refl _)
      have hD11 := (hD9.below hb10).below hb11
      have hT11 := (hT9.below hb10).below hb11
      have hj11 := (hj9.below hb10 hj9.lt).below hb11 (hj9.below hb10 hj9.lt).lt
      have hog11 : OwnAll w11 w.heap.size pg := (hog'.below hb10).below hb11
      have hbe11 := hbe10.trans (hb11.mono hbe10.size)
      obtain ⟨ls, hls⟩ : ∃ ls, ls = ms.map (·.2) := ⟨_, rfl⟩
      have hlsl : ls.length = ms.length := by rw [hls]; simp
      have hR0 : rs.take g ++ ls.take 0 = rs.take g := by simp
      have hho : haveJ fs9 ⟨#[106]⟩ (layAll (rs.take g ++ ls.take 0)) := by rw [hR0]; exact ho9.have
      have hjj : Blk w11 j2 #[.pointer (some ⟨d, 0, none⟩), .pointer (some ⟨tb, 0, none⟩), .string ⟨#[106]⟩, .int .i64 (lenR (rs.take g ++ ls.take 0) : Nat)] 114 := by rw [hR0]; exact hj11
      have hin3 : ∀ x ∈ [d, m, tb, j2], w.heap.size ≤ x := by
        intro x hx
        have hjw' : w.heap.size ≤ j2 := Nat.le_trans hsz8 hjw
        simp only [List.mem_cons, List.mem_nil_iff, or_false] at hx
        rcases hx with rfl | rfl | rfl | rfl
        · have := hin x (by simp); omega
        · have := hin x (by simp); omega
        · have := hin x (by simp); omega
        · exact hjw'
      obtain ⟨A11, c11, rfl⟩ := owns_slice hown11
      have hwant : w11.ownsRow w.heap.size 27 1 (.slice A11 g c11) (g + 0) ((pg ++ ms.take 0).map (·.1)) := by rw [Nat.add_zero]; rw [Nat.zero_add, List.nil_append] at hown11; simpa using hown11
      have HLS := Lib.hid hls
      have HLL := Lib.hid hlsl
      clear hown11 hgr11 hb11 hone hrgW hownW hbW hbeW hbe10 hvg10 hrg10 hb10 hrg hvg' hog' hbe9 hT9 hD9 hj9 hjw ho9 hR0 hj11 hls hlsl hng k1 k2
      go_wp2_with fail
      go_loopw [19, 130] (fun vw i wr => ∃ (q : Nat) (fs : List FileV), q ≤ ms.length ∧ i = .int .i64 q ∧ wr.ownsRow w.heap.size 27 1 vw (g + q) ((pg ++ ms.take q).map (·.1)) ∧ (∀ r ∈ ls.take q, r.length ≤ 100) ∧ haveJ fs ⟨#[106]⟩ (layAll (rs.take g ++ ls.take q)) ∧ DiskAt wr d m fs ∧ TabOk wr tb ∧
        Blk wr j2 #[.pointer (some ⟨d, 0, none⟩), .pointer (some ⟨tb, 0, none⟩), .string ⟨#[106]⟩, .int .i64 (lenR (rs.take g ++ ls.take q) : Nat)] 114 ∧ OwnAll wr w.heap.size pg ∧ Below w.heap.size w wr) (fun _ i _ => ms.length - (intOf i).toNat)
      case atStart => exact ⟨0, fs9, Nat.zero_le _, rfl, hwant, by simp, hho, hD11, hT11, hjj, hog11, hbe11⟩
      case round =>
        obtain ⟨q, fs, hq, rfl, hvw, hallq, hhv, hD, hT, hj, hog, hB⟩ := hrel
        clear hwant hho hD11 hT11 hjj hog11 hbe11
        by_cases hlt : q < ms.length
        · obtain ⟨x, hpk⟩ : ∃ p, ms[q]? = some p := ⟨_, List.getElem?_eq_getElem hlt⟩
          have hmem := List.mem_of_getElem? hpk
          obtain ⟨b, o, rfl, hr⟩ := s4 (by omega)
          have hx0 := hm x hmem
          have cx : wr.cell? ⟨b, o + q, none⟩ = some x.1 := RdAt.nth0 hr hB q _ (by simp [hpk])
          obtain ⟨vx, lx⟩ := x
          have hrk : ls[q]? = some lx := by rw [HLS.out, List.getElem?_map, hpk]; rfl
          have htm : ms.take (q + 1) = ms.take q ++ [(vx, lx)] := by rw [List.take_add_one, hpk]; rfl
          simp only at hx0 cx
          have hx1 := hx0.below hB
          obtain ⟨Ax, cc, rfl, q1, q2, q3, q4⟩ := hx0
          have HTM := Lib.hid htm
          clear s4 hr hpk hmem q4 q1 htm
          unfold maxLen at q3
          by_cases h100 : 100 < lx.length
          · go_wp2_with fail
            go_ret
            exact ⟨rfl, hB⟩
          · have htk : ls.take (q + 1) = ls.take q ++ [lx] := by rw [List.take_add_one, hrk]; rfl
            have hnew : layAll (rs.take g ++ ls.take (q + 1)) = layAll (rs.take g ++ ls.take q) ++ layL lx := by rw [htk, ← List.append_assoc, layAll_append]; simp [layAll]
            have hlenk : lenR (rs.take g ++ ls.take (q + 1)) = lenR (rs.take g ++ ls.take q) + (lx.length + 8) := by rw [htk, ← List.append_assoc, lenR_append]; simp [lenR]
            have halln : ∀ r ∈ ls.take (q + 1), r.length ≤ 100 := by
              intro r hr
              rw [htk] at hr
              rcases List.mem_append.1 hr with h | h
              · exact hallq r h
              · simp at h; subst h; omega
            have hbd : lenR (rs.take g ++ ls.take q) ≤ 3240 := by
              have h1 := lenR_bound (rs.take g ++ ls.take q) 100 (fun r hr => (List.mem_append.1 hr).elim (fun h => hall r (List.mem_of_mem_take h)) (hallq r))
              have h2 : (rs.take g ++ ls.take q).length ≤ 30 := by
                rw [List.length_append]
                have e1 := List.length_take_le g rs
                have e2 := List.length_take_le q ls
                omega
              have h3 := Nat.mul_le_mul_left (100 + 8) h2
              omega
            have hAp := jAppendHave j2 d m tb _ fs ⟨#[106]⟩ _ _ lx wr hj hT hD hhv hx1 (by omega) (by decide) (by decide) (by rw [layAll_len]; omega) (by omega) hbdm
            rw [← hnew, ← hlenk] at hAp
            have HALL := Lib.hid halln
            obtain ⟨Aw, cw, rfl⟩ := owns_slice hvw
            have hvlt : ∀ gg, (Value.slice Aw (g + q) cw).ownBlock = some gg → gg < wr.heap.size := fun gg hg => (hvw.lt gg hg).2
            clear htk hnew hlenk halln hrk hbd hallq
            go_wp2_with fail
            (with_reducible refine hAp.mono ?_)
            rintro e w12 ⟨rfl, hj12, hT12, ⟨fs12, hD12, hh12, hfr12⟩, hM12⟩
            have hvw12 := owns_modJ hvw hD hT hj (by decide) (by decide) (by decide) hM12
            have hog12 : OwnAll w12 w.heap.size pg := fun p hp => owns_modJ (hog p hp) hD hT hj (by decide) (by decide) (by decide) hM12
            have hB12 := hM12.below hB (Nat.le_refl _) hin3
            have hne12 : ∀ f ∈ fs12, ∀ gg, f.val.ownBlock = some gg → some gg ≠ (Value.slice Aw (g + q) cw).ownBlock := fun f hf gg hg he => by
              have h1 := hfr12 f hf gg hg
              have h2 := hvlt gg he.symm
              omega
            clear hAp hvw hog hB hM12 hD hT hj hhv hfr12 hvlt cx
            go_wp2_with (at_builtin; refine wpl_stop fun W hW => ?_)
            refine Stopped.mk ?_
            have hBW : Blk W w12.heap.size #[.slice Ax lx.length cc] 27 := by rw [hW]; exact Blk.new _ _ _
            have hbW : Below w12.heap.size w12 W := by rw [hW]; exact (Below.refl _ _).alloc (Nat.le_refl _) _
            clear hW
            have hvW := owns_below hvw12 hbW
            have hsz := hB12.size
            have hnx : Rd W 1 (.slice (some ⟨w12.heap.size, 0, none⟩) 1 1) 1 [.slice Ax lx.length cc] := ⟨_, _, rfl, rfl, Nat.le_refl _, by unfold maxLen; omega, fun _ => ⟨_, _, rfl, fun j u hj => by
              match j, hj with
              | 0, hj => simp at hj; subst hj; exact hBW.cell rfl
              | j + 1, hj => simp at hj⟩⟩
            refine wpl_append_rd rfl (.tmp 141) (.tmp 143) 22 rfl w.heap.size 27 i0 _ 1 24 Try.underlying22 hi hz0 hz1 hz2 rfl (by decide) _ (g + q) _ rfl hvW _ 1 _ rfl hnx (by simp [Value.oneCell']) (by unfold maxLen; omega) (by omega) (Nat.le_trans hsz hbW.size) fun v14 w14 hown14 hgr14 _ => ?_
            have hD14 := (hD12.below hbW).grownO hvW (by decide) hgr14 hne12
            have hT14 := (hT12.below hbW).grownO hvW (by decide) hgr14
            have hj14 := (hj12.below hbW hj12.lt).grown hgr14 (owns_ne hvW (hj12.below hbW hj12.lt) (by decide))
            have hog14 := (hog12.below hbW).grown hvW (by decide) hgr14
            have hB14 := (hB12.trans (hbW.mono hB12.size)).grown hgr14 (Nat.le_trans hB12.size hbW.size) (fun gg hg => (hvW.lt gg hg).1)
            obtain ⟨A14, c14, rfl⟩ := owns_slice hown14
            clear hvw12 hvW hnx hBW hbW hgr14 hB12 hD12 hT12 hj12 hog12 hne12
            go_wp2_with fail
            go_roundw
            case rel => exact ⟨q + 1, fs12, by omega, by go_num, by rw [HTM.out, ← List.append_assoc, List.map_append]; exact hown14, HALL.out, hh12, hD14, hT14, hj14, hog14, hB14⟩
            case measure => simp [intOf]; omega
        · obtain rfl : q = ms.length := by omega
          have e1 : ls.take ms.length = ls := by rw [← HLL.out, List.take_length]
          rw [e1] at hhv hj hallq
          rw [List.take_length] at hvw
          obtain ⟨L, hL⟩ : ∃ L, L = rs.take g ++ ls := ⟨_, rfl⟩
          rw [← hL] at hhv hj
          have hallL : ∀ r ∈ L, r.length ≤ 100 := fun r hr => by
            rw [hL] at hr
            exact (List.mem_append.1 hr).elim (fun h => hall r (List.mem_of_mem_take h)) (hallq r)
          have hLl : L.length ≤ 30 := by
            rw [hL, List.length_append]
            have e2 := List.length_take_le g rs
            have e3 := HLL.out
            omega
          have hsame : L = (pg ++ ms).map (·.2) := by rw [hL, List.map_append, hpg, HLS.out]
          have hpml : (pg ++ ms).length = g + ms.length := by rw [List.length_append, HPL.out]
          have hscL : scanL (layAll L) = L := by
            have := scanL_all L [] (fun r hr => Nat.le_trans (hallL r hr) (by decide))
            rwa [List.append_nil, scanL_nil, List.append_nil] at this
          obtain ⟨Aw, cw, rfl⟩ := owns_slice hvw
          have HSAME := Lib.hid hsame
          have HPML := Lib.hid hpml
          have hnj2 := hD.notJ hj
          have hSy := jSyncHave j2 d m fs ⟨#[106]⟩ (layAll L) _ _ wr hj hD hhv
          clear e1 hL hsame hpml hallq hhv s4 hlt hall hpg
          go_wp2_with fail
          (with_reducible refine hSy.mono ?_)
          rintro e w13 ⟨rfl, ⟨fs13, hD13, ho13⟩, hM13⟩
          have hM13' : Mod [d, m, tb, j2] wr w13 := hM13.mono (fun x hx => by simp only [List.mem_cons, List.mem_nil_iff, or_false] at hx ⊢; rcases hx with h | h <;> simp [h])
          have hvw13 := owns_modJ hvw hD hT hj (by decide) (by decide) (by decide) hM13'
          have hog13 : OwnAll w13 w.heap.size pg := fun p hp => owns_modJ (hog p hp) hD hT hj (by decide) (by decide) (by decide) hM13'
          have hT13 := hM13.tab hT hbdm
          have hj13 := hM13.blk hj hnj2
          have hB13 := hM13'.below hB (Nat.le_refl _) hin3
          have hCr := crashHave d m fs13 ⟨#[106]⟩ (layAll L) w13 hD13 ho13
          clear hSy hM13 hM13' hvw hog hT hj hB hD
          go_wp2_with fail
          (with_reducible refine hCr.mono ?_)
          rintro e w14 ⟨rfl, ⟨fs14, hD14, ho14⟩, hM14⟩
          have hM14' : Mod [d, m, tb, j2] w13 w14 := hM14.mono (fun x hx => by simp only [List.mem_cons, List.mem_nil_iff, or_false] at hx ⊢; rcases hx with h | h <;> simp [h])
          have hvw14 := owns_modJ hvw13 hD13 hT13 hj13 (by decide) (by decide) (by decide) hM14'
          have hog14 : OwnAll w14 w.heap.size pg := fun p hp => owns_modJ (hog13 p hp) hD13 hT13 hj13 (by decide) (by decide) (by decide) hM14'
          have hT14 := hM14.tab hT13 hbdm
          have hj14 := hM14.blk hj13 hnj2
          have hB14 := hM14'.below hB13 (Nat.le_refl _) hin3
          have hOp := jOpenAny d m tb ⟨#[106]⟩ fs14 (layAll L) w14 hD14 ho14 hT14
          rw [hscL] at hOp
          clear hCr hM14 hM14' hvw13 hog13 hT13 hj13 hB13 hD13 ho13 hscL
          go_wp2_with fail
          (with_reducible refine hOp.mono ?_)
          rintro e w15 ⟨j3, va, pa, fs15, rfl, hpa, hva, hoa, hjw3, hj15, hD15, ho15, hT15, hM15⟩
          have hM15' : Mod [d, m, tb, j2] w14 w15 := hM15.mono (fun x hx => by simp only [List.mem_cons, List.mem_nil_iff, or_false] at hx ⊢; rcases hx with h | h | h <;> simp [h])
          have hvw15 := rd_of_owns (owns_modJ hvw14 hD14 hT14 hj14 (by decide) (by decide) (by decide) hM15')
          have hog15 : OwnAll w15 w.heap.size pg := fun p hp => owns_modJ (hog14 p hp) hD14 hT14 hj14 (by decide) (by decide) (by decide) hM15'
          have hB15 := hM15'.below hB14 (Nat.le_refl _) hin3
          have hall15 : ∀ p ∈ pg ++ ms, Rd w15 1 p.1 p.2.length (u8L p.2) := fun p hp => (List.mem_append.1 hp).elim (fun h => rd_of_owns (hog15 p h)) (fun h => (hm p h).below hB15)
          obtain ⟨Aa, ca, rfl⟩ := owns_slice hva
          have hra := rd_of_owns hva
          have hpaR : ∀ p ∈ pa, Rd w15 1 p.1 p.2.length (u8L p.2) := fun p hp => rd_of_owns (hoa p hp)
          have hpal : pa.length = L.length := by rw [← hpa, List.length_map]
          have hpa30 : pa.length ≤ 30 := by omega
          have hra0 := hra
          obtain ⟨_, _, hE, t1', t2', t3', t4'⟩ := hra
          cases hE
          unfold maxLen at t3'
          have HPA := Lib.hid hpa
          clear hOp hvw14 hog14 hT14 hj14 hB14 hD14 ho14 hM15 hM15' hog15 hva hoa hD15 ho15 hT15 hpa hpal hjw3 t1' hm
          go_wp2_with fail
          go_loopw [25, 159] (fun sv i wz => ∃ k : Nat, k ≤ pa.length ∧ i = .int .i64 k ∧ sv = .int .i64 (lenR (L.take k) : Nat) ∧ Below w15.heap.size w15 wz) (fun _ i _ => pa.length - (intOf i).toNat)
          case atStart => exact ⟨0, Nat.zero_le _, rfl, rfl, Below.refl _ _⟩
          case round =>
            obtain ⟨k, hk, rfl, rfl, hBz⟩ := hrel
            by_cases hlt : k < pa.length
            · obtain ⟨x, hpk⟩ : ∃ p, pa[k]? = some p := ⟨_, List.getElem?_eq_getElem hlt⟩
              have hmem := List.mem_of_getElem? hpk
              obtain ⟨b, o, rfl, hr⟩ := t4' (by omega)
              have hx0 := hpaR x hmem
              have cx : wr.cell? ⟨b, o + k, none⟩ = some x.1 := RdAt.nth0 hr hBz k _ (by simp [hpk])
              obtain ⟨vx, lx⟩ := x
              have hrk : L[k]? = some lx := by rw [← HPA.out, List.getElem?_map, hpk]; rfl
              have hl100 : lx.length ≤ 100 := hallL lx (List.mem_of_getElem? hrk)
              simp only at hx0 cx
              obtain ⟨Ax, cc, rfl, q1, q2, q3, q4⟩ := hx0
              have htk : L.take (k + 1) = L.take k ++ [lx] := by rw [List.take_add_one, hrk]; rfl
              have hlenk : lenR (L.take (k + 1)) = lenR (L.take k) + (lx.length + 8) := by rw [htk, lenR_append]; simp [lenR]
              have hbd : lenR (L.take k) ≤ 3240 := by
                have h1 := lenR_bound (L.take k) 100 (fun r hr => hallL r (List.mem_of_mem_take hr))
                have h2 : (L.take k).length ≤ 30 := by have e2 := List.length_take_le k L; have e3 := List.length_take_le' k L; omega
                have h3 := Nat.mul_le_mul_left (100 + 8) h2
                omega
              have HK := Lib.hid hlenk
              clear t4' hr hpk hmem q4 q1 htk hlenk hrk hpaR
              go_wp2_with fail
              go_roundw
              case rel => exact ⟨k + 1, by omega, by go_num, by rw [HK.out]; go_num, hBz⟩
              case measure => simp [intOf]; omega
            · obtain rfl : k = pa.length := by omega
              have e0 : L.length = pa.length := by rw [← HPA.out, List.length_map]
              have e1 : L.take pa.length = L := by rw [← e0, List.take_length]
              rw [e1]
              have hSa := sameRecs (.slice Aa pa.length ca) (.slice Aw (g + ms.length) cw) pa (pg ++ ms) wr (hra0.below hBz) (by rw [HPML.out]; exact hvw15.below hBz) (fun p hp => (hpaR p hp).below hBz) (fun p hp => (hall15 p hp).below hBz)
              have hsl : sameL (pa.map (·.2)) ((pg ++ ms).map (·.2)) = true := by rw [HPA.out, ← HSAME.out]; exact decide_eq_true rfl
              rw [hsl] at hSa
              have hj16 := hj15.below hBz hj15.lt
              have hBB := hB15.trans (hBz.mono hB15.size)
              clear hsl e0 e1 hra0 hvw15 hpaR hall15 hlt t4' hj15
              go_wp2_with fail
              (with_reducible refine hSa.mono ?_)
              rintro e w16 ⟨rfl, hb16⟩
              have hj17 := hj16.below hb16 hj16.lt
              have hBC := hBB.trans (hb16.mono hBB.size)
              clear hSa hj16
              go_wp2_with fail
              (with_reducible refine (jSize j3 _ _ _ _ _ hj17).mono ?_)
              rintro e w17 ⟨rfl, rfl⟩
              go_wp2_with fail
              (with_reducible refine (jName j3 _ _ _ _ _ hj17).mono ?_)
              rintro e w18 ⟨rfl, rfl⟩
              go_wp2_with fail
              go_ret
              exact ⟨rfl, hBC⟩
end Go.Proofs.Ytdjdhakmigofmaa
