/-
  RulesTexts: the walk.
-/
import Derived.Test.YtebnbbbiobaneaaGreatDoorRl3
import Derived.Test.YtebnbbbiobaneaaGreatDoorMg46
import Derived.Test.YtebnbbbiobaneaaGreatDoorRuE
import Derived.Test.YtebnbbbiobaneaaGreatDoorRuAwk
import Derived.RegionTactic
import Derived.BigRegion
import Derived.Deep.CutBlock
import Derived.Deep.CutRange
import Derived.Lib.SmallJoins
namespace Go.Proofs.YtebnbbbiobaneaaGreatDoor
open Go.RowKit
set_option maxRecDepth 100000

/-- Texts of ASCII, of at most 100 bytes. -/
def txtsB (cs : Array Value) (n : Nat) : Bool := decide (cs.size = n) && cs.toList.all fun v => match v with | .string b => ascB b && decide (b.size ≤ 100) | _ => false
theorem txts_at {cs : Array Value} {n : Nat} (h : txtsB cs n = true) (k : Nat) (hk : k < n) : ∃ b : ByteArray, cs[k]? = some (.string b) ∧ asc b ∧ b.size ≤ 100 := by
  unfold txtsB at h
  rw [Bool.and_eq_true, List.all_eq_true] at h
  have hs : cs.size = n := by simpa using h.1
  have hlt : k < cs.size := by omega
  have h2 := h.2 cs[k] (by simp)
  rw [Array.getElem?_eq_getElem hlt]
  cases hv : cs[k] with
  | string b =>
    rw [hv] at h2
    dsimp only at h2
    rw [Bool.and_eq_true] at h2
    exact ⟨b, rfl, (ascB_iff b).1 h2.1, by simpa using h2.2⟩
  | _ => rw [hv] at h2; cases h2
theorem asc_app {a b : ByteArray} (ha : asc a) (hb : asc b) : asc (a ++ b) := fun x hx => by
  rw [ByteArray.data_append, Array.toList_append] at hx
  rcases List.mem_append.1 hx with h | h
  · exact ha x h
  · exact hb x h
theorem sm7_self5 (nm me : ByteArray) (ps1 ps2 : List Pr) (k lim tk fo ke pr : Int) : sm7 (decide (nm = nm)) (decide (me = me)) (sameB ps1 ps1) ((k == k) && (lim == lim) && (tk == tk)) ((fo == fo) && (ke == ke)) (pr == pr) (sameB ps2 ps2) = true := by
  unfold sm7 sameB
  simp
theorem rd_parts {w : World} {size : Nat} {A : Option Addr} {n c : Nat} {xs : List Value} (h : Rd w size (.slice A n c) n xs) : n ≤ c ∧ c ≤ 9223372036854775807 ∧ (0 < n → ∃ b o, A = some ⟨b, o, none⟩ ∧ RdAt w b o xs) := by
  obtain ⟨A', c', he, _, h2, h3, h4⟩ := h
  cases he
  exact ⟨h2, by unfold maxLen at h3; omega, h4⟩
theorem sm10_len (s : SmR) : (sm10 s).length = 10 := rfl
attribute [local go_sem] FreeSl.out
set_option maxHeartbeats 8000000 in
theorem rulesTextsWalk (s : ByteArray) (vl vs : Value) (l : List Nat) (sl : List SmR) (mx : Int) (W : World) (hs : s.size ≤ maxLen) (hl : Rd W 1 vl l.length (l.map fun b => Value.int .u8 ((b : Nat) : Int))) (hlb : ∀ b ∈ l, b < 256)
    (hsl : Rd W 10 vs sl.length (sl.flatMap sm10)) (hok : ∀ q ∈ sl, q.ok) (hm : W.cell? ⟨2, 0, none⟩ = some (.int .i64 mx)) (hT : Lib.TabIs Tryz.prog W "strings.asciiSpace" .u8 Lib.asciiSpaceTab) :
    Calls Tryz.prog 5 #[.string s, vl, vs] W fun e w' => e = .returned (.bool true) ∧ Below W.heap.size W w' := by
  have KA := awake15 mx W hm hT
  unfold maxLen at hs
  obtain ⟨Al, cl, rfl, l1, l2, l3, l4⟩ := hl
  obtain ⟨As, cs, rfl, s1, s2, s3, s4⟩ := hsl
  unfold maxLen at l3 s3
  by_cases h300 : 300 < s.size
  · have d1 : decide ((300 : Int) < (s.size : Int)) = true := decide_eq_true (by omega)
    clear hm hT l4 s4
    go_enter Tryz.func5, Tryz.ntmps5
    go_wp2_with fail
    (with_reducible refine KA.mono ?_)
    rintro e w1 ⟨rfl, hb1⟩
    go_wp2_with fail
    go_ret
    exact ⟨rfl, hb1⟩
  have d1 : decide ((300 : Int) < (s.size : Int)) = false := decide_eq_false (by omega)
  have KB := fun w' => law15ascii s w' (by omega)
  cases hab : ascB s with
  | false =>
    rw [hab] at KB
    clear hm hT l4 s4
    go_enter Tryz.func5, Tryz.ntmps5
    go_wp2_with fail
    (with_reducible refine KA.mono ?_)
    rintro e w1 ⟨rfl, hb1⟩
    go_wp2_with fail
    (with_reducible refine (KB _).mono ?_)
    rintro e w2 ⟨rfl, rfl⟩
    go_wp2_with fail
    go_ret
    exact ⟨rfl, hb1⟩
  | true =>
  rw [hab] at KB
  by_cases h6 : 6 < sl.length
  · have d2 : decide ((6 : Int) < (sl.length : Int)) = true := decide_eq_true (by omega)
    clear hm hT l4 s4
    go_enter Tryz.func5, Tryz.ntmps5
    go_wp2_with fail
    (with_reducible refine KA.mono ?_)
    rintro e w1 ⟨rfl, hb1⟩
    go_wp2_with fail
    (with_reducible refine (KB _).mono ?_)
    rintro e w2 ⟨rfl, rfl⟩
    go_wp2_with fail
    go_ret
    exact ⟨rfl, hb1⟩
  have d2 : decide ((6 : Int) < (sl.length : Int)) = false := decide_eq_false (by omega)
  have HA := Lib.hid ((ascB_iff s).1 hab)
  have HM := Lib.hid hm
  have HT := Lib.hid hT
  have HL4 := Lib.hid l4
  have HS4 := Lib.hid s4
  clear hab hm hT l4 s4 h6 l1 s1
  go_enter Tryz.func5, Tryz.ntmps5
  go_wp2_with fail
  (with_reducible refine KA.mono ?_)
  rintro e w1 ⟨rfl, hb1⟩
  go_wp2_with fail
  (with_reducible refine (KB _).mono ?_)
  rintro e w2 ⟨rfl, rfl⟩
  go_upto_region 6 with fail
  refine wp_gen fun w5 hw5' => ?_
  obtain ⟨tc, hw5, htc⟩ : ∃ tc, w5 = w2.alloc (.cells tc 9) ∧ txtsB tc 19 = true := ⟨_, hw5', by kernel_rfl⟩
  clear hw5'
  have U5 := ((Upd.of_below hb1).alloc tc 9).same hw5
  clear hw5 KA KB hb1 d1 d2
  have HTC := Lib.hid htc
  clear htc
  go_wp2_with fail
  go_loopw [8, 39] (fun t i wr => ∃ (k : Nat) (tx : ByteArray), k ≤ l.length ∧ i = .int .i64 k ∧ t = .string tx ∧ asc tx ∧ tx.size ≤ 1000 * (min k 10) ∧ Upd [] W [chBlk w2.heap.size tc 9] wr) (fun _ i _ => l.length - (intOf i).toNat)
  case atStart => exact ⟨0, ⟨#[]⟩, Nat.zero_le _, rfl, rfl, (fun b hb => by cases hb), (by show (0 : Nat) ≤ _; exact Nat.zero_le _), U5⟩
  case round =>
    obtain ⟨k, tx, hk, rfl, rfl, ha, hz, U6⟩ := hrel
    by_cases hlt : k < l.length
    · obtain ⟨bl, ol, rfl, hat⟩ := HL4.out (by omega)
      obtain ⟨x, hx⟩ : ∃ x, l[k]? = some x := ⟨_, List.getElem?_eq_getElem hlt⟩
      have hx8 := hlb x (List.mem_of_getElem? hx)
      have c0 := hat.nth0 U6.below k (.int .u8 x) (by simp [hx])
      have i1 : (k : Int) < (l.length : Int) := by omega
      clear hat hx
      by_cases h10 : k < 10
      · have d3 : decide ((k : Int) < 10) = true := decide_eq_true (by omega)
        have hmin : min k 10 = k := Nat.min_eq_left (by omega)
        have hmin2 : min (k + 1) 10 = k + 1 := Nat.min_eq_left (by omega)
        rw [hmin] at hz
        by_cases h19 : x < 19
        · have d4 : decide ((x : Int) < 19) = true := decide_eq_true (by omega)
          obtain ⟨b, hb, hba, hbz⟩ := txts_at HTC.out x h19
          have c1 := (U6.blk 0 rfl).cell hb
          have i2 : (x : Int) < 19 := by omega
          have HB := Lib.hid (asc_app (asc_app ha hba) (show asc ⟨#[10]⟩ by unfold asc; decide))
          have hzz := Lib.hid (show (tx ++ b ++ ⟨#[10]⟩).size ≤ 1000 * min (k + 1) 10 by rw [hmin2, ByteArray.size_append, ByteArray.size_append]; have : (⟨#[10]⟩ : ByteArray).size = 1 := rfl; omega)
          clear hb hba ha
          go_wp2_with fail
          go_roundw
          case rel => exact ⟨k + 1, tx ++ b ++ ⟨#[10]⟩, by omega, by go_num, rfl, HB.out, hzz.out, U6⟩
          case measure => simp [intOf]; omega
        have d4 : decide ((x : Int) < 19) = false := decide_eq_false (by omega)
        have hstr : ∀ Q : Prop, (decide ((x : Int) < 200) = false → Q) → (decide ((x : Int) < 200) = true → sl.length = 0 → Q) → (x < 200 → 0 < sl.length → Q) → Q := by
          intro Q a b c
          by_cases p : x < 200
          · by_cases q : 0 < sl.length
            · exact c p q
            · exact b (decide_eq_true (by omega)) (by omega)
          · exact a (decide_eq_false (by omega))
        refine hstr _ (fun d5 => ?_) (fun d5 d6 => ?_) (fun p200 psl => ?_)
        · have HB := Lib.hid (asc_app (asc_app ha HA.out) (show asc ⟨#[10]⟩ by unfold asc; decide))
          have hzz := Lib.hid (show (tx ++ s ++ ⟨#[10]⟩).size ≤ 1000 * min (k + 1) 10 by rw [hmin2, ByteArray.size_append, ByteArray.size_append]; have : (⟨#[10]⟩ : ByteArray).size = 1 := rfl; omega)
          clear hstr ha
          go_wp2_with fail
          go_roundw
          case rel => exact ⟨k + 1, tx ++ s ++ ⟨#[10]⟩, by omega, by go_num, rfl, HB.out, hzz.out, U6⟩
          case measure => simp [intOf]; omega
        · have HB := Lib.hid (asc_app (asc_app ha HA.out) (show asc ⟨#[10]⟩ by unfold asc; decide))
          have hzz := Lib.hid (show (tx ++ s ++ ⟨#[10]⟩).size ≤ 1000 * min (k + 1) 10 by rw [hmin2, ByteArray.size_append, ByteArray.size_append]; have : (⟨#[10]⟩ : ByteArray).size = 1 := rfl; omega)
          clear hstr ha
          go_wp2_with fail
          go_roundw
          case rel => exact ⟨k + 1, tx ++ s ++ ⟨#[10]⟩, by omega, by go_num, rfl, HB.out, hzz.out, U6⟩
          case measure => simp [intOf]; omega
        · have d5 : decide ((x : Int) < 200) = true := decide_eq_true (by omega)
          have d6 : decide ((0 : Int) < (sl.length : Int)) = true := decide_eq_true (by omega)
          have d7 : (0 : Int) < (sl.length : Int) := by omega
          clear hstr
          obtain ⟨bs, os, rfl, hats⟩ := HS4.out psl
          obtain ⟨m, hmd⟩ : ∃ m, m = x % sl.length := ⟨_, rfl⟩
          have hml : m < sl.length := by rw [hmd]; exact Nat.mod_lt _ psl
          have hmI : (x : Int) % (sl.length : Int) = (m : Int) := by rw [hmd]; rfl
          have hm0 : (0 : Int) ≤ (m : Int) := by omega
          have hm1 : (m : Int) < (sl.length : Int) := by omega
          obtain ⟨q, hq⟩ : ∃ q, sl[m]? = some q := ⟨_, List.getElem?_eq_getElem hml⟩
          have e0 := fun i hi => flat_at sm10 10 sm10_len sl m q hq i hi
          have qok := hok q (List.mem_of_getElem? hq)
          have y0 := hats.nth0 U6.below (m * 10) (.int .u8 q.nm) (by have := e0 0 (by omega); simpa [sm10] using this)
          have y1 := hats.nth U6.below (m * 10) 1 (.int .u8 q.me) (by have := e0 1 (by omega); simpa [sm10] using this)
          have y2 := hats.nth U6.below (m * 10) 2 (.int .u8 q.fi) (by have := e0 2 (by omega); simpa [sm10] using this)
          have y3 := hats.nth U6.below (m * 10) 3 (.int .u8 q.wi) (by have := e0 3 (by omega); simpa [sm10] using this)
          have y4 := hats.nth U6.below (m * 10) 4 (.int .u8 q.k) (by have := e0 4 (by omega); simpa [sm10] using this)
          have y5 := hats.nth U6.below (m * 10) 5 (.int .i16 q.m) (by have := e0 5 (by omega); simpa [sm10] using this)
          have y6 := hats.nth U6.below (m * 10) 6 (.int .u8 q.t) (by have := e0 6 (by omega); simpa [sm10] using this)
          have y7 := hats.nth U6.below (m * 10) 7 (.int .u8 q.fo) (by have := e0 7 (by omega); simpa [sm10] using this)
          have y8 := hats.nth U6.below (m * 10) 8 (.int .u8 q.ke) (by have := e0 8 (by omega); simpa [sm10] using this)
          have y9 := hats.nth U6.below (m * 10) 9 (.int .u8 q.pr) (by have := e0 9 (by omega); simpa [sm10] using this)
          have KS := smallRuleS q qok wr
          clear hats e0 hmd hq
          go_wp2_with fail
          (with_reducible refine KS.mono ?_)
          rintro e w7 ⟨A1, q1, A2, q2, rfl, hgd, hb7⟩
          have U7 := U6.grow hb7
          have hbd := smV_bd q (.slice A1 (labL (q.fi % 4)).length q1) (.slice A2 (labL q.wi).length q2) qok
          have htz := smV_text q (.slice A1 (labL (q.fi % 4)).length q1) (.slice A2 (labL q.wi).length q2) qok
          have hta := smV_asc q (.slice A1 (labL (q.fi % 4)).length q1) (.slice A2 (labL q.wi).length q2) qok
          have KX := ruText _ _ A1 q1 (labL (q.fi % 4)) _ _ _ _ _ _ A2 q2 (labL q.wi) w7 hbd.k hbd.h0 hbd.h1 hbd.tk hbd.fo hbd.ke hgd.pr hbd.nm hbd.me (rd_of_owns hgd.io) hbd.iz (rd_of_owns hgd.wo) hbd.wz
          obtain ⟨rt, hrt⟩ : ∃ y, y = (smV q (.slice A1 (labL (q.fi % 4)).length q1) (.slice A2 (labL q.wi).length q2)).text := ⟨_, rfl⟩
          rw [← hrt] at htz hta
          have KX2 : Calls Tryz.prog 34 #[(smV q (.slice A1 (labL (q.fi % 4)).length q1) (.slice A2 (labL q.wi).length q2)).agg] w7 fun e w' => e = .returned (.string rt) ∧ Below w7.heap.size w7 w' := by rw [hrt]; exact KX
          have HB := Lib.hid (asc_app (asc_app ha hta) (show asc ⟨#[10]⟩ by unfold asc; decide))
          have hzz := Lib.hid (show (tx ++ rt ++ ⟨#[10]⟩).size ≤ 1000 * min (k + 1) 10 by rw [hmin2, ByteArray.size_append, ByteArray.size_append]; have : (⟨#[10]⟩ : ByteArray).size = 1 := rfl; omega)
          obtain ⟨ra, hra⟩ : ∃ y, y = (smV q (.slice A1 (labL (q.fi % 4)).length q1) (.slice A2 (labL q.wi).length q2)).agg := ⟨_, rfl⟩
          rw [← hra] at KX2 ⊢
          clear KS KX hb7 hgd hbd hta ha U6 hrt hra y0 y1 y2 y3 y4 y5 y6 y7 y8 y9
          go_wp2_with fail
          (with_reducible refine KX2.mono ?_)
          rintro e w8 ⟨rfl, hb8⟩
          have U8 := U7.grow hb8
          clear KX2 hb8 U7
          go_wp2_with fail
          go_roundw
          case rel => exact ⟨k + 1, tx ++ rt ++ ⟨#[10]⟩, by omega, by go_num, rfl, HB.out, hzz.out, U8⟩
          case measure => simp [intOf]; omega
      · have d3 : decide ((k : Int) < 10) = false := decide_eq_false (by omega)
        have hmin : min k 10 = 10 := Nat.min_eq_right (by omega)
        have hmin2 : min (k + 1) 10 = 10 := Nat.min_eq_right (by omega)
        rw [hmin] at hz
        have hzz := Lib.hid (show tx.size ≤ 1000 * min (k + 1) 10 by rw [hmin2]; exact hz)
        clear hz
        go_wp2_with fail
        go_roundw
        case rel => exact ⟨k + 1, tx, by omega, by go_num, rfl, ha, hzz.out, U6⟩
        case measure => simp [intOf]; omega
    · obtain rfl : k = l.length := by omega
      have hz2 : tx.size ≤ 10000 := by have := Nat.min_le_right l.length 10; omega
      clear hlt hk hz
      have l5 : (⟨#[114, 117, 108, 101, 32]⟩ : ByteArray).size = 5 := rfl
      have hs9 : (⟨#[114, 117, 108, 101, 32]⟩ ++ s : ByteArray).size ≤ 1000000 := by rw [ByteArray.size_append]; omega
      have HRS := Lib.hid (asc_app (show asc ⟨#[114, 117, 108, 101, 32]⟩ by unfold asc; decide) HA.out)
      go_upto_block 2 with fail
      refine wp_gen fun w9 hw9 => ?_
      have U9 := ((U6.drop 0).alloc #[.string s, .string tx, .string (⟨#[114, 117, 108, 101, 32]⟩ ++ s)] 9).same hw9
      simp only [List.eraseIdx_cons_zero] at U9
      obtain ⟨b3, hb3⟩ : ∃ b, b = wr.heap.size := ⟨_, rfl⟩
      rw [← hb3] at U9 ⊢
      have HTX : ∀ j, j < 3 → ∃ x : ByteArray, (#[.string s, .string tx, .string (⟨#[114, 117, 108, 101, 32]⟩ ++ s)] : Array Value)[j]? = some (.string x) ∧ asc x ∧ x.size ≤ 1000000 := by
        intro j hj
        obtain rfl | rfl | rfl : j = 0 ∨ j = 1 ∨ j = 2 := by omega
        · exact ⟨_, rfl, HA.out, by omega⟩
        · exact ⟨_, rfl, ha, by omega⟩
        · exact ⟨_, rfl, HRS.out, hs9⟩
      have HTXH := Lib.hid HTX
      have htab : Tryz.prog.globalNamed "strings.asciiSpace" = some 0 := by kernel_rfl
      have HG := Lib.hid htab
      clear hw9 hb3 U6 HTX htab ha
      obtain ⟨rs9, hrs9⟩ : ∃ x, x = (⟨#[114, 117, 108, 101, 32]⟩ ++ s : ByteArray) := ⟨_, rfl⟩
      rw [← hrs9] at U9 HTXH ⊢
      clear hrs9 hs9 l5
      go_wp2_with fail
      go_loopw [88] (fun i wx => ∃ j : Nat, j ≤ 3 ∧ i = .int .i64 j ∧ Upd [] W [chBlk b3 #[.string s, .string tx, .string rs9] 9] wx) (fun i _ => 3 - (intOf i).toNat)
      case atStart => exact ⟨0, by omega, rfl, U9⟩
      case round =>
        obtain ⟨j, hj, rfl, U10⟩ := hrel
        clear U9
        by_cases hlt : j < 3
        · obtain ⟨x, hx, hxa, hxz⟩ := HTXH.out j hlt
          have HX := hx
          have i1 : (j : Int) < 3 := by omega
          have wj : IntKind.i64.wrap ((j : Int) + 1) = ((j + 1 : Nat) : Int) := by simp only [IntKind.wrap, IntKind.bits, IntKind.signed]; simp; omega
          have c0 := (U10.blk 0 rfl).cell HX
          clear hx
          by_cases h3 : 3000 < x.size
          · have d3 : decide ((3000 : Int) < (x.size : Int)) = true := decide_eq_true (by omega)
            go_wp2_with fail
            go_roundw
            case rel => exact ⟨j + 1, by omega, by first | rfl | go_num, U10⟩
            case measure => simp [intOf]; omega
          have d3 : decide ((3000 : Int) < (x.size : Int)) = false := decide_eq_false (by omega)
          have KP := ruParse x mx wr (by unfold maxLen; omega) hxa (cell_upd U10 (by simp) HM.out) (Joins.tab_stays HG.out HT.out U10.below (Nat.le_refl _))
          have KR := fun w' => refRead x w' (by omega)
          have hpr : (parseE x).2 ≠ 0 → parseR x = [] := fun h => by unfold parseR; rw [if_neg h]
          obtain ⟨pe, hpe⟩ : ∃ y, y = (parseE x).2 := ⟨_, rfl⟩
          obtain ⟨pl, hpl⟩ : ∃ y, y = (parseE x).1 := ⟨_, rfl⟩
          rw [← hpe] at KP KR hpr
          rw [← hpl] at KP KR
          obtain ⟨pr9, hp9⟩ : ∃ y, y = parseR x := ⟨_, rfl⟩
          rw [← hp9] at KP KR hpr
          clear hpe hpl hp9 hxa HX
          go_wp2_with fail
          (with_reducible refine KP.mono ?_)
          rintro e w11 ⟨v, rs, rfl, hrs, hown, hgd, hb11⟩
          have U11 := U10.grow hb11
          obtain ⟨Av, cv, rfl⟩ := owns_slice hown
          have K2 := KR w11
          clear KP KR U10 c0
          go_wp2_with fail
          (with_reducible refine K2.mono ?_)
          rintro e w12 ⟨Aq, cq, rq, rfl, hrq, hownq, hgq, hb12⟩
          have U12 := U11.grow hb12
          have hown2 := owns_below hown hb12
          have hgd2 : ∀ r ∈ rs, r.good w12 wr.heap.size := fun r hr => (hgd r hr).below hb12
          clear K2 U11 hown hgd hb11 hb12
          by_cases hp0 : pe = 0
          · subst hp0
            have hrq2 := hrq rfl
            have hlen : rq.length = rs.length := by
              have h1 := congrArg List.length hrq2
              have h2 := congrArg List.length hrs
              rw [List.length_map] at h1 h2
              omega
            have hss : rs.map RuV.strip = rq.map RuV.strip := hrs.trans hrq2.symm
            rw [hlen] at hownq ⊢
            have HRP := rd_of_owns hown2
            have HRQ := rd_of_owns hownq
            have HSS := Lib.hid hss
            have HLN := Lib.hid hlen
            have HGD := Lib.hid hgd2
            have HGQ := Lib.hid hgq
            obtain ⟨hpc, hpm, hp4⟩ := rd_parts HRP
            obtain ⟨hqc, hqm, hq4⟩ := rd_parts HRQ
            have HP4 := Lib.hid hp4
            have HQ4 := Lib.hid hq4
            have HU12 := Lib.hid U12
            clear hrs hrq hrq2 hpr hlen hss hgd2 hgq hown2 hownq hp4 hq4 HRP HRQ U12
            go_wp2_with fail
            go_loopw [133] (fun a wy => ∃ i : Nat, i ≤ rs.length ∧ a = .int .i64 i ∧ Below w12.heap.size w12 wy) (fun a _ => rs.length - (intOf a).toNat)
            case atStart => exact ⟨0, Nat.zero_le _, rfl, Below.refl _ _⟩
            case round =>
              obtain ⟨i, hi, rfl, hB⟩ := hrel
              by_cases hli : i < rs.length
              · obtain ⟨bp, op, rfl, hatp⟩ := HP4.out (by omega)
                obtain ⟨bq, oq, rfl, hatq⟩ := HQ4.out (by omega)
                obtain ⟨r, hr⟩ : ∃ r, rs[i]? = some r := ⟨_, List.getElem?_eq_getElem hli⟩
                obtain ⟨r2, hr2⟩ : ∃ r, rq[i]? = some r := ⟨_, List.getElem?_eq_getElem (by rw [HLN.out]; exact hli)⟩
                have hst : r.strip = r2.strip := by
                  have h1 := congrArg (fun l : List RuV => l[i]?) HSS.out
                  simpa [hr, hr2] using h1
                have ep := fun j (u : Value) (hu : r.cells[j]? = some u) => (flat_at RuV.cells 10 cells_len rs i r hr j (by have := (List.getElem?_eq_some_iff.1 hu).1; rw [cells_len] at this; exact this)).trans hu
                have eq := fun j (u : Value) (hu : r2.ref[j]? = some u) => (flat_at RuV.ref 10 ref_len rq i r2 hr2 j (by have := (List.getElem?_eq_some_iff.1 hu).1; rw [ref_len] at this; exact this)).trans hu
                have g1 := (HGD.out r (List.mem_of_getElem? hr)).below hB
                have g2 := (HGQ.out r2 (List.mem_of_getElem? hr2)).below hB
                obtain ⟨nm, me, iv, ps1, k, lim, tk, fo, ke, pr, wv, ps2⟩ := r
                obtain ⟨nm', me', iv', ps1', k', lim', tk', fo', ke', pr', wv', ps2'⟩ := r2
                simp only [RuV.strip, RuV.mk.injEq] at hst
                obtain ⟨rfl, rfl, -, rfl, rfl, rfl, rfl, rfl, rfl, rfl, -, rfl⟩ := hst
                obtain ⟨A1, q1, e1⟩ := owns_slice g1.io
                obtain ⟨A2, q2, e2⟩ := owns_slice g1.wo
                obtain ⟨A3, q3, e3⟩ := owns_slice g2.io
                obtain ⟨A4, q4, e4⟩ := owns_slice g2.wo
                dsimp only at e1 e2 e3 e4
                subst e1 e2 e3 e4
                have FC : ∀ w', Below wr.heap.size wr w' → w'.cell? ⟨bp, op + i * 10, none⟩ = some (.string nm) ∧ w'.cell? ⟨bp, op + i * 10 + 1, none⟩ = some (.string me) ∧ w'.cell? ⟨bp, op + i * 10 + 2, none⟩ = some (.slice A1 ps1.length q1) ∧ w'.cell? ⟨bp, op + i * 10 + 3, none⟩ = some (.int .u8 k) ∧ w'.cell? ⟨bp, op + i * 10 + 4, none⟩ = some (.int .i64 lim) ∧ w'.cell? ⟨bp, op + i * 10 + 5, none⟩ = some (.int .u64 tk) ∧ w'.cell? ⟨bp, op + i * 10 + 6, none⟩ = some (.int .u64 fo) ∧ w'.cell? ⟨bp, op + i * 10 + 7, none⟩ = some (.int .u64 ke) ∧ w'.cell? ⟨bp, op + i * 10 + 8, none⟩ = some (.int .u8 pr) ∧ w'.cell? ⟨bp, op + i * 10 + 9, none⟩ = some (.slice A2 ps2.length q2) ∧ w'.cell? ⟨bq, oq + i * 10, none⟩ = some (.string nm) ∧ w'.cell? ⟨bq, oq + i * 10 + 1, none⟩ = some (.string me) ∧ w'.cell? ⟨bq, oq + i * 10 + 2, none⟩ = some (.slice A3 ps1.length q3) ∧ w'.cell? ⟨bq, oq + i * 10 + 3, none⟩ = some (.slice A4 ps2.length q4) ∧ w'.cell? ⟨bq, oq + i * 10 + 4, none⟩ = some (.int .i64 k) ∧ w'.cell? ⟨bq, oq + i * 10 + 5, none⟩ = some (.int .i64 lim) ∧ w'.cell? ⟨bq, oq + i * 10 + 6, none⟩ = some (.int .u64 tk) ∧ w'.cell? ⟨bq, oq + i * 10 + 7, none⟩ = some (.int .u64 fo) ∧ w'.cell? ⟨bq, oq + i * 10 + 8, none⟩ = some (.int .u64 ke) ∧ w'.cell? ⟨bq, oq + i * 10 + 9, none⟩ = some (.int .u8 pr) := fun w' h => ⟨hatp.nth0 (hB.trans (h.mono hB.size)) (i * 10) (.string nm) (ep 0 _ rfl), hatp.nth (hB.trans (h.mono hB.size)) (i * 10) 1 (.string me) (ep 1 _ rfl), hatp.nth (hB.trans (h.mono hB.size)) (i * 10) 2 (.slice A1 ps1.length q1) (ep 2 _ rfl), hatp.nth (hB.trans (h.mono hB.size)) (i * 10) 3 (.int .u8 k) (ep 3 _ rfl), hatp.nth (hB.trans (h.mono hB.size)) (i * 10) 4 (.int .i64 lim) (ep 4 _ rfl), hatp.nth (hB.trans (h.mono hB.size)) (i * 10) 5 (.int .u64 tk) (ep 5 _ rfl), hatp.nth (hB.trans (h.mono hB.size)) (i * 10) 6 (.int .u64 fo) (ep 6 _ rfl), hatp.nth (hB.trans (h.mono hB.size)) (i * 10) 7 (.int .u64 ke) (ep 7 _ rfl), hatp.nth (hB.trans (h.mono hB.size)) (i * 10) 8 (.int .u8 pr) (ep 8 _ rfl), hatp.nth (hB.trans (h.mono hB.size)) (i * 10) 9 (.slice A2 ps2.length q2) (ep 9 _ rfl), hatq.nth0 (hB.trans (h.mono hB.size)) (i * 10) (.string nm) (eq 0 _ rfl), hatq.nth (hB.trans (h.mono hB.size)) (i * 10) 1 (.string me) (eq 1 _ rfl), hatq.nth (hB.trans (h.mono hB.size)) (i * 10) 2 (.slice A3 ps1.length q3) (eq 2 _ rfl), hatq.nth (hB.trans (h.mono hB.size)) (i * 10) 3 (.slice A4 ps2.length q4) (eq 3 _ rfl), hatq.nth (hB.trans (h.mono hB.size)) (i * 10) 4 (.int .i64 k) (eq 4 _ rfl), hatq.nth (hB.trans (h.mono hB.size)) (i * 10) 5 (.int .i64 lim) (eq 5 _ rfl), hatq.nth (hB.trans (h.mono hB.size)) (i * 10) 6 (.int .u64 tk) (eq 6 _ rfl), hatq.nth (hB.trans (h.mono hB.size)) (i * 10) 7 (.int .u64 fo) (eq 7 _ rfl), hatq.nth (hB.trans (h.mono hB.size)) (i * 10) 8 (.int .u64 ke) (eq 8 _ rfl), hatq.nth (hB.trans (h.mono hB.size)) (i * 10) 9 (.int .u8 pr) (eq 9 _ rfl)⟩
                have hk := g1.k
                dsimp only at hk
                have K1 := fun w' => law15Ref nm me A1 ps1.length q1 k lim tk fo ke pr A2 ps2.length q2 w' hk
                have K2 := fun w' (h : Below wr.heap.size wr w') => refRuSame nm me A1 q1 ps1 k lim tk fo ke pr A2 q2 ps2 nm me A3 q3 ps1 k lim tk fo ke pr A4 q4 ps2 w' (rd_of_owns (g1.below h).io) (rd_of_owns (g2.below h).io) (rd_of_owns (g1.below h).wo) (rd_of_owns (g2.below h).wo)
                rw [sm7_self5] at K2
                have i1 : (i : Int) < (rs.length : Int) := by omega
                have i2 : (i : Int) < (rq.length : Int) := by rw [HLN.out]; omega
                clear hr hr2
                go_wp2_with fail
                have hext : ∀ w' w'', Below wr.heap.size wr w' → Below w'.heap.size w' w'' → Below wr.heap.size wr w'' := fun w' w'' h h2 => h.trans (h2.mono h.size)
                refine FreeSl.region_free (fun w' => Below wr.heap.size wr w') [] [] (List.range 11) (by kernel_rfl) (by kernel_rfl) (by kernel_rfl) (Below.refl _ _).drew ?_
                simp only [List.range, List.range.loop]
                repeat (first
                  | (refine FreeSl.RelSeq.pure_ (c := ?_) rfl rfl ?_ ?_; rotate_left; (focus (intro x w'; dsimp only; go_simp; (repeat' apply And.intro) <;> first | with_reducible rfl | assumption)); simp only [Act.put, List.setIfInBounds_toArray, List.set_cons_zero, List.set_cons_succ])
                  | (refine FreeSl.RelSeq.grow_ (c := ?_) rfl rfl ?_ ?_; rotate_left; (focus (intro x w' hw _; dsimp only; obtain ⟨c0, c1, c2, c3, c4, c5, c6, c7, c8, c9, d0, d1, d2, d3, d4, d5, d6, d7, d8, d9⟩ := FC w' hw; have hbr := Below.refl w'.heap.size w'; go_simp; (repeat' apply And.intro) <;> first | with_reducible rfl | assumption)); simp only [Act.put, List.setIfInBounds_toArray, List.set_cons_zero, List.set_cons_succ])
                  | (refine FreeSl.RelSeq.grow_ (c := ?_) rfl rfl ?_ ?_; rotate_left; (focus (intro x w' hw _; dsimp only; go_simp; (with_reducible refine (K1 w').mono ?_); rintro e w2 ⟨rfl, hb2⟩; have hI := hext w' w2 hw hb2; go_simp; (repeat' apply And.intro) <;> first | with_reducible rfl | assumption)); simp only [Act.put, List.setIfInBounds_toArray, List.set_cons_zero, List.set_cons_succ])
                  | (refine FreeSl.RelSeq.grow_ (c := ?_) rfl rfl ?_ ?_; rotate_left; (focus (intro x w' hw _; dsimp only; go_simp; (with_reducible refine (K2 w' hw).mono ?_); rintro e w2 ⟨rfl, hb2⟩; have hI := hext w' w2 hw hb2; go_simp; (repeat' apply And.intro) <;> first | with_reducible rfl | assumption)); simp only [Act.put, List.setIfInBounds_toArray, List.set_cons_zero, List.set_cons_succ]))
                refine FreeSl.RelSeq.nil_ fun x2 w13 hw13 _ _ => ?_
                refine FreeSl.TailSeq.nil_ ?_
                have hB2 := hB.trans (hw13.mono hB.size)
                clear FC K1 K2 hext hB g1 g2 hw13
                go_wp2_with fail
                go_roundw
                case rel => exact ⟨i + 1, by omega, by go_num, hB2⟩
                case measure => simp [intOf]; omega
              · obtain rfl : i = rs.length := by omega
                have U13 := HU12.out.grow hB
                go_wp2_with fail
                go_roundw
                case rel => exact ⟨j + 1, by omega, by first | rfl | go_num, U13⟩
                case measure => simp [intOf]; omega
          · obtain rfl : rs = [] := by
              have h := hrs.trans (hpr hp0)
              cases rs with
              | nil => rfl
              | cons a t => cases h
            have hpf : ((pe : Int) == 0) = false := by rw [beq_eq_false_iff_ne]; omega
            clear hrs hrq hpr hgd2 hgq hown2 hownq
            go_wp2_with fail
            go_roundw
            case rel => exact ⟨j + 1, by omega, by first | rfl | go_num, U12⟩
            case measure => simp [intOf]; omega
        · obtain rfl : j = 3 := by omega
          go_wp2_with fail
          go_ret
          exact ⟨rfl, U10.below⟩
end Go.Proofs.YtebnbbbiobaneaaGreatDoor
