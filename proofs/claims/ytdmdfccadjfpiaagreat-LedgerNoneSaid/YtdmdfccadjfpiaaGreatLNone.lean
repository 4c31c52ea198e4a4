/-
  LedgerNone: the walk.
-/
import Derived.Test.YtdmdfccadjfpiaaGreatKind
import Derived.Test.YtdmdfccadjfpiaaGreatAwk22
import Derived.Test.YtdmdfccadjfpiaaGreatRefLay
namespace Go.Proofs.YtdmdfccadjfpiaaGreat
open Go.RowKit
set_option maxRecDepth 100000

/-- A table as a part of memory. -/
def chTb (b : Nat) : Chunk := ⟨[b], fun w => TabOk w b, fun _ _ h hP => hP.locA (h b (.head _)), fun _ hP x hx => by rw [List.mem_singleton.1 hx]; exact hP.ltA⟩
set_option maxHeartbeats 4000000 in
theorem lnWalk (a : ItV) (now kind origin : Nat) (w : World) (ha : a.ok w) :
    Calls Tryz.prog 4 #[itV a, .int .u64 now, .int .u8 kind, .int .u8 origin] w fun e w' => e = .returned (.bool true) ∧ Below w.heap.size w w' := by
  obtain ⟨Al, cl, hlv, _⟩ := ha.rd
  obtain ⟨gap, o, sq, tm, ru, lv, ps, st, pr, va, ow, go, gf, gt⟩ := a
  simp only at hlv
  subst hlv
  obtain ⟨nl, hnl⟩ : ∃ n, n = ps.length := ⟨_, rfl⟩
  rw [← hnl]
  clear ha hnl
  show Calls _ _ #[.agg #[.bool gap, .int .u8 o, .int .u64 sq, .int .u64 tm, .string ru, .slice Al nl cl, .int .u8 st, .int .u8 pr, .int .i64 va, .int .u8 ow, .int .u8 go, .int .u64 gf, .int .u64 gt], .int .u64 now, .int .u8 kind, .int .u8 origin] _ _
  go_enter Tryz.func4, Tryz.ntmps4
  go_wp2_with fail
  refine calls_genP fun w2 hw2 => ?_
  have U2 := ((Upd.nil [] w).alloc #[.bool gap, .int .u8 o, .int .u64 sq, .int .u64 tm, .string ru, .slice Al nl cl, .int .u8 st, .int .u8 pr, .int .i64 va, .int .u8 ow, .int .u8 go, .int .u64 gf, .int .u64 gt] 36).same hw2
  clear hw2
  (with_reducible refine (awake22 w2).mono ?_)
  rintro e w3 ⟨rfl, hb3⟩
  have U3 := U2.grow hb3
  clear U2 hb3
  have y0 := (U3.blk 0 rfl).cell (j := 0) (v := .bool gap) rfl
  have y1 := (U3.blk 0 rfl).cell (j := 1) (v := .int .u8 o) rfl
  have y2 := (U3.blk 0 rfl).cell (j := 2) (v := .int .u64 sq) rfl
  have y3 := (U3.blk 0 rfl).cell (j := 3) (v := .int .u64 tm) rfl
  have y4 := (U3.blk 0 rfl).cell (j := 4) (v := .string ru) rfl
  have y5 := (U3.blk 0 rfl).cell (j := 5) (v := .slice Al nl cl) rfl
  have y6 := (U3.blk 0 rfl).cell (j := 6) (v := .int .u8 st) rfl
  have y7 := (U3.blk 0 rfl).cell (j := 7) (v := .int .u8 pr) rfl
  have y8 := (U3.blk 0 rfl).cell (j := 8) (v := .int .i64 va) rfl
  have y9 := (U3.blk 0 rfl).cell (j := 9) (v := .int .u8 ow) rfl
  have y10 := (U3.blk 0 rfl).cell (j := 10) (v := .int .u8 go) rfl
  have y11 := (U3.blk 0 rfl).cell (j := 11) (v := .int .u64 gf) rfl
  have y12 := (U3.blk 0 rfl).cell (j := 12) (v := .int .u64 gt) rfl
  by_cases h12 : 12 < nl
  · have d : decide ((12 : Int) < (nl : Int)) = true := by simp; omega
    have HU := Lib.hid U3.below
    clear U3
    go_wp2_with fail
    go_ret
    exact ⟨rfl, HU.out⟩
  have d : decide ((12 : Int) < (nl : Int)) = false := by simp; omega
  clear h12
  go_wp2_with fail
  (with_reducible refine (admit_nil now gap o sq tm ru Al nl cl st pr va ow go gf gt _).mono ?_)
  rintro e w4 ⟨rfl, hb4⟩
  have U4 := U3.grow hb4
  clear U3 hb4 y0 y1 y2 y3 y4 y5 y6 y7 y8 y9 y10 y11 y12 d
  go_wp2_with fail
  refine calls_genP fun w5 hw5 => ?_
  have U5 := ((U4.alloc #[.bool false, .int .u8 0, .int .u64 0, .int .u64 0, .string ⟨#[]⟩, .slice none 0 0, .int .u8 0, .int .u8 0, .int .i64 0, .int .u8 0, .int .u8 0, .int .u64 0, .int .u64 0] 36).drop 0).same hw5
  simp only [List.eraseIdx_cons_zero] at U5
  clear hw5 U4
  (with_reducible refine (crcNew w5).mono ?_)
  rintro e w6 ⟨rfl, _, hb6⟩
  have U6 := U5.grow hb6
  clear U5 hb6
  go_wp2_with fail
  (with_reducible refine (lOpenNil _ _).mono ?_)
  rintro e w7 ⟨rfl, rfl⟩
  go_wp2_with fail
  (with_reducible refine (diskNew _).mono ?_)
  rintro e w8 ⟨d, m, rfl, hd, hm, hD, hb8⟩
  have U8 := U6.add hb8 (chDisk d m []) hD (fun x hx => by
    rcases List.mem_cons.1 hx with rfl | hx
    · exact hd
    rcases List.mem_cons.1 hx with rfl | hx
    · exact hm
    · cases hx)
  clear U6 hd hm hD hb8
  obtain ⟨q, hq⟩ : ∃ q, q = kind % 250 := ⟨_, rfl⟩
  have t1 : (kind : Int).tmod 250 = (q : Int) := by rw [hq]; rfl
  have lq : q < 250 := by omega
  clear hq
  obtain ⟨x, hx⟩ : ∃ x : UInt8, (x.toNat : Int) = 3 + (q : Int) := ⟨UInt8.ofNat (3 + q), by rw [UInt8.toNat_ofNat']; omega⟩
  have hx3 : 3 ≤ x.toNat := by omega
  have HX := Lib.hid hx
  clear hx
  go_wp2_with fail
  refine calls_genP fun w9 hw9 => ?_
  have U9 := (U8.alloc #[.int .u8 (3 + (q : Int))] 5).same hw9
  clear hw9 U8
  have hr9 := rd_one (U9.blk 0 rfl) (n := 1) rfl
  rw [show (#[Value.int .u8 (3 + (q : Int))] : Array Value).toList = u8L [x] by rw [← HX.out]; rfl] at hr9
  have KR := refLay _ [x] w9 hr9 (by show 1 < 4294967296; decide)
  clear hr9
  (with_reducible refine KR.mono ?_)
  rintro e w10 ⟨v10, rfl, hown, hb10⟩
  have U10 := (U9.grow hb10).drop 0
  simp only [List.eraseIdx_cons_zero] at U10
  have hln : (layL [x]).length = 9 := by rw [layL_lenA]; rfl
  have KA : Calls Tryz.prog 18 #[.pointer (some ⟨d, 0, none⟩), .string ⟨#[108, 101, 100, 103, 101, 114]⟩, v10] w10 _ := diskAppendU d m [] nmL v10 (layL [x]) w10 (U10.disk 0 rfl) nmL_word.1 nmL_word.2 (.inr (by decide)) (rd_of_owns hown) (by show 0 + (layL [x]).length ≤ _; rw [hln]; decide)
  clear KR U9 hb10 hown
  go_wp2_with fail
  (with_reducible refine KA.mono ?_)
  rintro e w11 ⟨rfl, v', h11⟩
  have U11 := U10.turn 0 rfl h11
  simp only [List.eraseIdx_cons_zero] at U11
  clear KA h11 U10 hln
  go_wp2_with fail
  (with_reducible refine (crcNew w11).mono ?_)
  rintro e w12 ⟨rfl, hT, hb12⟩
  obtain ⟨b, hbb⟩ : ∃ b, b = w11.heap.size := ⟨_, rfl⟩
  rw [← hbb] at hT ⊢
  have hdl : d < w11.heap.size := U11.lt (List.mem_cons_self) (.head _)
  have hml : m < w11.heap.size := U11.lt (List.mem_cons_self) (.tail _ (.head _))
  have U12 := U11.add hb12 (chTb b) hT (fun y hy => by rw [List.mem_singleton.1 hy]; omega)
  have hDd := U12.disk 1 rfl
  have hPd : (chDT d m b [⟨nmL, v', layL [x], 0⟩]).P w12 := ⟨hT, hDd, by simp only [List.mem_cons, List.not_mem_nil, or_false]; omega⟩
  have U13 := U12.join (chDT d m b [⟨nmL, v', layL [x], 0⟩]) hPd (fun y hy => by
    rcases List.mem_cons.1 hy with rfl | hy
    · exact .inl (.head _)
    · exact .inr hy)
  have KO := lOpenKind d m b v' x 0 w12 hPd hx3
  clear U11 hb12 hT hbb hdl hml hDd hPd U12
  go_wp2_with fail
  (with_reducible refine KO.mono ?_)
  rintro e w14 ⟨rfl, h14⟩
  have HU := Lib.hid (U13.turn 0 rfl h14).below
  clear KO h14 U13
  go_wp2_with fail
  (with_reducible refine (lSyncNil _).mono ?_)
  rintro e w15 ⟨rfl, rfl⟩
  go_wp2_with fail
  (with_reducible refine (lHighNil origin _).mono ?_)
  rintro e w15 ⟨rfl, rfl⟩
  go_wp2_with fail
  (with_reducible refine (lLifeNil _).mono ?_)
  rintro e w15 ⟨rfl, rfl⟩
  go_wp2_with fail
  (with_reducible refine (lLastNil _).mono ?_)
  rintro e w15 ⟨rfl, rfl⟩
  go_wp2_with fail
  (with_reducible refine (lLenNil _).mono ?_)
  rintro e w15 ⟨rfl, rfl⟩
  go_wp2_with fail
  (with_reducible refine (lListNil _).mono ?_)
  rintro e w15 ⟨rfl, rfl⟩
  go_wp2_with fail
  (with_reducible refine (lOfNil origin _).mono ?_)
  rintro e w16 ⟨rfl, hb16⟩
  have HU2 := Lib.hid (HU.out.trans (hb16.mono HU.out.size))
  clear HU hb16
  have KW : ∀ w', Calls Tryz.prog 11 #[.slice none 0 0] w' fun e w'' => e = .returned (.bool true) ∧ Below w'.heap.size w' w'' := fun w' => ledWhole (.slice none 0 0) [] w' ⟨none, 0, rfl, rfl, Nat.le_refl _, by unfold maxLen; show 0 ≤ _; omega, fun h => absurd h (Nat.lt_irrefl 0)⟩ (fun _ h => nomatch h) (Nat.zero_le _)
  go_wp2_with fail
  (with_reducible refine (KW _).mono ?_)
  rintro e w17 ⟨rfl, hb17⟩
  have HU3 := Lib.hid (HU2.out.trans (hb17.mono HU2.out.size))
  clear HU2 hb17 KW
  go_wp2_with fail
  go_ret
  exact ⟨rfl, HU3.out⟩
end Go.Proofs.YtdmdfccadjfpiaaGreat
