/-
  The walk of WatchNone.
-/
import Derived.Test.YtgpojkofegajeaaGreatDoorWaB
import Derived.Test.YtgpojkofegajeaaGreatDoorWaF
import Derived.Test.YtgpojkofegajeaaGreatDoorRuR
import Derived.Test.YtgpojkofegajeaaGreatDoorRuT
namespace Go.Proofs.YtgpojkofegajeaaGreatDoor
open Go.RowKit
set_option maxRecDepth 100000

theorem chkOne (r : RuV) : chkRs [r] = r.err := by
  unfold chkRs
  rw [if_neg (by simp)]
  simp [goL, hasN]
  intro h; exact h.symm
set_option maxHeartbeats 8000000 in
theorem watchNoneWalk (nm me : ByteArray) (A1 : Option Addr) (q1 : Nat) (ps1 : List Pr) (k : Nat) (lim : Int) (tk fo ke pr : Nat) (A2 : Option Addr) (q2 : Nat) (ps2 : List Pr) (now : Int) (mt : ByteArray) (v3 : Value) (ps3 : List Pr) (x : Int) (na : ByteArray) (mx : Int) (w : World)
    (hr : (RuV.mk nm me (.slice A1 ps1.length q1) ps1 k lim tk fo ke pr (.slice A2 ps2.length q2) ps2).ok w) (h3 : Rd w 2 v3 ps3.length (pairCells ps3)) (hz : ps3.length ≤ 12 → (textL ps3).length ≤ 140737488355328) (hm : w.cell? ⟨2, 0, none⟩ = some (.int .i64 mx)) (hT : Lib.TabIs Tryz.prog w "strings.asciiSpace" .u8 Lib.asciiSpaceTab) :
    Calls Tryz.prog 5 #[.agg #[.string nm, .string me, .slice A1 ps1.length q1, .int .u8 (k : Nat), .int .i64 lim, .int .u64 (tk : Nat), .int .u64 (fo : Nat), .int .u64 (ke : Nat), .int .u8 (pr : Nat), .slice A2 ps2.length q2], .int .u64 now, .agg #[.string mt, v3, .int .i64 x], .string na] w fun e w' => e = .returned (.bool true) ∧ Below w.heap.size w w' := by
  have htab : Tryz.prog.globalNamed "strings.asciiSpace" = some 0 := by kernel_rfl
  have KA := fun w' (hb : Below w.heap.size w w') (hc : w'.cell? ⟨2, 0, none⟩ = some (.int .i64 mx)) => awake16 mx w' hc (Joins.tab_stays htab hT hb (Nat.le_refl _))
  have HM := Lib.hid hm
  have hok := fun w' (hb : Below w.heap.size w w') => hr.below hb
  have hrk := hr.k
  have K6 := fun w' => law15Ref nm me A1 ps1.length q1 k lim tk fo ke pr A2 ps2.length q2 w' hrk
  have K7 := fun w' (hb : Below w.heap.size w w') => refRuCheckA nm me A1 ps1.length q1 ps1 k lim tk fo ke pr A2 ps2.length q2 ps2 w' hr.nm hr.me (hr.ir.below hb) hr.iz (hr.wr.below hb) hr.wz
  obtain ⟨A3, q3, rfl, _⟩ := id h3
  obtain ⟨er, her⟩ : ∃ x, x = chkR (nameB nm) (nameB me) (ownName nm) (chkL ps1) (chkL ps2) (chkC k lim tk) (chkW fo ke) pr := ⟨_, rfl⟩
  have hch : chkRs [(RuV.mk nm me (.slice A1 ps1.length q1) ps1 k lim tk fo ke pr (.slice A2 ps2.length q2) ps2)] = er := (chkOne _).trans her.symm
  rw [← her] at K7
  have h3b := fun w' (hb : Below w.heap.size w w') => h3.below hb
  obtain ⟨n1, e1⟩ : ∃ n, n = ps1.length := ⟨_, rfl⟩
  obtain ⟨n2, e2⟩ : ∃ n, n = ps2.length := ⟨_, rfl⟩
  obtain ⟨n3, e3⟩ : ∃ n, n = ps3.length := ⟨_, rfl⟩
  rw [← e1, ← e2] at hok K6 K7 hch ⊢
  rw [← e3] at h3b hz ⊢
  have E3 := Lib.hid e3
  have U0 := ((Upd.nil [] w).alloc #[.string nm, .string me, .slice A1 n1 q1, .int .u8 (k : Nat), .int .i64 lim, .int .u64 (tk : Nat), .int .u64 (fo : Nat), .int .u64 (ke : Nat), .int .u8 (pr : Nat), .slice A2 n2 q2] 32).alloc #[.string mt, .slice A3 n3 q3, .int .i64 x] 46
  rw [allocSzT] at U0
  clear hr h3 hm hT htab her e1 e2 e3 hrk
  go_enter Tryz.func5, Tryz.ntmps5
  go_wp2_with fail
  refine calls_genP fun w1 hw1 => ?_
  have U1 := U0.same hw1
  clear hw1 U0
  (with_reducible refine (KA w1 U1.below ((U1.below.cell (World.block_lt_of_cell? w _ HM.out)).trans HM.out)).mono ?_)
  rintro e w2 ⟨rfl, hb2⟩
  have U2 := U1.grow hb2
  clear U1 hb2 KA HM
  have c2 := (U2.blk 1 rfl).cell (j := 2) (v := .slice A1 n1 q1) rfl
  have c9 := (U2.blk 1 rfl).cell (j := 9) (v := .slice A2 n2 q2) rfl
  have s1 := (U2.blk 0 rfl).cell (j := 1) (v := .slice A3 n3 q3) rfl
  have early : ∀ b1 b2 b3 : Bool, (b1 || b2 || b3) = true → decide ((12 : Int) < n1) = b1 → decide ((12 : Int) < n2) = b2 → decide ((12 : Int) < n3) = b3 → True := fun _ _ _ _ _ _ _ => trivial
  clear early
  by_cases g1 : 12 < n1
  · have d1 : decide ((12 : Int) < n1) = true := by simp; omega
    have hB := U2.below
    clear hok K6 K7 h3b U2
    go_wp2_with fail
    go_ret
    exact ⟨rfl, hB⟩
  have d1 : decide ((12 : Int) < n1) = false := by simp; omega
  by_cases g2 : 12 < n2
  · have d2 : decide ((12 : Int) < n2) = true := by simp; omega
    have hB := U2.below
    clear hok K6 K7 h3b U2
    go_wp2_with fail
    go_ret
    exact ⟨rfl, hB⟩
  have d2 : decide ((12 : Int) < n2) = false := by simp; omega
  by_cases g3 : 12 < n3
  · have d3 : decide ((12 : Int) < n3) = true := by simp; omega
    have hB := U2.below
    clear hok K6 K7 h3b U2
    go_wp2_with fail
    go_ret
    exact ⟨rfl, hB⟩
  have d3 : decide ((12 : Int) < n3) = false := by simp; omega
  have hz := hz (by omega)
  go_wp2_with fail
  (with_reducible refine (wPhaseNil na A3 n3 q3 _).mono ?_)
  rintro e w3 ⟨rfl, hb3⟩
  have U3 := (U2.grow hb3).alloc #[.int .u8 0, .int .u64 0, .int .u64 0, .int .i64 0] 58
  clear U2 hb3 c2 c9 s1
  have y0 := (U3.blk 2 rfl).cell (j := 0) (v := .string nm) rfl
  have y1 := (U3.blk 2 rfl).cell (j := 1) (v := .string me) rfl
  have y2 := (U3.blk 2 rfl).cell (j := 2) (v := .slice A1 n1 q1) rfl
  have y3 := (U3.blk 2 rfl).cell (j := 3) (v := .int .u8 (k : Nat)) rfl
  have y4 := (U3.blk 2 rfl).cell (j := 4) (v := .int .i64 lim) rfl
  have y5 := (U3.blk 2 rfl).cell (j := 5) (v := .int .u64 (tk : Nat)) rfl
  have y6 := (U3.blk 2 rfl).cell (j := 6) (v := .int .u64 (fo : Nat)) rfl
  have y7 := (U3.blk 2 rfl).cell (j := 7) (v := .int .u64 (ke : Nat)) rfl
  have y8 := (U3.blk 2 rfl).cell (j := 8) (v := .int .u8 (pr : Nat)) rfl
  have y9 := (U3.blk 2 rfl).cell (j := 9) (v := .slice A2 n2 q2) rfl
  go_wp2_with fail
  (with_reducible refine (wCountsNil _).mono ?_)
  rintro e w4 ⟨rfl, rfl⟩
  go_wp2_with fail
  refine calls_genP fun w5 hw5 => ?_
  have U5 := (U3.alloc #[.string nm, .string me, .slice A1 n1 q1, .int .u8 (k : Nat), .int .i64 lim, .int .u64 (tk : Nat), .int .u64 (fo : Nat), .int .u64 (ke : Nat), .int .u8 (pr : Nat), .slice A2 n2 q2] 32).same hw5
  clear hw5 U3 y0 y1 y2 y3 y4 y5 y6 y7 y8 y9
  simp only [World.size_alloc] at U5
  have hok5 : ∀ r ∈ [(RuV.mk nm me (.slice A1 n1 q1) ps1 k lim tk fo ke pr (.slice A2 n2 q2) ps2)], r.ok w5 := fun r hr => by
    rw [List.mem_singleton.1 hr]
    exact hok w5 U5.below
  by_cases her0 : er = 0
  · subst her0
    have KN := wNew_ok _ [(RuV.mk nm me (.slice A1 n1 q1) ps1 k lim tk fo ke pr (.slice A2 n2 q2) ps2)] w5 (rd_oneW (U5.blk 0 rfl) (n := 10) rfl) hok5 hch (by simp)
    (with_reducible refine KN.mono ?_)
    rintro e w6 ⟨b6, rv6, ms6, mp6, mk6, rfl, hu6⟩
    have U6 := U5.grow hu6.below
    clear KN hu6 U5 hok5 hok hch
    have y0 := (U6.blk 3 rfl).cell (j := 0) (v := .string nm) rfl
    have y1 := (U6.blk 3 rfl).cell (j := 1) (v := .string me) rfl
    have y2 := (U6.blk 3 rfl).cell (j := 2) (v := .slice A1 n1 q1) rfl
    have y3 := (U6.blk 3 rfl).cell (j := 3) (v := .int .u8 (k : Nat)) rfl
    have y4 := (U6.blk 3 rfl).cell (j := 4) (v := .int .i64 lim) rfl
    have y5 := (U6.blk 3 rfl).cell (j := 5) (v := .int .u64 (tk : Nat)) rfl
    have y6 := (U6.blk 3 rfl).cell (j := 6) (v := .int .u64 (fo : Nat)) rfl
    have y7 := (U6.blk 3 rfl).cell (j := 7) (v := .int .u64 (ke : Nat)) rfl
    have y8 := (U6.blk 3 rfl).cell (j := 8) (v := .int .u8 (pr : Nat)) rfl
    have y9 := (U6.blk 3 rfl).cell (j := 9) (v := .slice A2 n2 q2) rfl
    go_wp2_with fail
    (with_reducible refine (K6 _).mono ?_)
    rintro e w7 ⟨rfl, hb7⟩
    have U7 := U6.grow hb7
    clear hb7 U6 K6 y0 y1 y2 y3 y4 y5 y6 y7 y8 y9
    go_wp2_with fail
    (with_reducible refine (K7 _ U7.below).mono ?_)
    rintro e w8 ⟨rfl, hb8⟩
    have U8 := U7.grow hb8
    clear hb8 U7 K7
    have KN2 : Calls Tryz.prog 8 #[.slice none 0 0, .slice none 0 0] w8 fun e w' => ∃ b rv ms mp mk, e = .returned (.tuple #[.pointer (some ⟨b, 0, none⟩), .int .i64 0]) ∧ Upd [] w8 (wParts b rv [] ms [] (.slice none 0 0) [] mp [] mk []) w' :=
      wNew_ok (.slice none 0 0) [] w8 (rd_nilW _ _ _ _ (Nat.zero_le _)) (fun _ h => nomatch h) (by decide) (by decide)
    go_wp2_with fail
    (with_reducible refine KN2.mono ?_)
    rintro e w9 ⟨b9, rv9, ms9, mp9, mk9, rfl, hu9⟩
    have U9 := U8.grow hu9.below
    obtain ⟨Ar, rc, er9⟩ := owns_slice (hu9.row 1 rfl)
    have hB9 := hu9.blk 0 rfl
    rw [er9] at hB9
    have KP := wPhaseNone b9 Ar rc ms9 (.slice none 0 0) mp9 mk9 na (.slice A3 n3 q3) ps3 w9 hB9 (hu9.map 4 rfl) (hu9.map 5 rfl) (by have := h3b w9 U9.below; rw [E3.out] at this ⊢; exact this) hz
    have s1 := (U9.blk 2 rfl).cell (j := 1) (v := .slice A3 n3 q3) rfl
    clear KN2 hu9 er9 hB9 U8 hz h3b
    go_wp2_with fail
    (with_reducible refine KP.mono ?_)
    rintro e w10 ⟨rfl, hb10⟩
    have U10 := (U9.grow hb10).alloc #[.int .u8 0, .int .u64 0, .int .u64 0, .int .i64 0] 58
    clear KP hb10 U9 s1
    have s0 := (U10.blk 3 rfl).cell (j := 0) (v := .string mt) rfl
    have s1 := (U10.blk 3 rfl).cell (j := 1) (v := .slice A3 n3 q3) rfl
    have s2 := (U10.blk 3 rfl).cell (j := 2) (v := .int .i64 x) rfl
    go_wp2_with fail
    refine calls_genP fun w11 hw11 => ?_
    have U11 := U10.same hw11
    clear hw11 U10 s0 s1 s2
    (with_reducible refine (wAddNil now mt (.slice A3 n3 q3) x w11).mono ?_)
    rintro e w12 ⟨rfl, hb12⟩
    have U12 := U11.grow hb12
    clear hb12 U11
    go_wp2_with fail
    (with_reducible refine (wTickNil now w12).mono ?_)
    rintro e w13 ⟨rfl, rfl⟩
    have hB := U12.below
    clear U12
    go_wp2_with fail
    go_ret
    exact ⟨rfl, hB⟩
  · skip
    have KN := wNew_bad _ [(RuV.mk nm me (.slice A1 n1 q1) ps1 k lim tk fo ke pr (.slice A2 n2 q2) ps2)] w5 (rd_oneW (U5.blk 0 rfl) (n := 10) rfl) hok5 (by rw [hch]; exact her0)
    rw [hch] at KN
    have f1 : ((er : Int) == 0) = false := by simpa using her0
    (with_reducible refine KN.mono ?_)
    rintro e w6 ⟨rfl, hb6⟩
    have U6 := U5.grow hb6
    clear KN hb6 U5 hok5 hok hch
    have y0 := (U6.blk 3 rfl).cell (j := 0) (v := .string nm) rfl
    have y1 := (U6.blk 3 rfl).cell (j := 1) (v := .string me) rfl
    have y2 := (U6.blk 3 rfl).cell (j := 2) (v := .slice A1 n1 q1) rfl
    have y3 := (U6.blk 3 rfl).cell (j := 3) (v := .int .u8 (k : Nat)) rfl
    have y4 := (U6.blk 3 rfl).cell (j := 4) (v := .int .i64 lim) rfl
    have y5 := (U6.blk 3 rfl).cell (j := 5) (v := .int .u64 (tk : Nat)) rfl
    have y6 := (U6.blk 3 rfl).cell (j := 6) (v := .int .u64 (fo : Nat)) rfl
    have y7 := (U6.blk 3 rfl).cell (j := 7) (v := .int .u64 (ke : Nat)) rfl
    have y8 := (U6.blk 3 rfl).cell (j := 8) (v := .int .u8 (pr : Nat)) rfl
    have y9 := (U6.blk 3 rfl).cell (j := 9) (v := .slice A2 n2 q2) rfl
    go_wp2_with fail
    (with_reducible refine (K6 _).mono ?_)
    rintro e w7 ⟨rfl, hb7⟩
    have U7 := U6.grow hb7
    clear hb7 U6 K6 y0 y1 y2 y3 y4 y5 y6 y7 y8 y9
    go_wp2_with fail
    (with_reducible refine (K7 _ U7.below).mono ?_)
    rintro e w8 ⟨rfl, hb8⟩
    have U8 := U7.grow hb8
    clear hb8 U7 K7
    have KN2 : Calls Tryz.prog 8 #[.slice none 0 0, .slice none 0 0] w8 fun e w' => ∃ b rv ms mp mk, e = .returned (.tuple #[.pointer (some ⟨b, 0, none⟩), .int .i64 0]) ∧ Upd [] w8 (wParts b rv [] ms [] (.slice none 0 0) [] mp [] mk []) w' :=
      wNew_ok (.slice none 0 0) [] w8 (rd_nilW _ _ _ _ (Nat.zero_le _)) (fun _ h => nomatch h) (by decide) (by decide)
    go_wp2_with fail
    (with_reducible refine KN2.mono ?_)
    rintro e w9 ⟨b9, rv9, ms9, mp9, mk9, rfl, hu9⟩
    have U9 := U8.grow hu9.below
    obtain ⟨Ar, rc, er9⟩ := owns_slice (hu9.row 1 rfl)
    have hB9 := hu9.blk 0 rfl
    rw [er9] at hB9
    have KP := wPhaseNone b9 Ar rc ms9 (.slice none 0 0) mp9 mk9 na (.slice A3 n3 q3) ps3 w9 hB9 (hu9.map 4 rfl) (hu9.map 5 rfl) (by have := h3b w9 U9.below; rw [E3.out] at this ⊢; exact this) hz
    have s1 := (U9.blk 2 rfl).cell (j := 1) (v := .slice A3 n3 q3) rfl
    clear KN2 hu9 er9 hB9 U8 hz h3b
    go_wp2_with fail
    (with_reducible refine KP.mono ?_)
    rintro e w10 ⟨rfl, hb10⟩
    have U10 := (U9.grow hb10).alloc #[.int .u8 0, .int .u64 0, .int .u64 0, .int .i64 0] 58
    clear KP hb10 U9 s1
    have s0 := (U10.blk 3 rfl).cell (j := 0) (v := .string mt) rfl
    have s1 := (U10.blk 3 rfl).cell (j := 1) (v := .slice A3 n3 q3) rfl
    have s2 := (U10.blk 3 rfl).cell (j := 2) (v := .int .i64 x) rfl
    go_wp2_with fail
    refine calls_genP fun w11 hw11 => ?_
    have U11 := U10.same hw11
    clear hw11 U10 s0 s1 s2
    (with_reducible refine (wAddNil now mt (.slice A3 n3 q3) x w11).mono ?_)
    rintro e w12 ⟨rfl, hb12⟩
    have U12 := U11.grow hb12
    clear hb12 U11
    go_wp2_with fail
    (with_reducible refine (wTickNil now w12).mono ?_)
    rintro e w13 ⟨rfl, rfl⟩
    have hB := U12.below
    clear U12
    go_wp2_with fail
    go_ret
    exact ⟨rfl, hB⟩
end Go.Proofs.YtgpojkofegajeaaGreatDoor
