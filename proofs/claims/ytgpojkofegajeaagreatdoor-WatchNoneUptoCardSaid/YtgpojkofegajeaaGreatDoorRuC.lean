/-
  rules.Rule.Check.
-/
import Derived.Test.YtgpojkofegajeaaGreatDoorRuA
namespace Go.Proofs.YtgpojkofegajeaaGreatDoor
open Go.RowKit
set_option maxRecDepth 100000

theorem allocSzC (w : World) (o : Obj) : (w.alloc o).heap.size = w.heap.size + 1 := by show (w.heap.push _).size = _; exact Array.size_push _
def chkR (n1 n2 ow : Bool) (e1 e2 e3 e4 pr : Nat) : Nat :=
  if n1 = false ∨ n2 = false then 8 else if ow = true then 27 else if e1 ≠ 0 then e1 else if e2 ≠ 0 then e2 else if e3 ≠ 0 then e3 else if e4 ≠ 0 then e4 else if 7 < pr then 6 else 0
/-- What is wrong with a rule. -/
def RuV.err (r : RuV) : Nat := chkR (nameB r.nm) (nameB r.me) (ownName r.nm) (chkL r.ips) (chkL r.wps) (chkC r.k r.lim r.tk) (chkW r.fo r.ke) r.pr
set_option maxHeartbeats 4000000 in
theorem ruCheckA (nm me : ByteArray) (A1 : Option Addr) (m1 q1 : Nat) (ps1 : List Pr) (k : Nat) (lim : Int) (tk fo ke pr : Nat) (A2 : Option Addr) (m2 q2 : Nat) (ps2 : List Pr) (w : World)
    (hnm : nm.size ≤ maxLen) (hme : me.size ≤ maxLen) (hr1 : Rd w 2 (.slice A1 m1 q1) ps1.length (pairCells ps1)) (hz1 : ∀ p ∈ ps1, p.1.size ≤ maxLen ∧ p.2.size ≤ maxLen)
    (hr2 : Rd w 2 (.slice A2 m2 q2) ps2.length (pairCells ps2)) (hz2 : ∀ p ∈ ps2, p.1.size ≤ maxLen ∧ p.2.size ≤ maxLen) (hk : k < 256) :
    Calls Tryz.prog 45 #[.agg #[.string nm, .string me, .slice A1 m1 q1, .int .u8 k, .int .i64 lim, .int .u64 tk, .int .u64 fo, .int .u64 ke, .int .u8 pr, .slice A2 m2 q2]] w fun e w' => e = .returned (.int .i64 (chkR (nameB nm) (nameB me) (ownName nm) (chkL ps1) (chkL ps2) (chkC k lim tk) (chkW fo ke) pr : Nat)) ∧ Below w.heap.size w w' := by
  have N1 := fun w' => lName nm w' hnm
  have N2 := fun w' => lName me w' hme
  have O := fun w' => itOwn nm w' hnm
  have L1 := fun w' (hb : Below w.heap.size w w') => lCheck (.slice A1 m1 q1) ps1 w' (hr1.below hb) hz1
  have L2 := fun w' (hb : Below w.heap.size w w') => lCheck (.slice A2 m2 q2) ps2 w' (hr2.below hb) hz2
  have CC := fun w' => condCheck k lim tk w' hk
  have WW := fun w' => waitsCheck fo ke w'
  obtain ⟨n1, h1⟩ : ∃ x, x = nameB nm := ⟨_, rfl⟩
  obtain ⟨n2, h2⟩ : ∃ x, x = nameB me := ⟨_, rfl⟩
  obtain ⟨ow, h3⟩ : ∃ x, x = ownName nm := ⟨_, rfl⟩
  obtain ⟨e1, h4⟩ : ∃ x, x = chkL ps1 := ⟨_, rfl⟩
  obtain ⟨e2, h5⟩ : ∃ x, x = chkL ps2 := ⟨_, rfl⟩
  obtain ⟨e3, h6⟩ : ∃ x, x = chkC k lim tk := ⟨_, rfl⟩
  obtain ⟨e4, h7⟩ : ∃ x, x = chkW fo ke := ⟨_, rfl⟩
  rw [← h1] at N1 ⊢
  rw [← h2] at N2 ⊢
  rw [← h3] at O ⊢
  rw [← h4] at L1 ⊢
  rw [← h5] at L2 ⊢
  rw [← h6] at CC ⊢
  rw [← h7] at WW ⊢
  clear h1 h2 h3 h4 h5 h6 h7 hr1 hr2 hz1 hz2 hk hnm hme
  have U0 := (Upd.nil [] w).alloc #[.string nm, .string me, .slice A1 m1 q1, .int .u8 k, .int .i64 lim, .int .u64 tk, .int .u64 fo, .int .u64 ke, .int .u8 pr, .slice A2 m2 q2] 32
  cases n1 with
  | false =>
    have E := Lib.hid (show chkR false n2 ow e1 e2 e3 e4 pr = 8 by simp [chkR])
    go_enter Tryz.func45, Tryz.ntmps45
    go_wp2_with fail
    refine calls_genP fun w1 hw1 => ?_
    have U1 := U0.same hw1
    clear hw1
    (with_reducible refine (N1 _).mono ?_)
    rintro e w2 ⟨rfl, hb2⟩
    have U2 := (U1.grow hb2).below
    go_wp2_with fail
    go_ret
    exact ⟨by rw [E.out]; rfl, U2⟩
  | true =>
  cases n2 with
  | false =>
    have E := Lib.hid (show chkR true false ow e1 e2 e3 e4 pr = 8 by simp [chkR])
    go_enter Tryz.func45, Tryz.ntmps45
    go_wp2_with fail
    refine calls_genP fun w1 hw1 => ?_
    have U1 := U0.same hw1
    clear hw1 U0
    (with_reducible refine (N1 _).mono ?_)
    rintro e w2 ⟨rfl, hb2⟩
    have U2 := U1.grow hb2
    have c1 := (U2.blk 0 rfl).cell (j := 1) (v := .string me) rfl
    clear U1 hb2 N1
    go_wp2_with fail
    (with_reducible refine (N2 _).mono ?_)
    rintro e w3 ⟨rfl, hb3⟩
    have U3 := U2.grow hb3
    clear U2 hb3 N2 c1
    go_wp2_with fail
    go_ret
    exact ⟨by rw [E.out]; rfl, U3.below⟩
  | true =>
  cases ow with
  | true =>
    have E := Lib.hid (show chkR true true true e1 e2 e3 e4 pr = 27 by simp [chkR])
    go_enter Tryz.func45, Tryz.ntmps45
    go_wp2_with fail
    refine calls_genP fun w1 hw1 => ?_
    have U1 := U0.same hw1
    clear hw1 U0
    (with_reducible refine (N1 _).mono ?_)
    rintro e w2 ⟨rfl, hb2⟩
    have U2 := U1.grow hb2
    have c1 := (U2.blk 0 rfl).cell (j := 1) (v := .string me) rfl
    clear U1 hb2 N1
    go_wp2_with fail
    (with_reducible refine (N2 _).mono ?_)
    rintro e w3 ⟨rfl, hb3⟩
    have U3 := U2.grow hb3
    clear U2 hb3 N2 c1
    have c0 := (U3.blk 0 rfl).cell (j := 0) (v := .string nm) rfl
    go_wp2_with fail
    (with_reducible refine (O _).mono ?_)
    rintro e w4 ⟨rfl, rfl⟩
    go_wp2_with fail
    go_ret
    exact ⟨by rw [E.out]; rfl, U3.below⟩
  | false =>
  have E := Lib.hid (show chkR true true false e1 e2 e3 e4 pr = if e1 ≠ 0 then e1 else if e2 ≠ 0 then e2 else if e3 ≠ 0 then e3 else if e4 ≠ 0 then e4 else if 7 < pr then 6 else 0 by simp [chkR])
  go_enter Tryz.func45, Tryz.ntmps45
  go_wp2_with fail
  refine calls_genP fun w1 hw1 => ?_
  have U1 := U0.same hw1
  clear hw1 U0
  (with_reducible refine (N1 _).mono ?_)
  rintro e w2 ⟨rfl, hb2⟩
  have U2 := U1.grow hb2
  have c1 := (U2.blk 0 rfl).cell (j := 1) (v := .string me) rfl
  clear U1 hb2 N1
  go_wp2_with fail
  (with_reducible refine (N2 _).mono ?_)
  rintro e w3 ⟨rfl, hb3⟩
  have U3 := U2.grow hb3
  clear U2 hb3 N2 c1
  have c0 := (U3.blk 0 rfl).cell (j := 0) (v := .string nm) rfl
  go_wp2_with fail
  (with_reducible refine (O _).mono ?_)
  rintro e w4 ⟨rfl, rfl⟩
  have c2 := (U3.blk 0 rfl).cell (j := 2) (v := .slice A1 m1 q1) rfl
  have c9 := (U3.blk 0 rfl).cell (j := 9) (v := .slice A2 m2 q2) rfl
  have UB := U3.alloc #[.slice A1 m1 q1, .slice A2 m2 q2] 24
  obtain ⟨bs, hbs⟩ : ∃ b, b = w4.heap.size := ⟨_, rfl⟩
  rw [← hbs] at UB
  clear U3 c0 O
  go_wp2_with fail
  rw [← hbs]
  go_loopw [27] (fun i wr => ∃ j : Nat, j ≤ 2 ∧ i = .int .i64 j ∧ (1 ≤ j → e1 = 0) ∧ (2 ≤ j → e2 = 0) ∧ Upd [] w [chBlk bs #[.slice A1 m1 q1, .slice A2 m2 q2] 24, chBlk w.heap.size #[.string nm, .string me, .slice A1 m1 q1, .int .u8 k, .int .i64 lim, .int .u64 tk, .int .u64 fo, .int .u64 ke, .int .u8 pr, .slice A2 m2 q2] 32] wr) (fun i _ => 2 - (intOf i).toNat)
  case atStart => exact ⟨0, by omega, rfl, fun h => absurd h (by omega), fun h => absurd h (by omega), UB⟩
  case round =>
    clear UB hbs c2 c9
    obtain ⟨j, hj, rfl, g1, g2, UW⟩ := hrel
    have hjc : j = 0 ∨ j = 1 ∨ j = 2 := by omega
    have s0 := (UW.blk 0 rfl).cell (j := 0) (v := .slice A1 m1 q1) rfl
    have s1 := (UW.blk 0 rfl).cell (j := 1) (v := .slice A2 m2 q2) rfl
    rcases hjc with rfl | rfl | rfl
    · have K := L1 _ UW.below
      clear g1 g2
      by_cases z : e1 = 0
      · subst z
        go_wp2_with fail
        (with_reducible refine K.mono ?_)
        rintro e w5 ⟨rfl, hb5⟩
        have U5 := UW.grow hb5
        clear UW hb5 K
        go_wp2_with fail
        go_roundw
        case rel => exact ⟨1, by omega, by go_num, by first | exact fun _ => rfl | trivial, fun h => absurd h (by omega), U5⟩
        case measure => simp [intOf]
      · have zf : ((e1 : Int) == 0) = false := by simp; omega
        have Z := Lib.hid z
        clear z
        go_wp2_with fail
        (with_reducible refine K.mono ?_)
        rintro e w5 ⟨rfl, hb5⟩
        have U5 := UW.grow hb5
        clear UW hb5 K
        have E2 := Lib.hid (E.out.trans (if_pos Z.out))
        go_wp2_with fail
        go_ret
        exact ⟨by rw [E2.out]; rfl, U5.below⟩
    · have K := L2 _ UW.below
      have g0 := g1 (by omega)
      clear g1 g2
      by_cases z : e2 = 0
      · subst z
        go_wp2_with fail
        (with_reducible refine K.mono ?_)
        rintro e w5 ⟨rfl, hb5⟩
        have U5 := UW.grow hb5
        clear UW hb5 K
        go_wp2_with fail
        go_roundw
        case rel => exact ⟨2, by omega, by go_num, fun _ => g0, by first | exact fun _ => rfl | trivial, U5⟩
        case measure => simp [intOf]
      · have zf : ((e2 : Int) == 0) = false := by simp; omega
        have Z := Lib.hid z
        have G := Lib.hid g0
        clear g0
        clear z
        go_wp2_with fail
        (with_reducible refine K.mono ?_)
        rintro e w5 ⟨rfl, hb5⟩
        have U5 := UW.grow hb5
        clear UW hb5 K
        have E2 := Lib.hid (E.out.trans ((if_neg (by rw [G.out]; simp)).trans (if_pos Z.out)))
        go_wp2_with fail
        go_ret
        exact ⟨by rw [E2.out]; rfl, U5.below⟩
    · have g0 := g1 (by omega)
      have g9 := g2 (by omega)
      subst g0 g9
      clear s0 s1 g1 g2 L1 L2 hj
      have c3 := (UW.blk 1 rfl).cell (j := 3) (v := .int .u8 k) rfl
      have c4 := (UW.blk 1 rfl).cell (j := 4) (v := .int .i64 lim) rfl
      have c5 := (UW.blk 1 rfl).cell (j := 5) (v := .int .u64 tk) rfl
      have K := CC wr
      by_cases z3 : e3 = 0
      · subst z3
        go_wp2_with fail
        (with_reducible refine K.mono ?_)
        rintro e w6 ⟨rfl, hb6⟩
        have U6 := UW.grow hb6
        clear UW hb6 K CC c3 c4 c5
        have c6 := (U6.blk 1 rfl).cell (j := 6) (v := .int .u64 fo) rfl
        have c7 := (U6.blk 1 rfl).cell (j := 7) (v := .int .u64 ke) rfl
        have K := WW w6
        by_cases z4 : e4 = 0
        · subst z4
          go_wp2_with fail
          (with_reducible refine K.mono ?_)
          rintro e w7 ⟨rfl, hb7⟩
          have U7 := U6.grow hb7
          clear U6 hb7 K WW c6 c7
          have c8 := (U7.blk 1 rfl).cell (j := 8) (v := .int .u8 pr) rfl
          by_cases z5 : 7 < pr
          · have d : decide ((7 : Int) < (pr : Int)) = true := by simp; omega
            have E2 := Lib.hid (E.out.trans (show _ = 6 by simp [z5]))
            clear z5 E
            go_wp2_with fail
            go_ret
            exact ⟨by rw [E2.out]; rfl, U7.below⟩
          · have d : decide ((7 : Int) < (pr : Int)) = false := by simp; omega
            have E2 := Lib.hid (E.out.trans (show _ = 0 by simp [z5]))
            clear z5 E
            go_wp2_with fail
            go_ret
            exact ⟨by rw [E2.out]; rfl, U7.below⟩
        · have zf : ((e4 : Int) == 0) = false := by simp; omega
          have E2 := Lib.hid (E.out.trans (show _ = e4 by simp [z4]))
          clear z4 E
          go_wp2_with fail
          (with_reducible refine K.mono ?_)
          rintro e w7 ⟨rfl, hb7⟩
          have U7 := U6.grow hb7
          clear U6 hb7 K WW c6 c7
          go_wp2_with fail
          go_ret
          exact ⟨by rw [E2.out]; rfl, U7.below⟩
      · have zf : ((e3 : Int) == 0) = false := by simp; omega
        have E2 := Lib.hid (E.out.trans (show _ = e3 by simp [z3]))
        clear z3 E
        go_wp2_with fail
        (with_reducible refine K.mono ?_)
        rintro e w6 ⟨rfl, hb6⟩
        have U6 := UW.grow hb6
        clear UW hb6 K CC c3 c4 c5
        go_wp2_with fail
        go_ret
        exact ⟨by rw [E2.out]; rfl, U6.below⟩
end Go.Proofs.YtgpojkofegajeaaGreatDoor
