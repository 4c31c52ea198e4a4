/-
  A Watch of one rule that waits for nothing, and at most one series: what Add and Tick make of it.
-/
import Derived.Test.YtgpojkofegajeaaGreatDoorWa9
namespace Go.Proofs.YtgpojkofegajeaaGreatDoor
open Go.RowKit
set_option maxRecDepth 100000

theorem stepZero (now : Nat) (h : Bool) (v : Int) (P : PhV) (hP : P.st = 0 ∨ P.st = 2) : (stepP 0 0 now h v P).st = (if h = true then 2 else 0) ∧ (h = true → (stepP 0 0 now h v P).val = v) := by
  obtain ⟨st, si, he, va⟩ := P
  dsimp only at hP
  cases h with
  | false => rcases hP with rfl | rfl <;> simp [stepP]
  | true => rcases hP with rfl | rfl <;> simp [stepP, PhV.hold, PhV.lift, PhV.fire]
/-- The rule. -/
def rW (nm me : ByteArray) (A1 : Option Addr) (q1 : Nat) (lim : Int) (tk pr : Nat) (A2 : Option Addr) (q2 : Nat) : RuV := ⟨nm, me, .slice A1 0 q1, [], 1, lim, tk, 0, 0, pr, .slice A2 0 q2, []⟩
/-- No series yet. -/
def WS0 (r : RuV) (b : Nat) (C : List Chunk) : Prop := ∃ rv ms mp mk, C = wParts b rv [r] ms [] (.slice none 0 0) [] mp [] mk []
/-- One series, its last number x, all by time k. -/
def WS1 (r : RuV) (b k : Nat) (x : Int) (C : List Chunk) : Prop := ∃ (rv : Value) (ms : Nat) (A3 : Option Addr) (c3 : Nat) (pv : Value) (pts : List (Nat × Int)) (kk : Nat) (pt : Nat × Int) (ov : Value) (mp : Nat) (ph : List ((Int × ByteArray) × Value)) (mk : Nat) (kn : List ((Int × ByteArray) × Value)) (P0 : PhV),
  C = wParts b rv [r] ms [(keyN r.me, .agg #[.slice A3 0 c3, pv])] ov [keyN r.me] mp ph mk kn ++ [chRow 140 2 pv pts.length (pts.flatMap ptC)] ∧ c3 ≤ maxLen ∧ pts.length = kk + 1 ∧ pts[kk]? = some pt ∧ pt.2 = x ∧ kk < 32 ∧ (∀ (j : Nat) (p : Nat × Int), pts[j]? = some p → p.1 ≤ k) ∧
  (findK ph alN).getD (.agg #[.int .u8 0, .int .u64 0, .int .u64 0, .int .i64 0]) = P0.agg ∧ (∀ v, putK ph alN v = [(alN, v)]) ∧ (∀ v, putK kn alN v = [(alN, v)]) ∧ (P0.st = 0 ∨ P0.st = 2)
section
variable (nm me : ByteArray) (A1 : Option Addr) (q1 : Nat) (lim : Int) (tk pr : Nat) (A2 : Option Addr) (q2 b now : Nat) (x : Int) (C : List Chunk) (w : World)
theorem wAddFirst (hC : WS0 (rW nm me A1 q1 lim tk pr A2 q2) b C) (hP : (chGrp C).P w) (hm : me.size ≤ maxLen) (hn : nameB me = true) (hnow : now ≤ 1099511627776) :
    Calls Tryz.prog 9 #[.pointer (some ⟨b, 0, none⟩), .int .u64 now, .agg #[.string me, .slice none 0 0, .int .i64 x]] w fun e w' => e = .returned (.int .i64 0) ∧ ∃ C', WS1 (rW nm me A1 q1 lim tk pr A2 q2) b now x C' ∧ Upd (chGrp C).fp w [chGrp C'] w' := by
  obtain ⟨rv, ms, mp, mk, rfl⟩ := hC
  refine (wAddNew me (.slice none 0 0) [] now x b rv _ ms [] (.slice none 0 0) [] mp [] mk [] w hP (rd_nilW w 2 none 0 (Nat.zero_le _)) hm (fun _ h => nomatch h) hn (by decide) (by decide) (by decide) rfl (by decide) (by decide) hnow).mono ?_
  rintro e w' ⟨rfl, lv', pv', ov', hu⟩
  obtain ⟨A3, c3, e3⟩ := owns_slice (hu.row 2 rfl)
  have hc3 : c3 ≤ maxLen := by
    obtain ⟨_, _, he, _, _, h, _⟩ := rd_of_owns (hu.row 2 rfl)
    rw [e3] at he
    cases he
    exact h
  subst e3
  refine ⟨rfl, wParts b rv [rW nm me A1 q1 lim tk pr A2 q2] ms [(keyN me, .agg #[.slice A3 0 c3, pv'])] ov' [keyN me] mp [] mk [] ++ [chRow 140 2 pv' 1 (ptC (now, x))], ⟨rv, ms, A3, c3, pv', [(now, x)], 0, (now, x), ov', mp, [], mk, [], ⟨0, 0, 0, 0⟩, rfl, hc3, rfl, rfl, rfl, by decide, ?_, rfl, fun _ => rfl, fun _ => rfl, .inl rfl⟩, ?_⟩
  · intro j p hp
    match j, hp with
    | 0, hp => simp at hp; rw [← hp]; exact Nat.le_refl _
    | j + 1, hp => simp at hp
  · have U := (hu.drop 2).ungrp
    exact Upd.grp (l := wParts b rv [rW nm me A1 q1 lim tk pr A2 q2] ms [(keyN me, .agg #[.slice A3 0 c3, pv'])] ov' [keyN me] mp [] mk [] ++ [chRow 140 2 pv' 1 (ptC (now, x))]) (C := []) U
theorem wTickW (k : Nat) (hC : WS1 (rW nm me A1 q1 lim tk pr A2 q2) b k x C) (hP : (chGrp C).P w) (hm : me.size ≤ maxLen) (hq1 : q1 ≤ maxLen) (hq2 : q2 ≤ maxLen) (hnow : now < 18446744073709551616) :
    Calls Tryz.prog 10 #[.pointer (some ⟨b, 0, none⟩), .int .u64 now] w fun e w' => ∃ v v2 va C', e = .returned v ∧ WS1 (rW nm me A1 q1 lim tk pr A2 q2) b k x C' ∧ ((decide (lim < x) = true) → va = x) ∧ Upd (chGrp C).fp w [chGrp C', chRow 50 5 v 1 [.string nm, v2, .bool (decide (lim < x)), .int .u8 pr, .int .i64 va]] w' := by
  obtain ⟨rv, ms, A3, c3, pv, pts, kk, pt, ov, mp, ph, mk, kn, P0, rfl, hc3, hl, hpt, rfl, hkk, hall, hp0, hp1, hk1, hst⟩ := hC
  refine (wTick1 nm me A1 q1 lim tk 0 0 pr A2 q2 b rv ms A3 c3 pv pts kk pt ov mp ph mk kn P0 now w hP hm hq1 hq2 hc3 hl hpt (by omega) hp0 hp1 hk1 hnow).mono ?_
  rintro e w' ⟨v, v2, kv, rfl, hu⟩
  obtain ⟨s1, s2⟩ := stepZero now (decide (lim < pt.2)) pt.2 P0 hst
  refine ⟨v, v2, _, _, rfl, ⟨rv, ms, A3, c3, pv, pts, kk, pt, ov, mp, [(alN, (stepP 0 0 now (decide (lim < pt.2)) pt.2 P0).agg)], mk, [(alN, kv)], stepP 0 0 now (decide (lim < pt.2)) pt.2 P0, rfl, hc3, hl, hpt, rfl, hkk, hall, rfl, fun _ => rfl, fun _ => rfl, ?_⟩, s2, ?_⟩
  · rw [s1]; split
    · exact .inr rfl
    · exact .inl rfl
  · have e : decide ((stepP 0 0 now (decide (lim < pt.2)) pt.2 P0).st = 2) = decide (lim < pt.2) := by
      rw [s1]
      cases decide (lim < pt.2) <;> rfl
    rw [e] at hu
    exact hu
end
end Go.Proofs.YtgpojkofegajeaaGreatDoor
