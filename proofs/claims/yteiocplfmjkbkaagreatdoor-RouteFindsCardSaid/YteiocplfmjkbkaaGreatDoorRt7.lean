/-
  match.Names and the reference's Names: an alert's labels, then rule and origin where it has none.
-/
import Derived.Test.YteiocplfmjkbkaaGreatDoorRt4
import Derived.Test.YteiocplfmjkbkaaGreatDoorRt6
import Derived.Test.YteiocplfmjkbkaaGreatDoorApp2
namespace Go.Proofs.YteiocplfmjkbkaaGreatDoor
open Go.RowKit
set_option maxRecDepth 100000
attribute [local go_sem] FreeSl.out

theorem wpl_append_copy {P : Program} {ops : Array Oper} {rest : List Oper} {o : Oper} {a : Act} {w : World} {Q : Exit → Act → World → Prop} (hgd : o.guard = none) (s x : Operand) (t : TypeId)
    (ho : o.op = .call { callee := .builtin .append, args := #[s, x], argTypes := #[t, t] })
    (base : Nat) (e : TypeId) (i : TypeInfo) (z : Value) (size bytes : Nat) (ht : P.underlying t = some (.slice e)) (hi : P.info? e = some i) (hz : i.zero = some z)
    (hsize : i.size = size) (hby : i.bytes = bytes) (hzs : z.cells.size = size) (hsz : 0 < size)
    (b : Nat) (hB : Blk w b #[] e) (hb : base ≤ b) (hs : a.eval s = .slice (some ⟨b, 0, none⟩) 0 0)
    (xv : Value) (m : Nat) (news : List Value) (hx : a.eval x = xv) (hr : Rd w size xv m news) (h63 : m ≤ maxLen) (hbytes : m * bytes ≤ 140737488355328)
    (h : ∀ v' w', w'.ownsRow base e size v' m news → Below w.heap.size w w' → wpList P ops Q rest (a.put o.dst v') w') : wpList P ops Q (o :: rest) a w :=
  wpList_plain hgd fun _ hK => wp_append_copy s x t ho base e i z size bytes ht hi hz hsize hby hzs hsz b hB hb hs xv m news hx hr h63 hbytes fun v' w' h2 h3 => hK _ _ (h v' w' h2 h3)
def ruleK : ByteArray := ⟨#[114, 117, 108, 101]⟩
def originK : ByteArray := ⟨#[111, 114, 105, 103, 105, 110]⟩
/-- An alert's names. -/
def namesL (ls : List Pr) (rule : ByteArray) (org : Nat) : List Pr := ls ++ (if (getL ls ruleK).2 = true then [] else [(ruleK, rule)]) ++ (if (getL ls originK).2 = true then [] else [(originK, decB org)])
theorem rd_pair {w : World} {g : Nat} {p : Pr} {t : TypeId} (h : Blk w g #[.string p.1, .string p.2] t) : Rd w 2 (.slice (some ⟨g, 0, none⟩) 1 1) 1 (pairCells [p]) := rd_oneR h (n := 2) rfl
/-- The reference's Names. -/
theorem refNames (org : Nat) (rule : ByteArray) (lv st sn pr vl : Value) (ls : List Pr) (w : World) (ho : org ≤ 9) (hl : ls.length ≤ 100) (hr : Rd w 2 lv ls.length (pairCells ls)) :
    Calls Tryz.prog 17 #[.agg #[.int .u8 org, .string rule, lv, st, sn, pr, vl]] w fun e w' => ∃ v, e = .returned v ∧ w'.ownsRow w.heap.size 71 2 v (namesL ls rule org).length (pairCells (namesL ls rule org)) ∧ Below w.heap.size w w' := by
  have U0 := (Upd.nil [] w).alloc #[.int .u8 org, .string rule, lv, st, sn, pr, vl] 37
  have KG := fun k w' (h : Below w.heap.size w w') => refGet lv ls k w' (hr.below h)
  have KI := fun w' => refItoa org w' (by omega)
  have HR := Lib.hid hr
  obtain ⟨i0, hi, hz0, hz1, hz2⟩ := info_parts infoPair
  clear hr
  have HN : namesL ls rule org = ls ++ (if (getL ls ruleK).2 = true then [] else [(ruleK, rule)]) ++ (if (getL ls originK).2 = true then [] else [(originK, decB org)]) := rfl
  rw [HN]
  have K1 := KG ruleK
  have K2 := KG originK
  obtain ⟨⟨g1, b1⟩, e1⟩ : ∃ y, y = getL ls ruleK := ⟨_, rfl⟩
  obtain ⟨⟨g2, b2⟩, e2⟩ : ∃ y, y = getL ls originK := ⟨_, rfl⟩
  rw [← e1] at K1 ⊢
  rw [← e2] at K2 ⊢
  clear HN KG e1 e2
  dsimp only at K1 K2 ⊢
  go_enter Tryz.func17, Tryz.ntmps17
  go_wp2_with (at_builtin; refine wpl_stop fun W hW => ?_)
  refine Stopped.mk ?_
  have U1 := (U0.alloc #[] 71).same hW
  have UZ := ((Upd.nil [] (w.alloc (.cells #[.int .u8 org, .string rule, lv, st, sn, pr, vl] 37))).alloc #[] 71).same hW
  rw [allocSzR] at U1
  clear hW
  refine wpl_append_copy rfl (.tmp 8) (.tmp 10) 33 rfl (w.heap.size + 1) 71 i0 _ 2 32 Tryz.underlying33 hi hz0 hz1 hz2 rfl (by decide) _ (U1.blk 0 rfl) (Nat.le_refl _) rfl _ _ _ rfl (HR.out.below U1.below) (by unfold maxLen; omega) (by omega) fun v2 w2 h2 h3 => ?_
  have U3 := U0.addRow (UZ.below.trans (h3.mono UZ.below.size)) h2 (by rw [allocSzR]; exact Nat.le_refl _)
  obtain ⟨A2, c2', rfl⟩ := owns_slice h2
  clear UZ h2 h3 U1
  dsimp only [ruleK, originK] at K1 K2
  have x0 := (U3.blk 1 rfl).cell (j := 0) (v := .int .u8 org) rfl
  have x1 := (U3.blk 1 rfl).cell (j := 1) (v := .string rule) rfl
  have x2 := (U3.blk 1 rfl).cell (j := 2) (v := lv) rfl
  go_wp2_with fail
  (with_reducible refine (K1 _ U3.below).mono ?_)
  rintro e w4 ⟨rfl, rfl⟩
  cases b1 with
  | true =>
    have x0 := (U3.blk 1 rfl).cell (j := 0) (v := .int .u8 org) rfl
    have x1 := (U3.blk 1 rfl).cell (j := 1) (v := .string rule) rfl
    have x2 := (U3.blk 1 rfl).cell (j := 2) (v := lv) rfl
    go_wp2_with fail
    (with_reducible refine (K2 _ U3.below).mono ?_)
    rintro e w6 ⟨rfl, rfl⟩
    cases b2 with
    | true =>
      go_wp2_with fail
      go_ret
      refine ⟨_, rfl, ?_, U3.below⟩
      have R := rowBaseR U3 0 rfl
      simpa [pairCells, ruleK, originK] using R
    | false =>
      go_wp2_with fail
      (with_reducible refine (KI _).mono ?_)
      rintro e w7 ⟨rfl, hb7⟩
      have U7 := U3.grow hb7
      go_wp2_with (at_builtin; refine wpl_stop fun W8 hW => ?_)
      refine Stopped.mk ?_
      have T8 := (U7.alloc #[.string ⟨#[111, 114, 105, 103, 105, 110]⟩, .string (decB org)] 71).same hW
      clear hW
      refine wpl_append_rd rfl (.tmp 34) (.tmp 40) 33 rfl 0 71 i0 _ 2 32 Tryz.underlying33 hi hz0 hz1 hz2 rfl (by decide) _ ls.length _ rfl (T8.row 1 rfl) _ 1 _ rfl (rd_oneR (T8.blk 0 rfl) (n := 2) rfl) (by intro u hu; simp at hu; rcases hu with rfl | rfl <;> rfl) (by unfold maxLen; omega) (by omega) (Nat.zero_le _) fun v8 w8 ho8 hg8 hv8 => ?_
      have V8 := T8.app 1 rfl ho8 hg8 hv8
      simp only [List.eraseIdx_cons_succ, List.eraseIdx_cons_zero] at V8
      obtain ⟨A8, c8', rfl⟩ := owns_slice ho8
      clear ho8 hg8 hv8 T8
      go_wp2_with fail
      go_ret
      refine ⟨_, rfl, ?_, V8.below⟩
      have R := rowBaseR V8 0 rfl
      simpa [pairCells, ruleK, originK] using R
  | false =>
    go_wp2_with (at_builtin; refine wpl_stop fun W5 hW => ?_)
    refine Stopped.mk ?_
    have T5 := (U3.alloc #[.string ⟨#[114, 117, 108, 101]⟩, .string rule] 71).same hW
    clear hW
    refine wpl_append_rd rfl (.tmp 20) (.tmp 24) 33 rfl 0 71 i0 _ 2 32 Tryz.underlying33 hi hz0 hz1 hz2 rfl (by decide) _ ls.length _ rfl (T5.row 1 rfl) _ 1 _ rfl (rd_oneR (T5.blk 0 rfl) (n := 2) rfl) (by intro u hu; simp at hu; rcases hu with rfl | rfl <;> rfl) (by unfold maxLen; omega) (by omega) (Nat.zero_le _) fun v5 w5 ho5 hg5 hv5 => ?_
    have V5 := T5.app 1 rfl ho5 hg5 hv5
    simp only [List.eraseIdx_cons_succ, List.eraseIdx_cons_zero] at V5
    obtain ⟨A5, c5', rfl⟩ := owns_slice ho5
    clear ho5 hg5 hv5 T5
    have x0 := (V5.blk 2 rfl).cell (j := 0) (v := .int .u8 org) rfl
    have x1 := (V5.blk 2 rfl).cell (j := 1) (v := .string rule) rfl
    have x2 := (V5.blk 2 rfl).cell (j := 2) (v := lv) rfl
    go_wp2_with fail
    (with_reducible refine (K2 _ V5.below).mono ?_)
    rintro e w6 ⟨rfl, rfl⟩
    cases b2 with
    | true =>
      go_wp2_with fail
      go_ret
      refine ⟨_, rfl, ?_, V5.below⟩
      have R := rowBaseR V5 0 rfl
      simpa [pairCells, ruleK, originK] using R
    | false =>
      go_wp2_with fail
      (with_reducible refine (KI _).mono ?_)
      rintro e w7 ⟨rfl, hb7⟩
      have U7 := V5.grow hb7
      go_wp2_with (at_builtin; refine wpl_stop fun W8 hW => ?_)
      refine Stopped.mk ?_
      have T8 := (U7.alloc #[.string ⟨#[111, 114, 105, 103, 105, 110]⟩, .string (decB org)] 71).same hW
      clear hW
      refine wpl_append_rd rfl (.tmp 34) (.tmp 40) 33 rfl 0 71 i0 _ 2 32 Tryz.underlying33 hi hz0 hz1 hz2 rfl (by decide) _ (ls.length + 1) _ rfl (T8.row 1 rfl) _ 1 _ rfl (rd_oneR (T8.blk 0 rfl) (n := 2) rfl) (by intro u hu; simp at hu; rcases hu with rfl | rfl <;> rfl) (by unfold maxLen; omega) (by omega) (Nat.zero_le _) fun v8 w8 ho8 hg8 hv8 => ?_
      have V8 := T8.app 1 rfl ho8 hg8 hv8
      simp only [List.eraseIdx_cons_succ, List.eraseIdx_cons_zero] at V8
      obtain ⟨A8, c8', rfl⟩ := owns_slice ho8
      clear ho8 hg8 hv8 T8
      go_wp2_with fail
      go_ret
      refine ⟨_, rfl, ?_, V8.below⟩
      have R := rowBaseR V8 0 rfl
      simpa [pairCells, ruleK, originK] using R
end Go.Proofs.YteiocplfmjkbkaaGreatDoor
