/-
  A world in which only one block was written, and memory made. Lists of questions of small numbers (watchfirelaw17.Asks).
-/
import Derived.Test.YteiocplfmjkbkaaGreatDoorRAsk
import Derived.Test.YteiocplfmjkbkaaGreatDoorMg3
import Derived.Test.YteiocplfmjkbkaaGreatDoorSt
import Derived.Test.YteiocplfmjkbkaaGreatDoorMem
namespace Go.Proofs.YteiocplfmjkbkaaGreatDoor
open Go.RowKit FreeOrd
set_option maxRecDepth 100000
attribute [local go_sem] out

theorem take_snoc {α : Type} {l : List α} {k : Nat} {a : α} (h : l[k]? = some a) : l.take (k + 1) = l.take k ++ [a] := by
  rw [List.take_add_one, h]; rfl
def ask3 (t : Nat × Nat × Nat) : List Value := [.int .u8 (t.1 : Nat), .int .u8 (t.2.1 : Nat), .int .u8 (t.2.2 : Nat)]
def askV (t : Nat × Nat × Nat) : List Value := [.string (askKeyB t.1), .int .u8 (1 + t.2.1 % 5 : Nat), .string (if 3 ≤ t.2.1 % 5 then ⟨#[]⟩ else askValB t.2.2)]
def smallCells (l : List (Nat × Nat × Nat)) : List Value := l.flatMap ask3
def askCells (l : List (Nat × Nat × Nat)) : List Value := l.flatMap askV
theorem infoAsk : (Tryz.prog.info? 68).map (fun i => (i.zero, i.size, i.bytes)) = some (some (.agg #[.string ⟨#[]⟩, .int .u8 0, .string ⟨#[]⟩]), 3, 40) := by kernel_rfl

theorem smallAsks (v : Value) (l : List (Nat × Nat × Nat)) (m : Nat) (w : World) (hr : Rd w 3 v l.length (smallCells l)) (hm : m ≤ 1048576) :
    Calls Tryz.prog 22 #[v, .int .i64 m] w fun e w' => ∃ v', e = .returned v' ∧ w'.ownsRow w.heap.size 68 3 v' (l.take m).length (askCells (l.take m)) ∧ Below w.heap.size w w' := by
  obtain ⟨A, c, rfl, h1, h2, h3, h4⟩ := hr
  unfold maxLen at h3
  obtain ⟨i0, hi, hz0, hz1, hz2⟩ := info_parts infoAsk
  go_enter Tryz.func22, Tryz.ntmps22
  go_wp2_with fail
  go_loopw [5, 10] (fun v i wr => ∃ k : Nat, k ≤ l.length ∧ i = .int .i64 k ∧ wr.ownsRow w.heap.size 68 3 v ((l.take k).take m).length (askCells ((l.take k).take m)) ∧ Below w.heap.size w wr) (fun _ i _ => l.length - (intOf i).toNat)
  case atStart => exact ⟨0, Nat.zero_le _, rfl, by simpa [askCells] using World.ownsRow_nil _ _ _ _, Below.refl _ _⟩
  case round =>
    obtain ⟨k, hk, rfl, hv, hB⟩ := hrel
    by_cases hlt : k < l.length
    · obtain ⟨t, ht⟩ : ∃ t, l[k]? = some t := ⟨_, List.getElem?_eq_getElem hlt⟩
      obtain ⟨b, o, rfl, hat⟩ := h4 (by omega)
      have c0 := hat.nth0 hB (k * 3) _ (by have := flat_at ask3 3 (fun _ => rfl) l k t ht 0 (by omega); simpa [ask3, smallCells] using this)
      have c1 := hat.nth hB (k * 3) 1 _ (by have := flat_at ask3 3 (fun _ => rfl) l k t ht 1 (by omega); simpa [ask3, smallCells] using this)
      have c2 := hat.nth hB (k * 3) 2 _ (by have := flat_at ask3 3 (fun _ => rfl) l k t ht 2 (by omega); simpa [ask3, smallCells] using this)
      have hts := take_snoc ht
      obtain ⟨Av, cv, rfl⟩ := owns_slice hv
      clear h4 h1 hat
      obtain ⟨tk, tp, tv⟩ := t
      simp only at c0 c1 c2
      by_cases hkm : k < m
      · have e1 : (l.take k).take m = l.take k := by rw [List.take_take, Nat.min_eq_right (by omega)]
        have e2 : (l.take (k + 1)).take m = l.take k ++ [(tk, tp, tv)] := by rw [List.take_take, Nat.min_eq_right (by omega), hts]
        rw [e1] at hv ⊢
        have HE := Lib.hid e2
        have hTl : (l.take k).length = k := by rw [List.length_take]; omega
        rw [hTl] at hv ⊢
        have HTL := Lib.hid hTl
        clear hTl
        clear e1 e2 hts ht
        have hAsk := fun W => smallAsk tk tp tv W
        have hsz := hB.size
        have hba : Below w.heap.size w (wr.alloc (.cells #[.int .u8 tk, .int .u8 tp, .int .u8 tv] 102)) := hB.alloc hsz _
        have hbr : Below wr.heap.size wr (wr.alloc (.cells #[.int .u8 tk, .int .u8 tp, .int .u8 tv] 102)) := (Below.refl _ _).alloc (Nat.le_refl _) _
        generalize hq : (if 3 ≤ tp % 5 then (⟨#[]⟩ : ByteArray) else askValB tv) = q at hAsk
        go_wp2_with fail
        (with_reducible refine (hAsk _).mono ?_)
        rintro e w1 ⟨rfl, hb1⟩
        have hbr1 := hbr.trans (hb1.mono hbr.size)
        have hB1 := hB.trans (hbr1.mono hsz)
        have hv1 := owns_below hv hbr1
        clear hAsk hba hbr hb1 hv hB hbr1 c0 c1 c2
        go_wp2_with (at_builtin; refine wpl_stop fun W hW => ?_)
        refine Stopped.mk ?_
        have hBW : Blk W w1.heap.size #[.string (askKeyB tk), .int .u8 (1 + tp % 5 : Nat), .string q] 68 := by rw [hW]; exact Blk.new _ _ _
        have hbW : Below w1.heap.size w1 W := by rw [hW]; exact (Below.refl _ _).alloc (Nat.le_refl _) _
        clear hW
        have hvW := owns_below hv1 hbW
        have hsz1 := hB1.size
        have hnx : Rd W 3 (.slice (some ⟨w1.heap.size, 0, none⟩) 1 1) 1 (askCells [(tk, tp, tv)]) := ⟨_, _, rfl, rfl, Nat.le_refl _, by unfold maxLen; omega, fun _ => ⟨_, _, rfl, fun j u hj => by
          match j, hj with
          | 0, hj => simp [askCells, askV] at hj; subst hj; exact hBW.cell rfl
          | 1, hj => simp [askCells, askV] at hj; subst hj; exact hBW.cell rfl
          | 2, hj => simp [askCells, askV, hq] at hj; subst hj; exact hBW.cell rfl
          | j + 3, hj => simp [askCells, askV] at hj⟩⟩
        refine wpl_append_rd rfl (.tmp 18) (.tmp 21) 45 rfl w.heap.size 68 i0 _ 3 40 Tryz.underlying45 hi hz0 hz1 hz2 rfl (by decide) _ k _ rfl hvW _ 1 _ rfl hnx (by intro u hu; simp [askCells, askV] at hu; rcases hu with rfl | rfl | rfl <;> rfl) (by unfold maxLen; omega) (by omega) (Nat.le_trans hsz1 hbW.size) fun v4 w4 hown4 hgr4 _ => ?_
        have hB4 := (hB1.trans (hbW.mono hB1.size)).grown hgr4 (Nat.le_trans hB1.size hbW.size) (fun gg hg => (hvW.lt gg hg).1)
        obtain ⟨A4, c4, rfl⟩ := owns_slice hown4
        clear hv1 hvW hnx hBW hbW hgr4 hB1
        go_wp2_with fail
        go_roundw
        case rel => exact ⟨k + 1, by omega, by go_num, by rw [HE.out, List.length_append, HTL.out, askCells, List.flatMap_append]; exact hown4, hB4⟩
        case measure => simp [intOf]; omega
      · have e1 : (l.take (k + 1)).take m = (l.take k).take m := by rw [List.take_take, List.take_take, Nat.min_eq_left (by omega), Nat.min_eq_left (by omega)]
        have HE := Lib.hid e1
        have hba : Below w.heap.size w (wr.alloc (.cells #[.int .u8 tk, .int .u8 tp, .int .u8 tv] 102)) := hB.alloc hB.size _
        have hvb := owns_below hv ((Below.refl wr.heap.size wr).alloc (Nat.le_refl _) (.cells #[.int .u8 tk, .int .u8 tp, .int .u8 tv] 102))
        clear e1 hts ht
        go_wp2_with fail
        go_roundw
        case rel => exact ⟨k + 1, by omega, by go_num, by rw [HE.out]; exact hvb, hba⟩
        case measure => simp [intOf]; omega
    · obtain rfl : k = l.length := by omega
      rw [List.take_length] at hv
      obtain ⟨Av, cv, rfl⟩ := owns_slice hv
      go_wp2_with fail
      go_ret
      exact ⟨_, rfl, hv, hB⟩
end Go.Proofs.YteiocplfmjkbkaaGreatDoor
namespace Go.Proofs.YteiocplfmjkbkaaGreatDoor
open Go.RowKit
set_option maxRecDepth 100000

section
variable {b : Nat} {w w' : World}
/-- Only block b was written; new memory may be there. -/
structure But (b : Nat) (w w' : World) : Prop where
  os : w'.os = w.os
  tape : w'.tape = w.tape
  output : w'.output = w.output
  size : w.heap.size ≤ w'.heap.size
  block : ∀ k, k < w.heap.size → k ≠ b → w'.heap[k]? = w.heap[k]?
theorem But.refl (b : Nat) (w : World) : But b w w := ⟨rfl, rfl, rfl, Nat.le_refl _, fun _ _ _ => rfl⟩
theorem But.trans {w'' : World} (h : But b w w') (k : But b w' w'') : But b w w'' :=
  ⟨k.os.trans h.os, k.tape.trans h.tape, k.output.trans h.output, Nat.le_trans h.size k.size, fun j hj hb => (k.block j (Nat.lt_of_lt_of_le hj h.size) hb).trans (h.block j hj hb)⟩
theorem But.of_below (h : Below w.heap.size w w') : But b w w' := ⟨h.os, h.tape, h.output, h.size, fun k hk _ => h.block k hk⟩
theorem But.set (b j : Nat) (v : Value) (w : World) : But b w (w.setCell ⟨b, j, none⟩ v) :=
  ⟨rfl, rfl, rfl, by simp, fun k _ hne => Below.heap_setCell w _ v k hne⟩
theorem But.put (h : But b w w') (j : Nat) (v : Value) : But b w (w'.setCell ⟨b, j, none⟩ v) := h.trans (But.set b j v w')
theorem But.drew (h : But b w w') : But b w w'.drew := ⟨h.os, h.tape, h.output, h.size, h.block⟩
theorem But.below {B : Nat} {w0 : World} (h : But b w w') (h0 : Below B w0 w) (hB : B ≤ w0.heap.size) (hb : B ≤ b) : Below B w0 w' :=
  ⟨h.os.trans h0.os, h.tape.trans h0.tape, h.output.trans h0.output, Nat.le_trans h0.size h.size, fun k hk => (h.block k (Nat.lt_of_lt_of_le (Nat.lt_of_lt_of_le hk hB) h0.size) (by omega)).trans (h0.block k hk)⟩
theorem But.grownBy (h : But b w w') : w.grownBy w' (some b) := ⟨h.os, h.tape, h.output, h.size, fun k hk hne => h.block k hk (fun e => hne (by rw [e]))⟩
theorem Blk.but {g : Nat} {cs : Array Value} {T : TypeId} (h : Blk w g cs T) (hb : But b w w') (hne : g ≠ b) : Blk w' g cs T := (hb.block g h.lt hne).trans h
theorem owns_but {base : Nat} {e t : TypeId} {size : Nat} {v : Value} {n : Nat} {xs : List Value} {cs : Array Value} (h : w.ownsRow base e size v n xs) (hT : Blk w b cs t) (hB : But b w w') (hne : e ≠ t) : w'.ownsRow base e size v n xs :=
  h.kept hB.grownBy (.inr fun he => owns_ne h hT hne he.symm)
end
theorem rd_one {w : World} {g n : Nat} {cs : Array Value} {t : TypeId} (h : Blk w g cs t) (hn : cs.size = n) : Rd w n (.slice (some ⟨g, 0, none⟩) 1 1) 1 cs.toList :=
  ⟨_, _, rfl, by simp [hn], Nat.le_refl _, by unfold maxLen; omega, fun _ => ⟨_, _, rfl, fun j u hj => by rw [Nat.zero_add]; exact h.cell (by simpa using hj)⟩⟩
end Go.Proofs.YteiocplfmjkbkaaGreatDoor
