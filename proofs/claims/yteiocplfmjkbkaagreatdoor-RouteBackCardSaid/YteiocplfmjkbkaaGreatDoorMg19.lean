/-
  match.Names and the reference's Names: an alert's labels, then rule and origin where it has none. Append onto an empty slice that has no room (a copy); what a slice of a readable slice reads as. The reference's Ask.Holds and All; match.number of one digit. watchfireref01.Itoa.
-/
import Derived.Test.YteiocplfmjkbkaaGreatDoorMem
import Derived.WalkKit
import Derived.Lib.ItoaNum
import Derived.Lib.Hide
import Derived.Laws.BytesString
import Derived.Test.YteiocplfmjkbkaaGreatDoorRt5
import Derived.Test.YteiocplfmjkbkaaGreatDoorMg3
import Derived.Test.YteiocplfmjkbkaaGreatDoorSt2
import Derived.Test.YteiocplfmjkbkaaGreatDoorRt4
namespace Go.Proofs.YteiocplfmjkbkaaGreatDoor
open Go.RowKit
set_option maxRecDepth 100000

theorem decDigits_len (n : Nat) : ∀ k, n < 10 ^ (k+1) → (Lib.decDigits n).length ≤ k + 1 := by
  intro k
  induction k generalizing n with
  | zero => intro h; unfold Lib.decDigits; rw [dif_pos (by omega)]; simp
  | succ k ih =>
    intro h
    unfold Lib.decDigits
    split
    · simp
    · have := ih (n / 10) (by rw [Nat.pow_succ] at h; omega)
      simp; omega
def decB (n : Nat) : ByteArray := ⟨(Lib.decDigits n).toArray⟩
theorem decB_size (n : Nat) (h : n < 18446744073709551616) : (decB n).size ≤ 20 := by
  have := decDigits_len n 19 (by omega)
  simpa [decB, ByteArray.size] using this
theorem decB_small (n : Nat) (h : n ≤ 9) : decB n = ⟨#[(48 + n).toUInt8]⟩ := by
  unfold decB Lib.decDigits; rw [dif_pos (by omega)]
theorem decB_big (n : Nat) (h : 9 < n) : decB n = decB (n / 10) ++ decB (n % 10) := by
  rw [decB_small (n % 10) (by omega)]
  unfold decB; rw [Lib.decDigits, dif_neg (by omega)]
  rw [show (⟨#[(48 + n % 10).toUInt8]⟩ : ByteArray) = ⟨[(48 + n % 10).toUInt8].toArray⟩ from rfl, ByteArray.mk_append_mk]

theorem infoByte : (Tryz.prog.info? 5).map (fun i => (i.zero, i.size, i.bytes)) = some (some (.int .u8 0), 1, 1) := by kernel_rfl

theorem conv_one {P : Program} (src dst e : TypeId) (hs : P.underlying src = some (.slice e)) (he : P.underlying e = some (.int .u8)) (hd : P.underlying dst = some .string)
   (w : World) (a : Addr) (c : Nat) (x : Int) (hc : w.cell? a = some (.int .u8 x)) : (convert src dst (.slice (some a) 1 c)).run P w = .ok (.string ⟨#[UInt8.ofNat x.toNat]⟩) w := by
  rw [run_convert_bytes_string w src dst e _ 1 c hs he hd]
  refine run_bytesToString w a 1 c [x] ?_
  have h0 : a.add 0 = a := rfl
  simp [loadCells, loadCellsFrom, load, Sem.run, hc, h0, go_sem]
end Go.Proofs.YteiocplfmjkbkaaGreatDoor
namespace Go.Proofs.YteiocplfmjkbkaaGreatDoor
open Go.RowKit
set_option maxRecDepth 100000
attribute [local go_sem] FreeSl.out

/-- match.number of one digit. -/
theorem mNumber (n : Nat) (w : World) (h9 : n ≤ 9) :
    Calls Tryz.prog 48 #[.int .u8 n] w fun e w' => e = .returned (.string (decB n)) ∧ Below w.heap.size w w' := by
  have hcv := fun (W : World) => conv_one (P := Tryz.prog) 80 9 5 Tryz.underlying80 Tryz.underlying5 Tryz.underlying9 (W.alloc (.cells #[.int .u8 (48 + (n:Int))] 5)) ⟨W.heap.size, 0, none⟩ 1 (48 + n) (by simp)
  go_enter Tryz.func48, Tryz.ntmps48
  go_wp2_with fail
  go_ret
  exact ⟨by rw [decB_small n h9]; rfl, (Below.refl _ _).alloc (Nat.le_refl _) _⟩
/-- A question's cells with the reference. -/
def aqR (a : Aq) : List Value := [.string a.1, .int .i64 (a.2.1 : Nat), .string a.2.2]
theorem aqR_len (a : Aq) : (aqR a).length = 3 := rfl
end Go.Proofs.YteiocplfmjkbkaaGreatDoor
namespace Go.Proofs.YteiocplfmjkbkaaGreatDoor
open Go.RowKit
set_option maxRecDepth 100000

theorem grown_none_below' {w w' : World} (h : w.grownBy w' none) : Below w.heap.size w w' := ⟨h.os, h.tape, h.output, h.size, fun k hk => h.block k hk (by simp)⟩
theorem run_append_copy {P : Program} {w : World} (base : Nat) (t ty e : TypeId) (i : TypeInfo) (z : Value) (size bytes : Nat) (ht : P.underlying t = some (.slice e)) (hi : P.info? e = some i) (hz : i.zero = some z)
    (hsize : i.size = size) (hby : i.bytes = bytes) (hzs : z.cells.size = size) (hsz : 0 < size)
    (b : Nat) (hB : Blk w b #[] e) (hb : base ≤ b) (x : Value) (m : Nat) (news : List Value) (hr : Rd w size x m news)
    (h63 : m ≤ maxLen) (hbytes : m * bytes ≤ 140737488355328) :
    ∃ v' w', (Builtin.append_ #[t, t] ty #[.slice (some ⟨b, 0, none⟩) 0 0, x]).run P w = .ok v' w' ∧ w'.ownsRow base e size v' m news ∧ Below w.heap.size w w' := by
  have ad : ∀ b o j : Nat, (⟨b, o, none⟩ : Addr).add j = ⟨b, o + j, none⟩ := fun b o j => by unfold Addr.add; split <;> simp_all
  obtain ⟨A, c, rfl, hl, h2, h3, h4⟩ := hr
  rcases Nat.eq_zero_or_pos m with h0 | h0
  · subst h0
    obtain rfl : news = [] := List.eq_nil_of_length_eq_zero (by simpa using hl)
    refine ⟨.slice (some ⟨b, 0, none⟩) 0 0, w, ?_, ⟨by simp, .inr ⟨b, 0, #[], rfl, hb, hB, Nat.le_refl _, Nat.zero_le _, by simp, by simp⟩⟩, Below.refl _ _⟩
    cases A with
    | none => exact run_append_nothing w t t ty e i ht hi (some ⟨b, 0, none⟩) 0 0 (Nat.le_refl _) _ (hsize ▸ Src.ofNil w ht c)
    | some a => exact run_append_nothing w t t ty e i ht hi (some ⟨b, 0, none⟩) 0 0 (Nat.le_refl _) _ (Src.ofSlice w ht a 0 c [] (by simp) (fun j u hu => by simp at hu) (fun u hu => nomatch hu))
  · obtain ⟨q, o, rfl, hat⟩ := h4 h0
    obtain ⟨v', w', r1, r2, r3⟩ := run_append_arg_grows (P := P) w t ty e i z size bytes ht hi hz hsize hby hzs hsz ⟨b, 0, none⟩ 0 0 [] (by simp) (fun j u hu => by simp at hu) ⟨q, o, none⟩ m c news hl (fun j u hu => by rw [ad]; exact hat j u hu) (by omega) (by omega) (by simpa using hbytes)
    refine ⟨v', w', r1, owns_base (by simpa using r2) fun g hg => ?_, grown_none_below' r3⟩
    have := owns_ge r2 g hg
    have := hB.lt
    omega
theorem wp_append_copy {P : Program} {o : Oper} {a : Act} {w : World} {K : Act → World → Prop} {Q : Exit → Act → World → Prop} (s x : Operand) (t : TypeId)
    (ho : o.op = .call { callee := .builtin .append, args := #[s, x], argTypes := #[t, t] })
    (base : Nat) (e : TypeId) (i : TypeInfo) (z : Value) (size bytes : Nat) (ht : P.underlying t = some (.slice e)) (hi : P.info? e = some i) (hz : i.zero = some z)
    (hsize : i.size = size) (hby : i.bytes = bytes) (hzs : z.cells.size = size) (hsz : 0 < size)
    (b : Nat) (hB : Blk w b #[] e) (hb : base ≤ b) (hs : a.eval s = .slice (some ⟨b, 0, none⟩) 0 0)
    (xv : Value) (m : Nat) (news : List Value) (hx : a.eval x = xv) (hr : Rd w size xv m news) (h63 : m ≤ maxLen) (hbytes : m * bytes ≤ 140737488355328)
    (h : ∀ v' w', w'.ownsRow base e size v' m news → Below w.heap.size w w' → K (a.put o.dst v') w') : o.wp P a w K Q := by
  obtain ⟨v', w', hrun, h2, h3⟩ := run_append_copy (P := P) base t o.type e i z size bytes ht hi hz hsize hby hzs hsz b hB hb xv m news hr h63 hbytes
  unfold Oper.wp execOp
  simp only [ho, resolve, invoke, builtin, Sem.run_bind, Sem.run_pure, Result.andThen_ok, List.map_toArray, List.map_cons, List.map_nil, hs, hx, hrun]
  exact h v' w' h2 h3
end Go.Proofs.YteiocplfmjkbkaaGreatDoor
namespace Go.Proofs.YteiocplfmjkbkaaGreatDoor
open Go.RowKit
set_option maxRecDepth 100000
attribute [local go_sem] FreeSl.out

theorem wpl_append_copy {P : Program} {ops : Array Oper} {rest : List Oper} {o : Oper} {a : Act} {w : World} {Q : Exit → Act → World → Prop} (hgd : o.guard = none) (s x : Operand) (t : TypeId)
    (ho : o.op = .call { callee := .builtin .append, args := #[s, x], argTypes := #[t, t] })
    (base : Nat) (e : TypeId) (i : TypeInfo) (z : Value) (size bytes : Nat) (ht : P.underlying t = some (.slice e)) (hi : P.info? e = some i) (hz : i.zero = some z)
    (hsize : i.size = size) (hby : i.bytes = bytes) (hzs : z.cells.size = size) (hsz : 0 < size)
    (b : Nat) (hB : Blk w b #[] e) (hb : base ≤ b) (hs : a.eval s = .slice (some ⟨b, 0, none⟩) 0 0)
    (xv : Value) (m : Nat) (news : List Value) (hx : a.eval x = xv) (hr : Rd w size xv m news) (h63 : m ≤ maxLen) (hbytes : m * bytes ≤ 140737488355328)
    (h : ∀ v' w', w'.ownsRow base e size v' m news → Below w.heap.size w w' → wpList P ops Q rest (a.put o.dst v') w') : wpList P ops Q (o :: rest) a w :=
  wpList_plain hgd fun _ hK => wp_append_copy s x t ho base e i z size bytes ht hi hz hsize hby hzs hsz b hB hb hs xv m news hx hr h63 hbytes fun v' w' h2 h3 => hK _ _ (h v' w' h2 h3)
def ruleK : ByteArray := ⟨#[114, 117, 108, 101]⟩
def originK : ByteArray := ⟨#[111, 114, 105, 103, 105, 110]⟩
/-- An alert's names. -/
def namesL (ls : List Pr) (rule : ByteArray) (org : Nat) : List Pr := ls ++ (if (getL ls ruleK).2 = true then [] else [(ruleK, rule)]) ++ (if (getL ls originK).2 = true then [] else [(originK, decB org)])
theorem rd_pair {w : World} {g : Nat} {p : Pr} {t : TypeId} (h : Blk w g #[.string p.1, .string p.2] t) : Rd w 2 (.slice (some ⟨g, 0, none⟩) 1 1) 1 (pairCells [p]) := rd_oneR h (n := 2) rfl
end Go.Proofs.YteiocplfmjkbkaaGreatDoor
