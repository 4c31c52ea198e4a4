/-
  The reference's text of questions.
-/
import Derived.Test.YteiocplfmjkbkaaGreatDoorRtX
import Derived.Test.YteiocplfmjkbkaaGreatDoorRtY
import Derived.RegionTactic
import Derived.BigRegion
namespace Go.Proofs.YteiocplfmjkbkaaGreatDoor
open Go.RowKit
set_option maxRecDepth 100000

def refOne (t key : ByteArray) (op : Nat) (x : ByteArray) : ByteArray :=
  if op = 1 then t ++ key ++ ⟨#[61]⟩ ++ x else if op = 2 then t ++ key ++ ⟨#[33, 61]⟩ ++ x else if op = 3 then t ++ key ++ ⟨#[94, 61]⟩ ++ x else if op = 4 then t ++ key else t ++ ⟨#[33]⟩ ++ key
def refAcc (l : List Aq) : Nat → ByteArray
  | 0 => ⟨#[]⟩
  | k + 1 => match l[k]? with
    | none => refAcc l k
    | some a => refOne (if 0 < k then refAcc l k ++ (⟨#[44]⟩ : ByteArray) else refAcc l k) a.1 a.2.1 a.2.2
def refTx (l : List Aq) : ByteArray := if l.length = 0 then ⟨#[42]⟩ else refAcc l l.length
theorem szs : (⟨#[44]⟩ : ByteArray).size = 1 ∧ (⟨#[61]⟩ : ByteArray).size = 1 ∧ (⟨#[33]⟩ : ByteArray).size = 1 ∧ (⟨#[33, 61]⟩ : ByteArray).size = 2 ∧ (⟨#[94, 61]⟩ : ByteArray).size = 2 := ⟨rfl, rfl, rfl, rfl, rfl⟩
theorem refAcc_succ {l : List Aq} {k : Nat} {a : Aq} (h : l[k]? = some a) : refAcc l (k + 1) = refOne (if 0 < k then refAcc l k ++ (⟨#[44]⟩ : ByteArray) else refAcc l k) a.1 a.2.1 a.2.2 := by
  show (match l[k]? with | none => refAcc l k | some a => refOne (if 0 < k then refAcc l k ++ (⟨#[44]⟩ : ByteArray) else refAcc l k) a.1 a.2.1 a.2.2) = _
  rw [h]
set_option maxHeartbeats 8000000 in
theorem refText (l : List Aq) (v : Value) (w : World) (hr : Rd w 3 v l.length (l.flatMap aqR)) (hl : l.length ≤ 8) (hc : ∀ a ∈ l, chkA a = 0) :
    Calls Tryz.prog 41 #[v] w fun e w' => e = .returned (.string (refTx l)) ∧ Below w.heap.size w w' := by
  obtain ⟨nl, hnl⟩ : ∃ n, n = l.length := ⟨_, rfl⟩
  unfold refTx
  rw [← hnl] at hr hl ⊢
  obtain ⟨A, c, rfl, h1, h2, h3, h4⟩ := hr
  unfold maxLen at h3
  have HA := Lib.hid h4
  have HC := Lib.hid hc
  have HNL := Lib.hid hnl
  have U0 := Upd.nil [] w
  clear h4 h1 hc hnl
  by_cases h0 : nl = 0
  · subst h0
    go_enter Tryz.func41, Tryz.ntmps41
    go_wp2_with fail
    go_ret
    exact ⟨rfl, Below.refl _ _⟩
  have g0 : ((nl : Int) == 0) = false := by simp; omega
  rw [if_neg h0]
  go_enter Tryz.func41, Tryz.ntmps41
  go_wp2_with fail
  go_loopw [3, 4] (fun s i wr => ∃ (k : Nat) (T : ByteArray), k ≤ nl ∧ s = .string T ∧ i = .int .i64 k ∧ Hid (T = refAcc l k) ∧ T.size ≤ 40 * k ∧ Upd [] w [] wr) (fun _ i _ => nl - (intOf i).toNat)
  case atStart => exact ⟨0, ⟨#[]⟩, Nat.zero_le _, rfl, rfl, Lib.hid rfl, by decide, U0⟩
  case round =>
    obtain ⟨k, T, hk, rfl, rfl, HT, hts, U1⟩ := hrel
    clear U0
    by_cases hlt : k < nl
    · obtain ⟨b, o, rfl, hat⟩ := HA.out (by omega)
      obtain ⟨a, ha⟩ : ∃ a, l[k]? = some a := ⟨_, List.getElem?_eq_getElem (by rw [← HNL.out]; omega)⟩
      have hb := U1.below
      have c0 := hat.nth0 hb (k*3) _ (flatN aqR 3 aqR_len l k a ha 0 _ rfl)
      have c1 := hat.nth hb (k*3) 1 _ (flatN aqR 3 aqR_len l k a ha 1 _ rfl)
      have c2 := hat.nth hb (k*3) 2 _ (flatN aqR 3 aqR_len l k a ha 2 _ rfl)
      have hca := HC.out a (List.mem_of_getElem? ha)
      have HS := Lib.hid (refAcc_succ ha)
      obtain ⟨key, op, x⟩ := a
      dsimp only at c0 c1 c2 HS
      rw [← HT.out] at HS
      obtain ⟨_, q1, q5, _⟩ := chkA_parts hca
      obtain ⟨z1, z2, _⟩ := ask_size hca
      dsimp only at q1 q5 z1 z2
      clear hat ha hb hca HT
      have i0 : (0 : Int) ≤ (k : Int) := by omega
      have i1 : (k : Int) < (nl : Int) := by omega
      by_cases hk0 : 0 < k
      · have gk : (0 : Int) < (k : Int) := by omega
        rw [if_pos hk0] at HS
        obtain rfl | rfl | rfl | rfl | rfl : op = 1 ∨ op = 2 ∨ op = 3 ∨ op = 4 ∨ op = 5 := by omega
        all_goals
          go_wp2_with fail
          (try go_region)
          (try go_wp2_with fail)
          go_roundw
          case rel => exact ⟨k + 1, _, by omega, rfl, by go_num, Lib.hid HS.out.symm, by simp only [ByteArray.size_append, szs]; omega, by first | exact U1.drew | exact U1⟩
          case measure => simp [intOf]; omega
      · have gk : ¬ (0 : Int) < (k : Int) := by omega
        rw [if_neg hk0] at HS
        obtain rfl | rfl | rfl | rfl | rfl : op = 1 ∨ op = 2 ∨ op = 3 ∨ op = 4 ∨ op = 5 := by omega
        all_goals
          go_wp2_with fail
          (try go_region)
          (try go_wp2_with fail)
          go_roundw
          case rel => exact ⟨k + 1, _, by omega, rfl, by go_num, Lib.hid HS.out.symm, by simp only [ByteArray.size_append, szs]; omega, by first | exact U1.drew | exact U1⟩
          case measure => simp [intOf]; omega
    · obtain rfl : k = nl := by omega
      go_wp2_with fail
      go_ret
      exact ⟨by have e := HT.out; subst e; rfl, U1.below⟩
end Go.Proofs.YteiocplfmjkbkaaGreatDoor
