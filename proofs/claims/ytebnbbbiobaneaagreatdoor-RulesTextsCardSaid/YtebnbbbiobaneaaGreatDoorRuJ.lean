/-
  The reference's numbers and conditions out of texts.
-/
import Derived.Test.YtebnbbbiobaneaaGreatDoorRuP
import Derived.Test.YtebnbbbiobaneaaGreatDoorRuR
namespace Go.Proofs.YtebnbbbiobaneaaGreatDoor
open Go.RowKit
set_option maxRecDepth 100000

set_option maxHeartbeats 2000000 in
theorem ref13Number (s : ByteArray) (most : Nat) (w : World) (hs : s.size ≤ maxLen) :
    Calls Tryz.prog 140 #[.string s, .int .u64 most] w fun e w' => e = .returned (.tuple #[.int .u64 (numN s), .bool (numO s most)]) ∧ w' = w := by
  unfold maxLen at hs
  by_cases h1 : s.size < 1
  · have d1 : ((s.size : Int) == 0) = true := by rw [beq_iff_eq]; omega
    have E := Lib.hid (show numF s = none by unfold numF; rw [if_pos (.inl h1)])
    have E1 : numN s = 0 := by unfold numN; rw [E.out]; rfl
    have E2 : numO s most = false := by unfold numO; rw [E.out]
    rw [E1, E2]
    clear E1 E2
    clear h1 E
    go_enter Tryz.func140, Tryz.ntmps140
    go_wp2_with fail
    go_ret2
    exact ⟨rfl, rfl⟩
  have d1 : ((s.size : Int) == 0) = false := by rw [beq_eq_false_iff_ne]; omega
  by_cases h2 : 19 < s.size
  · have d2 : decide ((19 : Int) < (s.size : Int)) = true := by simp; omega
    have E := Lib.hid (show numF s = none by unfold numF; rw [if_pos (.inr (.inl h2))])
    have E1 : numN s = 0 := by unfold numN; rw [E.out]; rfl
    have E2 : numO s most = false := by unfold numO; rw [E.out]
    rw [E1, E2]
    clear E1 E2
    clear h1 h2 E
    go_enter Tryz.func140, Tryz.ntmps140
    go_wp2_with fail
    go_ret2
    exact ⟨rfl, rfl⟩
  have d2 : decide ((19 : Int) < (s.size : Int)) = false := by simp; omega
  have hl : s.data.toList.length = s.size := (Lib.size_eq s).symm
  obtain ⟨c0, hc0⟩ : ∃ c : UInt8, s[0]'(by omega) = c := ⟨_, rfl⟩
  have hd0 : s.data.toList.getD 0 0 = c0 := by
    have := Lib.data_getElem? s 0 (by omega)
    rw [List.getD_eq_getElem?_getD, this, hc0]; rfl
  have i0 : (0 : Int) < (s.size : Int) := by omega
  by_cases h3 : 1 < s.size ∧ c0 = 48
  · obtain ⟨h3, rfl⟩ := h3
    have d3 : decide ((1 : Int) < (s.size : Int)) = true := by simp; omega
    have E := Lib.hid (show numF s = none by unfold numF; rw [if_pos (.inr (.inr ⟨h3, hd0⟩))])
    have E1 : numN s = 0 := by unfold numN; rw [E.out]; rfl
    have E2 : numO s most = false := by unfold numO; rw [E.out]
    rw [E1, E2]
    clear E1 E2
    clear E hd0
    go_enter Tryz.func140, Tryz.ntmps140
    go_wp2_with fail
    go_ret2
    exact ⟨rfl, rfl⟩
  have E := Lib.hid (show numF s = digF 0 s.data.toList by unfold numF; rw [if_neg (by rw [hd0]; rintro (h | h | h); exact h1 h; exact h2 h; exact h3 h)])
  have key : ∀ (Q : Prop), (decide ((1 : Int) < (s.size : Int)) = false → Q) → (decide ((1 : Int) < (s.size : Int)) = true → ((c0.toNat : Int) == 48) = false → Q) → Q := by
    intro Q q1 q2
    by_cases h4 : 1 < s.size
    · refine q2 (by simp; omega) ?_
      have h5 : c0 ≠ 48 := fun h => h3 ⟨h4, h⟩
      have h6 : c0.toNat ≠ 48 := fun h => h5 (by rw [← UInt8.toNat_inj]; exact h)
      simp; omega
    · exact q1 (by simp; omega)
  clear h3 hd0
  have main : ∀ (K : Prop), K → K := fun _ h => h
  refine key _ (fun d3 => ?_) (fun d3 d4 => ?_)
  all_goals
    clear key main
    go_enter Tryz.func140, Tryz.ntmps140
    go_wp2_with fail
    go_loopw [6, 7] (fun a i wr => ∃ (k n : Nat), k ≤ s.size ∧ i = .int .i64 k ∧ a = .int .u64 n ∧ n < 10 ^ k ∧ wr = w ∧ digF 0 s.data.toList = digF n (s.data.toList.drop k)) (fun _ i _ => s.size - (intOf i).toNat)
    case atStart => exact ⟨0, 0, Nat.zero_le _, rfl, rfl, by decide, rfl, rfl⟩
    case round =>
      obtain ⟨k, n, hk, rfl, rfl, hn, rfl, hD⟩ := hrel
      by_cases hlt : k < s.size
      · obtain ⟨x, hx⟩ : ∃ x : UInt8, s[k]'hlt = x := ⟨_, rfl⟩
        have hd : s.data.toList.drop k = x :: s.data.toList.drop (k + 1) := by
          have e1 := Lib.data_getElem? s k hlt
          rw [hx] at e1
          have hlt' : k < s.data.toList.length := by omega
          rw [List.drop_eq_getElem_cons hlt']
          congr 1 <;> exact (List.getElem?_eq_some_iff.1 e1).2
        rw [hd] at hD
        have i1 : (k : Int) < (s.size : Int) := by omega
        have hp : n < 10 ^ 18 := Nat.lt_of_lt_of_le hn (Nat.pow_le_pow_right (by decide) (by omega))
        have hp' : n < 1000000000000000000 := hp
        have hx8 : x.toNat < 256 := x.toNat_lt
        by_cases b1 : x.toNat < 48
        · have e1 : decide ((x.toNat : Int) < 48) = true := by simp; omega
          have E2 := Lib.hid (show numF s = none by rw [E.out, hD]; unfold digF; rw [if_pos (.inl b1)])
          have E3 : numN s = 0 := by unfold numN; rw [E2.out]; rfl
          have E4 : numO s most = false := by unfold numO; rw [E2.out]
          have E5 := Lib.hid (And.intro E3 E4)
          clear E3 E4 hD hd
          go_wp2_with fail
          go_ret2
          exact ⟨by rw [E5.out.1, E5.out.2]; rfl, rfl⟩
        have e1 : decide ((x.toNat : Int) < 48) = false := by simp; omega
        by_cases b2 : 57 < x.toNat
        · have e2 : decide ((57 : Int) < (x.toNat : Int)) = true := by simp; omega
          have E2 := Lib.hid (show numF s = none by rw [E.out, hD]; unfold digF; rw [if_pos (.inr b2)])
          have E3 : numN s = 0 := by unfold numN; rw [E2.out]; rfl
          have E4 : numO s most = false := by unfold numO; rw [E2.out]
          have E5 := Lib.hid (And.intro E3 E4)
          clear E3 E4 hD hd
          go_wp2_with fail
          go_ret2
          exact ⟨by rw [E5.out.1, E5.out.2]; rfl, rfl⟩
        have e2 : decide ((57 : Int) < (x.toNat : Int)) = false := by simp; omega
        have hD2 := Lib.hid (show digF 0 s.data.toList = digF (n * 10 + (x.toNat - 48)) (s.data.toList.drop (k + 1)) by rw [hD]; conv => lhs; unfold digF; rw [if_neg (by omega)])
        have w1 : IntKind.u64.wrap ((n : Int) * 10) = ((n * 10 : Nat) : Int) := by rw [IntKind.wrap_u64]; omega
        have w3 : IntKind.u64.wrap (x.toNat : Int) = (x.toNat : Int) := by rw [IntKind.wrap_u64]; omega
        have w4 : IntKind.u64.wrap ((n : Int) * 10 + (x.toNat : Int)) = (n : Int) * 10 + (x.toNat : Int) := by rw [IntKind.wrap_u64]; omega
        have w5 : IntKind.u64.wrap ((n : Int) * 10 + (x.toNat : Int) - 48) = ((n * 10 + (x.toNat - 48) : Nat) : Int) := by rw [IntKind.wrap_u64]; omega
        have hn2 := Lib.hid (show n * 10 + (x.toNat - 48) < 10 ^ (k + 1) by rw [Nat.pow_succ]; omega)
        clear hD hd hn hp hp'
        go_wp2_with fail
        go_roundw
        case rel => exact ⟨k + 1, n * 10 + (x.toNat - 48), by omega, by go_num, by first | rfl | rw [w5], hn2.out, by first | rfl | trivial, hD2.out⟩
        case measure => simp [intOf]; omega
      · obtain rfl : k = s.size := by omega
        rw [← hl, List.drop_length] at hD
        have E2 := Lib.hid (show numF s = some n by rw [E.out, hD]; rfl)
        have E3 : numN s = n := by unfold numN; rw [E2.out]; rfl
        have E4 : numO s most = decide (n ≤ most) := by unfold numO; rw [E2.out]
        have E5 := Lib.hid (And.intro E3 E4)
        clear E3 E4 hD hn
        go_wp2_with fail
        go_ret2
        exact ⟨by rw [E5.out.1, E5.out.2]; rfl, rfl⟩

theorem ref13NumberI (s : ByteArray) (most : Nat) (m : Int) (hm : m = (most : Int)) (w : World) (hs : s.size ≤ maxLen) :
    Calls Tryz.prog 140 #[.string s, .int .u64 m] w fun e w' => e = .returned (.tuple #[.int .u64 (numN s), .bool (numO s most)]) ∧ w' = w := by
  subst hm
  exact ref13Number s most w hs
set_option maxHeartbeats 2000000 in
theorem ref13Signed (s : ByteArray) (w : World) (hs : s.size ≤ maxLen) : Calls Tryz.prog 180 #[.string s] w fun e w' => e = .returned (.tuple #[.int .i64 (sgnV s), .bool (sgnO s)]) ∧ w' = w := by
  unfold sgnV sgnO
  have hv : (s.extract 1 s.size).size ≤ maxLen := by rw [ByteArray.size_extract]; omega
  have hmx := hs
  unfold maxLen at hmx
  cases hm : minB s with
  | true =>
    rw [if_pos rfl, if_pos rfl]
    have h1 := minB_size hm
    obtain ⟨c0, hc0⟩ : ∃ c : UInt8, s[0]'(by omega) = c := ⟨_, rfl⟩
    have e45 : ((c0.toNat : Int) == 45) = true := by
      have hg := Lib.data_getElem? s 0 (by omega)
      rw [hc0] at hg
      have hh : (s.extract 0 1).toList = [c0] := by
        rw [Lib.toList_data, ByteArray.data_extract, Array.toList_extract]
        cases hl : s.data.toList with
        | nil => rw [hl] at hg; cases hg
        | cons a r => rw [hl] at hg; simp at hg; simp [hg]
      unfold minB at hm
      rw [hh] at hm
      have : c0 = 45 := by simpa using (Bool.and_eq_true_iff.1 hm).2
      rw [this]; rfl
    have g1 : decide ((0 : Int) < (s.size : Int)) = true := by simp; omega
    have i1 : (0 : Int) < (s.size : Int) := by omega
    have i2 : (1 : Int) ≤ (s.size : Int) := by omega
    have N := fun w' => ref13NumberI (s.extract 1 s.size) 9223372036854775808 9223372036854775808 rfl w' hv
    have hlt := numN_lt (s.extract 1 s.size)
    have hle : numO (s.extract 1 s.size) 9223372036854775808 = true → numN (s.extract 1 s.size) ≤ 9223372036854775808 := fun h => by
      unfold numO numN at *
      cases h2 : numF (s.extract 1 s.size) with
      | none => simp
      | some n => rw [h2] at h; simpa using h
    obtain ⟨n, hn⟩ : ∃ n, n = numN (s.extract 1 s.size) := ⟨_, rfl⟩
    obtain ⟨b, hb⟩ : ∃ b, b = numO (s.extract 1 s.size) 9223372036854775808 := ⟨_, rfl⟩
    rw [← hn, ← hb] at N hle ⊢
    rw [← hn] at hlt
    clear hn hb hm hv
    cases b with
    | false =>
      rw [if_pos (.inr rfl), if_pos (.inr rfl)]
      clear hlt hle
      go_enter Tryz.func180, Tryz.ntmps180
      go_wp2_with fail
      (with_reducible refine (N _).mono ?_)
      rintro e w1 ⟨rfl, rfl⟩
      go_wp2_with fail
      go_ret2
      exact ⟨rfl, rfl⟩
    | true =>
      have hn9 := hle rfl
      by_cases n1 : n < 1
      · obtain rfl : n = 0 := by omega
        rw [if_pos (.inl n1), if_pos (.inl n1)]
        clear n1 hlt hle hn9
        go_enter Tryz.func180, Tryz.ntmps180
        go_wp2_with fail
        (with_reducible refine (N _).mono ?_)
        rintro e w1 ⟨rfl, rfl⟩
        go_wp2_with fail
        go_ret2
        exact ⟨rfl, rfl⟩
      rw [if_neg (by simp; omega), if_neg (by simp; omega)]
      have d0 : ((n : Int) == 0) = false := by simp; omega
      have w1 : IntKind.u64.wrap ((n : Int) - 1) = ((n - 1 : Nat) : Int) := by rw [IntKind.wrap_u64]; omega
      have w2 : IntKind.i64.wrap ((n - 1 : Nat) : Int) = ((n - 1 : Nat) : Int) := by simp only [IntKind.wrap, IntKind.bits, IntKind.signed]; simp; omega
      have w3 : IntKind.i64.wrap (-((n - 1 : Nat) : Int)) = -((n - 1 : Nat) : Int) := by simp only [IntKind.wrap, IntKind.bits, IntKind.signed]; simp; omega
      have w4 : IntKind.i64.wrap (-((n - 1 : Nat) : Int) - 1) = -(n : Int) := by simp only [IntKind.wrap, IntKind.bits, IntKind.signed]; simp; omega
      clear n1 hlt hle hn9
      go_enter Tryz.func180, Tryz.ntmps180
      go_wp2_with fail
      (with_reducible refine (N _).mono ?_)
      rintro e w1 ⟨rfl, rfl⟩
      go_wp2_with fail
      go_ret2
      exact ⟨rfl, rfl⟩
  | false =>
    rw [if_neg (by decide), if_neg (by decide)]
    have N := fun w' => ref13NumberI s 9223372036854775807 9223372036854775807 rfl w' hs
    by_cases h0 : s.size = 0
    · have g1 : decide ((0 : Int) < (s.size : Int)) = false := decide_eq_false (by omega)
      clear hm hv
      go_enter Tryz.func180, Tryz.ntmps180
      go_wp2_with fail
      (with_reducible refine (N _).mono ?_)
      rintro e w1 ⟨rfl, rfl⟩
      go_wp2_with fail
      go_ret2
      exact ⟨rfl, rfl⟩
    · obtain ⟨c0, hc0⟩ : ∃ c : UInt8, s[0]'(by omega) = c := ⟨_, rfl⟩
      have e45 : ((c0.toNat : Int) == 45) = false := by
        have hg := Lib.data_getElem? s 0 (by omega)
        rw [hc0] at hg
        have hh : (s.extract 0 1).toList = [c0] := by
          rw [Lib.toList_data, ByteArray.data_extract, Array.toList_extract]
          cases hl : s.data.toList with
          | nil => rw [hl] at hg; cases hg
          | cons a r => rw [hl] at hg; simp at hg; simp [hg]
        rw [beq_eq_false_iff_ne]
        intro h
        have h45 : c0 = 45 := by rw [← UInt8.toNat_inj]; exact Int.ofNat.inj h
        unfold minB at hm
        rw [hh, h45] at hm
        have h1s : decide (1 ≤ s.size) = true := decide_eq_true (by omega)
        rw [h1s] at hm
        cases hm
      have g1 : decide ((0 : Int) < (s.size : Int)) = true := by simp; omega
      have i1 : (0 : Int) < (s.size : Int) := by omega
      clear hm hv
      go_enter Tryz.func180, Tryz.ntmps180
      go_wp2_with fail
      (with_reducible refine (N _).mono ?_)
      rintro e w1 ⟨rfl, rfl⟩
      go_wp2_with fail
      go_ret2
      exact ⟨rfl, rfl⟩
theorem refCondCheckI (k : Nat) (lim : Int) (tk : Nat) (ki ti : Int) (e1 : ki = (k : Int)) (e2 : ti = (tk : Int)) (w : World) : Calls Tryz.prog 118 #[.agg #[.int .i64 ki, .int .i64 lim, .int .u64 ti]] w fun e w' => e = .returned (.int .i64 (chkC k lim tk : Nat)) ∧ Below w.heap.size w w' := by
  subst e1 e2
  exact refCondCheck k lim tk w
def kdR : Array Value := #[.string ⟨#[]⟩, .string ⟨#[97, 98, 111, 118, 101]⟩, .string ⟨#[98, 101, 108, 111, 119]⟩, .string ⟨#[97, 98, 115, 101, 110, 116]⟩, .string ⟨#[114, 105, 115, 101, 115]⟩, .string ⟨#[102, 97, 108, 108, 115]⟩]
theorem kdR_at (k : Nat) (h : k < 5) : kdR[k + 1]? = some (.string (kd k)) := by
  have h : k = 0 ∨ k = 1 ∨ k = 2 ∨ k = 3 ∨ k = 4 := by omega
  rcases h with h | h | h | h | h <;> subst h <;> rfl
def condRA (ws : List ByteArray) : Value := .agg #[.int .i64 (condK ws : Nat), .int .i64 (condL ws), .int .u64 (condT ws : Nat)]
theorem condRA_bad (ws : List ByteArray) (h : condE ws ≠ 0) : condRA ws = .agg #[.int .i64 0, .int .i64 0, .int .u64 0] := by
  unfold condRA condK condL condT
  rw [if_neg h, if_neg h, if_neg h]; rfl
set_option maxHeartbeats 8000000 in
theorem ref13Parse (v : Value) (ws : List ByteArray) (w : World) (hr : Rd w 1 v ws.length (wsC ws)) (hz : ∀ s ∈ ws, s.size ≤ maxLen) :
    Calls Tryz.prog 139 #[v] w fun e w' => e = .returned (.tuple #[condRA ws, .int .i64 (condE ws : Nat)]) ∧ Below w.heap.size w w' := by
  obtain ⟨A, c, rfl, h1, h2, h3, h4⟩ := hr
  unfold maxLen at h3
  have hK5 := kindF_le ws
  have W0 : ∀ s r, ws = s :: r → ∃ b o, A = some ⟨b, o, none⟩ ∧ w.cell? ⟨b, o, none⟩ = some (.string s) := fun s r hs => by
    obtain ⟨b, o, rfl, hat⟩ := h4 (by rw [hs]; simp)
    exact ⟨b, o, rfl, hat 0 _ (by rw [hs]; rfl)⟩
  have HW0 := Lib.hid W0
  have H4 := Lib.hid h4
  clear h4 W0
  go_enter Tryz.func139, Tryz.ntmps139
  go_wp2_with fail
  go_loopw [6] (fun i wr => ∃ k : Nat, k ≤ 5 ∧ i = .int .i64 (k + 1) ∧ Upd [] w [chBlk (w.heap.size + 1 + 1) #[.int .i64 (kAt ws k : Nat), .int .i64 0, .int .u64 0] 75, chBlk (w.heap.size + 1) kdR 9, chBlk w.heap.size #[.int .i64 0, .int .i64 0, .int .u64 0] 75] wr) (fun i _ => 6 - (intOf i).toNat)
  case atStart => exact ⟨0, by omega, rfl, by have h := (((Upd.nil [] w).alloc #[.int .i64 0, .int .i64 0, .int .u64 0] 75).alloc kdR 9).alloc #[.int .i64 0, .int .i64 0, .int .u64 0] 75; simp only [allocSz] at h; rw [kAt_zero]; exact h⟩
  case round =>
    obtain ⟨k, hk, rfl, U0⟩ := hrel
    have HU := Lib.hid U0
    by_cases hlt : k < 5
    · have ck := (U0.blk 1 rfl).cell (j := k + 1) (v := .string (kd k)) (kdR_at k hlt)
      have c0 := (U0.blk 0 rfl).cell (j := 0) (v := .int .i64 (kAt ws k : Nat)) rfl
      have z0 := (U0.blk 0 rfl).frozen 0
      have i1 : (k : Int) + 1 < 6 := by omega
      have i0 : (0 : Int) ≤ (k : Int) + 1 := by omega
      have it : ((k : Int) + 1).toNat = k + 1 := by omega
      have w8 : IntKind.i64.wrap ((k : Int) + 1 + 1) = ((k + 1 : Nat) : Int) + 1 := by simp only [IntKind.wrap, IntKind.bits, IntKind.signed]; simp; omega
      match ws, HW0, HU with
      | [], _, HU =>
        clear U0
        go_wp2_with fail
        go_region
        go_wp2_with fail
        go_roundw
        case rel => exact ⟨k + 1, by omega, by first | rfl | go_num, by have h := HU.out.drew; rw [kAt_nil] at h ⊢; exact h⟩
        case measure => simp [intOf]; omega
      | s :: r, HW0, HU =>
        obtain ⟨b, oo, rfl, x0⟩ := HW0.out s r rfl
        have x1 := cell_below U0.below x0
        clear x0
        have q0 : (0 : Int) < (r.length : Int) + 1 := by omega
        by_cases hx : s = kd k
        · have hE : (s == kd k) = true := by rw [beqS]; simpa using hx
          have hT : (s.toList == (kd k).toList) = true := by rw [eqS_eq]; simpa using hx
          have U1 := U0.drew.put 0 rfl 0 (.int .i64 (k + 1))
          simp only [List.setIfInBounds_toArray, List.set_cons_zero, List.eraseIdx_cons_zero] at U1
          have HU1 := Lib.hid U1
          have hk1 := kAt_hit s r k hlt hx
          clear U0 U1 HU
          go_wp2_with fail
          go_region
          go_wp2_with fail
          go_roundw
          case rel => exact ⟨k + 1, by omega, by first | rfl | go_num, by rw [hk1]; exact HU1.out⟩
          case measure => simp [intOf]; omega
        · have hE : (s == kd k) = false := by rw [beqS]; simpa using hx
          have hT : (s.toList == (kd k).toList) = false := by rw [eqS_eq]; simpa using hx
          have hk1 := kAt_miss s r k hlt hx
          clear U0
          go_wp2_with fail
          go_region
          go_wp2_with fail
          go_roundw
          case rel => exact ⟨k + 1, by omega, by first | rfl | go_num, by rw [hk1]; exact HU.out.drew⟩
          case measure => simp [intOf]; omega
    · obtain rfl : k = 5 := by omega
      clear hlt hk
      rw [kAt_5] at U0 HU
      obtain ⟨K, hK⟩ : ∃ K, K = kindF ws := ⟨_, rfl⟩
      rw [← hK] at U0 hK5 HU
      have z0 := (U0.blk 0 rfl).frozen 0
      have z1 := (U0.blk 0 rfl).frozen 1
      have z2 := (U0.blk 0 rfl).frozen 2
      have y0 := (U0.blk 2 rfl).frozen 0
      have y1 := (U0.blk 2 rfl).frozen 1
      have y2 := (U0.blk 2 rfl).frozen 2
      have c0 := (U0.blk 0 rfl).cell (j := 0) (v := .int .i64 (K : Nat)) rfl
      have c1 := (U0.blk 0 rfl).cell (j := 1) (v := .int .i64 0) rfl
      have c2 := (U0.blk 0 rfl).cell (j := 2) (v := .int .u64 0) rfl
      have r0 := (U0.blk 2 rfl).cell (j := 0) (v := .int .i64 0) rfl
      have r1 := (U0.blk 2 rfl).cell (j := 1) (v := .int .i64 0) rfl
      have r2 := (U0.blk 2 rfl).cell (j := 2) (v := .int .u64 0) rfl
      have hKc : K = 0 ∨ K = 1 ∨ K = 2 ∨ K = 3 ∨ K = 4 ∨ K = 5 := by omega
      clear hK5 U0
      rcases hKc with rfl | rfl | rfl | rfl | rfl | rfl
      · have E := Lib.hid (show condE ws = 2 by unfold condE; rw [if_pos (.inl hK.symm)])
        clear hK H4 HW0
        go_wp2_with fail
        (try (go_region; go_wp2_with fail))
        refine bodyPost_gen fun w6 hw6 => ?_
        have U6 := ((((HU.out.put 2 rfl 0 (.int .i64 0)).put 0 rfl 1 (.int .i64 0)).put 0 rfl 2 (.int .u64 0))).same hw6
        simp only [List.setIfInBounds_toArray, List.set_cons_zero, List.set_cons_succ, List.eraseIdx_cons_zero, List.eraseIdx_cons_succ] at U6
        clear hw6
        have a0 := (U6.blk 0 rfl).cell (j := 0) (v := .int .i64 0) rfl
        have a1 := (U6.blk 0 rfl).cell (j := 1) (v := .int .i64 0) rfl
        have a2 := (U6.blk 0 rfl).cell (j := 2) (v := .int .u64 0) rfl
        refine bodyPost_ret (v := .tuple #[.agg #[.int .i64 0, .int .i64 0, .int .u64 0], .int .i64 (2)]) ?_ rfl ⟨by rw [condRA_bad ws (by rw [E.out]; decide), E.out] <;> rfl, U6.below⟩
        simp [results, Tryz.results139, go_sem, a0, a1, a2]
      · have hw : (if kindF ws = 4 ∨ kindF ws = 5 then 3 else 2) = 2 := by rw [← hK]; rfl
        by_cases hn : ws.length = 2
        · obtain ⟨s0, s1, rfl⟩ : ∃ s0 s1, ws = [s0, s1] := by
            match ws, hn with
            | [s0, s1], _ => exact ⟨_, _, rfl⟩
          obtain ⟨b, oo, rfl, hat⟩ := H4.out (by simp)
          have x0 := cell_below HU.out.below (hat 0 _ (show (wsC [s0, s1])[0]? = some (.string s0) from rfl))
          have x1 := cell_below HU.out.below (hat 1 _ (show (wsC [s0, s1])[1]? = some (.string s1) from rfl))
          have l1 : (if kindF [s0, s1] = 3 then zeroB else [s0, s1].getD 1 zeroB) = s1 := by rw [← hK]; rfl
          have l2 : (if kindF [s0, s1] = 1 ∨ kindF [s0, s1] = 2 then zeroB else [s0, s1].getD ([s0, s1].length - 1) zeroB) = zeroB := by rw [← hK]; rfl
          have hg : ¬ (kindF [s0, s1] = 0 ∨ [s0, s1].length ≠ (if kindF [s0, s1] = 4 ∨ kindF [s0, s1] = 5 then 3 else 2)) := by rw [← hK]; simp
          have N1 := fun w' => ref13Signed s1 w' (hz s1 (by simp))
          have EE : condE [s0, s1] = if sgnO s1 = false then 27 else if numO zeroB 1048576 = false then 27 else chkC 1 (sgnV s1) (numN zeroB) := by unfold condE; rw [if_neg hg, l1, l2, ← hK]
          have EV : condE [s0, s1] = 0 → condRA [s0, s1] = .agg #[.int .i64 1, .int .i64 (sgnV s1), .int .u64 (numN zeroB : Nat)] := fun h => by unfold condRA condK condL condT; rw [if_pos h, if_pos h, if_pos h, l1, l2, ← hK]; rfl
          obtain ⟨L, hL⟩ : ∃ x, x = sgnV s1 := ⟨_, rfl⟩
          obtain ⟨LO, hLO⟩ : ∃ x, x = sgnO s1 := ⟨_, rfl⟩
          obtain ⟨Tn, hTn⟩ : ∃ x, x = numN zeroB := ⟨_, rfl⟩
          obtain ⟨TO, hTO⟩ : ∃ x, x = numO zeroB 1048576 := ⟨_, rfl⟩
          have hTn0 : Tn = 0 := by rw [hTn]; decide +kernel
          have hTO0 : TO = true := by rw [hTO]; decide +kernel
          rw [← hL, ← hTn] at EV
          rw [← hLO, ← hTO, ← hL, ← hTn] at EE
          rw [← hL, ← hLO] at N1
          clear hL hLO hTn hTO l1 l2 hg hn hw hK HW0 hat H4 hz h1 h2
          subst hTn0 hTO0
          cases LO with
          | false =>
            have E := Lib.hid (EE.trans (if_pos rfl))
            clear EE EV
            go_wp2_with fail
            (try (go_region; go_wp2_with fail))
            (with_reducible refine (N1 _).mono ?_)
            rintro e w1 ⟨rfl, rfl⟩
            go_wp2_with fail
            (try (go_region; go_wp2_with fail))
            refine bodyPost_gen fun w6 hw6 => ?_
            have U6 := (((((HU.out.put 0 rfl 1 (.int .i64 L)).put 2 rfl 0 (.int .i64 0)).put 0 rfl 1 (.int .i64 0)).put 0 rfl 2 (.int .u64 0))).same hw6
            simp only [List.setIfInBounds_toArray, List.set_cons_zero, List.set_cons_succ, List.eraseIdx_cons_zero, List.eraseIdx_cons_succ] at U6
            clear hw6
            have a0 := (U6.blk 0 rfl).cell (j := 0) (v := .int .i64 0) rfl
            have a1 := (U6.blk 0 rfl).cell (j := 1) (v := .int .i64 0) rfl
            have a2 := (U6.blk 0 rfl).cell (j := 2) (v := .int .u64 0) rfl
            refine bodyPost_ret (v := .tuple #[.agg #[.int .i64 0, .int .i64 0, .int .u64 0], .int .i64 (27)]) ?_ rfl ⟨by rw [condRA_bad [s0, s1] (by rw [E.out]; decide), E.out] <;> rfl, U6.below⟩
            simp [results, Tryz.results139, go_sem, a0, a1, a2]
          | true =>
            rw [if_neg (by decide : ¬ true = false)] at EE
            rw [if_neg (by decide : ¬ true = false)] at EE
            have C := fun w' => refCondCheckI 1 L 0 1 0 rfl rfl w'
            obtain ⟨ce, hce⟩ : ∃ x, x = chkC 1 L 0 := ⟨_, rfl⟩
            rw [← hce] at EE C
            clear hce
            by_cases hce : ce = 0
            · subst hce
              have E := Lib.hid EE
              have EV2 := Lib.hid (EV EE)
              clear EE EV
              go_wp2_with fail
              (try (go_region; go_wp2_with fail))
              (with_reducible refine (N1 _).mono ?_)
              rintro e w1 ⟨rfl, rfl⟩
              go_wp2_with fail
              (try (go_region; go_wp2_with fail))
              refine calls_genP fun w3 hw3 => ?_
              have U5 := ((HU.out.put 0 rfl 1 (.int .i64 L))).same hw3
              simp only [List.setIfInBounds_toArray, List.set_cons_zero, List.set_cons_succ, List.eraseIdx_cons_zero] at U5
              clear hw3
              (with_reducible refine (C _).mono ?_)
              rintro e w4 ⟨rfl, hb4⟩
              have U5 := U5.grow hb4
              have d0 := (U5.blk 0 rfl).cell (j := 0) (v := .int .i64 1) rfl
              have d1 := (U5.blk 0 rfl).cell (j := 1) (v := .int .i64 L) rfl
              have d2 := (U5.blk 0 rfl).cell (j := 2) (v := .int .u64 0) rfl
              have e0 := (U5.blk 2 rfl).frozen 0
              have e1 := (U5.blk 2 rfl).frozen 1
              have e2 := (U5.blk 2 rfl).frozen 2
              have f0 := (U5.blk 2 rfl).cell (j := 0) (v := .int .i64 0) rfl
              have f1 := (U5.blk 2 rfl).cell (j := 1) (v := .int .i64 0) rfl
              have f2 := (U5.blk 2 rfl).cell (j := 2) (v := .int .u64 0) rfl
              have HU5 := Lib.hid U5
              clear U5 hb4
              go_wp2_with fail
              refine bodyPost_gen fun w6 hw6 => ?_
              have U6 := (((HU5.out.put 2 rfl 0 (.int .i64 1)).put 0 rfl 1 (.int .i64 L)).put 0 rfl 2 (.int .u64 0)).same hw6
              simp only [List.setIfInBounds_toArray, List.set_cons_zero, List.set_cons_succ, List.eraseIdx_cons_zero, List.eraseIdx_cons_succ] at U6
              clear hw6
              have a0 := (U6.blk 0 rfl).cell (j := 0) (v := .int .i64 1) rfl
              have a1 := (U6.blk 0 rfl).cell (j := 1) (v := .int .i64 L) rfl
              have a2 := (U6.blk 0 rfl).cell (j := 2) (v := .int .u64 0) rfl
              refine bodyPost_ret (v := .tuple #[.agg #[.int .i64 1, .int .i64 L, .int .u64 0], .int .i64 0]) ?_ rfl ⟨by rw [EV2.out, E.out] <;> rfl, U6.below⟩
              simp [results, Tryz.results139, go_sem, a0, a1, a2]
            · have hce2 : ((ce : Int) == 0) = false := by simp; omega
              have E := Lib.hid EE
              clear EE EV
              go_wp2_with fail
              (try (go_region; go_wp2_with fail))
              (with_reducible refine (N1 _).mono ?_)
              rintro e w1 ⟨rfl, rfl⟩
              go_wp2_with fail
              (try (go_region; go_wp2_with fail))
              refine calls_genP fun w3 hw3 => ?_
              have U5 := ((HU.out.put 0 rfl 1 (.int .i64 L))).same hw3
              simp only [List.setIfInBounds_toArray, List.set_cons_zero, List.set_cons_succ, List.eraseIdx_cons_zero] at U5
              clear hw3
              (with_reducible refine (C _).mono ?_)
              rintro e w4 ⟨rfl, hb4⟩
              have U5 := U5.grow hb4
              have d0 := (U5.blk 0 rfl).cell (j := 0) (v := .int .i64 1) rfl
              have d1 := (U5.blk 0 rfl).cell (j := 1) (v := .int .i64 L) rfl
              have d2 := (U5.blk 0 rfl).cell (j := 2) (v := .int .u64 0) rfl
              have e0 := (U5.blk 2 rfl).frozen 0
              have e1 := (U5.blk 2 rfl).frozen 1
              have e2 := (U5.blk 2 rfl).frozen 2
              have f0 := (U5.blk 2 rfl).cell (j := 0) (v := .int .i64 0) rfl
              have f1 := (U5.blk 2 rfl).cell (j := 1) (v := .int .i64 0) rfl
              have f2 := (U5.blk 2 rfl).cell (j := 2) (v := .int .u64 0) rfl
              have HU5 := Lib.hid U5
              clear U5 hb4
              go_wp2_with fail
              refine bodyPost_gen fun w6 hw6 => ?_
              have U6 := ((((HU5.out.put 2 rfl 0 (.int .i64 0)).put 0 rfl 1 (.int .i64 0)).put 0 rfl 2 (.int .u64 0))).same hw6
              simp only [List.setIfInBounds_toArray, List.set_cons_zero, List.set_cons_succ, List.eraseIdx_cons_zero, List.eraseIdx_cons_succ] at U6
              clear hw6
              have a0 := (U6.blk 0 rfl).cell (j := 0) (v := .int .i64 0) rfl
              have a1 := (U6.blk 0 rfl).cell (j := 1) (v := .int .i64 0) rfl
              have a2 := (U6.blk 0 rfl).cell (j := 2) (v := .int .u64 0) rfl
              refine bodyPost_ret (v := .tuple #[.agg #[.int .i64 0, .int .i64 0, .int .u64 0], .int .i64 (ce)]) ?_ rfl ⟨by rw [condRA_bad [s0, s1] (by rw [E.out]; exact hce), E.out] <;> rfl, U6.below⟩
              simp [results, Tryz.results139, go_sem, a0, a1, a2]
        · have E := Lib.hid (show condE ws = 2 by unfold condE; rw [hw, if_pos (.inr hn)])
          have hnf : ((ws.length : Int) == 2) = false := by simp; omega
          clear hK H4 HW0 hw
          go_wp2_with fail
          (try (go_region; go_wp2_with fail))
          refine bodyPost_gen fun w6 hw6 => ?_
          have U6 := ((((HU.out.put 2 rfl 0 (.int .i64 0)).put 0 rfl 1 (.int .i64 0)).put 0 rfl 2 (.int .u64 0))).same hw6
          simp only [List.setIfInBounds_toArray, List.set_cons_zero, List.set_cons_succ, List.eraseIdx_cons_zero, List.eraseIdx_cons_succ] at U6
          clear hw6
          have a0 := (U6.blk 0 rfl).cell (j := 0) (v := .int .i64 0) rfl
          have a1 := (U6.blk 0 rfl).cell (j := 1) (v := .int .i64 0) rfl
          have a2 := (U6.blk 0 rfl).cell (j := 2) (v := .int .u64 0) rfl
          refine bodyPost_ret (v := .tuple #[.agg #[.int .i64 0, .int .i64 0, .int .u64 0], .int .i64 (2)]) ?_ rfl ⟨by rw [condRA_bad ws (by rw [E.out]; decide), E.out] <;> rfl, U6.below⟩
          simp [results, Tryz.results139, go_sem, a0, a1, a2]
      · have hw : (if kindF ws = 4 ∨ kindF ws = 5 then 3 else 2) = 2 := by rw [← hK]; rfl
        by_cases hn : ws.length = 2
        · obtain ⟨s0, s1, rfl⟩ : ∃ s0 s1, ws = [s0, s1] := by
            match ws, hn with
            | [s0, s1], _ => exact ⟨_, _, rfl⟩
          obtain ⟨b, oo, rfl, hat⟩ := H4.out (by simp)
          have x0 := cell_below HU.out.below (hat 0 _ (show (wsC [s0, s1])[0]? = some (.string s0) from rfl))
          have x1 := cell_below HU.out.below (hat 1 _ (show (wsC [s0, s1])[1]? = some (.string s1) from rfl))
          have l1 : (if kindF [s0, s1] = 3 then zeroB else [s0, s1].getD 1 zeroB) = s1 := by rw [← hK]; rfl
          have l2 : (if kindF [s0, s1] = 1 ∨ kindF [s0, s1] = 2 then zeroB else [s0, s1].getD ([s0, s1].length - 1) zeroB) = zeroB := by rw [← hK]; rfl
          have hg : ¬ (kindF [s0, s1] = 0 ∨ [s0, s1].length ≠ (if kindF [s0, s1] = 4 ∨ kindF [s0, s1] = 5 then 3 else 2)) := by rw [← hK]; simp
          have N1 := fun w' => ref13Signed s1 w' (hz s1 (by simp))
          have EE : condE [s0, s1] = if sgnO s1 = false then 27 else if numO zeroB 1048576 = false then 27 else chkC 2 (sgnV s1) (numN zeroB) := by unfold condE; rw [if_neg hg, l1, l2, ← hK]
          have EV : condE [s0, s1] = 0 → condRA [s0, s1] = .agg #[.int .i64 2, .int .i64 (sgnV s1), .int .u64 (numN zeroB : Nat)] := fun h => by unfold condRA condK condL condT; rw [if_pos h, if_pos h, if_pos h, l1, l2, ← hK]; rfl
          obtain ⟨L, hL⟩ : ∃ x, x = sgnV s1 := ⟨_, rfl⟩
          obtain ⟨LO, hLO⟩ : ∃ x, x = sgnO s1 := ⟨_, rfl⟩
          obtain ⟨Tn, hTn⟩ : ∃ x, x = numN zeroB := ⟨_, rfl⟩
          obtain ⟨TO, hTO⟩ : ∃ x, x = numO zeroB 1048576 := ⟨_, rfl⟩
          have hTn0 : Tn = 0 := by rw [hTn]; decide +kernel
          have hTO0 : TO = true := by rw [hTO]; decide +kernel
          rw [← hL, ← hTn] at EV
          rw [← hLO, ← hTO, ← hL, ← hTn] at EE
          rw [← hL, ← hLO] at N1
          clear hL hLO hTn hTO l1 l2 hg hn hw hK HW0 hat H4 hz h1 h2
          subst hTn0 hTO0
          cases LO with
          | false =>
            have E := Lib.hid (EE.trans (if_pos rfl))
            clear EE EV
            go_wp2_with fail
            (try (go_region; go_wp2_with fail))
            (with_reducible refine (N1 _).mono ?_)
            rintro e w1 ⟨rfl, rfl⟩
            go_wp2_with fail
            (try (go_region; go_wp2_with fail))
            refine bodyPost_gen fun w6 hw6 => ?_
            have U6 := (((((HU.out.put 0 rfl 1 (.int .i64 L)).put 2 rfl 0 (.int .i64 0)).put 0 rfl 1 (.int .i64 0)).put 0 rfl 2 (.int .u64 0))).same hw6
            simp only [List.setIfInBounds_toArray, List.set_cons_zero, List.set_cons_succ, List.eraseIdx_cons_zero, List.eraseIdx_cons_succ] at U6
            clear hw6
            have a0 := (U6.blk 0 rfl).cell (j := 0) (v := .int .i64 0) rfl
            have a1 := (U6.blk 0 rfl).cell (j := 1) (v := .int .i64 0) rfl
            have a2 := (U6.blk 0 rfl).cell (j := 2) (v := .int .u64 0) rfl
            refine bodyPost_ret (v := .tuple #[.agg #[.int .i64 0, .int .i64 0, .int .u64 0], .int .i64 (27)]) ?_ rfl ⟨by rw [condRA_bad [s0, s1] (by rw [E.out]; decide), E.out] <;> rfl, U6.below⟩
            simp [results, Tryz.results139, go_sem, a0, a1, a2]
          | true =>
            rw [if_neg (by decide : ¬ true = false)] at EE
            rw [if_neg (by decide : ¬ true = false)] at EE
            have C := fun w' => refCondCheckI 2 L 0 2 0 rfl rfl w'
            obtain ⟨ce, hce⟩ : ∃ x, x = chkC 2 L 0 := ⟨_, rfl⟩
            rw [← hce] at EE C
            clear hce
            by_cases hce : ce = 0
            · subst hce
              have E := Lib.hid EE
              have EV2 := Lib.hid (EV EE)
              clear EE EV
              go_wp2_with fail
              (try (go_region; go_wp2_with fail))
              (with_reducible refine (N1 _).mono ?_)
              rintro e w1 ⟨rfl, rfl⟩
              go_wp2_with fail
              (try (go_region; go_wp2_with fail))
              refine calls_genP fun w3 hw3 => ?_
              have U5 := ((HU.out.put 0 rfl 1 (.int .i64 L))).same hw3
              simp only [List.setIfInBounds_toArray, List.set_cons_zero, List.set_cons_succ, List.eraseIdx_cons_zero] at U5
              clear hw3
              (with_reducible refine (C _).mono ?_)
              rintro e w4 ⟨rfl, hb4⟩
              have U5 := U5.grow hb4
              have d0 := (U5.blk 0 rfl).cell (j := 0) (v := .int .i64 2) rfl
              have d1 := (U5.blk 0 rfl).cell (j := 1) (v := .int .i64 L) rfl
              have d2 := (U5.blk 0 rfl).cell (j := 2) (v := .int .u64 0) rfl
              have e0 := (U5.blk 2 rfl).frozen 0
              have e1 := (U5.blk 2 rfl).frozen 1
              have e2 := (U5.blk 2 rfl).frozen 2
              have f0 := (U5.blk 2 rfl).cell (j := 0) (v := .int .i64 0) rfl
              have f1 := (U5.blk 2 rfl).cell (j := 1) (v := .int .i64 0) rfl
              have f2 := (U5.blk 2 rfl).cell (j := 2) (v := .int .u64 0) rfl
              have HU5 := Lib.hid U5
              clear U5 hb4
              go_wp2_with fail
              refine bodyPost_gen fun w6 hw6 => ?_
              have U6 := (((HU5.out.put 2 rfl 0 (.int .i64 2)).put 0 rfl 1 (.int .i64 L)).put 0 rfl 2 (.int .u64 0)).same hw6
              simp only [List.setIfInBounds_toArray, List.set_cons_zero, List.set_cons_succ, List.eraseIdx_cons_zero, List.eraseIdx_cons_succ] at U6
              clear hw6
              have a0 := (U6.blk 0 rfl).cell (j := 0) (v := .int .i64 2) rfl
              have a1 := (U6.blk 0 rfl).cell (j := 1) (v := .int .i64 L) rfl
              have a2 := (U6.blk 0 rfl).cell (j := 2) (v := .int .u64 0) rfl
              refine bodyPost_ret (v := .tuple #[.agg #[.int .i64 2, .int .i64 L, .int .u64 0], .int .i64 0]) ?_ rfl ⟨by rw [EV2.out, E.out] <;> rfl, U6.below⟩
              simp [results, Tryz.results139, go_sem, a0, a1, a2]
            · have hce2 : ((ce : Int) == 0) = false := by simp; omega
              have E := Lib.hid EE
              clear EE EV
              go_wp2_with fail
              (try (go_region; go_wp2_with fail))
              (with_reducible refine (N1 _).mono ?_)
              rintro e w1 ⟨rfl, rfl⟩
              go_wp2_with fail
              (try (go_region; go_wp2_with fail))
              refine calls_genP fun w3 hw3 => ?_
              have U5 := ((HU.out.put 0 rfl 1 (.int .i64 L))).same hw3
              simp only [List.setIfInBounds_toArray, List.set_cons_zero, List.set_cons_succ, List.eraseIdx_cons_zero] at U5
              clear hw3
              (with_reducible refine (C _).mono ?_)
              rintro e w4 ⟨rfl, hb4⟩
              have U5 := U5.grow hb4
              have d0 := (U5.blk 0 rfl).cell (j := 0) (v := .int .i64 2) rfl
              have d1 := (U5.blk 0 rfl).cell (j := 1) (v := .int .i64 L) rfl
              have d2 := (U5.blk 0 rfl).cell (j := 2) (v := .int .u64 0) rfl
              have e0 := (U5.blk 2 rfl).frozen 0
              have e1 := (U5.blk 2 rfl).frozen 1
              have e2 := (U5.blk 2 rfl).frozen 2
              have f0 := (U5.blk 2 rfl).cell (j := 0) (v := .int .i64 0) rfl
              have f1 := (U5.blk 2 rfl).cell (j := 1) (v := .int .i64 0) rfl
              have f2 := (U5.blk 2 rfl).cell (j := 2) (v := .int .u64 0) rfl
              have HU5 := Lib.hid U5
              clear U5 hb4
              go_wp2_with fail
              refine bodyPost_gen fun w6 hw6 => ?_
              have U6 := ((((HU5.out.put 2 rfl 0 (.int .i64 0)).put 0 rfl 1 (.int .i64 0)).put 0 rfl 2 (.int .u64 0))).same hw6
              simp only [List.setIfInBounds_toArray, List.set_cons_zero, List.set_cons_succ, List.eraseIdx_cons_zero, List.eraseIdx_cons_succ] at U6
              clear hw6
              have a0 := (U6.blk 0 rfl).cell (j := 0) (v := .int .i64 0) rfl
              have a1 := (U6.blk 0 rfl).cell (j := 1) (v := .int .i64 0) rfl
              have a2 := (U6.blk 0 rfl).cell (j := 2) (v := .int .u64 0) rfl
              refine bodyPost_ret (v := .tuple #[.agg #[.int .i64 0, .int .i64 0, .int .u64 0], .int .i64 (ce)]) ?_ rfl ⟨by rw [condRA_bad [s0, s1] (by rw [E.out]; exact hce), E.out] <;> rfl, U6.below⟩
              simp [results, Tryz.results139, go_sem, a0, a1, a2]
        · have E := Lib.hid (show condE ws = 2 by unfold condE; rw [hw, if_pos (.inr hn)])
          have hnf : ((ws.length : Int) == 2) = false := by simp; omega
          clear hK H4 HW0 hw
          go_wp2_with fail
          (try (go_region; go_wp2_with fail))
          refine bodyPost_gen fun w6 hw6 => ?_
          have U6 := ((((HU.out.put 2 rfl 0 (.int .i64 0)).put 0 rfl 1 (.int .i64 0)).put 0 rfl 2 (.int .u64 0))).same hw6
          simp only [List.setIfInBounds_toArray, List.set_cons_zero, List.set_cons_succ, List.eraseIdx_cons_zero, List.eraseIdx_cons_succ] at U6
          clear hw6
          have a0 := (U6.blk 0 rfl).cell (j := 0) (v := .int .i64 0) rfl
          have a1 := (U6.blk 0 rfl).cell (j := 1) (v := .int .i64 0) rfl
          have a2 := (U6.blk 0 rfl).cell (j := 2) (v := .int .u64 0) rfl
          refine bodyPost_ret (v := .tuple #[.agg #[.int .i64 0, .int .i64 0, .int .u64 0], .int .i64 (2)]) ?_ rfl ⟨by rw [condRA_bad ws (by rw [E.out]; decide), E.out] <;> rfl, U6.below⟩
          simp [results, Tryz.results139, go_sem, a0, a1, a2]
      · have hw : (if kindF ws = 4 ∨ kindF ws = 5 then 3 else 2) = 2 := by rw [← hK]; rfl
        by_cases hn : ws.length = 2
        · obtain ⟨s0, s1, rfl⟩ : ∃ s0 s1, ws = [s0, s1] := by
            match ws, hn with
            | [s0, s1], _ => exact ⟨_, _, rfl⟩
          obtain ⟨b, oo, rfl, hat⟩ := H4.out (by simp)
          have x0 := cell_below HU.out.below (hat 0 _ (show (wsC [s0, s1])[0]? = some (.string s0) from rfl))
          have x1 := cell_below HU.out.below (hat 1 _ (show (wsC [s0, s1])[1]? = some (.string s1) from rfl))
          have l1 : (if kindF [s0, s1] = 3 then zeroB else [s0, s1].getD 1 zeroB) = zeroB := by rw [← hK]; rfl
          have l2 : (if kindF [s0, s1] = 1 ∨ kindF [s0, s1] = 2 then zeroB else [s0, s1].getD ([s0, s1].length - 1) zeroB) = s1 := by rw [← hK]; rfl
          have hg : ¬ (kindF [s0, s1] = 0 ∨ [s0, s1].length ≠ (if kindF [s0, s1] = 4 ∨ kindF [s0, s1] = 5 then 3 else 2)) := by rw [← hK]; simp
          have N2 := fun w' => ref13NumberI s1 1048576 1048576 rfl w' (hz s1 (by simp))
          have EE : condE [s0, s1] = if sgnO zeroB = false then 27 else if numO s1 1048576 = false then 27 else chkC 3 (sgnV zeroB) (numN s1) := by unfold condE; rw [if_neg hg, l1, l2, ← hK]
          have EV : condE [s0, s1] = 0 → condRA [s0, s1] = .agg #[.int .i64 3, .int .i64 (sgnV zeroB), .int .u64 (numN s1 : Nat)] := fun h => by unfold condRA condK condL condT; rw [if_pos h, if_pos h, if_pos h, l1, l2, ← hK]; rfl
          obtain ⟨L, hL⟩ : ∃ x, x = sgnV zeroB := ⟨_, rfl⟩
          obtain ⟨LO, hLO⟩ : ∃ x, x = sgnO zeroB := ⟨_, rfl⟩
          obtain ⟨Tn, hTn⟩ : ∃ x, x = numN s1 := ⟨_, rfl⟩
          obtain ⟨TO, hTO⟩ : ∃ x, x = numO s1 1048576 := ⟨_, rfl⟩
          have hL0 : L = 0 := by rw [hL]; decide +kernel
          have hLO0 : LO = true := by rw [hLO]; decide +kernel
          rw [← hL, ← hTn] at EV
          rw [← hLO, ← hTO, ← hL, ← hTn] at EE
          rw [← hTn, ← hTO] at N2
          clear hL hLO hTn hTO l1 l2 hg hn hw hK HW0 hat H4 hz h1 h2
          subst hL0 hLO0
          rw [if_neg (by decide : ¬ true = false)] at EE
          cases TO with
          | false =>
            have E := Lib.hid (EE.trans (if_pos rfl))
            clear EE EV
            go_wp2_with fail
            (try (go_region; go_wp2_with fail))
            (with_reducible refine (N2 _).mono ?_)
            rintro e w2 ⟨rfl, rfl⟩
            go_wp2_with fail
            refine bodyPost_gen fun w6 hw6 => ?_
            have U6 := (((((HU.out.put 0 rfl 2 (.int .u64 Tn)).put 2 rfl 0 (.int .i64 0)).put 0 rfl 1 (.int .i64 0)).put 0 rfl 2 (.int .u64 0))).same hw6
            simp only [List.setIfInBounds_toArray, List.set_cons_zero, List.set_cons_succ, List.eraseIdx_cons_zero, List.eraseIdx_cons_succ] at U6
            clear hw6
            have a0 := (U6.blk 0 rfl).cell (j := 0) (v := .int .i64 0) rfl
            have a1 := (U6.blk 0 rfl).cell (j := 1) (v := .int .i64 0) rfl
            have a2 := (U6.blk 0 rfl).cell (j := 2) (v := .int .u64 0) rfl
            refine bodyPost_ret (v := .tuple #[.agg #[.int .i64 0, .int .i64 0, .int .u64 0], .int .i64 (27)]) ?_ rfl ⟨by rw [condRA_bad [s0, s1] (by rw [E.out]; decide), E.out] <;> rfl, U6.below⟩
            simp [results, Tryz.results139, go_sem, a0, a1, a2]
          | true =>
            rw [if_neg (by decide : ¬ true = false)] at EE
            have C := fun w' => refCondCheckI 3 0 Tn 3 Tn rfl rfl w'
            obtain ⟨ce, hce⟩ : ∃ x, x = chkC 3 0 Tn := ⟨_, rfl⟩
            rw [← hce] at EE C
            clear hce
            by_cases hce : ce = 0
            · subst hce
              have E := Lib.hid EE
              have EV2 := Lib.hid (EV EE)
              clear EE EV
              go_wp2_with fail
              (try (go_region; go_wp2_with fail))
              (with_reducible refine (N2 _).mono ?_)
              rintro e w2 ⟨rfl, rfl⟩
              go_wp2_with fail
              refine calls_genP fun w3 hw3 => ?_
              have U5 := ((HU.out.put 0 rfl 2 (.int .u64 Tn))).same hw3
              simp only [List.setIfInBounds_toArray, List.set_cons_zero, List.set_cons_succ, List.eraseIdx_cons_zero] at U5
              clear hw3
              (with_reducible refine (C _).mono ?_)
              rintro e w4 ⟨rfl, hb4⟩
              have U5 := U5.grow hb4
              have d0 := (U5.blk 0 rfl).cell (j := 0) (v := .int .i64 3) rfl
              have d1 := (U5.blk 0 rfl).cell (j := 1) (v := .int .i64 0) rfl
              have d2 := (U5.blk 0 rfl).cell (j := 2) (v := .int .u64 (Tn : Nat)) rfl
              have e0 := (U5.blk 2 rfl).frozen 0
              have e1 := (U5.blk 2 rfl).frozen 1
              have e2 := (U5.blk 2 rfl).frozen 2
              have f0 := (U5.blk 2 rfl).cell (j := 0) (v := .int .i64 0) rfl
              have f1 := (U5.blk 2 rfl).cell (j := 1) (v := .int .i64 0) rfl
              have f2 := (U5.blk 2 rfl).cell (j := 2) (v := .int .u64 0) rfl
              have HU5 := Lib.hid U5
              clear U5 hb4
              go_wp2_with fail
              refine bodyPost_gen fun w6 hw6 => ?_
              have U6 := (((HU5.out.put 2 rfl 0 (.int .i64 3)).put 0 rfl 1 (.int .i64 0)).put 0 rfl 2 (.int .u64 (Tn : Nat))).same hw6
              simp only [List.setIfInBounds_toArray, List.set_cons_zero, List.set_cons_succ, List.eraseIdx_cons_zero, List.eraseIdx_cons_succ] at U6
              clear hw6
              have a0 := (U6.blk 0 rfl).cell (j := 0) (v := .int .i64 3) rfl
              have a1 := (U6.blk 0 rfl).cell (j := 1) (v := .int .i64 0) rfl
              have a2 := (U6.blk 0 rfl).cell (j := 2) (v := .int .u64 (Tn : Nat)) rfl
              refine bodyPost_ret (v := .tuple #[.agg #[.int .i64 3, .int .i64 0, .int .u64 (Tn : Nat)], .int .i64 0]) ?_ rfl ⟨by rw [EV2.out, E.out] <;> rfl, U6.below⟩
              simp [results, Tryz.results139, go_sem, a0, a1, a2]
            · have hce2 : ((ce : Int) == 0) = false := by simp; omega
              have E := Lib.hid EE
              clear EE EV
              go_wp2_with fail
              (try (go_region; go_wp2_with fail))
              (with_reducible refine (N2 _).mono ?_)
              rintro e w2 ⟨rfl, rfl⟩
              go_wp2_with fail
              refine calls_genP fun w3 hw3 => ?_
              have U5 := ((HU.out.put 0 rfl 2 (.int .u64 Tn))).same hw3
              simp only [List.setIfInBounds_toArray, List.set_cons_zero, List.set_cons_succ, List.eraseIdx_cons_zero] at U5
              clear hw3
              (with_reducible refine (C _).mono ?_)
              rintro e w4 ⟨rfl, hb4⟩
              have U5 := U5.grow hb4
              have d0 := (U5.blk 0 rfl).cell (j := 0) (v := .int .i64 3) rfl
              have d1 := (U5.blk 0 rfl).cell (j := 1) (v := .int .i64 0) rfl
              have d2 := (U5.blk 0 rfl).cell (j := 2) (v := .int .u64 (Tn : Nat)) rfl
              have e0 := (U5.blk 2 rfl).frozen 0
              have e1 := (U5.blk 2 rfl).frozen 1
              have e2 := (U5.blk 2 rfl).frozen 2
              have f0 := (U5.blk 2 rfl).cell (j := 0) (v := .int .i64 0) rfl
              have f1 := (U5.blk 2 rfl).cell (j := 1) (v := .int .i64 0) rfl
              have f2 := (U5.blk 2 rfl).cell (j := 2) (v := .int .u64 0) rfl
              have HU5 := Lib.hid U5
              clear U5 hb4
              go_wp2_with fail
              refine bodyPost_gen fun w6 hw6 => ?_
              have U6 := ((((HU5.out.put 2 rfl 0 (.int .i64 0)).put 0 rfl 1 (.int .i64 0)).put 0 rfl 2 (.int .u64 0))).same hw6
              simp only [List.setIfInBounds_toArray, List.set_cons_zero, List.set_cons_succ, List.eraseIdx_cons_zero, List.eraseIdx_cons_succ] at U6
              clear hw6
              have a0 := (U6.blk 0 rfl).cell (j := 0) (v := .int .i64 0) rfl
              have a1 := (U6.blk 0 rfl).cell (j := 1) (v := .int .i64 0) rfl
              have a2 := (U6.blk 0 rfl).cell (j := 2) (v := .int .u64 0) rfl
              refine bodyPost_ret (v := .tuple #[.agg #[.int .i64 0, .int .i64 0, .int .u64 0], .int .i64 (ce)]) ?_ rfl ⟨by rw [condRA_bad [s0, s1] (by rw [E.out]; exact hce), E.out] <;> rfl, U6.below⟩
              simp [results, Tryz.results139, go_sem, a0, a1, a2]
        · have E := Lib.hid (show condE ws = 2 by unfold condE; rw [hw, if_pos (.inr hn)])
          have hnf : ((ws.length : Int) == 2) = false := by simp; omega
          clear hK H4 HW0 hw
          go_wp2_with fail
          (try (go_region; go_wp2_with fail))
          refine bodyPost_gen fun w6 hw6 => ?_
          have U6 := ((((HU.out.put 2 rfl 0 (.int .i64 0)).put 0 rfl 1 (.int .i64 0)).put 0 rfl 2 (.int .u64 0))).same hw6
          simp only [List.setIfInBounds_toArray, List.set_cons_zero, List.set_cons_succ, List.eraseIdx_cons_zero, List.eraseIdx_cons_succ] at U6
          clear hw6
          have a0 := (U6.blk 0 rfl).cell (j := 0) (v := .int .i64 0) rfl
          have a1 := (U6.blk 0 rfl).cell (j := 1) (v := .int .i64 0) rfl
          have a2 := (U6.blk 0 rfl).cell (j := 2) (v := .int .u64 0) rfl
          refine bodyPost_ret (v := .tuple #[.agg #[.int .i64 0, .int .i64 0, .int .u64 0], .int .i64 (2)]) ?_ rfl ⟨by rw [condRA_bad ws (by rw [E.out]; decide), E.out] <;> rfl, U6.below⟩
          simp [results, Tryz.results139, go_sem, a0, a1, a2]
      · have hw : (if kindF ws = 4 ∨ kindF ws = 5 then 3 else 2) = 3 := by rw [← hK]; rfl
        by_cases hn : ws.length = 3
        · obtain ⟨s0, s1, s2, rfl⟩ : ∃ s0 s1 s2, ws = [s0, s1, s2] := by
            match ws, hn with
            | [s0, s1, s2], _ => exact ⟨_, _, _, rfl⟩
          obtain ⟨b, oo, rfl, hat⟩ := H4.out (by simp)
          have x0 := cell_below HU.out.below (hat 0 _ (show (wsC [s0, s1, s2])[0]? = some (.string s0) from rfl))
          have x1 := cell_below HU.out.below (hat 1 _ (show (wsC [s0, s1, s2])[1]? = some (.string s1) from rfl))
          have x2 := cell_below HU.out.below (hat 2 _ (show (wsC [s0, s1, s2])[2]? = some (.string s2) from rfl))
          have l1 : (if kindF [s0, s1, s2] = 3 then zeroB else [s0, s1, s2].getD 1 zeroB) = s1 := by rw [← hK]; rfl
          have l2 : (if kindF [s0, s1, s2] = 1 ∨ kindF [s0, s1, s2] = 2 then zeroB else [s0, s1, s2].getD ([s0, s1, s2].length - 1) zeroB) = s2 := by rw [← hK]; rfl
          have hg : ¬ (kindF [s0, s1, s2] = 0 ∨ [s0, s1, s2].length ≠ (if kindF [s0, s1, s2] = 4 ∨ kindF [s0, s1, s2] = 5 then 3 else 2)) := by rw [← hK]; simp
          have N1 := fun w' => ref13Signed s1 w' (hz s1 (by simp))
          have N2 := fun w' => ref13NumberI s2 1048576 1048576 rfl w' (hz s2 (by simp))
          have EE : condE [s0, s1, s2] = if sgnO s1 = false then 27 else if numO s2 1048576 = false then 27 else chkC 4 (sgnV s1) (numN s2) := by unfold condE; rw [if_neg hg, l1, l2, ← hK]
          have EV : condE [s0, s1, s2] = 0 → condRA [s0, s1, s2] = .agg #[.int .i64 4, .int .i64 (sgnV s1), .int .u64 (numN s2 : Nat)] := fun h => by unfold condRA condK condL condT; rw [if_pos h, if_pos h, if_pos h, l1, l2, ← hK]; rfl
          obtain ⟨L, hL⟩ : ∃ x, x = sgnV s1 := ⟨_, rfl⟩
          obtain ⟨LO, hLO⟩ : ∃ x, x = sgnO s1 := ⟨_, rfl⟩
          obtain ⟨Tn, hTn⟩ : ∃ x, x = numN s2 := ⟨_, rfl⟩
          obtain ⟨TO, hTO⟩ : ∃ x, x = numO s2 1048576 := ⟨_, rfl⟩
          rw [← hL, ← hTn] at EV
          rw [← hLO, ← hTO, ← hL, ← hTn] at EE
          rw [← hL, ← hLO] at N1
          rw [← hTn, ← hTO] at N2
          clear hL hLO hTn hTO l1 l2 hg hn hw hK HW0 hat H4 hz h1 h2
          cases LO with
          | false =>
            have E := Lib.hid (EE.trans (if_pos rfl))
            clear EE EV N2
            go_wp2_with fail
            (try (go_region; go_wp2_with fail))
            (with_reducible refine (N1 _).mono ?_)
            rintro e w1 ⟨rfl, rfl⟩
            go_wp2_with fail
            (try (go_region; go_wp2_with fail))
            refine bodyPost_gen fun w6 hw6 => ?_
            have U6 := (((((HU.out.put 0 rfl 1 (.int .i64 L)).put 2 rfl 0 (.int .i64 0)).put 0 rfl 1 (.int .i64 0)).put 0 rfl 2 (.int .u64 0))).same hw6
            simp only [List.setIfInBounds_toArray, List.set_cons_zero, List.set_cons_succ, List.eraseIdx_cons_zero, List.eraseIdx_cons_succ] at U6
            clear hw6
            have a0 := (U6.blk 0 rfl).cell (j := 0) (v := .int .i64 0) rfl
            have a1 := (U6.blk 0 rfl).cell (j := 1) (v := .int .i64 0) rfl
            have a2 := (U6.blk 0 rfl).cell (j := 2) (v := .int .u64 0) rfl
            refine bodyPost_ret (v := .tuple #[.agg #[.int .i64 0, .int .i64 0, .int .u64 0], .int .i64 (27)]) ?_ rfl ⟨by rw [condRA_bad [s0, s1, s2] (by rw [E.out]; decide), E.out] <;> rfl, U6.below⟩
            simp [results, Tryz.results139, go_sem, a0, a1, a2]
          | true =>
            rw [if_neg (by decide : ¬ true = false)] at EE
            cases TO with
            | false =>
              have E := Lib.hid (EE.trans (if_pos rfl))
              clear EE EV
              go_wp2_with fail
              (try (go_region; go_wp2_with fail))
              (with_reducible refine (N1 _).mono ?_)
              rintro e w1 ⟨rfl, rfl⟩
              go_wp2_with fail
              (try (go_region; go_wp2_with fail))
              (with_reducible refine (N2 _).mono ?_)
              rintro e w2 ⟨rfl, rfl⟩
              go_wp2_with fail
              refine bodyPost_gen fun w6 hw6 => ?_
              have U6 := ((((((HU.out.put 0 rfl 1 (.int .i64 L)).put 0 rfl 2 (.int .u64 Tn)).put 2 rfl 0 (.int .i64 0)).put 0 rfl 1 (.int .i64 0)).put 0 rfl 2 (.int .u64 0))).same hw6
              simp only [List.setIfInBounds_toArray, List.set_cons_zero, List.set_cons_succ, List.eraseIdx_cons_zero, List.eraseIdx_cons_succ] at U6
              clear hw6
              have a0 := (U6.blk 0 rfl).cell (j := 0) (v := .int .i64 0) rfl
              have a1 := (U6.blk 0 rfl).cell (j := 1) (v := .int .i64 0) rfl
              have a2 := (U6.blk 0 rfl).cell (j := 2) (v := .int .u64 0) rfl
              refine bodyPost_ret (v := .tuple #[.agg #[.int .i64 0, .int .i64 0, .int .u64 0], .int .i64 (27)]) ?_ rfl ⟨by rw [condRA_bad [s0, s1, s2] (by rw [E.out]; decide), E.out] <;> rfl, U6.below⟩
              simp [results, Tryz.results139, go_sem, a0, a1, a2]
            | true =>
              rw [if_neg (by decide : ¬ true = false)] at EE
              have C := fun w' => refCondCheckI 4 L Tn 4 Tn rfl rfl w'
              obtain ⟨ce, hce⟩ : ∃ x, x = chkC 4 L Tn := ⟨_, rfl⟩
              rw [← hce] at EE C
              clear hce
              by_cases hce : ce = 0
              · subst hce
                have E := Lib.hid EE
                have EV2 := Lib.hid (EV EE)
                clear EE EV
                go_wp2_with fail
                (try (go_region; go_wp2_with fail))
                (with_reducible refine (N1 _).mono ?_)
                rintro e w1 ⟨rfl, rfl⟩
                go_wp2_with fail
                (try (go_region; go_wp2_with fail))
                (with_reducible refine (N2 _).mono ?_)
                rintro e w2 ⟨rfl, rfl⟩
                go_wp2_with fail
                refine calls_genP fun w3 hw3 => ?_
                have U5 := (((HU.out.put 0 rfl 1 (.int .i64 L)).put 0 rfl 2 (.int .u64 Tn))).same hw3
                simp only [List.setIfInBounds_toArray, List.set_cons_zero, List.set_cons_succ, List.eraseIdx_cons_zero] at U5
                clear hw3
                (with_reducible refine (C _).mono ?_)
                rintro e w4 ⟨rfl, hb4⟩
                have U5 := U5.grow hb4
                have d0 := (U5.blk 0 rfl).cell (j := 0) (v := .int .i64 4) rfl
                have d1 := (U5.blk 0 rfl).cell (j := 1) (v := .int .i64 L) rfl
                have d2 := (U5.blk 0 rfl).cell (j := 2) (v := .int .u64 (Tn : Nat)) rfl
                have e0 := (U5.blk 2 rfl).frozen 0
                have e1 := (U5.blk 2 rfl).frozen 1
                have e2 := (U5.blk 2 rfl).frozen 2
                have f0 := (U5.blk 2 rfl).cell (j := 0) (v := .int .i64 0) rfl
                have f1 := (U5.blk 2 rfl).cell (j := 1) (v := .int .i64 0) rfl
                have f2 := (U5.blk 2 rfl).cell (j := 2) (v := .int .u64 0) rfl
                have HU5 := Lib.hid U5
                clear U5 hb4
                go_wp2_with fail
                refine bodyPost_gen fun w6 hw6 => ?_
                have U6 := (((HU5.out.put 2 rfl 0 (.int .i64 4)).put 0 rfl 1 (.int .i64 L)).put 0 rfl 2 (.int .u64 (Tn : Nat))).same hw6
                simp only [List.setIfInBounds_toArray, List.set_cons_zero, List.set_cons_succ, List.eraseIdx_cons_zero, List.eraseIdx_cons_succ] at U6
                clear hw6
                have a0 := (U6.blk 0 rfl).cell (j := 0) (v := .int .i64 4) rfl
                have a1 := (U6.blk 0 rfl).cell (j := 1) (v := .int .i64 L) rfl
                have a2 := (U6.blk 0 rfl).cell (j := 2) (v := .int .u64 (Tn : Nat)) rfl
                refine bodyPost_ret (v := .tuple #[.agg #[.int .i64 4, .int .i64 L, .int .u64 (Tn : Nat)], .int .i64 0]) ?_ rfl ⟨by rw [EV2.out, E.out] <;> rfl, U6.below⟩
                simp [results, Tryz.results139, go_sem, a0, a1, a2]
              · have hce2 : ((ce : Int) == 0) = false := by simp; omega
                have E := Lib.hid EE
                clear EE EV
                go_wp2_with fail
                (try (go_region; go_wp2_with fail))
                (with_reducible refine (N1 _).mono ?_)
                rintro e w1 ⟨rfl, rfl⟩
                go_wp2_with fail
                (try (go_region; go_wp2_with fail))
                (with_reducible refine (N2 _).mono ?_)
                rintro e w2 ⟨rfl, rfl⟩
                go_wp2_with fail
                refine calls_genP fun w3 hw3 => ?_
                have U5 := (((HU.out.put 0 rfl 1 (.int .i64 L)).put 0 rfl 2 (.int .u64 Tn))).same hw3
                simp only [List.setIfInBounds_toArray, List.set_cons_zero, List.set_cons_succ, List.eraseIdx_cons_zero] at U5
                clear hw3
                (with_reducible refine (C _).mono ?_)
                rintro e w4 ⟨rfl, hb4⟩
                have U5 := U5.grow hb4
                have d0 := (U5.blk 0 rfl).cell (j := 0) (v := .int .i64 4) rfl
                have d1 := (U5.blk 0 rfl).cell (j := 1) (v := .int .i64 L) rfl
                have d2 := (U5.blk 0 rfl).cell (j := 2) (v := .int .u64 (Tn : Nat)) rfl
                have e0 := (U5.blk 2 rfl).frozen 0
                have e1 := (U5.blk 2 rfl).frozen 1
                have e2 := (U5.blk 2 rfl).frozen 2
                have f0 := (U5.blk 2 rfl).cell (j := 0) (v := .int .i64 0) rfl
                have f1 := (U5.blk 2 rfl).cell (j := 1) (v := .int .i64 0) rfl
                have f2 := (U5.blk 2 rfl).cell (j := 2) (v := .int .u64 0) rfl
                have HU5 := Lib.hid U5
                clear U5 hb4
                go_wp2_with fail
                refine bodyPost_gen fun w6 hw6 => ?_
                have U6 := ((((HU5.out.put 2 rfl 0 (.int .i64 0)).put 0 rfl 1 (.int .i64 0)).put 0 rfl 2 (.int .u64 0))).same hw6
                simp only [List.setIfInBounds_toArray, List.set_cons_zero, List.set_cons_succ, List.eraseIdx_cons_zero, List.eraseIdx_cons_succ] at U6
                clear hw6
                have a0 := (U6.blk 0 rfl).cell (j := 0) (v := .int .i64 0) rfl
                have a1 := (U6.blk 0 rfl).cell (j := 1) (v := .int .i64 0) rfl
                have a2 := (U6.blk 0 rfl).cell (j := 2) (v := .int .u64 0) rfl
                refine bodyPost_ret (v := .tuple #[.agg #[.int .i64 0, .int .i64 0, .int .u64 0], .int .i64 (ce)]) ?_ rfl ⟨by rw [condRA_bad [s0, s1, s2] (by rw [E.out]; exact hce), E.out] <;> rfl, U6.below⟩
                simp [results, Tryz.results139, go_sem, a0, a1, a2]
        · have E := Lib.hid (show condE ws = 2 by unfold condE; rw [hw, if_pos (.inr hn)])
          have hnf : ((ws.length : Int) == 3) = false := by simp; omega
          clear hK H4 HW0 hw
          go_wp2_with fail
          (try (go_region; go_wp2_with fail))
          refine bodyPost_gen fun w6 hw6 => ?_
          have U6 := ((((HU.out.put 2 rfl 0 (.int .i64 0)).put 0 rfl 1 (.int .i64 0)).put 0 rfl 2 (.int .u64 0))).same hw6
          simp only [List.setIfInBounds_toArray, List.set_cons_zero, List.set_cons_succ, List.eraseIdx_cons_zero, List.eraseIdx_cons_succ] at U6
          clear hw6
          have a0 := (U6.blk 0 rfl).cell (j := 0) (v := .int .i64 0) rfl
          have a1 := (U6.blk 0 rfl).cell (j := 1) (v := .int .i64 0) rfl
          have a2 := (U6.blk 0 rfl).cell (j := 2) (v := .int .u64 0) rfl
          refine bodyPost_ret (v := .tuple #[.agg #[.int .i64 0, .int .i64 0, .int .u64 0], .int .i64 (2)]) ?_ rfl ⟨by rw [condRA_bad ws (by rw [E.out]; decide), E.out] <;> rfl, U6.below⟩
          simp [results, Tryz.results139, go_sem, a0, a1, a2]
      · have hw : (if kindF ws = 4 ∨ kindF ws = 5 then 3 else 2) = 3 := by rw [← hK]; rfl
        by_cases hn : ws.length = 3
        · obtain ⟨s0, s1, s2, rfl⟩ : ∃ s0 s1 s2, ws = [s0, s1, s2] := by
            match ws, hn with
            | [s0, s1, s2], _ => exact ⟨_, _, _, rfl⟩
          obtain ⟨b, oo, rfl, hat⟩ := H4.out (by simp)
          have x0 := cell_below HU.out.below (hat 0 _ (show (wsC [s0, s1, s2])[0]? = some (.string s0) from rfl))
          have x1 := cell_below HU.out.below (hat 1 _ (show (wsC [s0, s1, s2])[1]? = some (.string s1) from rfl))
          have x2 := cell_below HU.out.below (hat 2 _ (show (wsC [s0, s1, s2])[2]? = some (.string s2) from rfl))
          have l1 : (if kindF [s0, s1, s2] = 3 then zeroB else [s0, s1, s2].getD 1 zeroB) = s1 := by rw [← hK]; rfl
          have l2 : (if kindF [s0, s1, s2] = 1 ∨ kindF [s0, s1, s2] = 2 then zeroB else [s0, s1, s2].getD ([s0, s1, s2].length - 1) zeroB) = s2 := by rw [← hK]; rfl
          have hg : ¬ (kindF [s0, s1, s2] = 0 ∨ [s0, s1, s2].length ≠ (if kindF [s0, s1, s2] = 4 ∨ kindF [s0, s1, s2] = 5 then 3 else 2)) := by rw [← hK]; simp
          have N1 := fun w' => ref13Signed s1 w' (hz s1 (by simp))
          have N2 := fun w' => ref13NumberI s2 1048576 1048576 rfl w' (hz s2 (by simp))
          have EE : condE [s0, s1, s2] = if sgnO s1 = false then 27 else if numO s2 1048576 = false then 27 else chkC 5 (sgnV s1) (numN s2) := by unfold condE; rw [if_neg hg, l1, l2, ← hK]
          have EV : condE [s0, s1, s2] = 0 → condRA [s0, s1, s2] = .agg #[.int .i64 5, .int .i64 (sgnV s1), .int .u64 (numN s2 : Nat)] := fun h => by unfold condRA condK condL condT; rw [if_pos h, if_pos h, if_pos h, l1, l2, ← hK]; rfl
          obtain ⟨L, hL⟩ : ∃ x, x = sgnV s1 := ⟨_, rfl⟩
          obtain ⟨LO, hLO⟩ : ∃ x, x = sgnO s1 := ⟨_, rfl⟩
          obtain ⟨Tn, hTn⟩ : ∃ x, x = numN s2 := ⟨_, rfl⟩
          obtain ⟨TO, hTO⟩ : ∃ x, x = numO s2 1048576 := ⟨_, rfl⟩
          rw [← hL, ← hTn] at EV
          rw [← hLO, ← hTO, ← hL, ← hTn] at EE
          rw [← hL, ← hLO] at N1
          rw [← hTn, ← hTO] at N2
          clear hL hLO hTn hTO l1 l2 hg hn hw hK HW0 hat H4 hz h1 h2
          cases LO with
          | false =>
            have E := Lib.hid (EE.trans (if_pos rfl))
            clear EE EV N2
            go_wp2_with fail
            (try (go_region; go_wp2_with fail))
            (with_reducible refine (N1 _).mono ?_)
            rintro e w1 ⟨rfl, rfl⟩
            go_wp2_with fail
            (try (go_region; go_wp2_with fail))
            refine bodyPost_gen fun w6 hw6 => ?_
            have U6 := (((((HU.out.put 0 rfl 1 (.int .i64 L)).put 2 rfl 0 (.int .i64 0)).put 0 rfl 1 (.int .i64 0)).put 0 rfl 2 (.int .u64 0))).same hw6
            simp only [List.setIfInBounds_toArray, List.set_cons_zero, List.set_cons_succ, List.eraseIdx_cons_zero, List.eraseIdx_cons_succ] at U6
            clear hw6
            have a0 := (U6.blk 0 rfl).cell (j := 0) (v := .int .i64 0) rfl
            have a1 := (U6.blk 0 rfl).cell (j := 1) (v := .int .i64 0) rfl
            have a2 := (U6.blk 0 rfl).cell (j := 2) (v := .int .u64 0) rfl
            refine bodyPost_ret (v := .tuple #[.agg #[.int .i64 0, .int .i64 0, .int .u64 0], .int .i64 (27)]) ?_ rfl ⟨by rw [condRA_bad [s0, s1, s2] (by rw [E.out]; decide), E.out] <;> rfl, U6.below⟩
            simp [results, Tryz.results139, go_sem, a0, a1, a2]
          | true =>
            rw [if_neg (by decide : ¬ true = false)] at EE
            cases TO with
            | false =>
              have E := Lib.hid (EE.trans (if_pos rfl))
              clear EE EV
              go_wp2_with fail
              (try (go_region; go_wp2_with fail))
              (with_reducible refine (N1 _).mono ?_)
              rintro e w1 ⟨rfl, rfl⟩
              go_wp2_with fail
              (try (go_region; go_wp2_with fail))
              (with_reducible refine (N2 _).mono ?_)
              rintro e w2 ⟨rfl, rfl⟩
              go_wp2_with fail
              refine bodyPost_gen fun w6 hw6 => ?_
              have U6 := ((((((HU.out.put 0 rfl 1 (.int .i64 L)).put 0 rfl 2 (.int .u64 Tn)).put 2 rfl 0 (.int .i64 0)).put 0 rfl 1 (.int .i64 0)).put 0 rfl 2 (.int .u64 0))).same hw6
              simp only [List.setIfInBounds_toArray, List.set_cons_zero, List.set_cons_succ, List.eraseIdx_cons_zero, List.eraseIdx_cons_succ] at U6
              clear hw6
              have a0 := (U6.blk 0 rfl).cell (j := 0) (v := .int .i64 0) rfl
              have a1 := (U6.blk 0 rfl).cell (j := 1) (v := .int .i64 0) rfl
              have a2 := (U6.blk 0 rfl).cell (j := 2) (v := .int .u64 0) rfl
              refine bodyPost_ret (v := .tuple #[.agg #[.int .i64 0, .int .i64 0, .int .u64 0], .int .i64 (27)]) ?_ rfl ⟨by rw [condRA_bad [s0, s1, s2] (by rw [E.out]; decide), E.out] <;> rfl, U6.below⟩
              simp [results, Tryz.results139, go_sem, a0, a1, a2]
            | true =>
              rw [if_neg (by decide : ¬ true = false)] at EE
              have C := fun w' => refCondCheckI 5 L Tn 5 Tn rfl rfl w'
              obtain ⟨ce, hce⟩ : ∃ x, x = chkC 5 L Tn := ⟨_, rfl⟩
              rw [← hce] at EE C
              clear hce
              by_cases hce : ce = 0
              · subst hce
                have E := Lib.hid EE
                have EV2 := Lib.hid (EV EE)
                clear EE EV
                go_wp2_with fail
                (try (go_region; go_wp2_with fail))
                (with_reducible refine (N1 _).mono ?_)
                rintro e w1 ⟨rfl, rfl⟩
                go_wp2_with fail
                (try (go_region; go_wp2_with fail))
                (with_reducible refine (N2 _).mono ?_)
                rintro e w2 ⟨rfl, rfl⟩
                go_wp2_with fail
                refine calls_genP fun w3 hw3 => ?_
                have U5 := (((HU.out.put 0 rfl 1 (.int .i64 L)).put 0 rfl 2 (.int .u64 Tn))).same hw3
                simp only [List.setIfInBounds_toArray, List.set_cons_zero, List.set_cons_succ, List.eraseIdx_cons_zero] at U5
                clear hw3
                (with_reducible refine (C _).mono ?_)
                rintro e w4 ⟨rfl, hb4⟩
                have U5 := U5.grow hb4
                have d0 := (U5.blk 0 rfl).cell (j := 0) (v := .int .i64 5) rfl
                have d1 := (U5.blk 0 rfl).cell (j := 1) (v := .int .i64 L) rfl
                have d2 := (U5.blk 0 rfl).cell (j := 2) (v := .int .u64 (Tn : Nat)) rfl
                have e0 := (U5.blk 2 rfl).frozen 0
                have e1 := (U5.blk 2 rfl).frozen 1
                have e2 := (U5.blk 2 rfl).frozen 2
                have f0 := (U5.blk 2 rfl).cell (j := 0) (v := .int .i64 0) rfl
                have f1 := (U5.blk 2 rfl).cell (j := 1) (v := .int .i64 0) rfl
                have f2 := (U5.blk 2 rfl).cell (j := 2) (v := .int .u64 0) rfl
                have HU5 := Lib.hid U5
                clear U5 hb4
                go_wp2_with fail
                refine bodyPost_gen fun w6 hw6 => ?_
                have U6 := (((HU5.out.put 2 rfl 0 (.int .i64 5)).put 0 rfl 1 (.int .i64 L)).put 0 rfl 2 (.int .u64 (Tn : Nat))).same hw6
                simp only [List.setIfInBounds_toArray, List.set_cons_zero, List.set_cons_succ, List.eraseIdx_cons_zero, List.eraseIdx_cons_succ] at U6
                clear hw6
                have a0 := (U6.blk 0 rfl).cell (j := 0) (v := .int .i64 5) rfl
                have a1 := (U6.blk 0 rfl).cell (j := 1) (v := .int .i64 L) rfl
                have a2 := (U6.blk 0 rfl).cell (j := 2) (v := .int .u64 (Tn : Nat)) rfl
                refine bodyPost_ret (v := .tuple #[.agg #[.int .i64 5, .int .i64 L, .int .u64 (Tn : Nat)], .int .i64 0]) ?_ rfl ⟨by rw [EV2.out, E.out] <;> rfl, U6.below⟩
                simp [results, Tryz.results139, go_sem, a0, a1, a2]
              · have hce2 : ((ce : Int) == 0) = false := by simp; omega
                have E := Lib.hid EE
                clear EE EV
                go_wp2_with fail
                (try (go_region; go_wp2_with fail))
                (with_reducible refine (N1 _).mono ?_)
                rintro e w1 ⟨rfl, rfl⟩
                go_wp2_with fail
                (try (go_region; go_wp2_with fail))
                (with_reducible refine (N2 _).mono ?_)
                rintro e w2 ⟨rfl, rfl⟩
                go_wp2_with fail
                refine calls_genP fun w3 hw3 => ?_
                have U5 := (((HU.out.put 0 rfl 1 (.int .i64 L)).put 0 rfl 2 (.int .u64 Tn))).same hw3
                simp only [List.setIfInBounds_toArray, List.set_cons_zero, List.set_cons_succ, List.eraseIdx_cons_zero] at U5
                clear hw3
                (with_reducible refine (C _).mono ?_)
                rintro e w4 ⟨rfl, hb4⟩
                have U5 := U5.grow hb4
                have d0 := (U5.blk 0 rfl).cell (j := 0) (v := .int .i64 5) rfl
                have d1 := (U5.blk 0 rfl).cell (j := 1) (v := .int .i64 L) rfl
                have d2 := (U5.blk 0 rfl).cell (j := 2) (v := .int .u64 (Tn : Nat)) rfl
                have e0 := (U5.blk 2 rfl).frozen 0
                have e1 := (U5.blk 2 rfl).frozen 1
                have e2 := (U5.blk 2 rfl).frozen 2
                have f0 := (U5.blk 2 rfl).cell (j := 0) (v := .int .i64 0) rfl
                have f1 := (U5.blk 2 rfl).cell (j := 1) (v := .int .i64 0) rfl
                have f2 := (U5.blk 2 rfl).cell (j := 2) (v := .int .u64 0) rfl
                have HU5 := Lib.hid U5
                clear U5 hb4
                go_wp2_with fail
                refine bodyPost_gen fun w6 hw6 => ?_
                have U6 := ((((HU5.out.put 2 rfl 0 (.int .i64 0)).put 0 rfl 1 (.int .i64 0)).put 0 rfl 2 (.int .u64 0))).same hw6
                simp only [List.setIfInBounds_toArray, List.set_cons_zero, List.set_cons_succ, List.eraseIdx_cons_zero, List.eraseIdx_cons_succ] at U6
                clear hw6
                have a0 := (U6.blk 0 rfl).cell (j := 0) (v := .int .i64 0) rfl
                have a1 := (U6.blk 0 rfl).cell (j := 1) (v := .int .i64 0) rfl
                have a2 := (U6.blk 0 rfl).cell (j := 2) (v := .int .u64 0) rfl
                refine bodyPost_ret (v := .tuple #[.agg #[.int .i64 0, .int .i64 0, .int .u64 0], .int .i64 (ce)]) ?_ rfl ⟨by rw [condRA_bad [s0, s1, s2] (by rw [E.out]; exact hce), E.out] <;> rfl, U6.below⟩
                simp [results, Tryz.results139, go_sem, a0, a1, a2]
        · have E := Lib.hid (show condE ws = 2 by unfold condE; rw [hw, if_pos (.inr hn)])
          have hnf : ((ws.length : Int) == 3) = false := by simp; omega
          clear hK H4 HW0 hw
          go_wp2_with fail
          (try (go_region; go_wp2_with fail))
          refine bodyPost_gen fun w6 hw6 => ?_
          have U6 := ((((HU.out.put 2 rfl 0 (.int .i64 0)).put 0 rfl 1 (.int .i64 0)).put 0 rfl 2 (.int .u64 0))).same hw6
          simp only [List.setIfInBounds_toArray, List.set_cons_zero, List.set_cons_succ, List.eraseIdx_cons_zero, List.eraseIdx_cons_succ] at U6
          clear hw6
          have a0 := (U6.blk 0 rfl).cell (j := 0) (v := .int .i64 0) rfl
          have a1 := (U6.blk 0 rfl).cell (j := 1) (v := .int .i64 0) rfl
          have a2 := (U6.blk 0 rfl).cell (j := 2) (v := .int .u64 0) rfl
          refine bodyPost_ret (v := .tuple #[.agg #[.int .i64 0, .int .i64 0, .int .u64 0], .int .i64 (2)]) ?_ rfl ⟨by rw [condRA_bad ws (by rw [E.out]; decide), E.out] <;> rfl, U6.below⟩
          simp [results, Tryz.results139, go_sem, a0, a1, a2]
end Go.Proofs.YtebnbbbiobaneaaGreatDoor
