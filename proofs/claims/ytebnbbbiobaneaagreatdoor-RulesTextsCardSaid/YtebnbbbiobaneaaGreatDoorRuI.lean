/-
  A rule's words are that rule: plain law.
-/
import Derived.Test.YtebnbbbiobaneaaGreatDoorMg26
import Derived.Test.YtebnbbbiobaneaaGreatDoorRuB1
namespace Go.Proofs.YtebnbbbiobaneaaGreatDoor
open Go.RowKit
set_option maxRecDepth 100000

/-- A text that may stand as a word of a line. -/
def wOk (x : ByteArray) : Prop := x.data.toList ≠ [] ∧ ∀ b ∈ x.data.toList, 33 ≤ b.toNat ∧ b.toNat < 128 ∧ b.toNat ≠ 35
theorem word_ok {s : ByteArray} {m : Nat} {a : Bool} (h : wordB s m a = true) : wOk s := by
  unfold wordB at h
  rw [Bool.and_eq_true, Bool.and_eq_true] at h
  refine ⟨fun e => ?_, fun b hb => ?_⟩
  · have h1 : 1 ≤ s.size := by simpa using h.1.1
    have h2 : s.size = s.data.toList.length := Lib.size_eq s
    rw [e, List.length_nil] at h2
    omega
  · have h2 := List.all_eq_true.1 h.2 b hb
    unfold okB at h2
    have h3 := h2
    simp only [Bool.or_eq_true, Bool.and_eq_true, decide_eq_true_eq] at h3
    omega

/-! ### Numbers -/
theorem ofNat48 (d : Nat) (h : d < 10) : (UInt8.ofNat (48 + d)).toNat = 48 + d := by
  rw [UInt8.toNat_ofNat']; omega
theorem decD_small {n : Nat} (h : n < 10) : Lib.decDigits n = [UInt8.ofNat (48 + n)] := by rw [Lib.decDigits, dif_pos h]
theorem decD_big {n : Nat} (h : ¬ n < 10) : Lib.decDigits n = Lib.decDigits (n / 10) ++ [UInt8.ofNat (48 + n % 10)] := by rw [Lib.decDigits, dif_neg h]
theorem dec_first (n : Nat) : Lib.decDigits n ≠ [] ∧ (n ≠ 0 → (Lib.decDigits n).getD 0 0 ≠ 48) := by
  induction n using Nat.strongRecOn with
  | ind n ih =>
    by_cases h : n < 10
    · rw [decD_small h]
      refine ⟨by simp, fun h0 e => h0 ?_⟩
      have e2 := congrArg UInt8.toNat e
      simp only [List.getD_eq_getElem?_getD, List.getElem?_cons_zero, Option.getD_some] at e2
      rw [ofNat48 n h] at e2
      have : (48 : UInt8).toNat = 48 := rfl
      omega
    · have h1 := ih (n / 10) (by omega)
      rw [decD_big h]
      refine ⟨by simp, fun _ => ?_⟩
      have h2 := h1.2 (by omega)
      cases hd : Lib.decDigits (n / 10) with
      | nil => exact absurd hd h1.1
      | cons a r => rw [hd] at h2; simpa using h2
theorem dec_dig (n : Nat) : ∀ b ∈ Lib.decDigits n, 48 ≤ b.toNat ∧ b.toNat ≤ 57 := by
  induction n using Nat.strongRecOn with
  | ind n ih =>
    by_cases h : n < 10
    · rw [decD_small h]
      intro b hb
      rw [List.mem_singleton.1 hb, ofNat48 n h]; omega
    · rw [decD_big h]
      intro b hb
      rcases List.mem_append.1 hb with hb | hb
      · exact ih (n / 10) (by omega) b hb
      · rw [List.mem_singleton.1 hb, ofNat48 _ (by omega)]; omega
theorem dec_list (n : Nat) : (decB n).data.toList = Lib.decDigits n := by unfold decB; simp
theorem dec_ok (n : Nat) : wOk (decB n) := by
  unfold wOk
  rw [dec_list]
  refine ⟨(dec_first n).1, fun b hb => ?_⟩
  have := dec_dig n b hb
  omega
theorem sdec_ok (n : Int) : wOk (sdecB n) := by
  unfold sdecB
  split
  · have h := dec_ok n.natAbs
    refine ⟨by rw [ByteArray.data_append]; simp, fun b hb => ?_⟩
    rw [ByteArray.data_append, Array.toList_append] at hb
    rcases List.mem_append.1 hb with hb | hb
    · simp at hb; subst hb; decide
    · exact h.2 b hb
  · exact dec_ok _

/-! ### Conditions -/
/-! ### Labels -/
def textB (ps : List Pr) : ByteArray := ⟨(textL ps).toArray⟩
theorem pairL_ok {p : Pr} (h1 : wordB p.1 8 false = true) (h2 : wordB p.2 16 true = true) : ∀ b ∈ pairL p, 33 ≤ b.toNat ∧ b.toNat < 128 ∧ b.toNat ≠ 35 := by
  intro b hb
  unfold pairL at hb
  rcases List.mem_append.1 hb with hb | hb
  · exact (word_ok h1).2 b hb
  · rcases List.mem_cons.1 hb with rfl | hb
    · decide
    · exact (word_ok h2).2 b hb
theorem text_ok {ps : List Pr} (h : chkL ps = 0) (hne : ps ≠ []) : wOk (textB ps) := by
  have hw := (chkL_words h).2
  cases ps with
  | nil => exact absurd rfl hne
  | cons p r =>
    have hl : (textB (p :: r)).data.toList = pairL p ++ r.flatMap fun q => 44 :: pairL q := by unfold textB; simp [textL]
    unfold wOk
    rw [hl]
    refine ⟨by unfold pairL; simp, fun b hb => ?_⟩
    rcases List.mem_append.1 hb with hb | hb
    · exact pairL_ok (hw p (.head _)).1 (hw p (.head _)).2 b hb
    · obtain ⟨q, hq, hb⟩ := List.mem_flatMap.1 hb
      rcases List.mem_cons.1 hb with rfl | hb
      · decide
      · exact pairL_ok (hw q (.tail _ hq)).1 (hw q (.tail _ hq)).2 b hb

/-! ### Rules -/
def ifW (k : ByteArray) (ps : List Pr) : List ByteArray := if ps = [] then [] else [k, textB ps]
/-- A rule's words behind "rule". -/
def RuV.words (r : RuV) : List ByteArray := r.nm :: r.me :: (ifW kIf r.ips ++ (condW r.k r.lim r.tk ++ (kFor :: decB r.fo :: kKeep :: decB r.ke :: kPrio :: decB r.pr :: ifW kWith r.wps)))
theorem err_parts {r : RuV} (h : r.err = 0) : nameB r.nm = true ∧ nameB r.me = true ∧ ownName r.nm = false ∧ chkL r.ips = 0 ∧ chkL r.wps = 0 ∧ chkC r.k r.lim r.tk = 0 ∧ chkW r.fo r.ke = 0 ∧ r.pr ≤ 7 := by
  unfold RuV.err chkR at h
  by_cases a : nameB r.nm = false ∨ nameB r.me = false
  · rw [if_pos a] at h; cases h
  rw [if_neg a] at h
  by_cases b : ownName r.nm = true
  · rw [if_pos b] at h; cases h
  rw [if_neg b] at h
  by_cases c : chkL r.ips ≠ 0
  · rw [if_pos c] at h; exact absurd h c
  rw [if_neg c] at h
  by_cases d : chkL r.wps ≠ 0
  · rw [if_pos d] at h; exact absurd h d
  rw [if_neg d] at h
  by_cases e : chkC r.k r.lim r.tk ≠ 0
  · rw [if_pos e] at h; exact absurd h e
  rw [if_neg e] at h
  by_cases f : chkW r.fo r.ke ≠ 0
  · rw [if_pos f] at h; exact absurd h f
  rw [if_neg f] at h
  by_cases g : 7 < r.pr
  · rw [if_pos g] at h; cases h
  simp only [ne_eq, Decidable.not_not] at c d e f
  refine ⟨?_, ?_, by simpa using b, c, d, e, f, by omega⟩
  · cases hn : nameB r.nm with
    | true => rfl
    | false => exact absurd (.inl hn) a
  · cases hn : nameB r.me with
    | true => rfl
    | false => exact absurd (.inr hn) a
theorem cond_head (k : Nat) (lim : Int) (tk : Nat) (hk : 1 ≤ k ∧ k ≤ 5) : ∃ y r, condW k lim tk = y :: r ∧ y ≠ kIf := by
  obtain rfl | rfl | rfl | rfl | rfl : k = 1 ∨ k = 2 ∨ k = 3 ∨ k = 4 ∨ k = 5 := by omega
  all_goals exact ⟨_, _, rfl, by decide⟩
theorem lit_ok : wOk kRule ∧ wOk kIf ∧ wOk kFor ∧ wOk kKeep ∧ wOk kPrio ∧ wOk kWith ∧ ∀ k, k < 5 → wOk (kd k) := by
  unfold wOk
  refine ⟨by decide, by decide, by decide, by decide, by decide, by decide, ?_⟩
  intro k hk
  obtain rfl | rfl | rfl | rfl | rfl : k = 0 ∨ k = 1 ∨ k = 2 ∨ k = 3 ∨ k = 4 := by omega
  all_goals decide
theorem name_word {s : ByteArray} (h : nameB s = true) : wordB s 12 true = true := by
  unfold nameB at h
  rw [Bool.and_eq_true] at h
  exact h.1
theorem ifW_ok {k : ByteArray} {ps : List Pr} (hk : wOk k) (h : chkL ps = 0) : ∀ y ∈ ifW k ps, wOk y := by
  intro y hy
  unfold ifW at hy
  split at hy
  · cases hy
  · rename_i hne
    rcases List.mem_cons.1 hy with rfl | hy
    · exact hk
    · rw [List.mem_singleton.1 hy]; exact text_ok h hne
theorem condW_ok (k : Nat) (lim : Int) (tk : Nat) : ∀ y ∈ condW k lim tk, wOk y := by
  have hk := lit_ok.2.2.2.2.2.2
  have h1 := sdec_ok lim
  have h2 := dec_ok tk
  intro y hy
  unfold condW at hy
  repeat' split at hy
  all_goals
    simp only [List.mem_cons, List.not_mem_nil, or_false] at hy
  · rcases hy with rfl | rfl
    · exact hk 0 (by decide)
    · exact h1
  · rcases hy with rfl | rfl
    · exact hk 1 (by decide)
    · exact h1
  · rcases hy with rfl | rfl
    · exact hk 2 (by decide)
    · exact h2
  · rcases hy with rfl | rfl | rfl
    · exact hk 3 (by decide)
    · exact h1
    · exact h2
  · rcases hy with rfl | rfl | rfl
    · exact hk 4 (by decide)
    · exact h1
    · exact h2
theorem words_ok (r : RuV) (h : r.err = 0) : ∀ y ∈ kRule :: r.words, wOk y := by
  obtain ⟨a1, a2, a3, a4, a5, a6, a7, a8⟩ := err_parts h
  obtain ⟨l1, l2, l3, l4, l5, l6, l7⟩ := lit_ok
  intro y hy
  unfold RuV.words at hy
  rcases List.mem_cons.1 hy with rfl | hy
  · exact l1
  rcases List.mem_cons.1 hy with rfl | hy
  · exact word_ok (name_word a1)
  rcases List.mem_cons.1 hy with rfl | hy
  · exact word_ok (name_word a2)
  rcases List.mem_append.1 hy with hy | hy
  · exact ifW_ok l2 a4 y hy
  rcases List.mem_append.1 hy with hy | hy
  · exact condW_ok _ _ _ y hy
  rcases List.mem_cons.1 hy with rfl | hy
  · exact l3
  rcases List.mem_cons.1 hy with rfl | hy
  · exact dec_ok _
  rcases List.mem_cons.1 hy with rfl | hy
  · exact l4
  rcases List.mem_cons.1 hy with rfl | hy
  · exact dec_ok _
  rcases List.mem_cons.1 hy with rfl | hy
  · exact l5
  rcases List.mem_cons.1 hy with rfl | hy
  · exact dec_ok _
  exact ifW_ok l6 a5 y hy
/-- A rule as a line. -/
def RuV.text (r : RuV) : ByteArray := joinS (kRule :: r.words)
theorem joinL_bytes (ws : List ByteArray) (h : ∀ y ∈ ws, wOk y) : ∀ b ∈ joinL ws, 32 ≤ b.toNat ∧ b.toNat < 128 := by
  have key : ∀ y ∈ ws, ∀ b ∈ y.data.toList, 32 ≤ b.toNat ∧ b.toNat < 128 := fun y hy b hb => by
    have := (h y hy).2 b hb
    omega
  cases ws with
  | nil => intro b hb; cases hb
  | cons x r =>
    intro b hb
    unfold joinL at hb
    rcases List.mem_append.1 hb with hb | hb
    · exact key x (.head _) b hb
    · obtain ⟨y, hy, hb⟩ := List.mem_flatMap.1 hb
      rcases List.mem_cons.1 hb with rfl | hb
      · decide
      · exact key y (.tail _ hy) b hb
theorem text_list (r : RuV) : r.text.data.toList = joinL (kRule :: r.words) := by unfold RuV.text joinS; simp
theorem text_bytes (r : RuV) (h : r.err = 0) : ∀ b ∈ r.text.data.toList, 32 ≤ b.toNat ∧ b.toNat < 128 := by
  rw [text_list]
  exact joinL_bytes _ (words_ok r h)
end Go.Proofs.YtebnbbbiobaneaaGreatDoor
