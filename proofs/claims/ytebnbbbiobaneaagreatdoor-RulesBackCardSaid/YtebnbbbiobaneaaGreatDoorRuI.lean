/-
  A rule's words are that rule: plain law.
-/
import Derived.Test.YtebnbbbiobaneaaGreatDoorMg29
import Derived.Test.YtebnbbbiobaneaaGreatDoorRuB1
namespace Go.Proofs.YtebnbbbiobaneaaGreatDoor
open Go.RowKit
set_option maxRecDepth 100000

/-- A text that may stand as a word of a line. -/
def wOk (x : ByteArray) : Prop := x.data.toList ≠ [] ∧ ∀ b ∈ x.data.toList, 33 ≤ b.toNat ∧ b.toNat < 128 ∧ b.toNat ≠ 35
theorem isSp_hi {b : UInt8} (h : 33 ≤ b.toNat) : Lib.isSp b = false := by
  unfold Lib.isSp
  have key : ∀ c : UInt8, c.toNat < 33 → (b == c) = false := fun c hc => by
    rw [beq_eq_false_iff_ne]
    rintro rfl
    omega
  simp [key 9 (by decide), key 10 (by decide), key 11 (by decide), key 12 (by decide), key 13 (by decide), key 32 (by decide)]
theorem wordsG_word : ∀ (x cur r : List UInt8), (∀ b ∈ x, 33 ≤ b.toNat ∧ b.toNat < 128 ∧ b.toNat ≠ 35) → wordsG cur (x ++ r) = wordsG (cur ++ x) r := by
  intro x
  induction x with
  | nil => intro cur r _; simp
  | cons b x ih =>
    intro cur r h
    have hb := h b (.head _)
    have h35 : b ≠ 35 := by rintro rfl; exact hb.2.2 rfl
    show wordsG cur (b :: (x ++ r)) = _
    rw [wordsG, if_neg h35, if_neg (by rw [isSp_hi hb.1]; simp), ih _ _ fun c hc => h c (.tail _ hc)]
    simp
theorem wordsG_join : ∀ (ws : List ByteArray) (x : ByteArray), wOk x → (∀ y ∈ ws, wOk y) → wordsG [] (x.data.toList ++ ws.flatMap fun y => 32 :: y.data.toList) = (x :: ws).map (·.data.toList) := by
  intro ws
  induction ws with
  | nil =>
    intro x hx _
    rw [wordsG_word _ _ _ hx.2]
    simp only [List.flatMap_nil, List.nil_append]
    rw [wordsG, if_neg hx.1]
    rfl
  | cons y ws ih =>
    intro x hx hws
    rw [wordsG_word _ _ _ hx.2]
    simp only [List.flatMap_cons, List.nil_append, List.cons_append]
    rw [wordsG, if_neg (by decide), if_pos (by decide), if_neg hx.1, ih y (hws y (.head _)) fun z hz => hws z (.tail _ hz)]
    rfl
theorem words_join (ws : List ByteArray) (h : ∀ y ∈ ws, wOk y) : wordsL (joinS ws) = ws := by
  rw [wordsL_G]
  have key : wordsG [] (joinS ws).data.toList = ws.map (·.data.toList) := by
    cases ws with
    | nil => rfl
    | cons x r => exact wordsG_join r x (h x (.head _)) fun y hy => h y (.tail _ hy)
  rw [key, List.map_map, comp_ba, List.map_id]
theorem word_ok {s : ByteArray} {m : Nat} {a : Bool} (h : wordB s m a = true) : wOk s := by
  unfold wordB at h
  rw [Bool.and_eq_true, Bool.and_eq_true] at h
  refine ⟨fun e => ?_, fun b hb => ?_⟩
  · have h1 : 1 ≤ s.size := by simpa using h.1.1
    have h2 : s.size = s.data.toList.length := Lib.size_eq s
    rw [e, List.length_nil] at h2
    omega
  · have h2 := List.all_eq_true.1 h.2 b hb
    unfold okB at h2
    have h3 := h2
    simp only [Bool.or_eq_true, Bool.and_eq_true, decide_eq_true_eq] at h3
    omega

/-! ### Numbers -/
theorem digF_append : ∀ (a b : List UInt8) (acc : Nat), digF acc (a ++ b) = (digF acc a).bind fun n => digF n b := by
  intro a
  induction a with
  | nil => intro b acc; rfl
  | cons c r ih =>
    intro b acc
    show digF acc (c :: (r ++ b)) = _
    rw [digF, show digF acc (c :: r) = if c.toNat < 48 ∨ 57 < c.toNat then none else digF (acc * 10 + (c.toNat - 48)) r from rfl]
    split
    · rfl
    · rw [ih]
theorem ofNat48 (d : Nat) (h : d < 10) : (UInt8.ofNat (48 + d)).toNat = 48 + d := by
  rw [UInt8.toNat_ofNat']; omega
theorem digF_one (acc d : Nat) (h : d < 10) : digF acc [UInt8.ofNat (48 + d)] = some (acc * 10 + d) := by
  unfold digF
  rw [ofNat48 d h, if_neg (by omega)]
  unfold digF
  congr 1; omega
theorem decD_small {n : Nat} (h : n < 10) : Lib.decDigits n = [UInt8.ofNat (48 + n)] := by rw [Lib.decDigits, dif_pos h]
theorem decD_big {n : Nat} (h : ¬ n < 10) : Lib.decDigits n = Lib.decDigits (n / 10) ++ [UInt8.ofNat (48 + n % 10)] := by rw [Lib.decDigits, dif_neg h]
theorem digF_dec (n : Nat) : digF 0 (Lib.decDigits n) = some n := by
  induction n using Nat.strongRecOn with
  | ind n ih =>
    by_cases h : n < 10
    · rw [decD_small h, digF_one 0 n h]; congr 1; omega
    · rw [decD_big h, digF_append, ih (n / 10) (by omega)]
      show digF (n / 10) _ = _
      rw [digF_one _ _ (by omega)]; congr 1; omega
theorem dec_first (n : Nat) : Lib.decDigits n ≠ [] ∧ (n ≠ 0 → (Lib.decDigits n).getD 0 0 ≠ 48) := by
  induction n using Nat.strongRecOn with
  | ind n ih =>
    by_cases h : n < 10
    · rw [decD_small h]
      refine ⟨by simp, fun h0 e => h0 ?_⟩
      have e2 := congrArg UInt8.toNat e
      simp only [List.getD_eq_getElem?_getD, List.getElem?_cons_zero, Option.getD_some] at e2
      rw [ofNat48 n h] at e2
      have : (48 : UInt8).toNat = 48 := rfl
      omega
    · have h1 := ih (n / 10) (by omega)
      rw [decD_big h]
      refine ⟨by simp, fun _ => ?_⟩
      have h2 := h1.2 (by omega)
      cases hd : Lib.decDigits (n / 10) with
      | nil => exact absurd hd h1.1
      | cons a r => rw [hd] at h2; simpa using h2
theorem dec_dig (n : Nat) : ∀ b ∈ Lib.decDigits n, 48 ≤ b.toNat ∧ b.toNat ≤ 57 := by
  induction n using Nat.strongRecOn with
  | ind n ih =>
    by_cases h : n < 10
    · rw [decD_small h]
      intro b hb
      rw [List.mem_singleton.1 hb, ofNat48 n h]; omega
    · rw [decD_big h]
      intro b hb
      rcases List.mem_append.1 hb with hb | hb
      · exact ih (n / 10) (by omega) b hb
      · rw [List.mem_singleton.1 hb, ofNat48 _ (by omega)]; omega
theorem dec_list (n : Nat) : (decB n).data.toList = Lib.decDigits n := by unfold decB; simp
theorem decB_szL (n : Nat) : (decB n).size = (Lib.decDigits n).length := by rw [Lib.size_eq, dec_list]
theorem numF_dec (n : Nat) (h : n < 10000000000000000000) : numF (decB n) = some n := by
  have h1 := decDigits_len n 18 (by simpa using h)
  have h2 := dec_first n
  have h3 : (Lib.decDigits n).length ≠ 0 := fun e => h2.1 (List.eq_nil_of_length_eq_zero e)
  have hz := decB_szL n
  unfold numF
  rw [if_neg ?_, dec_list, digF_dec]
  rw [dec_list]
  rintro (h4 | h4 | ⟨h4, h5⟩)
  · omega
  · omega
  · by_cases h0 : n = 0
    · subst h0; rw [decD_small (by decide)] at hz; simp at hz; omega
    · exact h2.2 h0 h5
theorem numN_dec (n : Nat) (h : n < 10000000000000000000) : numN (decB n) = n := by unfold numN; rw [numF_dec n h]; rfl
theorem numO_dec (n most : Nat) (h : n < 10000000000000000000) (hm : n ≤ most) : numO (decB n) most = true := by unfold numO; rw [numF_dec n h]; simp [hm]
theorem dec_ok (n : Nat) : wOk (decB n) := by
  unfold wOk
  rw [dec_list]
  refine ⟨(dec_first n).1, fun b hb => ?_⟩
  have := dec_dig n b hb
  omega
theorem minB_dec (n : Nat) : minB (decB n) = false := by
  unfold minB
  rw [Bool.and_eq_false_iff]
  right
  rw [Lib.toList_data, ByteArray.data_extract, Array.toList_extract, dec_list]
  have h1 := (dec_first n).1
  have h2 := dec_dig n
  cases hd : Lib.decDigits n with
  | nil => exact absurd hd h1
  | cons a r =>
    rw [hd] at h2
    have h3 := h2 a (.head _)
    have : a ≠ 45 := by rintro rfl; exact absurd h3.1 (by decide)
    simp [this]
theorem sgn_pos (n : Nat) (h : n ≤ 9223372036854775807) : sgnV (decB n) = n ∧ sgnO (decB n) = true := by
  unfold sgnV sgnO
  rw [minB_dec, if_neg (by decide), if_neg (by decide), numN_dec n (by omega), numO_dec n _ (by omega) h]
  refine ⟨?_, rfl⟩
  unfold wrap64
  omega
theorem ext_minus (x : ByteArray) : ((⟨#[45]⟩ : ByteArray) ++ x).extract 1 ((⟨#[45]⟩ : ByteArray) ++ x).size = x := by
  refine ba_inj ?_
  rw [Lib.extract_to_end, ByteArray.data_append, Array.toList_append]
  rfl
theorem sgn_neg (n : Nat) (h1 : 1 ≤ n) (h : n ≤ 9223372036854775808) : sgnV (⟨#[45]⟩ ++ decB n) = -(n : Int) ∧ sgnO (⟨#[45]⟩ ++ decB n) = true := by
  have hm : minB (⟨#[45]⟩ ++ decB n) = true := by
    unfold minB
    rw [Lib.toList_data, ByteArray.data_extract, Array.toList_extract, ByteArray.data_append, ByteArray.size_append]
    simp [show (⟨#[45]⟩ : ByteArray).size = 1 from rfl]
  unfold sgnV sgnO
  rw [hm, if_pos rfl, if_pos rfl, ext_minus, numN_dec n (by omega), numO_dec n _ (by omega) h, if_neg (by simp; omega), if_neg (by simp; omega)]
  exact ⟨rfl, rfl⟩
theorem sgn_dec (n : Int) (h0 : -9223372036854775808 ≤ n) (h1 : n ≤ 9223372036854775807) : sgnV (sdecB n) = n ∧ sgnO (sdecB n) = true := by
  unfold sdecB
  split
  · have := sgn_neg n.natAbs (by omega) (by omega)
    refine ⟨this.1.trans (by omega), this.2⟩
  · have := sgn_pos n.toNat (by omega)
    refine ⟨this.1.trans (by omega), this.2⟩
theorem sdec_ok (n : Int) : wOk (sdecB n) := by
  unfold sdecB
  split
  · have h := dec_ok n.natAbs
    refine ⟨by rw [ByteArray.data_append]; simp, fun b hb => ?_⟩
    rw [ByteArray.data_append, Array.toList_append] at hb
    rcases List.mem_append.1 hb with hb | hb
    · simp at hb; subst hb; decide
    · exact h.2 b hb
  · exact dec_ok _

/-! ### Conditions -/
theorem kd_kind (k : Nat) (r : List ByteArray) (h : k < 5) : kindF (kd k :: r) = k + 1 := (kindF_iff _ _ k h).2 rfl
theorem numN_zero : numN zeroB = 0 := by decide +kernel
theorem numO_zero : numO zeroB 1048576 = true := by decide +kernel
theorem sgn_zero : sgnV zeroB = 0 ∧ sgnO zeroB = true := by decide +kernel
theorem cond_words (k : Nat) (lim : Int) (tk : Nat) (h : chkC k lim tk = 0) (h0 : -9223372036854775808 ≤ lim) (h1 : lim ≤ 9223372036854775807) :
    condE (condW k lim tk) = 0 ∧ condK (condW k lim tk) = k ∧ condL (condW k lim tk) = lim ∧ condT (condW k lim tk) = tk := by
  have hs := sgn_dec lim h0 h1
  have hk : k = 1 ∨ k = 2 ∨ k = 3 ∨ k = 4 ∨ k = 5 := by
    unfold chkC at h
    repeat' split at h
    all_goals first | omega | cases h
  have key : ∀ E : condE (condW k lim tk) = 0, kindF (condW k lim tk) = k → (sgnV (if kindF (condW k lim tk) = 3 then zeroB else (condW k lim tk).getD 1 zeroB)) = lim → (numN (if kindF (condW k lim tk) = 1 ∨ kindF (condW k lim tk) = 2 then zeroB else (condW k lim tk).getD ((condW k lim tk).length - 1) zeroB)) = tk → condE (condW k lim tk) = 0 ∧ condK (condW k lim tk) = k ∧ condL (condW k lim tk) = lim ∧ condT (condW k lim tk) = tk := by
    intro E a b c
    refine ⟨E, ?_, ?_, ?_⟩
    · unfold condK; rw [if_pos E, a]
    · unfold condL; rw [if_pos E, b]
    · unfold condT; rw [if_pos E, c]
  rcases hk with rfl | rfl | rfl | rfl | rfl
  · have ht : tk = 0 := by unfold chkC at h; simp at h; exact h
    subst ht
    have hkd : kindF (condW 1 lim 0) = 1 := kd_kind 0 _ (by decide)
    refine key ?_ hkd ?_ ?_
    · unfold condE
      rw [hkd]
      simp [condW, hs.1, hs.2, numO_zero, numN_zero]; exact h
    · rw [hkd]; simpa [condW] using hs.1
    · rw [hkd]; simpa using numN_zero
  · have ht : tk = 0 := by unfold chkC at h; simp at h; exact h
    subst ht
    have hkd : kindF (condW 2 lim 0) = 2 := kd_kind 1 _ (by decide)
    refine key ?_ hkd ?_ ?_
    · unfold condE
      rw [hkd]
      simp [condW, hs.1, hs.2, numO_zero, numN_zero]; exact h
    · rw [hkd]; simpa [condW] using hs.1
    · rw [hkd]; simpa using numN_zero
  · have ht : lim = 0 ∧ 1 ≤ tk ∧ tk ≤ 1048576 := by unfold chkC at h; simp at h; exact h
    obtain ⟨rfl, ht1, ht2⟩ := ht
    have hn := numN_dec tk (by omega)
    have ho := numO_dec tk 1048576 (by omega) ht2
    have hkd : kindF (condW 3 0 tk) = 3 := kd_kind 2 _ (by decide)
    refine key ?_ hkd ?_ ?_
    · unfold condE
      rw [hkd]
      simp [condW, sgn_zero.1, sgn_zero.2, ho, hn]; exact h
    · rw [hkd]; simpa using sgn_zero.1
    · rw [hkd]; simpa [condW] using hn
  · have ht : 0 ≤ lim ∧ 1 ≤ tk ∧ tk ≤ 1048576 := by unfold chkC at h; simp at h; exact h
    have hn := numN_dec tk (by omega)
    have ho := numO_dec tk 1048576 (by omega) ht.2.2
    have hkd : kindF (condW 4 lim tk) = 4 := kd_kind 3 _ (by decide)
    refine key ?_ hkd ?_ ?_
    · unfold condE
      rw [hkd]
      simp [condW, hs.1, hs.2, ho, hn]; exact h
    · rw [hkd]; simpa [condW] using hs.1
    · rw [hkd]; simpa [condW] using hn
  · have ht : 0 ≤ lim ∧ 1 ≤ tk ∧ tk ≤ 1048576 := by unfold chkC at h; simp at h; exact h
    have hn := numN_dec tk (by omega)
    have ho := numO_dec tk 1048576 (by omega) ht.2.2
    have hkd : kindF (condW 5 lim tk) = 5 := kd_kind 4 _ (by decide)
    refine key ?_ hkd ?_ ?_
    · unfold condE
      rw [hkd]
      simp [condW, hs.1, hs.2, ho, hn]; exact h
    · rw [hkd]; simpa [condW] using hs.1
    · rw [hkd]; simpa [condW] using hn

/-! ### Labels -/
theorem chk_sorted : ∀ (ps : List Pr) (kp : Pr), chkF (some kp.1) ps = 0 → (kp :: ps).Pairwise fun a b => leP a b = true := by
  intro ps
  induction ps with
  | nil => intro kp _; simp
  | cons p r ih =>
    intro kp h
    unfold chkF at h
    split at h
    · dsimp only at h
      split at h
      · cases h
      · rename_i hne
        split at h
        · cases h
        · rename_i hlt
          have h2 := ih p h
          have h1 : leP kp p = true := by
            unfold leP ltP
            have : ¬ p.1 = kp.1 := fun e => hne e.symm
            simp [this, hlt]
          refine List.pairwise_cons.2 ⟨fun q hq => ?_, h2⟩
          rcases List.mem_cons.1 hq with rfl | hq
          · exact h1
          · exact leP_trans _ _ _ h1 ((List.pairwise_cons.1 h2).1 q hq)
    · cases h
theorem chk_sort {ps : List Pr} (h : chkL ps = 0) : sortL ps = ps := by
  refine (sortL_unique (List.Perm.refl _) ?_).symm
  unfold chkL at h
  split at h
  · cases h
  · cases ps with
    | nil => exact List.Pairwise.nil
    | cons p r =>
      refine chk_sorted r p ?_
      unfold chkF at h
      split at h
      · exact h
      · cases h
def textB (ps : List Pr) : ByteArray := ⟨(textL ps).toArray⟩
theorem parse_back (ps : List Pr) (h : chkL ps = 0) : parseC (textB ps) = (0, ps) := by
  have h1 := chk_sort h
  have h2 := parse_text ps (by rw [h1]; exact h)
  rw [h1] at h2
  exact h2
theorem pairL_ok {p : Pr} (h1 : wordB p.1 8 false = true) (h2 : wordB p.2 16 true = true) : ∀ b ∈ pairL p, 33 ≤ b.toNat ∧ b.toNat < 128 ∧ b.toNat ≠ 35 := by
  intro b hb
  unfold pairL at hb
  rcases List.mem_append.1 hb with hb | hb
  · exact (word_ok h1).2 b hb
  · rcases List.mem_cons.1 hb with rfl | hb
    · decide
    · exact (word_ok h2).2 b hb
theorem text_ok {ps : List Pr} (h : chkL ps = 0) (hne : ps ≠ []) : wOk (textB ps) := by
  have hw := (chkL_words h).2
  cases ps with
  | nil => exact absurd rfl hne
  | cons p r =>
    have hl : (textB (p :: r)).data.toList = pairL p ++ r.flatMap fun q => 44 :: pairL q := by unfold textB; simp [textL]
    unfold wOk
    rw [hl]
    refine ⟨by unfold pairL; simp, fun b hb => ?_⟩
    rcases List.mem_append.1 hb with hb | hb
    · exact pairL_ok (hw p (.head _)).1 (hw p (.head _)).2 b hb
    · obtain ⟨q, hq, hb⟩ := List.mem_flatMap.1 hb
      rcases List.mem_cons.1 hb with rfl | hb
      · decide
      · exact pairL_ok (hw q (.tail _ hq)).1 (hw q (.tail _ hq)).2 b hb

/-! ### Rules -/
def ifW (k : ByteArray) (ps : List Pr) : List ByteArray := if ps = [] then [] else [k, textB ps]
/-- A rule's words behind "rule". -/
def RuV.words (r : RuV) : List ByteArray := r.nm :: r.me :: (ifW kIf r.ips ++ (condW r.k r.lim r.tk ++ (kFor :: decB r.fo :: kKeep :: decB r.ke :: kPrio :: decB r.pr :: ifW kWith r.wps)))
structure RuV.fine (r : RuV) : Prop where
  err : r.err = 0
  h0 : -9223372036854775808 ≤ r.lim
  h1 : r.lim ≤ 9223372036854775807
theorem err_parts {r : RuV} (h : r.err = 0) : nameB r.nm = true ∧ nameB r.me = true ∧ ownName r.nm = false ∧ chkL r.ips = 0 ∧ chkL r.wps = 0 ∧ chkC r.k r.lim r.tk = 0 ∧ chkW r.fo r.ke = 0 ∧ r.pr ≤ 7 := by
  unfold RuV.err chkR at h
  by_cases a : nameB r.nm = false ∨ nameB r.me = false
  · rw [if_pos a] at h; cases h
  rw [if_neg a] at h
  by_cases b : ownName r.nm = true
  · rw [if_pos b] at h; cases h
  rw [if_neg b] at h
  by_cases c : chkL r.ips ≠ 0
  · rw [if_pos c] at h; exact absurd h c
  rw [if_neg c] at h
  by_cases d : chkL r.wps ≠ 0
  · rw [if_pos d] at h; exact absurd h d
  rw [if_neg d] at h
  by_cases e : chkC r.k r.lim r.tk ≠ 0
  · rw [if_pos e] at h; exact absurd h e
  rw [if_neg e] at h
  by_cases f : chkW r.fo r.ke ≠ 0
  · rw [if_pos f] at h; exact absurd h f
  rw [if_neg f] at h
  by_cases g : 7 < r.pr
  · rw [if_pos g] at h; cases h
  simp only [ne_eq, Decidable.not_not] at c d e f
  refine ⟨?_, ?_, by simpa using b, c, d, e, f, by omega⟩
  · cases hn : nameB r.nm with
    | true => rfl
    | false => exact absurd (.inl hn) a
  · cases hn : nameB r.me with
    | true => rfl
    | false => exact absurd (.inr hn) a
theorem cutN_app (x : ByteArray) : ∀ (ws r : List ByteArray), x ∉ ws → cutN x (ws ++ x :: r) = ws.length := by
  intro ws
  induction ws with
  | nil => intro r _; simp [cutN]
  | cons y ws ih =>
    intro r h
    have h1 : ¬ y = x := fun e => h (by rw [e]; exact .head _)
    show cutN x (y :: (ws ++ x :: r)) = _
    simp only [cutN, if_neg h1, ih r (fun hh => h (.tail _ hh)), List.length_cons]
theorem num_ne {x : ByteArray} (hx : ∃ b ∈ x.data.toList, 97 ≤ b.toNat) (n : Int) : sdecB n ≠ x := by
  rintro rfl
  obtain ⟨b, hb, h⟩ := hx
  have key : ∀ m, ∀ b ∈ (decB m).data.toList, b.toNat ≤ 57 := fun m b hb => by rw [dec_list] at hb; exact (dec_dig m b hb).2
  unfold sdecB at hb
  split at hb
  · rw [ByteArray.data_append, Array.toList_append] at hb
    rcases List.mem_append.1 hb with hb | hb
    · simp at hb; subst hb; exact absurd h (by decide)
    · have := key _ b hb; omega
  · have := key _ b hb; omega
theorem dec_ne {x : ByteArray} (hx : ∃ b ∈ x.data.toList, 97 ≤ b.toNat) (n : Nat) : decB n ≠ x := by
  rintro rfl
  obtain ⟨b, hb, h⟩ := hx
  rw [dec_list] at hb
  have := (dec_dig n b hb).2
  omega
theorem for_free (k : Nat) (lim : Int) (tk : Nat) : kFor ∉ condW k lim tk := by
  have hf : ∃ b ∈ kFor.data.toList, 97 ≤ b.toNat := ⟨102, by decide, by decide⟩
  have h1 := num_ne hf lim
  have h2 := dec_ne hf tk
  unfold condW
  repeat' split
  all_goals (intro hm; simp only [List.mem_cons, List.not_mem_nil, or_false] at hm)
  all_goals first
    | (rcases hm with h | h | h <;> first | exact h1 h.symm | exact h2 h.symm | exact absurd h (by decide))
    | (rcases hm with h | h <;> first | exact h1 h.symm | exact h2 h.symm | exact absurd h (by decide))
theorem cond_head (k : Nat) (lim : Int) (tk : Nat) (hk : 1 ≤ k ∧ k ≤ 5) : ∃ y r, condW k lim tk = y :: r ∧ y ≠ kIf := by
  obtain rfl | rfl | rfl | rfl | rfl : k = 1 ∨ k = 2 ∨ k = 3 ∨ k = 4 ∨ k = 5 := by omega
  all_goals exact ⟨_, _, rfl, by decide⟩
theorem chkC_kind {k : Nat} {lim : Int} {tk : Nat} (h : chkC k lim tk = 0) : 1 ≤ k ∧ k ≤ 5 := by
  unfold chkC at h
  repeat' split at h
  all_goals first | omega | cases h
theorem ln_steps (ws _r : List ByteArray) (nm me : ByteArray) (ps qs : List Pr) (cw : List ByteArray) (fo ke pr : Nat) (hws : ws = nm :: me :: (ifW kIf ps ++ (cw ++ (kFor :: decB fo :: kKeep :: decB ke :: kPrio :: decB pr :: ifW kWith qs))))
    (hps : chkL ps = 0) (hqs : chkL qs = 0) (hc : ∃ y r, cw = y :: r ∧ y ≠ kIf) (hf : kFor ∉ cw) (hcw : condE cw = 0) (hfo : fo ≤ 1048576) (hke : ke ≤ 1048576) (hpr : pr ≤ 7) :
    lnE14 ws = 0 ∧ lnP ws = ps ∧ lnC ws = cw ∧ lnFo ws = fo ∧ lnKe ws = ke ∧ lnPr ws = pr ∧ lnQ ws = qs := by
  obtain ⟨y, cr, rfl, hy⟩ := hc
  obtain ⟨T, hT⟩ : ∃ T, T = decB fo :: kKeep :: decB ke :: kPrio :: decB pr :: ifW kWith qs := ⟨_, rfl⟩
  rw [← hT] at hws
  have s2 : lnW2 ws = ifW kIf ps ++ (y :: cr ++ kFor :: T) := by rw [hws]; rfl
  have e2 : lnE2 ws = 0 := by rw [hws]; rfl
  have h4 : lnW4 ws = y :: cr ++ kFor :: T ∧ lnE4 ws = 0 ∧ lnP ws = ps := by
    by_cases hp : ps = []
    · subst hp
      have s2' : lnW2 ws = y :: (cr ++ kFor :: T) := by rw [s2]; simp [ifW]
      have hi : lnI ws = false := by unfold lnI isW; rw [s2']; simp [hy]
      have s3 : lnW3 ws = y :: (cr ++ kFor :: T) := by unfold lnW3 skipW; unfold lnI at hi; rw [if_neg (by rw [hi]; simp), s2']
      refine ⟨by unfold lnW4; rw [hi, s3]; rfl, by unfold lnE4; rw [hi, e2]; rfl, by unfold lnP; rw [hi]; rfl⟩
    · have s2' : lnW2 ws = kIf :: textB ps :: (y :: cr ++ kFor :: T) := by rw [s2]; simp [ifW, hp]
      have hi : lnI ws = true := by unfold lnI isW; rw [s2']; simp
      have s3 : lnW3 ws = textB ps :: (y :: cr ++ kFor :: T) := by unfold lnW3 skipW; unfold lnI at hi; rw [if_pos hi, s2']; rfl
      have hb := parse_back ps hps
      refine ⟨by unfold lnW4; rw [hi, s3]; rfl, ?_, ?_⟩
      · unfold lnE4 lbE; rw [hi, s3, if_pos rfl, e2]; simp [hb, nxE]
      · unfold lnP lbL; rw [hi, s3, if_pos rfl]; simp [hb]
  obtain ⟨w4, e4, p4⟩ := h4
  have hcut : cutN kFor (lnW4 ws) = (y :: cr).length := by rw [w4]; exact cutN_app kFor (y :: cr) T hf
  have hC : lnC ws = y :: cr := by unfold lnC; rw [hcut, w4]; simp
  have w5 : lnW5 ws = kFor :: T := by unfold lnW5; rw [hcut, w4]; simp
  have e5 : lnE5 ws = 0 := by unfold lnE5 cdE; rw [show (lnW4 ws).take (cutN kFor (lnW4 ws)) = y :: cr from hC, if_pos hcw]; exact e4
  have w6 : lnW6 ws = T := by unfold lnW6 skipW isW; rw [w5]; simp
  have e6 : lnE6 ws = 0 := by unfold lnE6 wantE isW; rw [w5]; simp [e5]
  subst hT
  have o1 := numO_dec fo 1048576 (by omega) hfo
  have n1 := numN_dec fo (by omega)
  have o2 := numO_dec ke 1048576 (by omega) hke
  have n2 := numN_dec ke (by omega)
  have o3 := numO_dec pr 7 (by omega) hpr
  have n3 := numN_dec pr (by omega)
  have fo1 : lnFo ws = fo := by unfold lnFo nmV; rw [w6]; simp [o1, n1]
  have e7 : lnE7 ws = 0 := by unfold lnE7 nmE; rw [w6]; simp [o1, nxE, e6]
  have w8 : lnW8 ws = decB ke :: kPrio :: decB pr :: ifW kWith qs := by unfold lnW8 skipW isW; rw [w6]; simp
  have e8 : lnE8 ws = 0 := by unfold lnE8 wantE isW; rw [w6]; simp [e7]
  have ke1 : lnKe ws = ke := by unfold lnKe nmV; rw [w8]; simp [o2, n2]
  have e9 : lnE9 ws = 0 := by unfold lnE9 nmE; rw [w8]; simp [o2, nxE, e8]
  have w10 : lnW10 ws = decB pr :: ifW kWith qs := by unfold lnW10 skipW isW; rw [w8]; simp
  have e10 : lnE10 ws = 0 := by unfold lnE10 wantE isW; rw [w8]; simp [e9]
  have pr1 : lnPr ws = pr := by unfold lnPr nmV; rw [w10]; simp [o3, n3]
  have e11 : lnE11 ws = 0 := by unfold lnE11 nmE; rw [w10]; simp [o3, nxE, e10]
  have h14 : lnE14 ws = 0 ∧ lnQ ws = qs := by
    by_cases hq : qs = []
    · subst hq
      have hi : lnH ws = false := by unfold lnH isW; rw [w10]; simp [ifW]
      have s12 : lnW12 ws = [] := by unfold lnW12 skipW; unfold lnH at hi; rw [if_neg (by rw [hi]; simp), w10]; simp [ifW]
      have s13 : lnW13 ws = [] := by unfold lnW13; rw [hi, s12]; rfl
      have e13 : lnE13 ws = 0 := by unfold lnE13; rw [hi, e11]; rfl
      exact ⟨by unfold lnE14; rw [s13, e13]; rfl, by unfold lnQ; rw [hi]; rfl⟩
    · have hi : lnH ws = true := by unfold lnH isW; rw [w10]; simp [ifW, hq]
      have s12 : lnW12 ws = [textB qs] := by unfold lnW12 skipW; unfold lnH at hi; rw [if_pos hi, w10]; simp [ifW, hq]
      have s13 : lnW13 ws = [] := by unfold lnW13; rw [hi, s12]; rfl
      have hb := parse_back qs hqs
      have e13 : lnE13 ws = 0 := by unfold lnE13 lbE; rw [hi, s12, if_pos rfl, e11]; simp [hb, nxE]
      exact ⟨by unfold lnE14; rw [s13, e13]; rfl, by unfold lnQ lbL; rw [hi, s12, if_pos rfl]; simp [hb]⟩
  exact ⟨h14.1, p4, hC, fo1, ke1, pr1, h14.2⟩
theorem line_words (r : RuV) (h : r.fine) : lineE r.words = 0 ∧ ∀ iv wv, lineR r.words iv wv = { r with iv := iv, wv := wv } := by
  obtain ⟨a1, a2, a3, a4, a5, a6, a7, a8⟩ := err_parts h.err
  have hw : r.fo ≤ 1048576 ∧ r.ke ≤ 1048576 := by
    unfold chkW at a7
    split at a7
    · cases a7
    · omega
  have hc := cond_words r.k r.lim r.tk a6 h.h0 h.h1
  have L := ln_steps r.words [] r.nm r.me r.ips r.wps (condW r.k r.lim r.tk) r.fo r.ke r.pr rfl a4 a5 (cond_head _ _ _ (chkC_kind a6)) (for_free _ _ _) hc.1 hw.1 hw.2 a8
  obtain ⟨l14, lp, lc, lf, lk, lpr, lq⟩ := L
  constructor
  · unfold lineE
    rw [if_pos l14]
    unfold lnChk
    rw [lp, lc, lf, lk, lpr, lq, hc.2.1, hc.2.2.1, hc.2.2.2]
    exact h.err
  · intro iv wv
    unfold lineR
    rw [lp, lc, lf, lk, lpr, lq, hc.2.1, hc.2.2.1, hc.2.2.2]
    rfl
theorem lit_ok : wOk kRule ∧ wOk kIf ∧ wOk kFor ∧ wOk kKeep ∧ wOk kPrio ∧ wOk kWith ∧ ∀ k, k < 5 → wOk (kd k) := by
  unfold wOk
  refine ⟨by decide, by decide, by decide, by decide, by decide, by decide, ?_⟩
  intro k hk
  obtain rfl | rfl | rfl | rfl | rfl : k = 0 ∨ k = 1 ∨ k = 2 ∨ k = 3 ∨ k = 4 := by omega
  all_goals decide
theorem name_word {s : ByteArray} (h : nameB s = true) : wordB s 12 true = true := by
  unfold nameB at h
  rw [Bool.and_eq_true] at h
  exact h.1
theorem ifW_ok {k : ByteArray} {ps : List Pr} (hk : wOk k) (h : chkL ps = 0) : ∀ y ∈ ifW k ps, wOk y := by
  intro y hy
  unfold ifW at hy
  split at hy
  · cases hy
  · rename_i hne
    rcases List.mem_cons.1 hy with rfl | hy
    · exact hk
    · rw [List.mem_singleton.1 hy]; exact text_ok h hne
theorem condW_ok (k : Nat) (lim : Int) (tk : Nat) : ∀ y ∈ condW k lim tk, wOk y := by
  have hk := lit_ok.2.2.2.2.2.2
  have h1 := sdec_ok lim
  have h2 := dec_ok tk
  intro y hy
  unfold condW at hy
  repeat' split at hy
  all_goals
    simp only [List.mem_cons, List.not_mem_nil, or_false] at hy
  · rcases hy with rfl | rfl
    · exact hk 0 (by decide)
    · exact h1
  · rcases hy with rfl | rfl
    · exact hk 1 (by decide)
    · exact h1
  · rcases hy with rfl | rfl
    · exact hk 2 (by decide)
    · exact h2
  · rcases hy with rfl | rfl | rfl
    · exact hk 3 (by decide)
    · exact h1
    · exact h2
  · rcases hy with rfl | rfl | rfl
    · exact hk 4 (by decide)
    · exact h1
    · exact h2
theorem words_ok (r : RuV) (h : r.err = 0) : ∀ y ∈ kRule :: r.words, wOk y := by
  obtain ⟨a1, a2, a3, a4, a5, a6, a7, a8⟩ := err_parts h
  obtain ⟨l1, l2, l3, l4, l5, l6, l7⟩ := lit_ok
  intro y hy
  unfold RuV.words at hy
  rcases List.mem_cons.1 hy with rfl | hy
  · exact l1
  rcases List.mem_cons.1 hy with rfl | hy
  · exact word_ok (name_word a1)
  rcases List.mem_cons.1 hy with rfl | hy
  · exact word_ok (name_word a2)
  rcases List.mem_append.1 hy with hy | hy
  · exact ifW_ok l2 a4 y hy
  rcases List.mem_append.1 hy with hy | hy
  · exact condW_ok _ _ _ y hy
  rcases List.mem_cons.1 hy with rfl | hy
  · exact l3
  rcases List.mem_cons.1 hy with rfl | hy
  · exact dec_ok _
  rcases List.mem_cons.1 hy with rfl | hy
  · exact l4
  rcases List.mem_cons.1 hy with rfl | hy
  · exact dec_ok _
  rcases List.mem_cons.1 hy with rfl | hy
  · exact l5
  rcases List.mem_cons.1 hy with rfl | hy
  · exact dec_ok _
  exact ifW_ok l6 a5 y hy
/-- A rule as a line. -/
def RuV.text (r : RuV) : ByteArray := joinS (kRule :: r.words)
theorem joinL_bytes (ws : List ByteArray) (h : ∀ y ∈ ws, wOk y) : ∀ b ∈ joinL ws, 32 ≤ b.toNat ∧ b.toNat < 128 := by
  have key : ∀ y ∈ ws, ∀ b ∈ y.data.toList, 32 ≤ b.toNat ∧ b.toNat < 128 := fun y hy b hb => by
    have := (h y hy).2 b hb
    omega
  cases ws with
  | nil => intro b hb; cases hb
  | cons x r =>
    intro b hb
    unfold joinL at hb
    rcases List.mem_append.1 hb with hb | hb
    · exact key x (.head _) b hb
    · obtain ⟨y, hy, hb⟩ := List.mem_flatMap.1 hb
      rcases List.mem_cons.1 hb with rfl | hb
      · decide
      · exact key y (.tail _ hy) b hb
theorem text_list (r : RuV) : r.text.data.toList = joinL (kRule :: r.words) := by unfold RuV.text joinS; simp
theorem text_bytes (r : RuV) (h : r.err = 0) : ∀ b ∈ r.text.data.toList, 32 ≤ b.toNat ∧ b.toNat < 128 := by
  rw [text_list]
  exact joinL_bytes _ (words_ok r h)
theorem text_words (r : RuV) (h : r.err = 0) : wordsL r.text = kRule :: r.words := words_join _ (words_ok r h)
/-- Rules as a text. -/
def textAll (rs : List RuV) : ByteArray := ⟨(rs.flatMap fun r => r.text.data.toList ++ [10]).toArray⟩
theorem all_list (rs : List RuV) : (textAll rs).data.toList = rs.flatMap fun r => r.text.data.toList ++ [10] := by unfold textAll; simp
theorem nl_all (rs : List RuV) (h : ∀ r ∈ rs, r.err = 0) : nlL (textAll rs) = rs.map RuV.text ++ [⟨#[]⟩] := by
  rw [nlL_BA]
  unfold splitBA
  rw [all_list]
  have key : splitC 10 (rs.flatMap fun r => r.text.data.toList ++ [10]) = rs.map (fun r => r.text.data.toList) ++ [[]] := by
    induction rs with
    | nil => rfl
    | cons r t ih =>
      have hf : (10 : UInt8) ∉ r.text.data.toList := fun hm => by
        have := text_bytes r (h r (.head _)) 10 hm
        exact absurd this.1 (by decide)
      rw [List.flatMap_cons, List.append_assoc, List.singleton_append, splitC_app 10 _ _ hf, ih fun q hq => h q (.tail _ hq)]
      rfl
  rw [key, List.map_append, List.map_map]
  rfl
theorem all_asc (rs : List RuV) (h : ∀ r ∈ rs, r.err = 0) : asc (textAll rs) := by
  intro b hb
  rw [all_list] at hb
  obtain ⟨r, hr, hb⟩ := List.mem_flatMap.1 hb
  rcases List.mem_append.1 hb with hb | hb
  · exact (text_bytes r (h r hr) b hb).2
  · rw [List.mem_singleton.1 hb]; decide
theorem words_nil : wordsL ⟨#[]⟩ = [] := by decide +kernel
theorem read_all : ∀ (rs : List RuV) (i : Nat), (∀ r ∈ rs, r.fine) → readG i (rs.map RuV.text ++ [⟨#[]⟩]) = (0, 0) ∧ readL (rs.map RuV.text ++ [⟨#[]⟩]) = rs.map RuV.words := by
  intro rs
  induction rs with
  | nil => intro i _; simp [readG, readL, words_nil]
  | cons r t ih =>
    intro i h
    have hr := h r (.head _)
    have hw := text_words r hr.err
    have hl := (line_words r hr).1
    have := ih (i + 1) fun q hq => h q (.tail _ hq)
    simp only [List.map_cons, List.cons_append, readG, readL, hw]
    rw [if_pos hl, if_pos trivial, this.1, this.2]
    exact ⟨rfl, rfl⟩
theorem parse_all (rs : List RuV) (h : ∀ r ∈ rs, r.fine) (hz : (textAll rs).size ≤ 65536) (hc : chkRs rs = 0) : parseE (textAll rs) = (0, 0) ∧ parseR (textAll rs) = rs.map RuV.strip := by
  have hn := nl_all rs fun r hr => (h r hr).err
  have hr := read_all rs 0 h
  have hl : (rs.map RuV.words).map lineS = rs.map RuV.strip := by
    rw [List.map_map]
    refine List.map_congr_left fun r hm => ?_
    exact (line_words r (h r hm)).2 _ _
  have hE : parseE (textAll rs) = (0, 0) := by
    unfold parseE
    rw [if_neg (by omega), hn, hr.1, hr.2, hl, if_neg (by simp), chkRs_strip, hc]
  exact ⟨hE, by unfold parseR; rw [hE, if_pos rfl, hn, hr.2, hl]⟩
end Go.Proofs.YtebnbbbiobaneaaGreatDoor
