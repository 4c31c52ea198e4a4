/-
  Keys with commas between; numbers, words of a line: plain, and route.keys.
-/
import Derived.Test.YteiocplfmjkbkaaGreatDoorRtR
import Derived.Test.YteiocplfmjkbkaaGreatDoorMg28
import Derived.Test.YteiocplfmjkbkaaGreatDoorSrt
import Derived.Sort.OwnSorted
import Derived.Sort.KeysCollected
namespace Go.Proofs.YteiocplfmjkbkaaGreatDoor
open Go.RowKit
set_option maxRecDepth 100000

/-- A text that may stand as a word of a line. -/
def wOk (x : ByteArray) : Prop := x.data.toList ≠ [] ∧ ∀ b ∈ x.data.toList, 33 ≤ b.toNat ∧ b.toNat < 128 ∧ b.toNat ≠ 35
theorem isSp_hi {b : UInt8} (h : 33 ≤ b.toNat) : Lib.isSp b = false := by
  unfold Lib.isSp
  have key : ∀ c : UInt8, c.toNat < 33 → (b == c) = false := fun c hc => by
    rw [beq_eq_false_iff_ne]
    rintro rfl
    omega
  simp [key 9 (by decide), key 10 (by decide), key 11 (by decide), key 12 (by decide), key 13 (by decide), key 32 (by decide)]
theorem word_ok {s : ByteArray} {m : Nat} {a : Bool} (h : wordB s m a = true) : wOk s := by
  unfold wordB at h
  rw [Bool.and_eq_true, Bool.and_eq_true] at h
  refine ⟨fun e => ?_, fun b hb => ?_⟩
  · have h1 : 1 ≤ s.size := by simpa using h.1.1
    have h2 : s.size = s.data.toList.length := Lib.size_eq s
    rw [e, List.length_nil] at h2
    omega
  · have h2 := List.all_eq_true.1 h.2 b hb
    unfold okB at h2
    have h3 := h2
    simp only [Bool.or_eq_true, Bool.and_eq_true, decide_eq_true_eq] at h3
    omega

theorem digF_append : ∀ (a b : List UInt8) (acc : Nat), digF acc (a ++ b) = (digF acc a).bind fun n => digF n b := by
  intro a
  induction a with
  | nil => intro b acc; rfl
  | cons c r ih =>
    intro b acc
    show digF acc (c :: (r ++ b)) = _
    rw [digF, show digF acc (c :: r) = if c.toNat < 48 ∨ 57 < c.toNat then none else digF (acc * 10 + (c.toNat - 48)) r from rfl]
    split
    · rfl
    · rw [ih]
theorem ofNat48 (d : Nat) (h : d < 10) : (UInt8.ofNat (48 + d)).toNat = 48 + d := by
  rw [UInt8.toNat_ofNat']; omega
theorem digF_one (acc d : Nat) (h : d < 10) : digF acc [UInt8.ofNat (48 + d)] = some (acc * 10 + d) := by
  unfold digF
  rw [ofNat48 d h, if_neg (by omega)]
  unfold digF
  congr 1; omega
theorem decD_small {n : Nat} (h : n < 10) : Lib.decDigits n = [UInt8.ofNat (48 + n)] := by rw [Lib.decDigits, dif_pos h]
theorem decD_big {n : Nat} (h : ¬ n < 10) : Lib.decDigits n = Lib.decDigits (n / 10) ++ [UInt8.ofNat (48 + n % 10)] := by rw [Lib.decDigits, dif_neg h]
theorem digF_dec (n : Nat) : digF 0 (Lib.decDigits n) = some n := by
  induction n using Nat.strongRecOn with
  | ind n ih =>
    by_cases h : n < 10
    · rw [decD_small h, digF_one 0 n h]; congr 1; omega
    · rw [decD_big h, digF_append, ih (n / 10) (by omega)]
      show digF (n / 10) _ = _
      rw [digF_one _ _ (by omega)]; congr 1; omega
theorem dec_first (n : Nat) : Lib.decDigits n ≠ [] ∧ (n ≠ 0 → (Lib.decDigits n).getD 0 0 ≠ 48) := by
  induction n using Nat.strongRecOn with
  | ind n ih =>
    by_cases h : n < 10
    · rw [decD_small h]
      refine ⟨by simp, fun h0 e => h0 ?_⟩
      have e2 := congrArg UInt8.toNat e
      simp only [List.getD_eq_getElem?_getD, List.getElem?_cons_zero, Option.getD_some] at e2
      rw [ofNat48 n h] at e2
      have : (48 : UInt8).toNat = 48 := rfl
      omega
    · have h1 := ih (n / 10) (by omega)
      rw [decD_big h]
      refine ⟨by simp, fun _ => ?_⟩
      have h2 := h1.2 (by omega)
      cases hd : Lib.decDigits (n / 10) with
      | nil => exact absurd hd h1.1
      | cons a r => rw [hd] at h2; simpa using h2
theorem dec_dig (n : Nat) : ∀ b ∈ Lib.decDigits n, 48 ≤ b.toNat ∧ b.toNat ≤ 57 := by
  induction n using Nat.strongRecOn with
  | ind n ih =>
    by_cases h : n < 10
    · rw [decD_small h]
      intro b hb
      rw [List.mem_singleton.1 hb, ofNat48 n h]; omega
    · rw [decD_big h]
      intro b hb
      rcases List.mem_append.1 hb with hb | hb
      · exact ih (n / 10) (by omega) b hb
      · rw [List.mem_singleton.1 hb, ofNat48 _ (by omega)]; omega
theorem dec_list (n : Nat) : (decB n).data.toList = Lib.decDigits n := by unfold decB; simp
theorem decB_szL (n : Nat) : (decB n).size = (Lib.decDigits n).length := by rw [Lib.size_eq, dec_list]
theorem numF_dec (n : Nat) (h : n < 10000000000000000000) : numF (decB n) = some n := by
  have h1 := decDigits_len n 18 (by simpa using h)
  have h2 := dec_first n
  have h3 : (Lib.decDigits n).length ≠ 0 := fun e => h2.1 (List.eq_nil_of_length_eq_zero e)
  have hz := decB_szL n
  unfold numF
  rw [if_neg ?_, dec_list, digF_dec]
  rw [dec_list]
  rintro (h4 | h4 | ⟨h4, h5⟩)
  · omega
  · omega
  · by_cases h0 : n = 0
    · subst h0; rw [decD_small (by decide)] at hz; simp at hz; omega
    · exact h2.2 h0 h5
theorem numN_dec (n : Nat) (h : n < 10000000000000000000) : numN (decB n) = n := by unfold numN; rw [numF_dec n h]; rfl
theorem numO_dec (n most : Nat) (h : n < 10000000000000000000) (hm : n ≤ most) : numO (decB n) most = true := by unfold numO; rw [numF_dec n h]; simp [hm]
theorem dec_ok (n : Nat) : wOk (decB n) := by
  unfold wOk
  rw [dec_list]
  refine ⟨(dec_first n).1, fun b hb => ?_⟩
  have := dec_dig n b hb
  omega
/-- Words with a blank between. -/
def joinW : List ByteArray → List UInt8
  | [] => []
  | x :: r => x.data.toList ++ r.flatMap fun y => 32 :: y.data.toList
theorem fieldsGo_word : ∀ (x cur r : List UInt8), (∀ b ∈ x, 33 ≤ b.toNat ∧ b.toNat < 128 ∧ b.toNat ≠ 35) → Lib.fieldsGo cur (x ++ r) = Lib.fieldsGo (cur ++ x) r := by
  intro x
  induction x with
  | nil => intro cur r _; simp
  | cons b x ih =>
    intro cur r h
    have hb := h b (.head _)
    show Lib.fieldsGo cur (b :: (x ++ r)) = _
    rw [Lib.fieldsGo, if_neg (by rw [isSp_hi hb.1]; simp), ih _ _ fun c hc => h c (.tail _ hc)]
    simp
theorem fieldsGo_join : ∀ (ws : List ByteArray) (x : ByteArray), wOk x → (∀ y ∈ ws, wOk y) → Lib.fieldsGo [] (x.data.toList ++ ws.flatMap fun y => 32 :: y.data.toList) = (x :: ws).map (·.data.toList) := by
  intro ws
  induction ws with
  | nil =>
    intro x hx _
    rw [fieldsGo_word _ _ _ hx.2]
    simp only [List.flatMap_nil, List.nil_append]
    rw [Lib.fieldsGo, if_neg (fun h => hx.1 (List.isEmpty_iff.1 h))]
    rfl
  | cons y ws ih =>
    intro x hx hws
    rw [fieldsGo_word _ _ _ hx.2]
    simp only [List.flatMap_cons, List.nil_append, List.cons_append]
    rw [Lib.fieldsGo, if_pos (by decide), if_neg (fun h => hx.1 (List.isEmpty_iff.1 h)), ih y (hws y (.head _)) fun z hz => hws z (.tail _ hz)]
    rfl
theorem fields_join (ws : List ByteArray) (h : ∀ y ∈ ws, wOk y) : (Lib.fields (joinW ws)).map (fun l => Value.string ⟨l.toArray⟩) = ws.map Value.string := by
  have key : Lib.fields (joinW ws) = ws.map (·.data.toList) := by
    cases ws with
    | nil => rfl
    | cons x r => exact fieldsGo_join r x (h x (.head _)) fun y hy => h y (.tail _ hy)
  rw [key, List.map_map]
  rfl
theorem joinW_asc (ws : List ByteArray) (h : ∀ y ∈ ws, wOk y) : ∀ b ∈ joinW ws, b.toNat < 128 := by
  intro b hb
  cases ws with
  | nil => cases hb
  | cons x r =>
    rcases List.mem_append.1 hb with hb | hb
    · exact ((h x (.head _)).2 b hb).2.1
    · obtain ⟨y, hy, hb⟩ := List.mem_flatMap.1 hb
      rcases List.mem_cons.1 hb with rfl | hb
      · decide
      · exact ((h y (.tail _ hy)).2 b hb).2.1
/-! ### Keys -/
def keysT (ks : List ByteArray) : ByteArray := if ks = [] then ⟨#[42]⟩ else ⟨(joinC (ks.map (·.data.toList))).toArray⟩
theorem keysT_ne {ks : List ByteArray} (h : ks ≠ []) : (keysT ks).data.toList = joinC (ks.map (·.data.toList)) := by unfold keysT; rw [if_neg h]
theorem key_44 {s : ByteArray} {m : Nat} (h : wordB s m false = true) : (44 : UInt8) ∉ s.data.toList := fun hm => by
  have := (key_ch h 44 hm).1
  have e : (44 : UInt8).toNat = 44 := rfl
  omega
theorem parts_keys {ks : List ByteArray} (hne : ks ≠ []) (h : ∀ k ∈ ks, wordB k 8 false = true) : partsL (keysT ks) = ks := by
  have h1 := partsL_split (keysT ks)
  rw [keysT_ne hne] at h1
  have h2 : splitC 44 (joinC (ks.map (·.data.toList))) = ks.map (·.data.toList) := by
    cases ks with
    | nil => exact absurd rfl hne
    | cons a r =>
      refine split_joinC _ _ (key_44 (h a (.head _))) fun y hy => ?_
      obtain ⟨b, hb, rfl⟩ := List.mem_map.1 hy
      exact key_44 (h b (.tail _ hb))
  rw [h2] at h1
  have h3 := congrArg (List.map fun l : List UInt8 => (⟨l.toArray⟩ : ByteArray)) h1
  rw [List.map_map, List.map_map] at h3
  rw [show ((fun l : List UInt8 => (⟨l.toArray⟩ : ByteArray)) ∘ fun x : ByteArray => x.data.toList) = id from by funext x; rfl, List.map_id, List.map_id] at h3
  exact h3
theorem keysT_size {ks : List ByteArray} (hl : ks.length ≤ 8) (h : ∀ k ∈ ks, wordB k 8 false = true) : (keysT ks).size ≤ 80 := by
  by_cases hne : ks = []
  · subst hne; decide
  rw [Lib.size_eq, keysT_ne hne]
  have h1 := joinC_len 8 (ks.map (·.data.toList)) fun x hx => by
    obtain ⟨a, ha, rfl⟩ := List.mem_map.1 hx
    have := word_size (h a ha)
    rwa [Lib.size_eq] at this
  rw [List.length_map] at h1
  omega
theorem keysT_ok {ks : List ByteArray} (h : ∀ k ∈ ks, wordB k 8 false = true) : wOk (keysT ks) := by
  by_cases hne : ks = []
  · subst hne
    exact ⟨by decide, by decide⟩
  unfold wOk
  rw [keysT_ne hne]
  cases ks with
  | nil => exact absurd rfl hne
  | cons a r =>
    have ha := word_ok (h a (.head _))
    refine ⟨fun e => ha.1 (List.append_eq_nil_iff.1 e).1, fun b hb => ?_⟩
    rcases List.mem_append.1 hb with hb | hb
    · exact ha.2 b hb
    · obtain ⟨y, hy, hb⟩ := List.mem_flatMap.1 hb
      rcases List.mem_cons.1 hb with rfl | hb
      · decide
      · obtain ⟨z, hz, rfl⟩ := List.mem_map.1 hy
        exact (word_ok (h z (.tail _ hz))).2 b hb
theorem sortStrs (base : Nat) (v : Value) (ss : List (List UInt8)) (w : World) (hown : w.ownsRow base 9 1 v ss.length (ss.map encStr)) (hsz : ss.length < 4611686018427387904) :
    Calls Tryz.prog 76 #[v] w fun e w' => e = .returned (.tuple #[]) ∧ w'.ownsRow base 9 1 v ss.length ((ss.mergeSort leB).map encStr) ∧ w.grownBy w' v.ownBlock := by
  have hown0 := hown
  rcases hown.2 with ⟨rfl, h0⟩ | ⟨g, cap, cur, rfl, hbase, hb, h1, h2, h3, h4⟩
  · have : ss = [] := List.eq_nil_of_length_eq_zero h0
    subst this
    refine (Tryz.slices_Sort_string_none none 0 w).mono fun e w' ⟨he, hw⟩ => ⟨he, ?_, ?_⟩
    · rw [hw]; simpa using hown0
    · rw [hw]; exact ⟨rfl, rfl, rfl, Nat.le_refl _, fun _ _ _ => rfl⟩
  · refine (Tryz.slices_Sort_string g 0 cap ss w (holds_of_block hb (by simpa using h4)) (Array.getElem?_eq_some_iff.1 hb).1 hsz).mono fun e w' ⟨he, n, os, hw⟩ => ⟨he, ?_, ?_⟩
    · rw [hw]
      exact ownsRow_sorted (by simp) hbase hb h1 h2 h3
    · rw [hw]
      exact grownBy_sorted _
theorem sorted_keys {ks : List ByteArray} (h : ks.Pairwise fun x y => ltS x y = true) : ((ks.map (·.data.toList)).mergeSort leB).map encStr = ks.map Value.string := by
  have hp : (ks.map (·.data.toList)).Pairwise fun x y => leB x y = true := by
    rw [List.pairwise_map]
    refine h.imp fun {a b} hab => ?_
    rw [ltS_eq, decide_eq_true_eq] at hab
    unfold leB
    exact decide_eq_true (List.le_of_lt hab)
  rw [List.mergeSort_of_pairwise hp, List.map_map]
  rfl
set_option maxHeartbeats 4000000 in
/-- route.keys of keys that rise. -/
theorem rKeys (ks : List ByteArray) (mx : Int) (w : World) (hl : ks.length ≤ 8) (h : ∀ k ∈ ks, wordB k 8 false = true) (hup : ks.Pairwise fun x y => ltS x y = true) (hm : w.cell? ⟨2, 0, none⟩ = some (.int .i64 mx)) :
    Calls Tryz.prog 61 #[.string (keysT ks)] w fun e w' => ∃ v, e = .returned v ∧ w'.ownsRow w.heap.size 9 1 v ks.length (ks.map Value.string) ∧ Below w.heap.size w w' := by
  have hz := keysT_size hl h
  by_cases hne : ks = []
  · subst hne
    have e0 : keysT [] = ⟨#[42]⟩ := rfl
    rw [e0]
    clear hm hz e0 hup h
    go_enter Tryz.func61, Tryz.ntmps61
    go_wp2_with fail
    go_ret
    exact ⟨_, rfl, World.ownsRow_nil _ _ _ _, Below.refl _ _⟩
  have hp := parts_keys hne h
  have hcnt := partsL_length (keysT ks)
  have hne42 : keysT ks ≠ ⟨#[42]⟩ := by
    intro e
    have e1 := congrArg (fun x : ByteArray => x.data.toList) e
    dsimp only at e1
    rw [keysT_ne hne] at e1
    cases ks with
    | nil => exact hne rfl
    | cons a r =>
      have ha := (word_ok (h a (.head _))).1
      have hk := key_ch (h a (.head _))
      rw [List.map_cons, joinC] at e1
      cases hd : a.data.toList with
      | nil => exact ha hd
      | cons c t =>
        rw [hd] at e1 hk
        have e2 : c = 42 := (List.cons.inj e1).1
        have := (hk c (.head _)).1
        rw [e2] at this
        exact absurd this (by decide)
  have KS := strings_SplitC (keysT ks) mx w (by omega) hm
  rw [← hcnt, hp] at KS
  have e1 : (keysT ks == ⟨#[42]⟩) = false := by rw [beqS]; exact decide_eq_false hne42
  have e2 : ((keysT ks).toList == (⟨#[42]⟩ : ByteArray).toList) = false := by rw [eqS_eq]; exact decide_eq_false hne42
  have e3 : ((keysT ks).toList == [42]) = false := by rw [show (⟨#[42]⟩ : ByteArray).toList = [42] by decide +kernel] at e2; exact e2
  obtain ⟨tx, htx⟩ : ∃ y, y = keysT ks := ⟨_, rfl⟩
  rw [← htx] at KS e1 e2 e3 hz ⊢
  have HS := Lib.hid (sorted_keys hup)
  have hle : (ks.map (·.data.toList)).length = ks.length := List.length_map _
  have KT := fun v w' (ho : w'.ownsRow w.heap.size 9 1 v ks.length (ks.map Value.string)) => sortStrs w.heap.size v (ks.map (·.data.toList)) w' (by rw [hle, List.map_map]; exact ho) (by rw [hle]; omega)
  rw [hle, HS.out] at KT
  have U0 := (Upd.nil [] w).alloc (ks.map Value.string).toArray 9
  obtain ⟨n, hn⟩ : ∃ n, n = ks.length := ⟨_, rfl⟩
  have HN := Lib.hid hn
  rw [← hn] at KS KT hl ⊢
  clear hm h hp hcnt hne42 htx hne hup hle hn
  go_enter Tryz.func61, Tryz.ntmps61
  go_wp2_with fail
  (with_reducible refine KS.mono ?_)
  rintro e w1 ⟨rfl, hw1⟩
  have U1 := U0.same hw1
  have hown : w1.ownsRow w.heap.size 9 1 (.slice (some ⟨w.heap.size, 0, none⟩) n n) n (ks.map Value.string) := by
    have := owns_of_blk (base := w.heap.size) (U1.blk 0 rfl) (Nat.le_refl _) (by simp; rw [← HN.out]; unfold maxLen; omega)
    rw [show (ks.map Value.string).toArray.size = n by simp [HN.out]] at this
    simpa using this
  clear hw1 KS U0
  go_wp2_with fail
  (with_reducible refine (KT _ _ hown).mono ?_)
  rintro e w2 ⟨rfl, ho2, hg2⟩
  have hb2 : Below w.heap.size w w2 := U1.below.grown hg2 U1.size (fun q hq => Nat.le_of_eq (Option.some.inj hq))
  go_wp2_with fail
  go_ret
  exact ⟨_, rfl, ho2, hb2⟩
end Go.Proofs.YteiocplfmjkbkaaGreatDoor
