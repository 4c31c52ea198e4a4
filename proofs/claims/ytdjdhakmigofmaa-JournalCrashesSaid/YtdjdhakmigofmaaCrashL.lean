/-
  What a scan finds of torn records (plain law of JournalCrashes).
-/
import Derived.Test.YtdjdhakmigofmaaSpoiltL
import Derived.Test.YtdjdhakmigofmaaCrash
namespace Go.Proofs.Ytdjdhakmigofmaa
set_option maxRecDepth 100000

/-- A whole header, too few bytes behind it. -/
theorem takeL_few (n : Nat) (hn : n < 4294967296) (l : List UInt8) (h4 : l.take 4 = four n) (hl : l.length < n + 8) : takeL l = none := by
  rcases Nat.lt_or_ge l.length 8 with h | h
  · exact takeL_short h
  · obtain ⟨x0, x1, x2, x3, x4, x5, x6, x7, r, rfl⟩ := take8 l h
    simp only [List.take, four, List.cons.injEq, and_true] at h4
    obtain ⟨rfl, rfl, rfl, rfl⟩ := h4
    simp only [List.length_cons] at hl
    simp only [takeL]
    rw [unfour_of n hn, if_pos (by omega)]
theorem layL_take4 (r : List UInt8) : (layL r).take 4 = four r.length := by
  unfold layL
  rw [List.append_assoc]
  exact List.take_left' (four_len _)
theorem layAll_cons (r : List UInt8) (t : List (List UInt8)) : layAll (r :: t) = layL r ++ layAll t := by simp [layAll]
theorem lenR_cons (r : List UInt8) (t : List (List UInt8)) : lenR (r :: t) = (layL r).length + lenR t := by rw [← layAll_len, ← layAll_len, layAll_cons, List.length_append]
theorem zero_of_lenR {r : List UInt8} {t : List (List UInt8)} {s k : Nat} (h : lenR ((r :: t).take s) < k) (hk : k ≤ (layL r).length) : s = 0 := by
  cases s with
  | zero => rfl
  | succ s =>
    rw [List.take_succ_cons, lenR_cons] at h
    omega
theorem scan_take : ∀ (rs : List (List UInt8)), (∀ r ∈ rs, r.length ≤ 524288) → ∀ k, k ≤ lenR rs → ∃ g, g ≤ rs.length ∧ scanL ((layAll rs).take k) = rs.take g ∧ ∀ s, s ≤ rs.length → lenR (rs.take s) ≤ k → s ≤ g := by
  intro rs
  induction rs with
  | nil => exact fun _ k _ => ⟨0, Nat.le_refl _, by rw [show layAll [] = [] from rfl, List.take_nil, scanL_none (takeL_short (by decide))]; rfl, fun s hs _ => hs⟩
  | cons r t ih =>
    intro h k hk
    have hr := h r (.head _)
    rw [lenR_cons] at hk
    rw [layAll_cons]
    by_cases hlt : k < (layL r).length
    · refine ⟨0, Nat.zero_le _, ?_, fun s _ hs => Nat.le_of_eq (zero_of_lenR (k := k + 1) (Nat.lt_succ_of_le hs) (by omega))⟩
      rw [List.take_append_of_le_length (by omega), List.take_zero]
      refine scanL_none ?_
      rw [layL_len] at hlt
      rcases Nat.lt_or_ge k 8 with h8 | h8
      · exact takeL_short (by rw [List.length_take]; omega)
      · exact takeL_few r.length (by omega) _ (by rw [List.take_take, show min 4 k = 4 by omega, layL_take4]) (by rw [List.length_take, layL_len]; omega)
    · obtain ⟨k', rfl⟩ : ∃ k', k = (layL r).length + k' := ⟨k - (layL r).length, by omega⟩
      obtain ⟨g, hg, h1, h2⟩ := ih (fun x hx => h x (.tail _ hx)) k' (by omega)
      refine ⟨g + 1, by simp; exact hg, ?_, fun s hs hl => ?_⟩
      · rw [List.take_length_add_append, scanL_lay r _ hr, h1, List.take_succ_cons]
      · cases s with
        | zero => exact Nat.zero_le _
        | succ s =>
          rw [List.take_succ_cons, lenR_cons] at hl
          have := h2 s (by simpa using hs) (by omega)
          omega
theorem scan_torn : ∀ (rs : List (List UInt8)), (∀ r ∈ rs, r.length ≤ 524288) → ∀ k x e, k ≤ lenR rs → 0 < k → (layAll rs)[k - 1]? = some x → x ≠ e →
    ∃ g, g ≤ rs.length ∧ scanL (((layAll rs).take k).set (k - 1) e) = rs.take g ∧ ∀ s, s ≤ rs.length → lenR (rs.take s) < k → s ≤ g := by
  intro rs
  induction rs with
  | nil => intro _ k x e hk h0 hx _; simp [layAll] at hx
  | cons r t ih =>
    intro h k x e hk h0 hx hne
    have hr := h r (.head _)
    rw [lenR_cons] at hk
    rw [layAll_cons] at hx ⊢
    by_cases hle : k ≤ (layL r).length
    · refine ⟨0, Nat.zero_le _, ?_, fun s _ hs => Nat.le_of_eq (zero_of_lenR hs hle)⟩
      rw [List.take_append_of_le_length hle, List.take_zero]
      rw [List.getElem?_append_left (by omega)] at hx
      refine scanL_none ?_
      by_cases heq : k = (layL r).length
      · have hl8 := layL_len r
        have := takeL_bad r [] hr (k - 1) x e (by omega) hx hne
        rw [List.append_nil] at this
        rw [heq, List.take_length, ← heq]
        exact this
      · rcases Nat.lt_or_ge k 8 with h8 | h8
        · exact takeL_short (by rw [List.length_set, List.length_take]; omega)
        · have hl8 := layL_len r
          exact takeL_few r.length (by omega) _ (by rw [List.take_set_of_le (by omega), List.take_take, show min 4 k = 4 by omega, layL_take4]) (by rw [List.length_set, List.length_take]; omega)
    · obtain ⟨k', rfl⟩ : ∃ k', k = (layL r).length + k' := ⟨k - (layL r).length, by omega⟩
      have hk0 : 0 < k' := by omega
      have e1 : (layL r).length + k' - 1 - (layL r).length = k' - 1 := by omega
      rw [List.getElem?_append_right (by omega), e1] at hx
      obtain ⟨g, hg, h1, h2⟩ := ih (fun x hx => h x (.tail _ hx)) k' x e (by omega) hk0 hx hne
      refine ⟨g + 1, by simp; exact hg, ?_, fun s hs hl => ?_⟩
      · rw [List.take_length_add_append, set_right _ _ _ _ (by omega), e1, scanL_lay r _ hr, h1, List.take_succ_cons]
      · cases s with
        | zero => exact Nat.zero_le _
        | succ s =>
          rw [List.take_succ_cons, lenR_cons] at hl
          have := h2 s (by simpa using hs) (by omega)
          omega
theorem lenR_take_le (rs : List (List UInt8)) (n : Nat) : lenR (rs.take n) ≤ lenR rs := by
  have : lenR rs = lenR (rs.take n ++ rs.drop n) := by rw [List.take_append_drop]
  rw [this, lenR_append]
  omega
/-- Behind a crash: all records that were synced, and so many of those behind. -/
theorem scan_crash (rs : List (List UInt8)) (h : ∀ r ∈ rs, r.length ≤ 524288) (n : Nat) (hn : n ≤ rs.length) (keep bit : Nat) :
    ∃ g, n ≤ g ∧ g ≤ rs.length ∧ scanL (tornB (layAll rs) (lenR (rs.take n)) keep bit) = rs.take g := by
  have hle := lenR_take_le rs n
  have hlen := layAll_len rs
  obtain ⟨K, hK⟩ : ∃ K, K = min keep ((layAll rs).length - lenR (rs.take n)) := ⟨_, rfl⟩
  unfold tornB
  rw [← hK]
  split
  · rename_i hc
    obtain ⟨x, hx⟩ : ∃ x, (layAll rs)[lenR (rs.take n) + K - 1]? = some x := ⟨_, List.getElem?_eq_getElem (by omega)⟩
    have hp : 2 ^ bit < 256 := by
      calc 2 ^ bit ≤ 2 ^ 7 := Nat.pow_le_pow_right (by decide) (by omega)
        _ < 256 := by decide
    have hp0 : 0 < 2 ^ bit := Nat.pow_pos (by decide)
    have hne : x ≠ UInt8.ofNat (x.toNat ^^^ 2 ^ bit) := by
      intro he
      have h2 := congrArg UInt8.toNat he
      have hx8 := x.toNat_lt
      rw [UInt8.toNat_ofNat', Nat.mod_eq_of_lt (Nat.xor_lt_two_pow (n := 8) (by omega) (by omega))] at h2
      have h3 := congrArg (x.toNat ^^^ ·) h2
      simp only [← Nat.xor_assoc, Nat.xor_self, Nat.zero_xor] at h3
      omega
    obtain ⟨g, hg, h1, h2⟩ := scan_torn rs h _ x _ (by omega) (by omega) hx hne
    refine ⟨g, h2 n hn (by omega), hg, ?_⟩
    rw [List.getD_eq_getElem?_getD, hx]
    exact h1
  · obtain ⟨g, hg, h1, h2⟩ := scan_take rs h (lenR (rs.take n) + K) (by omega)
    exact ⟨g, h2 n hn (by omega), hg, h1⟩
end Go.Proofs.Ytdjdhakmigofmaa
