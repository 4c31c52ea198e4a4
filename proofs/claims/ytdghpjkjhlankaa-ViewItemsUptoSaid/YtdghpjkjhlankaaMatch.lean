/-
  match's and curb's checks: that they answer, and what lab.Key and lab.Value say.
-/
import Derived.Test.YtdghpjkjhlankaaAsks
import Derived.Test.YtdghpjkjhlankaaBut
import Derived.Test.YtdghpjkjhlankaaWord
namespace Go.Proofs.Ytdghpjkjhlankaa
open Go.RowKit
set_option maxRecDepth 100000

theorem lKey (s : ByteArray) (w : World) (hs : s.size ≤ maxLen) : Calls Try.prog 43 #[.string s] w fun e w' => e = .returned (.bool (wordB s 8 false)) ∧ Below w.heap.size w w' := by
  have hW : Calls Try.prog 51 #[.string s, .int .i64 8, .bool false] w fun e w' => e = .returned (.bool (wordB s 8 false)) ∧ Below w.heap.size w w' := labWord s 8 false w hs
  go_enter Try.func43, Try.ntmps43
  go_wp2_with fail
  (with_reducible refine hW.mono ?_)
  rintro e w1 ⟨rfl, hb⟩
  go_wp2_with fail
  go_ret
  exact ⟨rfl, hb⟩
theorem lValue (s : ByteArray) (w : World) (hs : s.size ≤ maxLen) : Calls Try.prog 54 #[.string s] w fun e w' => e = .returned (.bool (wordB s 16 true)) ∧ Below w.heap.size w w' := by
  have hW : Calls Try.prog 51 #[.string s, .int .i64 16, .bool true] w fun e w' => e = .returned (.bool (wordB s 16 true)) ∧ Below w.heap.size w w' := labWord s 16 true w hs
  go_enter Try.func54, Try.ntmps54
  go_wp2_with fail
  (with_reducible refine hW.mono ?_)
  rintro e w1 ⟨rfl, hb⟩
  go_wp2_with fail
  go_ret
  exact ⟨rfl, hb⟩

/-- A question of small numbers may be one: its check says so. -/
theorem askCheck (t : Nat × Nat × Nat) (w : World) :
    Calls Try.prog 50 #[.agg #[.string (askKeyB t.1), .int .u8 (1 + t.2.1 % 5 : Nat), .string (if 3 ≤ t.2.1 % 5 then ⟨#[]⟩ else askValB t.2.2)]] w fun e w' => e = .returned (.int .i64 0) ∧ Below w.heap.size w w' := by
  obtain ⟨k, p, v⟩ := t
  obtain ⟨p5, hp5⟩ : ∃ n, n = p % 5 := ⟨_, rfl⟩
  have hp : p5 < 5 := by omega
  have hk : (askKeyB k).size ≤ maxLen ∧ wordB (askKeyB k) 8 false = true := by
    unfold askKeyB
    have h : k % 5 = 0 ∨ k % 5 = 1 ∨ k % 5 = 2 ∨ k % 5 = 3 ∨ k % 5 = 4 := by omega
    rcases h with h | h | h | h | h <;> rw [h] <;> exact ⟨by simp [maxLen, ByteArray.size], by rfl⟩
  have hv : (askValB v).size ≤ maxLen ∧ wordB (askValB v) 16 true = true := by
    unfold askValB
    have h : v % 5 = 0 ∨ v % 5 = 1 ∨ v % 5 = 2 ∨ v % 5 = 3 ∨ v % 5 = 4 := by omega
    rcases h with h | h | h | h | h <;> rw [h] <;> exact ⟨by simp [maxLen, ByteArray.size], by rfl⟩
  have hK := fun W => lKey (askKeyB k) W hk.1
  rw [hk.2] at hK
  have hV := fun W => lValue (askValB v) W hv.1
  rw [hv.2] at hV
  simp only
  rw [← hp5]
  generalize askKeyB k = K at hK
  generalize askValB v = V at hV
  clear hk hv hp5
  by_cases h3 : 3 ≤ p5
  · rw [if_pos h3]
    have n1 : ¬ (1 + (p5 : Int)) < 1 := by omega
    have n2 : ¬ 5 < (1 + (p5 : Int)) := by omega
    have n3 : 4 ≤ (1 + (p5 : Int)) := by omega
    have n4 : ¬ (1 + (p5 : Int)) < 4 := by omega
    go_enter Try.func50, Try.ntmps50
    have hBl : Blk (w.alloc (.cells #[.string K, .int .u8 (1 + (p5 : Int)), .string ⟨#[]⟩] 145)) w.heap.size #[.string K, .int .u8 (1 + (p5 : Int)), .string ⟨#[]⟩] 145 := Blk.new _ _ _
    have hba : Below w.heap.size w (w.alloc (.cells #[.string K, .int .u8 (1 + (p5 : Int)), .string ⟨#[]⟩] 145)) := (Below.refl _ _).alloc (Nat.le_refl _) _
    go_wp2_with fail
    (with_reducible refine (hK _).mono ?_)
    rintro e w1 ⟨rfl, hb1⟩
    have hB1 := hBl.below hb1 hBl.lt
    have hbe := hba.trans (hb1.mono hba.size)
    clear hBl hba hb1 hK
    have c1 := hB1.cell (j := 1) rfl
    have c2 := hB1.cell (j := 2) rfl
    go_wp2_with fail
    go_ret
    exact ⟨rfl, hbe⟩
  · rw [if_neg h3]
    have n1 : ¬ (1 + (p5 : Int)) < 1 := by omega
    have n2 : ¬ 5 < (1 + (p5 : Int)) := by omega
    have n3 : ¬ 4 ≤ (1 + (p5 : Int)) := by omega
    have n4 : (1 + (p5 : Int)) < 4 := by omega
    go_enter Try.func50, Try.ntmps50
    have hBl : Blk (w.alloc (.cells #[.string K, .int .u8 (1 + (p5 : Int)), .string V] 145)) w.heap.size #[.string K, .int .u8 (1 + (p5 : Int)), .string V] 145 := Blk.new _ _ _
    have hba : Below w.heap.size w (w.alloc (.cells #[.string K, .int .u8 (1 + (p5 : Int)), .string V] 145)) := (Below.refl _ _).alloc (Nat.le_refl _) _
    go_wp2_with fail
    (with_reducible refine (hK _).mono ?_)
    rintro e w1 ⟨rfl, hb1⟩
    have hB1 := hBl.below hb1 hBl.lt
    have hbe := hba.trans (hb1.mono hba.size)
    clear hBl hba hb1 hK
    have c1 := hB1.cell (j := 1) rfl
    have c2 := hB1.cell (j := 2) rfl
    go_wp2_with fail
    (with_reducible refine (hV _).mono ?_)
    rintro e w2 ⟨rfl, hb2⟩
    have hbe2 := hbe.trans (hb2.mono hbe.size)
    clear hV hb2
    go_wp2_with fail
    go_ret
    exact ⟨rfl, hbe2⟩
theorem asksCheck (v : Value) (l : List (Nat × Nat × Nat)) (w : World) (hr : Rd w 3 v l.length (askCells l)) :
    Calls Try.prog 42 #[v] w fun e w' => ∃ n : Int, e = .returned (.int .i64 n) ∧ Below w.heap.size w w' := by
  obtain ⟨A, c, rfl, h1, h2, h3, h4⟩ := hr
  unfold maxLen at h3
  go_enter Try.func42, Try.ntmps42
  by_cases h8 : 8 < l.length
  · go_wp2_with fail
    go_ret
    exact ⟨_, rfl, Below.refl _ _⟩
  go_wp2_with fail
  go_loopw [11] (fun i wr => ∃ k : Nat, k ≤ l.length ∧ i = .int .i64 k ∧ Below w.heap.size w wr) (fun i _ => l.length - (intOf i).toNat)
  case atStart => exact ⟨0, Nat.zero_le _, rfl, Below.refl _ _⟩
  case round =>
    obtain ⟨k, hk, rfl, hB⟩ := hrel
    by_cases hlt : k < l.length
    · obtain ⟨t, ht⟩ : ∃ t, l[k]? = some t := ⟨_, List.getElem?_eq_getElem hlt⟩
      obtain ⟨b, o, rfl, hat⟩ := h4 (by omega)
      have c0 := hat.nth0 hB (k * 3) _ (by have := flat_at askV 3 (fun _ => rfl) l k t ht 0 (by omega); simpa [askV, askCells] using this)
      have c1 := hat.nth hB (k * 3) 1 (.int .u8 (1 + t.2.1 % 5 : Nat)) (flat_at askV 3 (fun _ => rfl) l k t ht 1 (by omega))
      have c2 := hat.nth hB (k * 3) 2 _ (by have := flat_at askV 3 (fun _ => rfl) l k t ht 2 (by omega); simpa [askV, askCells] using this)
      have hC := fun W => askCheck t W
      obtain ⟨k1, p1, v1⟩ := t
      simp only at c0 c1 c2 hC
      generalize (if 3 ≤ p1 % 5 then (⟨#[]⟩ : ByteArray) else askValB v1) = q at c2 hC
      generalize 1 + p1 % 5 = pq at c1 hC
      clear h4 h1 hat ht
      have hba : Below w.heap.size w (wr.alloc (.cells #[.string (askKeyB k1), .int .u8 pq, .string q] 145)) := hB.alloc hB.size _
      go_wp2_with fail
      (with_reducible refine (hC _).mono ?_)
      rintro e w2 ⟨rfl, hb2⟩
      have hb3 := hba.trans (hb2.mono hba.size)
      clear hC hb2 hba hB c0 c1 c2
      go_wp2_with fail
      go_roundw
      case rel => exact ⟨k + 1, by omega, by go_num, hb3⟩
      case measure => simp [intOf]; omega
    · obtain rfl : k = l.length := by omega
      go_wp2_with fail
      go_ret
      exact ⟨_, rfl, hB⟩
end Go.Proofs.Ytdghpjkjhlankaa
