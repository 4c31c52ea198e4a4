/-
  Questions of small numbers (watchfirelaw17.Small's Ask, Asks).
-/
import Derived.Test.YteiocplfmjkbkaaGreatDoorRLabs
namespace Go.Proofs.YteiocplfmjkbkaaGreatDoor
open Go.RowKit FreeOrd
set_option maxRecDepth 100000
attribute [local go_sem] out

def askKeyB (k : Nat) : ByteArray := if k % 5 = 0 then ⟨#[97]⟩ else if k % 5 = 1 then ⟨#[98]⟩ else if k % 5 = 2 then ⟨#[114, 117, 108, 101]⟩ else if k % 5 = 3 then ⟨#[111, 114, 105, 103, 105, 110]⟩ else ⟨#[110, 111, 100, 101]⟩
def askValB (k : Nat) : ByteArray := if k % 5 = 0 then ⟨#[120]⟩ else if k % 5 = 1 then ⟨#[121]⟩ else if k % 5 = 2 then ⟨#[48]⟩ else if k % 5 = 3 then ⟨#[104, 111, 116]⟩ else ⟨#[49]⟩
theorem askKey_at (k : Nat) : (#[Value.string ⟨#[97]⟩, .string ⟨#[98]⟩, .string ⟨#[114, 117, 108, 101]⟩, .string ⟨#[111, 114, 105, 103, 105, 110]⟩, .string ⟨#[110, 111, 100, 101]⟩] : Array Value)[k % 5]? = some (.string (askKeyB k)) := by
  unfold askKeyB
  have h : k % 5 = 0 ∨ k % 5 = 1 ∨ k % 5 = 2 ∨ k % 5 = 3 ∨ k % 5 = 4 := by omega
  rcases h with h | h | h | h | h <;> rw [h] <;> rfl
theorem askVal_at (k : Nat) : (#[Value.string ⟨#[120]⟩, .string ⟨#[121]⟩, .string ⟨#[48]⟩, .string ⟨#[104, 111, 116]⟩, .string ⟨#[49]⟩] : Array Value)[k % 5]? = some (.string (askValB k)) := by
  unfold askValB
  have h : k % 5 = 0 ∨ k % 5 = 1 ∨ k % 5 = 2 ∨ k % 5 = 3 ∨ k % 5 = 4 := by omega
  rcases h with h | h | h | h | h <;> rw [h] <;> rfl
theorem smallAsk (k p v : Nat) (w : World) :
    Calls Tryz.prog 42 #[.agg #[.int .u8 k, .int .u8 p, .int .u8 v]] w fun e w' =>
      e = .returned (.agg #[.string (askKeyB k), .int .u8 (1 + p % 5 : Nat), .string (if 3 ≤ p % 5 then ⟨#[]⟩ else askValB v)]) ∧ Below w.heap.size w w' := by
  obtain ⟨k5, hk5⟩ : ∃ n, n = k % 5 := ⟨_, rfl⟩
  obtain ⟨p5, hp5⟩ : ∃ n, n = p % 5 := ⟨_, rfl⟩
  obtain ⟨v5, hv5⟩ : ∃ n, n = v % 5 := ⟨_, rfl⟩
  have t1 : (k : Int).tmod 5 = (k5 : Int) := by rw [hk5]; rfl
  have t2 : (p : Int).tmod 5 = (p5 : Int) := by rw [hp5]; rfl
  have t3 : (v : Int).tmod 5 = (v5 : Int) := by rw [hv5]; rfl
  have w1 : IntKind.u8.wrap (1 + (p5 : Int)) = 1 + (p5 : Int) := by rw [IntKind.wrap_u8]; omega
  have hkey := hk5 ▸ askKey_at k
  have hval := hv5 ▸ askVal_at v
  have k5lt : k5 < 5 := by omega
  have v5lt : v5 < 5 := by omega
  have u1 : (k5 : Int) < 5 := by omega
  have u2 : (v5 : Int) < 5 := by omega
  rw [← hp5]
  clear hk5 hv5 hp5
  go_enter Tryz.func42, Tryz.ntmps42
  go_wp2_with fail
  obtain ⟨Inv, I0, F, S, Z, HH⟩ : ∃ Inv : World → Prop, Inv ((w.alloc (Obj.cells #[.int .u8 k, .int .u8 p, .int .u8 v] 102)).alloc (Obj.cells #[.string ⟨#[]⟩, .int .u8 0, .string ⟨#[]⟩] 68)).drew ∧
      (∀ w', Inv w' → w'.cell? ⟨w.heap.size, 0, none⟩ = some (.int .u8 k) ∧ w'.cell? ⟨w.heap.size, 1, none⟩ = some (.int .u8 p) ∧ w'.cell? ⟨w.heap.size, 2, none⟩ = some (.int .u8 v)) ∧
      (∀ w' w'', Inv w' → Below w'.heap.size w' w'' → Inv w'') ∧ (∀ w', Inv w' → w.heap.size + 2 ≤ w'.heap.size) ∧ (∀ w', Inv w' → Holds w [(w.heap.size + 1, #[.string ⟨#[]⟩, .int .u8 0, .string ⟨#[]⟩], 68)] w') := by
    refine ⟨Holds w [(w.heap.size + 1, #[.string ⟨#[]⟩, .int .u8 0, .string ⟨#[]⟩], 68), (w.heap.size, #[.int .u8 k, .int .u8 p, .int .u8 v], 102)], ((Holds.nil w).new _ _ _ rfl).new (w.heap.size + 1) _ _ (by simp) |>.drew, fun w' h => ?_, fun w' w'' h hb => h.grow hb, fun w' h => (h.2 _ (.head _)).lt, fun w' h => ⟨h.1, fun x hx => h.2 x ?_⟩⟩
    · refine ⟨?_, ?_, ?_⟩
      all_goals first | exact h.cell (.head _) rfl | exact h.cell (.tail _ (.head _)) rfl
    · cases hx with
      | head => exact .head _
      | tail _ h => cases h
  refine region_free (Inv) [0, 4, 10, 14, 17] [18] [0, 1, 2, 3, 4, 5, 6, 7, 8, 9, 10, 11, 12, 13, 14, 15, 16, 17] (by kernel_rfl) (by kernel_rfl) (by kernel_rfl) (I0) ?_
  repeat (first
    | (refine RelSeq.pure_ (c := ?_) rfl rfl ?_ ?_; rotate_left; (focus (intro x w'; dsimp only; go_simp; (repeat' apply And.intro) <;> first | with_reducible rfl | assumption)); simp only [Act.put, List.setIfInBounds_toArray, List.set_cons_zero, List.set_cons_succ])
    | (refine RelSeq.grow_ (c := ?_) rfl rfl ?_ ?_; rotate_left; (focus (intro x w' hw _; dsimp only; obtain ⟨c0, c1, c2⟩ := F w' hw; have hbr := Below.refl w'.heap.size w'; go_simp; (repeat' apply And.intro) <;> first | with_reducible rfl | assumption)); simp only [Act.put, List.setIfInBounds_toArray, List.set_cons_zero, List.set_cons_succ]))
  refine RelSeq.rel_ (NewSl w.heap.size 5 #[.string ⟨#[97]⟩, .string ⟨#[98]⟩, .string ⟨#[114, 117, 108, 101]⟩, .string ⟨#[111, 114, 105, 103, 105, 110]⟩, .string ⟨#[110, 111, 100, 101]⟩] 9) rfl rfl NewSl.stable ?_ ?_
  focus
    intro x w' hw _; dsimp only
    have hba : Below w'.heap.size w' (w'.alloc (.cells #[.string ⟨#[97]⟩, .string ⟨#[98]⟩, .string ⟨#[114, 117, 108, 101]⟩, .string ⟨#[111, 114, 105, 103, 105, 110]⟩, .string ⟨#[110, 111, 100, 101]⟩] 9)) := (Below.refl _ _).alloc (Nat.le_refl _) _
    have hI := S w' _ hw hba
    have hsz := Z w' hw
    have hsz2 := Nat.le_trans (Nat.le_add_right w.heap.size 2) hsz
    go_simp
    (repeat' apply And.intro) <;> first | assumption | exact ⟨_, rfl, hsz, Blk.new _ _ _⟩ | exact ⟨_, rfl, hsz2, Blk.new _ _ _⟩
  simp only [Act.put, List.setIfInBounds_toArray, List.set_cons_zero, List.set_cons_succ, List.nil_append]
  repeat (first
    | (refine RelSeq.pure_ (c := ?_) rfl rfl ?_ ?_; rotate_left; (focus (intro x w'; dsimp only; go_simp; (repeat' apply And.intro) <;> first | with_reducible rfl | assumption)); simp only [Act.put, List.setIfInBounds_toArray, List.set_cons_zero, List.set_cons_succ])
    | (refine RelSeq.grow_ (c := ?_) rfl rfl ?_ ?_; rotate_left; (focus (intro x w' hw _; dsimp only; obtain ⟨c0, c1, c2⟩ := F w' hw; have hbr := Below.refl w'.heap.size w'; go_simp; (repeat' apply And.intro) <;> first | with_reducible rfl | assumption)); simp only [Act.put, List.setIfInBounds_toArray, List.set_cons_zero, List.set_cons_succ]))
  refine RelSeq.rel_ (NewPt w.heap.size k5 #[.string ⟨#[97]⟩, .string ⟨#[98]⟩, .string ⟨#[114, 117, 108, 101]⟩, .string ⟨#[111, 114, 105, 103, 105, 110]⟩, .string ⟨#[110, 111, 100, 101]⟩] 9) rfl rfl NewPt.stable ?_ ?_
  focus
    intro x w' hw hf; dsimp only
    obtain ⟨b, e, hb0, hB⟩ := hf _ (.head _) (by kernel_rfl)
    have hbr := Below.refl w'.heap.size w'
    go_simp
    (repeat' apply And.intro) <;> first | assumption | exact ⟨b, rfl, hb0, hB⟩
  simp only [Act.put, List.setIfInBounds_toArray, List.set_cons_zero, List.set_cons_succ, List.nil_append, List.cons_append]
  refine RelSeq.grow_ (c := ?_) rfl rfl ?_ ?_; rotate_left
  focus
    intro x w' hw hf; dsimp only
    obtain ⟨b, e, hb0, hB⟩ := hf _ (.tail _ (.head _)) (by kernel_rfl)
    have c0 := hB.cell (hkey)
    clear hB
    have hbr := Below.refl w'.heap.size w'
    go_simp
    (repeat' apply And.intro) <;> first | with_reducible rfl | assumption
  simp only [Act.put, List.setIfInBounds_toArray, List.set_cons_zero, List.set_cons_succ]
  repeat (first
    | (refine RelSeq.pure_ (c := ?_) rfl rfl ?_ ?_; rotate_left; (focus (intro x w'; dsimp only; go_simp; (repeat' apply And.intro) <;> first | with_reducible rfl | assumption)); simp only [Act.put, List.setIfInBounds_toArray, List.set_cons_zero, List.set_cons_succ])
    | (refine RelSeq.grow_ (c := ?_) rfl rfl ?_ ?_; rotate_left; (focus (intro x w' hw _; dsimp only; obtain ⟨c0, c1, c2⟩ := F w' hw; have hbr := Below.refl w'.heap.size w'; go_simp; (repeat' apply And.intro) <;> first | with_reducible rfl | assumption)); simp only [Act.put, List.setIfInBounds_toArray, List.set_cons_zero, List.set_cons_succ]))
  refine RelSeq.rel_ (NewSl w.heap.size 5 #[.string ⟨#[120]⟩, .string ⟨#[121]⟩, .string ⟨#[48]⟩, .string ⟨#[104, 111, 116]⟩, .string ⟨#[49]⟩] 9) rfl rfl NewSl.stable ?_ ?_
  focus
    intro x w' hw _; dsimp only
    have hba : Below w'.heap.size w' (w'.alloc (.cells #[.string ⟨#[120]⟩, .string ⟨#[121]⟩, .string ⟨#[48]⟩, .string ⟨#[104, 111, 116]⟩, .string ⟨#[49]⟩] 9)) := (Below.refl _ _).alloc (Nat.le_refl _) _
    have hI := S w' _ hw hba
    have hsz := Z w' hw
    have hsz2 := Nat.le_trans (Nat.le_add_right w.heap.size 2) hsz
    go_simp
    (repeat' apply And.intro) <;> first | assumption | exact ⟨_, rfl, hsz, Blk.new _ _ _⟩ | exact ⟨_, rfl, hsz2, Blk.new _ _ _⟩
  simp only [Act.put, List.setIfInBounds_toArray, List.set_cons_zero, List.set_cons_succ, List.nil_append, List.cons_append]
  repeat (first
    | (refine RelSeq.pure_ (c := ?_) rfl rfl ?_ ?_; rotate_left; (focus (intro x w'; dsimp only; go_simp; (repeat' apply And.intro) <;> first | with_reducible rfl | assumption)); simp only [Act.put, List.setIfInBounds_toArray, List.set_cons_zero, List.set_cons_succ])
    | (refine RelSeq.grow_ (c := ?_) rfl rfl ?_ ?_; rotate_left; (focus (intro x w' hw _; dsimp only; obtain ⟨c0, c1, c2⟩ := F w' hw; have hbr := Below.refl w'.heap.size w'; go_simp; (repeat' apply And.intro) <;> first | with_reducible rfl | assumption)); simp only [Act.put, List.setIfInBounds_toArray, List.set_cons_zero, List.set_cons_succ]))
  refine RelSeq.rel_ (NewPt w.heap.size v5 #[.string ⟨#[120]⟩, .string ⟨#[121]⟩, .string ⟨#[48]⟩, .string ⟨#[104, 111, 116]⟩, .string ⟨#[49]⟩] 9) rfl rfl NewPt.stable ?_ ?_
  focus
    intro x w' hw hf; dsimp only
    obtain ⟨b, e, hb0, hB⟩ := hf _ (.tail _ (.tail _ (.head _))) (by kernel_rfl)
    have hbr := Below.refl w'.heap.size w'
    go_simp
    (repeat' apply And.intro) <;> first | assumption | exact ⟨b, rfl, hb0, hB⟩
  simp only [Act.put, List.setIfInBounds_toArray, List.set_cons_zero, List.set_cons_succ, List.nil_append, List.cons_append]
  refine RelSeq.grow_ (c := ?_) rfl rfl ?_ ?_; rotate_left
  focus
    intro x w' hw hf; dsimp only
    obtain ⟨b, e, hb0, hB⟩ := hf _ (.tail _ (.tail _ (.tail _ (.head _)))) (by kernel_rfl)
    have c0 := hB.cell (hval)
    clear hB
    have hbr := Below.refl w'.heap.size w'
    go_simp
    (repeat' apply And.intro) <;> first | with_reducible rfl | assumption
  simp only [Act.put, List.setIfInBounds_toArray, List.set_cons_zero, List.set_cons_succ]
  repeat (first
    | (refine RelSeq.pure_ (c := ?_) rfl rfl ?_ ?_; rotate_left; (focus (intro x w'; dsimp only; go_simp; (repeat' apply And.intro) <;> first | with_reducible rfl | assumption)); simp only [Act.put, List.setIfInBounds_toArray, List.set_cons_zero, List.set_cons_succ])
    | (refine RelSeq.grow_ (c := ?_) rfl rfl ?_ ?_; rotate_left; (focus (intro x w' hw _; dsimp only; obtain ⟨c0, c1, c2⟩ := F w' hw; have hbr := Below.refl w'.heap.size w'; go_simp; (repeat' apply And.intro) <;> first | with_reducible rfl | assumption)); simp only [Act.put, List.setIfInBounds_toArray, List.set_cons_zero, List.set_cons_succ]))
  refine RelSeq.rel_ (NewPt (w.heap.size + 2) 0 #[.string ⟨#[]⟩, .int .u8 0, .string ⟨#[]⟩] 68) rfl rfl NewPt.stable ?_ ?_
  focus
    intro x w' hw _; dsimp only
    have hba : Below w'.heap.size w' (w'.alloc (.cells #[.string ⟨#[]⟩, .int .u8 0, .string ⟨#[]⟩] 68)) := (Below.refl _ _).alloc (Nat.le_refl _) _
    have hI := S w' _ hw hba
    have hsz := Z w' hw
    have hsz2 := Nat.le_trans (Nat.le_add_right w.heap.size 2) hsz
    go_simp
    (repeat' apply And.intro) <;> first | assumption | exact ⟨_, rfl, hsz, Blk.new _ _ _⟩ | exact ⟨_, rfl, hsz2, Blk.new _ _ _⟩
  simp only [Act.put, List.setIfInBounds_toArray, List.set_cons_zero, List.set_cons_succ, List.nil_append, List.cons_append]
  refine RelSeq.nil_ fun x w1 hw hf => ?_
  obtain ⟨b, e, hb0, hB⟩ := hf _ (.tail _ (.tail _ (.tail _ (.tail _ (.head _)))))
  obtain ⟨hH, hHB⟩ := HH w1 hw
  have hBr := hHB _ (.head _)
  have hb1 : w.heap.size ≤ b := by omega
  have hbw1 : b ≠ w.heap.size + 1 := by omega
  clear hf F S Z HH hw hHB
  refine TailSeq.cons_ rfl ?_
  have c0 := hB.cell (j := 0) rfl
  have c1 := hB.cell (j := 1) rfl
  have c2 := hB.cell (j := 2) rfl
  have f0 := hB.frozen
  dsimp only at hBr ⊢
  go_simp
  refine TailSeq.nil_gen fun w2 hw2 => ?_
  have hB2 : Blk w2 b #[.string (askKeyB k), .int .u8 (1 + (p5 : Int)), .string (askValB v)] 68 := by
    rw [hw2]
    have := (((hB.set_ 0 (.string (askKeyB k))).set_ 1 (.int .u8 (1 + (p5 : Int)))).set_ 2 (.string (askValB v)))
    simpa using this
  have hb2 : Below w.heap.size w w2 := by
    rw [hw2]
    exact (((hH.setCell (p := ⟨b, 0, none⟩) hb1 _).setCell (p := ⟨b, 1, none⟩) hb1 _).setCell (p := ⟨b, 2, none⟩) hb1 _)
  have hBr2 : Blk w2 (w.heap.size + 1) #[.string ⟨#[]⟩, .int .u8 0, .string ⟨#[]⟩] 68 := by
    rw [hw2]
    exact (((hBr.far (p := ⟨b, 0, none⟩) hbw1.symm _).far (p := ⟨b, 1, none⟩) hbw1.symm _).far (p := ⟨b, 2, none⟩) hbw1.symm _)
  clear hw2 hB hH hBr c0 c1 c2 f0 hkey hval t1 t2 t3 w1
  have c0 := hB2.cell (j := 0) rfl
  have c1 := hB2.cell (j := 1) rfl
  have c2 := hB2.cell (j := 2) rfl
  have f0 := hB2.frozen
  have d0 := hBr2.cell (j := 0) rfl
  have d1 := hBr2.cell (j := 1) rfl
  have d2 := hBr2.cell (j := 2) rfl
  have g0 := hBr2.frozen
  by_cases h3 : 3 ≤ p5
  · have h3' : (4 : Int) ≤ 1 + (p5 : Int) := by omega
    go_wp2_with fail
    refine bodyPost_gen fun w6 hw6 => ?_
    have hBo : Blk w6 (w.heap.size + 1) #[.string (askKeyB k), .int .u8 (1 + (p5 : Int)), .string ⟨#[]⟩] 68 := by
      rw [hw6]
      have := ((((hBr2.far (p := ⟨b, 2, none⟩) hbw1.symm (.string ⟨#[]⟩)).set_ 0 (.string (askKeyB k))).set_ 1 (.int .u8 (1 + (p5 : Int)))).set_ 2 (.string ⟨#[]⟩))
      simpa using this
    have hb6 : Below w.heap.size w w6 := by
      rw [hw6]
      exact ((((hb2.setCell (p := ⟨b, 2, none⟩) hb1 (.string ⟨#[]⟩)).setCell (p := ⟨w.heap.size + 1, 0, none⟩) (Nat.le_succ _) _).setCell (p := ⟨w.heap.size + 1, 1, none⟩) (Nat.le_succ _) _).setCell (p := ⟨w.heap.size + 1, 2, none⟩) (Nat.le_succ _) _)
    clear hw6
    have a0 := hBo.cell (j := 0) (v := .string (askKeyB k)) rfl
    have a1 := hBo.cell (j := 1) (v := .int .u8 (1 + (p5 : Int))) rfl
    have a2 := hBo.cell (j := 2) (v := .string ⟨#[]⟩) rfl
    refine bodyPost_ret (v := .agg #[.string (askKeyB k), .int .u8 (1 + (p5 : Int)), .string ⟨#[]⟩]) ?_ rfl ⟨rfl, hb6⟩
    simp [results, Tryz.results42, go_sem, a0, a1, a2]
  · have h3' : ¬ (4 : Int) ≤ 1 + (p5 : Int) := by omega
    go_wp2_with fail
    refine bodyPost_gen fun w6 hw6 => ?_
    have hBo : Blk w6 (w.heap.size + 1) #[.string (askKeyB k), .int .u8 (1 + (p5 : Int)), .string (askValB v)] 68 := by
      rw [hw6]
      have := (((hBr2.set_ 0 (.string (askKeyB k))).set_ 1 (.int .u8 (1 + (p5 : Int)))).set_ 2 (.string (askValB v)))
      simpa using this
    have hb6 : Below w.heap.size w w6 := by
      rw [hw6]
      exact (((hb2.setCell (p := ⟨w.heap.size + 1, 0, none⟩) (Nat.le_succ _) _).setCell (p := ⟨w.heap.size + 1, 1, none⟩) (Nat.le_succ _) _).setCell (p := ⟨w.heap.size + 1, 2, none⟩) (Nat.le_succ _) _)
    clear hw6
    have a0 := hBo.cell (j := 0) (v := .string (askKeyB k)) rfl
    have a1 := hBo.cell (j := 1) (v := .int .u8 (1 + (p5 : Int))) rfl
    have a2 := hBo.cell (j := 2) (v := .string (askValB v)) rfl
    refine bodyPost_ret (v := .agg #[.string (askKeyB k), .int .u8 (1 + (p5 : Int)), .string (askValB v)]) ?_ rfl ⟨rfl, hb6⟩
    simp [results, Tryz.results42, go_sem, a0, a1, a2]
end Go.Proofs.YteiocplfmjkbkaaGreatDoor
