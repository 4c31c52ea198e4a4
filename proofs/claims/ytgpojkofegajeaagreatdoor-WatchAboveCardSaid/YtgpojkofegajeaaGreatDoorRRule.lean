/-
  A rule of small numbers (watchfirelaw15.Small.Rule).
-/
import Derived.Test.YtgpojkofegajeaaGreatDoorRCond
import Derived.Test.YtgpojkofegajeaaGreatDoorBut
import Derived.RegionTactic
import Derived.BigRegion
namespace Go.Proofs.YtgpojkofegajeaaGreatDoor
open Go.RowKit FreeOrd
set_option maxRecDepth 100000
attribute [local go_sem] out

def ruleNameB (k : Nat) : ByteArray := if k % 5 = 0 then ⟨#[104, 111, 116]⟩ else if k % 5 = 1 then ⟨#[99, 111, 108, 100]⟩ else if k % 5 = 2 then ⟨#[102, 117, 108, 108]⟩ else if k % 5 = 3 then ⟨#[114, 52]⟩ else ⟨#[114, 53]⟩
def ruleMetB (k : Nat) : ByteArray := if k % 2 = 0 then ⟨#[116, 101, 109, 112]⟩ else ⟨#[100, 105, 115, 107]⟩
theorem ruleName_at (k : Nat) : (#[Value.string ⟨#[104, 111, 116]⟩, .string ⟨#[99, 111, 108, 100]⟩, .string ⟨#[102, 117, 108, 108]⟩, .string ⟨#[114, 52]⟩, .string ⟨#[114, 53]⟩] : Array Value)[k % 5]? = some (.string (ruleNameB k)) := by
  unfold ruleNameB
  have h : k % 5 = 0 ∨ k % 5 = 1 ∨ k % 5 = 2 ∨ k % 5 = 3 ∨ k % 5 = 4 := by omega
  rcases h with h | h | h | h | h <;> rw [h] <;> rfl
theorem ruleMet_at (k : Nat) : (#[Value.string ⟨#[116, 101, 109, 112]⟩, .string ⟨#[100, 105, 115, 107]⟩] : Array Value)[k % 2]? = some (.string (ruleMetB k)) := by
  unfold ruleMetB
  have h : k % 2 = 0 ∨ k % 2 = 1 := by omega
  rcases h with h | h <;> rw [h] <;> rfl
set_option maxHeartbeats 4000000 in
theorem smallRule (nm me fi wi k t fo ke pr : Nat) (m : Int) (hw0 : wi < 256) (ht : t < 256) (hm : -32768 ≤ m ∧ m < 32768) (w : World) :
    Calls Tryz.prog 7 #[.agg #[.int .u8 nm, .int .u8 me, .int .u8 fi, .int .u8 wi, .int .u8 k, .int .i16 m, .int .u8 t, .int .u8 fo, .int .u8 ke, .int .u8 pr]] w fun e w' => ∃ v1 v2, e = .returned (.agg #[.string (ruleNameB nm), .string (ruleMetB me), v1, .int .u8 (1 + k % 5 : Nat), .int .i64 (condLim k m), .int .u64 (condTicks k t : Nat), .int .u64 (fo % 6 : Nat), .int .u64 (ke % 6 : Nat), .int .u8 (pr % 8 : Nat), v2]) ∧
      w'.ownsRow w.heap.size 92 2 v1 (labL (fi % 4)).length (pairCells (labL (fi % 4))) ∧ w'.ownsRow w.heap.size 92 2 v2 (labL wi).length (pairCells (labL wi)) ∧ Below w.heap.size w w' := by
  obtain ⟨n5, hn5⟩ : ∃ n, n = nm % 5 := ⟨_, rfl⟩
  obtain ⟨m2, hm2⟩ : ∃ n, n = me % 2 := ⟨_, rfl⟩
  obtain ⟨f4, hf4⟩ : ∃ n, n = fi % 4 := ⟨_, rfl⟩
  obtain ⟨p8, hp8⟩ : ∃ n, n = pr % 8 := ⟨_, rfl⟩
  obtain ⟨o6, ho6⟩ : ∃ n, n = fo % 6 := ⟨_, rfl⟩
  obtain ⟨k6, hk6⟩ : ∃ n, n = ke % 6 := ⟨_, rfl⟩
  have t1 : (nm : Int).tmod 5 = (n5 : Int) := by rw [hn5]; rfl
  have t2 : (me : Int).tmod 2 = (m2 : Int) := by rw [hm2]; rfl
  have t3 : (fi : Int).tmod 4 = (f4 : Int) := by rw [hf4]; rfl
  have t4 : (pr : Int).tmod 8 = (p8 : Int) := by rw [hp8]; rfl
  have t5 : (fo : Int).tmod 6 = (o6 : Int) := by rw [ho6]; rfl
  have t6 : (ke : Int).tmod 6 = (k6 : Int) := by rw [hk6]; rfl
  have w1 : IntKind.u64.wrap (o6 : Int) = (o6 : Int) := by rw [IntKind.wrap_u64]; omega
  have w2 : IntKind.u64.wrap (k6 : Int) = (k6 : Int) := by rw [IntKind.wrap_u64]; omega
  have hname := hn5 ▸ ruleName_at nm
  have hmet := hm2 ▸ ruleMet_at me
  have n5lt : n5 < 5 := by omega
  have m2lt : m2 < 2 := by omega
  have f4lt : f4 < 4 := by omega
  have u1 : (n5 : Int) < 5 := by omega
  have u2 : (m2 : Int) < 2 := by omega
  rw [← hf4, ← hp8, ← ho6, ← hk6]
  clear hn5 hm2 hf4 hp8 ho6 hk6
  go_enter Tryz.func7, Tryz.ntmps7
  go_wp2_with fail
  obtain ⟨Inv, I0, F, S, Z, HH⟩ : ∃ Inv : World → Prop, Inv ((w.alloc (Obj.cells #[.int .u8 nm, .int .u8 me, .int .u8 fi, .int .u8 wi, .int .u8 k, .int .i16 m, .int .u8 t, .int .u8 fo, .int .u8 ke, .int .u8 pr] 37)).alloc (Obj.cells #[.string ⟨#[]⟩, .string ⟨#[]⟩, .slice none 0 0, .int .u8 0, .int .i64 0, .int .u64 0, .int .u64 0, .int .u64 0, .int .u8 0, .slice none 0 0] 32)).drew ∧
      (∀ w', Inv w' → w'.cell? ⟨w.heap.size, 0, none⟩ = some (.int .u8 nm) ∧ w'.cell? ⟨w.heap.size, 1, none⟩ = some (.int .u8 me) ∧ w'.cell? ⟨w.heap.size, 2, none⟩ = some (.int .u8 fi) ∧ w'.cell? ⟨w.heap.size, 3, none⟩ = some (.int .u8 wi) ∧ w'.cell? ⟨w.heap.size, 4, none⟩ = some (.int .u8 k) ∧ w'.cell? ⟨w.heap.size, 5, none⟩ = some (.int .i16 m) ∧ w'.cell? ⟨w.heap.size, 6, none⟩ = some (.int .u8 t) ∧ w'.cell? ⟨w.heap.size, 7, none⟩ = some (.int .u8 fo) ∧ w'.cell? ⟨w.heap.size, 8, none⟩ = some (.int .u8 ke) ∧ w'.cell? ⟨w.heap.size, 9, none⟩ = some (.int .u8 pr)) ∧
      (∀ w' w'', Inv w' → Below w'.heap.size w' w'' → Inv w'') ∧ (∀ w', Inv w' → w.heap.size + 2 ≤ w'.heap.size) ∧ (∀ w', Inv w' → Holds w [(w.heap.size + 1, #[.string ⟨#[]⟩, .string ⟨#[]⟩, .slice none 0 0, .int .u8 0, .int .i64 0, .int .u64 0, .int .u64 0, .int .u64 0, .int .u8 0, .slice none 0 0], 32), (w.heap.size, #[.int .u8 nm, .int .u8 me, .int .u8 fi, .int .u8 wi, .int .u8 k, .int .i16 m, .int .u8 t, .int .u8 fo, .int .u8 ke, .int .u8 pr], 37)] w') := by
    refine ⟨Holds w [(w.heap.size + 1, #[.string ⟨#[]⟩, .string ⟨#[]⟩, .slice none 0 0, .int .u8 0, .int .i64 0, .int .u64 0, .int .u64 0, .int .u64 0, .int .u8 0, .slice none 0 0], 32), (w.heap.size, #[.int .u8 nm, .int .u8 me, .int .u8 fi, .int .u8 wi, .int .u8 k, .int .i16 m, .int .u8 t, .int .u8 fo, .int .u8 ke, .int .u8 pr], 37)], ((Holds.nil w).new _ _ _ rfl).new (w.heap.size + 1) _ _ (by simp) |>.drew, fun w' h => ?_, fun w' w'' h hb => h.grow hb, fun w' h => (h.2 _ (.head _)).lt, fun w' h => h⟩
    refine ⟨?_, ?_, ?_, ?_, ?_, ?_, ?_, ?_, ?_, ?_⟩
    all_goals first | exact h.cell (.head _) rfl | exact h.cell (.tail _ (.head _)) rfl
  refine region_free (Inv) [0, 4, 6, 10, 15, 18, 25, 26] [27] [0, 1, 2, 3, 4, 5, 6, 7, 8, 9, 10, 11, 12, 13, 14, 15, 16, 17, 18, 19, 20, 21, 22, 23, 24, 25, 26] (by kernel_rfl) (by kernel_rfl) (by kernel_rfl) (I0) ?_
  repeat (first
    | (refine RelSeq.pure_ (c := ?_) rfl rfl ?_ ?_; rotate_left; (focus (intro x w'; dsimp only; go_simp; (repeat' apply And.intro) <;> first | with_reducible rfl | assumption)); simp only [Act.put, List.setIfInBounds_toArray, List.set_cons_zero, List.set_cons_succ])
    | (refine RelSeq.grow_ (c := ?_) rfl rfl ?_ ?_; rotate_left; (focus (intro x w' hw _; dsimp only; obtain ⟨c0, c1, c2, c3, c4, c5, c6, c7, c8, c9⟩ := F w' hw; have hbr := Below.refl w'.heap.size w'; go_simp; (repeat' apply And.intro) <;> first | with_reducible rfl | assumption)); simp only [Act.put, List.setIfInBounds_toArray, List.set_cons_zero, List.set_cons_succ]))
  refine RelSeq.rel_ (NewSl w.heap.size 5 #[.string ⟨#[104, 111, 116]⟩, .string ⟨#[99, 111, 108, 100]⟩, .string ⟨#[102, 117, 108, 108]⟩, .string ⟨#[114, 52]⟩, .string ⟨#[114, 53]⟩] 9) rfl rfl NewSl.stable ?_ ?_
  focus
    intro x w' hw _; dsimp only
    have hba : Below w'.heap.size w' (w'.alloc (.cells #[.string ⟨#[104, 111, 116]⟩, .string ⟨#[99, 111, 108, 100]⟩, .string ⟨#[102, 117, 108, 108]⟩, .string ⟨#[114, 52]⟩, .string ⟨#[114, 53]⟩] 9)) := (Below.refl _ _).alloc (Nat.le_refl _) _
    have hI := S w' _ hw hba
    have hsz0 := Z w' hw
    have hsz := Nat.le_trans (Nat.le_add_right w.heap.size 2) hsz0
    go_simp
    (repeat' apply And.intro) <;> first | assumption | exact ⟨_, rfl, hsz, Blk.new _ _ _⟩ | exact ⟨_, rfl, hsz0, Blk.new _ _ _⟩
  simp only [Act.put, List.setIfInBounds_toArray, List.set_cons_zero, List.set_cons_succ, List.nil_append]
  repeat (first
    | (refine RelSeq.pure_ (c := ?_) rfl rfl ?_ ?_; rotate_left; (focus (intro x w'; dsimp only; go_simp; (repeat' apply And.intro) <;> first | with_reducible rfl | assumption)); simp only [Act.put, List.setIfInBounds_toArray, List.set_cons_zero, List.set_cons_succ])
    | (refine RelSeq.grow_ (c := ?_) rfl rfl ?_ ?_; rotate_left; (focus (intro x w' hw _; dsimp only; obtain ⟨c0, c1, c2, c3, c4, c5, c6, c7, c8, c9⟩ := F w' hw; have hbr := Below.refl w'.heap.size w'; go_simp; (repeat' apply And.intro) <;> first | with_reducible rfl | assumption)); simp only [Act.put, List.setIfInBounds_toArray, List.set_cons_zero, List.set_cons_succ]))
  refine RelSeq.rel_ (NewPt w.heap.size n5 #[.string ⟨#[104, 111, 116]⟩, .string ⟨#[99, 111, 108, 100]⟩, .string ⟨#[102, 117, 108, 108]⟩, .string ⟨#[114, 52]⟩, .string ⟨#[114, 53]⟩] 9) rfl rfl NewPt.stable ?_ ?_
  focus
    intro x w' hw hf; dsimp only
    obtain ⟨b, e, hb0, hB⟩ := hf _ (.head _) (by kernel_rfl)
    have hbr := Below.refl w'.heap.size w'
    go_simp
    (repeat' apply And.intro) <;> first | assumption | exact ⟨b, rfl, hb0, hB⟩
  simp only [Act.put, List.setIfInBounds_toArray, List.set_cons_zero, List.set_cons_succ, List.nil_append, List.cons_append]
  refine RelSeq.grow_ (c := ?_) rfl rfl ?_ ?_; rotate_left
  focus
    intro x w' hw hf; dsimp only
    obtain ⟨b, e, hb0, hB⟩ := hf _ (.tail _ (.head _)) (by kernel_rfl)
    have c0 := hB.cell (hname)
    clear hB
    have hbr := Below.refl w'.heap.size w'
    go_simp
    (repeat' apply And.intro) <;> first | with_reducible rfl | assumption
  simp only [Act.put, List.setIfInBounds_toArray, List.set_cons_zero, List.set_cons_succ]
  repeat (first
    | (refine RelSeq.pure_ (c := ?_) rfl rfl ?_ ?_; rotate_left; (focus (intro x w'; dsimp only; go_simp; (repeat' apply And.intro) <;> first | with_reducible rfl | assumption)); simp only [Act.put, List.setIfInBounds_toArray, List.set_cons_zero, List.set_cons_succ])
    | (refine RelSeq.grow_ (c := ?_) rfl rfl ?_ ?_; rotate_left; (focus (intro x w' hw _; dsimp only; obtain ⟨c0, c1, c2, c3, c4, c5, c6, c7, c8, c9⟩ := F w' hw; have hbr := Below.refl w'.heap.size w'; go_simp; (repeat' apply And.intro) <;> first | with_reducible rfl | assumption)); simp only [Act.put, List.setIfInBounds_toArray, List.set_cons_zero, List.set_cons_succ]))
  refine RelSeq.rel_ (NewSl w.heap.size 2 #[.string ⟨#[116, 101, 109, 112]⟩, .string ⟨#[100, 105, 115, 107]⟩] 9) rfl rfl NewSl.stable ?_ ?_
  focus
    intro x w' hw _; dsimp only
    have hba : Below w'.heap.size w' (w'.alloc (.cells #[.string ⟨#[116, 101, 109, 112]⟩, .string ⟨#[100, 105, 115, 107]⟩] 9)) := (Below.refl _ _).alloc (Nat.le_refl _) _
    have hI := S w' _ hw hba
    have hsz0 := Z w' hw
    have hsz := Nat.le_trans (Nat.le_add_right w.heap.size 2) hsz0
    go_simp
    (repeat' apply And.intro) <;> first | assumption | exact ⟨_, rfl, hsz, Blk.new _ _ _⟩ | exact ⟨_, rfl, hsz0, Blk.new _ _ _⟩
  simp only [Act.put, List.setIfInBounds_toArray, List.set_cons_zero, List.set_cons_succ, List.nil_append, List.cons_append]
  repeat (first
    | (refine RelSeq.pure_ (c := ?_) rfl rfl ?_ ?_; rotate_left; (focus (intro x w'; dsimp only; go_simp; (repeat' apply And.intro) <;> first | with_reducible rfl | assumption)); simp only [Act.put, List.setIfInBounds_toArray, List.set_cons_zero, List.set_cons_succ])
    | (refine RelSeq.grow_ (c := ?_) rfl rfl ?_ ?_; rotate_left; (focus (intro x w' hw _; dsimp only; obtain ⟨c0, c1, c2, c3, c4, c5, c6, c7, c8, c9⟩ := F w' hw; have hbr := Below.refl w'.heap.size w'; go_simp; (repeat' apply And.intro) <;> first | with_reducible rfl | assumption)); simp only [Act.put, List.setIfInBounds_toArray, List.set_cons_zero, List.set_cons_succ]))
  refine RelSeq.rel_ (NewPt w.heap.size m2 #[.string ⟨#[116, 101, 109, 112]⟩, .string ⟨#[100, 105, 115, 107]⟩] 9) rfl rfl NewPt.stable ?_ ?_
  focus
    intro x w' hw hf; dsimp only
    obtain ⟨b, e, hb0, hB⟩ := hf _ (.tail _ (.tail _ (.head _))) (by kernel_rfl)
    have hbr := Below.refl w'.heap.size w'
    go_simp
    (repeat' apply And.intro) <;> first | assumption | exact ⟨b, rfl, hb0, hB⟩
  simp only [Act.put, List.setIfInBounds_toArray, List.set_cons_zero, List.set_cons_succ, List.nil_append, List.cons_append]
  refine RelSeq.grow_ (c := ?_) rfl rfl ?_ ?_; rotate_left
  focus
    intro x w' hw hf; dsimp only
    obtain ⟨b, e, hb0, hB⟩ := hf _ (.tail _ (.tail _ (.tail _ (.head _)))) (by kernel_rfl)
    have c0 := hB.cell (hmet)
    clear hB
    have hbr := Below.refl w'.heap.size w'
    go_simp
    (repeat' apply And.intro) <;> first | with_reducible rfl | assumption
  simp only [Act.put, List.setIfInBounds_toArray, List.set_cons_zero, List.set_cons_succ]
  repeat (first
    | (refine RelSeq.pure_ (c := ?_) rfl rfl ?_ ?_; rotate_left; (focus (intro x w'; dsimp only; go_simp; (repeat' apply And.intro) <;> first | with_reducible rfl | assumption)); simp only [Act.put, List.setIfInBounds_toArray, List.set_cons_zero, List.set_cons_succ])
    | (refine RelSeq.grow_ (c := ?_) rfl rfl ?_ ?_; rotate_left; (focus (intro x w' hw _; dsimp only; obtain ⟨c0, c1, c2, c3, c4, c5, c6, c7, c8, c9⟩ := F w' hw; have hbr := Below.refl w'.heap.size w'; go_simp; (repeat' apply And.intro) <;> first | with_reducible rfl | assumption)); simp only [Act.put, List.setIfInBounds_toArray, List.set_cons_zero, List.set_cons_succ]))
  refine RelSeq.rel_ (fun v u => u.ownsRow w.heap.size 92 2 v (labL f4).length (pairCells (labL f4))) rfl rfl (fun v u u' h hb => owns_below h hb) ?_ ?_
  focus
    intro x w' hw _; dsimp only
    have hsz := Z w' hw
    have hsz2 := Nat.le_trans (Nat.le_add_right w.heap.size 2) hsz
    go_simp
    (with_reducible refine (smallLabels f4 w' (by omega)).mono ?_)
    rintro e w2 ⟨v2, rfl, hv2, hb2⟩
    have hI := S w' w2 hw hb2
    have hv3 := owns_mono hv2 hsz2
    go_simp
    (repeat' apply And.intro) <;> first | rfl | assumption
  simp only [Act.put, List.setIfInBounds_toArray, List.set_cons_zero, List.set_cons_succ, List.nil_append, List.cons_append]
  repeat (first
    | (refine RelSeq.pure_ (c := ?_) rfl rfl ?_ ?_; rotate_left; (focus (intro x w'; dsimp only; go_simp; (repeat' apply And.intro) <;> first | with_reducible rfl | assumption)); simp only [Act.put, List.setIfInBounds_toArray, List.set_cons_zero, List.set_cons_succ])
    | (refine RelSeq.grow_ (c := ?_) rfl rfl ?_ ?_; rotate_left; (focus (intro x w' hw _; dsimp only; obtain ⟨c0, c1, c2, c3, c4, c5, c6, c7, c8, c9⟩ := F w' hw; have hbr := Below.refl w'.heap.size w'; go_simp; (repeat' apply And.intro) <;> first | with_reducible rfl | assumption)); simp only [Act.put, List.setIfInBounds_toArray, List.set_cons_zero, List.set_cons_succ]))
  refine RelSeq.rel_ (fun v u => u.ownsRow w.heap.size 92 2 v (labL wi).length (pairCells (labL wi))) rfl rfl (fun v u u' h hb => owns_below h hb) ?_ ?_
  focus
    intro x w' hw _; dsimp only
    have hsz := Z w' hw
    have hsz2 := Nat.le_trans (Nat.le_add_right w.heap.size 2) hsz
    go_simp
    (with_reducible refine (smallLabels wi w' (by omega)).mono ?_)
    rintro e w2 ⟨v2, rfl, hv2, hb2⟩
    have hI := S w' w2 hw hb2
    have hv3 := owns_mono hv2 hsz2
    go_simp
    (repeat' apply And.intro) <;> first | rfl | assumption
  simp only [Act.put, List.setIfInBounds_toArray, List.set_cons_zero, List.set_cons_succ, List.nil_append, List.cons_append]
  repeat (first
    | (refine RelSeq.pure_ (c := ?_) rfl rfl ?_ ?_; rotate_left; (focus (intro x w'; dsimp only; go_simp; (repeat' apply And.intro) <;> first | with_reducible rfl | assumption)); simp only [Act.put, List.setIfInBounds_toArray, List.set_cons_zero, List.set_cons_succ])
    | (refine RelSeq.grow_ (c := ?_) rfl rfl ?_ ?_; rotate_left; (focus (intro x w' hw _; dsimp only; obtain ⟨c0, c1, c2, c3, c4, c5, c6, c7, c8, c9⟩ := F w' hw; have hbr := Below.refl w'.heap.size w'; go_simp; (repeat' apply And.intro) <;> first | with_reducible rfl | assumption)); simp only [Act.put, List.setIfInBounds_toArray, List.set_cons_zero, List.set_cons_succ]))
  refine RelSeq.grow_ (c := ?_) rfl rfl ?_ ?_; rotate_left
  focus
    intro x w' hw _; dsimp only
    have hbr := Below.refl w'.heap.size w'
    go_simp
    (with_reducible refine (smallCond k t m ht hm w').mono ?_)
    rintro e w2 ⟨rfl, hb2⟩
    have hI := S w' w2 hw hb2
    go_simp
    (repeat' apply And.intro) <;> first | with_reducible rfl | assumption
  simp only [Act.put, List.setIfInBounds_toArray, List.set_cons_zero, List.set_cons_succ]
  repeat (first
    | (refine RelSeq.pure_ (c := ?_) rfl rfl ?_ ?_; rotate_left; (focus (intro x w'; dsimp only; go_simp; (repeat' apply And.intro) <;> first | with_reducible rfl | assumption)); simp only [Act.put, List.setIfInBounds_toArray, List.set_cons_zero, List.set_cons_succ])
    | (refine RelSeq.grow_ (c := ?_) rfl rfl ?_ ?_; rotate_left; (focus (intro x w' hw _; dsimp only; obtain ⟨c0, c1, c2, c3, c4, c5, c6, c7, c8, c9⟩ := F w' hw; have hbr := Below.refl w'.heap.size w'; go_simp; (repeat' apply And.intro) <;> first | with_reducible rfl | assumption)); simp only [Act.put, List.setIfInBounds_toArray, List.set_cons_zero, List.set_cons_succ]))
  refine RelSeq.rel_ (fun v u => ∃ A1 c1 A2 c2, v = .agg #[.string (ruleNameB nm), .string (ruleMetB me), .slice A1 (labL f4).length c1, .int .u8 (1 + k % 5 : Nat), .int .i64 (condLim k m), .int .u64 (condTicks k t : Nat), .int .u64 0, .int .u64 0, .int .u8 (p8 : Nat), .slice A2 (labL wi).length c2] ∧ u.ownsRow w.heap.size 92 2 (.slice A1 (labL f4).length c1) (labL f4).length (pairCells (labL f4)) ∧ u.ownsRow w.heap.size 92 2 (.slice A2 (labL wi).length c2) (labL wi).length (pairCells (labL wi))) rfl rfl (fun v u u' ⟨A1, c1, A2, c2, h1, h2, h3⟩ hb => ⟨A1, c1, A2, c2, h1, owns_below h2 hb, owns_below h3 hb⟩) ?_ ?_
  focus
    intro x w' hw hf; dsimp only
    have g1 : w'.ownsRow w.heap.size 92 2 (x 15) (labL f4).length (pairCells (labL f4)) := hf _ (.tail _ (.tail _ (.tail _ (.tail _ (.head _))))) (by kernel_rfl)
    have g2 : w'.ownsRow w.heap.size 92 2 (x 18) (labL wi).length (pairCells (labL wi)) := hf _ (.tail _ (.tail _ (.tail _ (.tail _ (.tail _ (.head _)))))) (by kernel_rfl)
    obtain ⟨A1, c1, e1⟩ := owns_slice g1
    obtain ⟨A2, c2, e2⟩ := owns_slice g2
    rw [e1] at g1
    rw [e2] at g2
    have hbr := Below.refl w'.heap.size w'
    go_simp
    (repeat' apply And.intro) <;> first | assumption | exact ⟨A1, c1, A2, c2, ⟨⟨rfl, rfl⟩, rfl, rfl⟩, g1, g2⟩
  simp only [Act.put, List.setIfInBounds_toArray, List.set_cons_zero, List.set_cons_succ, List.nil_append, List.cons_append]
  refine RelSeq.rel_ (NewPt (w.heap.size + 2) 0 #[.string ⟨#[]⟩, .string ⟨#[]⟩, .slice none 0 0, .int .u8 0, .int .i64 0, .int .u64 0, .int .u64 0, .int .u64 0, .int .u8 0, .slice none 0 0] 32) rfl rfl NewPt.stable ?_ ?_
  focus
    intro x w' hw _; dsimp only
    have hba : Below w'.heap.size w' (w'.alloc (.cells #[.string ⟨#[]⟩, .string ⟨#[]⟩, .slice none 0 0, .int .u8 0, .int .i64 0, .int .u64 0, .int .u64 0, .int .u64 0, .int .u8 0, .slice none 0 0] 32)) := (Below.refl _ _).alloc (Nat.le_refl _) _
    have hI := S w' _ hw hba
    have hsz0 := Z w' hw
    have hsz := Nat.le_trans (Nat.le_add_right w.heap.size 2) hsz0
    go_simp
    (repeat' apply And.intro) <;> first | assumption | exact ⟨_, rfl, hsz, Blk.new _ _ _⟩ | exact ⟨_, rfl, hsz0, Blk.new _ _ _⟩
  simp only [Act.put, List.setIfInBounds_toArray, List.set_cons_zero, List.set_cons_succ, List.nil_append, List.cons_append]
  refine RelSeq.nil_ fun x w1 hw hf => ?_
  obtain ⟨A1, c1, A2, c2, e25, g1, g2⟩ := hf _ (.tail _ (.tail _ (.tail _ (.tail _ (.tail _ (.tail _ (.head _)))))))
  obtain ⟨b, e26, hb0, hB⟩ := hf _ (.tail _ (.tail _ (.tail _ (.tail _ (.tail _ (.tail _ (.tail _ (.head _))))))))
  have hH := HH w1 hw
  have hb1 : w.heap.size ≤ b := by omega
  have hbw : w.heap.size ≠ b := by omega
  have hbw1 : w.heap.size + 1 ≠ b := by omega
  have hBr := hH.2 _ (.head _)
  have hBs := hH.2 _ (.tail _ (.head _))
  have hbl := hH.1
  clear hf F S Z HH hw hH hname hmet
  refine TailSeq.cons_ rfl ?_
  have d0 := hB.cell (j := 0) rfl
  have d1 := hB.cell (j := 1) rfl
  have d2 := hB.cell (j := 2) rfl
  have d3 := hB.cell (j := 3) rfl
  have d4 := hB.cell (j := 4) rfl
  have d5 := hB.cell (j := 5) rfl
  have d6 := hB.cell (j := 6) rfl
  have d7 := hB.cell (j := 7) rfl
  have d8 := hB.cell (j := 8) rfl
  have d9 := hB.cell (j := 9) rfl
  have f0 := hB.frozen
  dsimp only at hBr hBs ⊢
  go_simp
  refine TailSeq.nil_gen fun w2 hw2 => ?_
  have hB2 : Blk w2 b #[.string (ruleNameB nm), .string (ruleMetB me), .slice A1 (labL f4).length c1, .int .u8 (1 + k % 5 : Nat), .int .i64 (condLim k m), .int .u64 (condTicks k t : Nat), .int .u64 0, .int .u64 0, .int .u8 (p8 : Nat), .slice A2 (labL wi).length c2] 32 := by
    rw [hw2]
    have := ((((((((((hB.set_ 0 (.string (ruleNameB nm))).set_ 1 (.string (ruleMetB me))).set_ 2 (.slice A1 (labL f4).length c1)).set_ 3 (.int .u8 (1 + k % 5 : Nat))).set_ 4 (.int .i64 (condLim k m))).set_ 5 (.int .u64 (condTicks k t : Nat))).set_ 6 (.int .u64 0)).set_ 7 (.int .u64 0)).set_ 8 (.int .u8 (p8 : Nat))).set_ 9 (.slice A2 (labL wi).length c2))
    simpa using this
  have hbut : But b w1 w2 := by rw [hw2]; exact ((((((((((But.refl b w1).put 0 _).put 1 _).put 2 _).put 3 _).put 4 _).put 5 _).put 6 _).put 7 _).put 8 _).put 9 _
  have hb2 := hbut.below hbl (Nat.le_refl _) hb1
  have g1' := owns_but g1 hB hbut (by decide)
  have g2' := owns_but g2 hB hbut (by decide)
  have hBr2 := hBr.but hbut hbw1
  have hBs2 := hBs.but hbut hbw
  clear hw2 hB hbut hbl g1 g2 hBr hBs f0 d0 d1 d2 d3 d4 d5 d6 d7 d8 d9
  have c7 := hBs2.cell (j := 7) rfl
  have c8 := hBs2.cell (j := 8) rfl
  have hbw' : ¬ b = w.heap.size := fun h => hbw h.symm
  have d6 := hB2.cell (j := 6) rfl
  have d7 := hB2.cell (j := 7) rfl
  have f0 := hB2.frozen
  go_wp2_with fail
  go_region
  generalize hw4 : ((w2.setCell ⟨b, 6, none⟩ (.int .u64 o6)).setCell ⟨b, 7, none⟩ (.int .u64 k6)).drew = w4
  have hB4 : Blk w4 b #[.string (ruleNameB nm), .string (ruleMetB me), .slice A1 (labL f4).length c1, .int .u8 (1 + k % 5 : Nat), .int .i64 (condLim k m), .int .u64 (condTicks k t : Nat), .int .u64 (o6 : Nat), .int .u64 (k6 : Nat), .int .u8 (p8 : Nat), .slice A2 (labL wi).length c2] 32 := by
    rw [← hw4]
    have := ((hB2.set_ 6 (.int .u64 (o6 : Nat))).set_ 7 (.int .u64 (k6 : Nat))).drew
    simpa using this
  have hbut : But b w2 w4 := by rw [← hw4]; exact (((But.refl b w2).put 6 _).put 7 _).drew
  have hb4 := hbut.below hb2 (by have := hBr2.lt; omega) hb1
  have g1 := owns_but g1' hB2 hbut (by decide)
  have g2 := owns_but g2' hB2 hbut (by decide)
  have hBr4 := hBr2.but hbut hbw1
  clear hw4 hB2 hbut hb2 g1' g2' hBr2 hBs2 c7 c8 d6 d7 f0 t1 t2 t3 t4 t5 t6 w1 w2
  have d0 := hB4.cell (j := 0) rfl
  have d1 := hB4.cell (j := 1) rfl
  have d2 := hB4.cell (j := 2) rfl
  have d3 := hB4.cell (j := 3) rfl
  have d4 := hB4.cell (j := 4) rfl
  have d5 := hB4.cell (j := 5) rfl
  have d6 := hB4.cell (j := 6) rfl
  have d7 := hB4.cell (j := 7) rfl
  have d8 := hB4.cell (j := 8) rfl
  have d9 := hB4.cell (j := 9) rfl
  have f0 := hB4.frozen
  have e0 := hBr4.cell (j := 0) rfl
  have e1 := hBr4.cell (j := 1) rfl
  have e2 := hBr4.cell (j := 2) rfl
  have e3 := hBr4.cell (j := 3) rfl
  have e4 := hBr4.cell (j := 4) rfl
  have e5 := hBr4.cell (j := 5) rfl
  have e6 := hBr4.cell (j := 6) rfl
  have e7 := hBr4.cell (j := 7) rfl
  have e8 := hBr4.cell (j := 8) rfl
  have e9 := hBr4.cell (j := 9) rfl
  have r0 := hBr4.frozen
  go_wp2_with fail
  refine bodyPost_gen fun w6 hw6 => ?_
  have hBo : Blk w6 (w.heap.size + 1) #[.string (ruleNameB nm), .string (ruleMetB me), .slice A1 (labL f4).length c1, .int .u8 (1 + k % 5 : Nat), .int .i64 (condLim k m), .int .u64 (condTicks k t : Nat), .int .u64 (o6 : Nat), .int .u64 (k6 : Nat), .int .u8 (p8 : Nat), .slice A2 (labL wi).length c2] 32 := by
    rw [hw6]
    have := ((((((((((hBr4.set_ 0 (.string (ruleNameB nm))).set_ 1 (.string (ruleMetB me))).set_ 2 (.slice A1 (labL f4).length c1)).set_ 3 (.int .u8 (1 + k % 5 : Nat))).set_ 4 (.int .i64 (condLim k m))).set_ 5 (.int .u64 (condTicks k t : Nat))).set_ 6 (.int .u64 (o6 : Nat))).set_ 7 (.int .u64 (k6 : Nat))).set_ 8 (.int .u8 (p8 : Nat))).set_ 9 (.slice A2 (labL wi).length c2))
    simpa using this
  have hb6 : Below w.heap.size w w6 := by
    rw [hw6]
    exact ((((((((((hb4.setCell (p := ⟨w.heap.size + 1, 0, none⟩) (Nat.le_succ _) _).setCell (p := ⟨w.heap.size + 1, 1, none⟩) (Nat.le_succ _) _).setCell (p := ⟨w.heap.size + 1, 2, none⟩) (Nat.le_succ _) _).setCell (p := ⟨w.heap.size + 1, 3, none⟩) (Nat.le_succ _) _).setCell (p := ⟨w.heap.size + 1, 4, none⟩) (Nat.le_succ _) _).setCell (p := ⟨w.heap.size + 1, 5, none⟩) (Nat.le_succ _) _).setCell (p := ⟨w.heap.size + 1, 6, none⟩) (Nat.le_succ _) _).setCell (p := ⟨w.heap.size + 1, 7, none⟩) (Nat.le_succ _) _).setCell (p := ⟨w.heap.size + 1, 8, none⟩) (Nat.le_succ _) _).setCell (p := ⟨w.heap.size + 1, 9, none⟩) (Nat.le_succ _) _)
  have hbut6 : But (w.heap.size + 1) w4 w6 := by rw [hw6]; exact ((((((((((But.refl (w.heap.size + 1) w4).put 0 _).put 1 _).put 2 _).put 3 _).put 4 _).put 5 _).put 6 _).put 7 _).put 8 _).put 9 _
  have H1 := owns_but g1 hBr4 hbut6 (by decide)
  have H2 := owns_but g2 hBr4 hbut6 (by decide)
  clear hw6
  have a0 := hBo.cell (j := 0) (v := .string (ruleNameB nm)) rfl
  have a1 := hBo.cell (j := 1) (v := .string (ruleMetB me)) rfl
  have a2 := hBo.cell (j := 2) (v := .slice A1 (labL f4).length c1) rfl
  have a3 := hBo.cell (j := 3) (v := .int .u8 (1 + k % 5 : Nat)) rfl
  have a4 := hBo.cell (j := 4) (v := .int .i64 (condLim k m)) rfl
  have a5 := hBo.cell (j := 5) (v := .int .u64 (condTicks k t : Nat)) rfl
  have a6 := hBo.cell (j := 6) (v := .int .u64 (o6 : Nat)) rfl
  have a7 := hBo.cell (j := 7) (v := .int .u64 (k6 : Nat)) rfl
  have a8 := hBo.cell (j := 8) (v := .int .u8 (p8 : Nat)) rfl
  have a9 := hBo.cell (j := 9) (v := .slice A2 (labL wi).length c2) rfl
  refine bodyPost_ret (v := .agg #[.string (ruleNameB nm), .string (ruleMetB me), .slice A1 (labL f4).length c1, .int .u8 (1 + k % 5 : Nat), .int .i64 (condLim k m), .int .u64 (condTicks k t : Nat), .int .u64 (o6 : Nat), .int .u64 (k6 : Nat), .int .u8 (p8 : Nat), .slice A2 (labL wi).length c2]) ?_ rfl ⟨_, _, rfl, H1, H2, hb6⟩
  simp [results, Tryz.results7, go_sem, a0, a1, a2, a3, a4, a5, a6, a7, a8, a9]
end Go.Proofs.YtgpojkofegajeaaGreatDoor
