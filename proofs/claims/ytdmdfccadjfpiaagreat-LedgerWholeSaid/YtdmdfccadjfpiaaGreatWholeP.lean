/-
  Plain law of LedgerWhole: entries that go on are whole; one left out, doubled, ahead.
-/
import Derived.Test.YtdmdfccadjfpiaaGreatWhole
namespace Go.Proofs.YtdmdfccadjfpiaaGreat
open Go.RowKit
set_option maxRecDepth 100000

/-- The highs behind entries. -/
def hiF (h : Nat → Nat) (l : List (Nat × ItV)) (o : Nat) : Nat := l.foldl (fun n x => if spanO x.2 = o then spanT x.2 else n) (h o)
def updH (h : Nat → Nat) (x : Nat × ItV) (o : Nat) : Nat := if o = spanO x.2 then spanT x.2 else h o
theorem hiF_cons (h : Nat → Nat) (x : Nat × ItV) (r : List (Nat × ItV)) (o : Nat) : hiF h (x :: r) o = hiF (updH h x) r o := by
  unfold hiF updH
  rw [List.foldl_cons]
  by_cases e : spanO x.2 = o
  · rw [if_pos e, if_pos e.symm]
  · rw [if_neg e, if_neg fun q => e q.symm]
theorem wholeF_cons (h : Nat → Nat) (x : Nat × ItV) (r : List (Nat × ItV)) : wholeF h (x :: r) = true ↔ chkIt x.2 = 0 ∧ spanF x.2 = h (spanO x.2) + 1 ∧ wholeF (updH h x) r = true := by
  show (decide (chkIt x.2 = 0) && (decide (spanF x.2 = h (spanO x.2) + 1) && wholeF (updH h x) r)) = true ↔ _
  simp
theorem wholeF_snoc (l : List (Nat × ItV)) (x : Nat × ItV) : ∀ h, wholeF h (l ++ [x]) = true ↔ wholeF h l = true ∧ chkIt x.2 = 0 ∧ spanF x.2 = hiF h l (spanO x.2) + 1 := by
  induction l with
  | nil => intro h; rw [List.nil_append, wholeF_cons]; simp [wholeF, hiF]
  | cons a r ih => intro h; rw [List.cons_append, wholeF_cons, wholeF_cons, ih, hiF_cons]; simp only [and_assoc]
theorem hiF_mono (l : List (Nat × ItV)) : ∀ h, wholeF h l = true → ∀ o, h o ≤ hiF h l o := by
  induction l with
  | nil => intro h _ o; exact Nat.le_refl _
  | cons a r ih =>
    intro h hw o
    obtain ⟨h1, h2, h3⟩ := (wholeF_cons h a r).1 hw
    have h4 := chkIt_zero h1
    rw [hiF_cons]
    refine Nat.le_trans ?_ (ih _ h3 o)
    unfold updH
    split
    · next e => rw [e]; omega
    · exact Nat.le_refl _
theorem hiF_mem (l : List (Nat × ItV)) : ∀ h, wholeF h l = true → ∀ x ∈ l, spanT x.2 ≤ hiF h l (spanO x.2) := by
  induction l with
  | nil => intro h _ x hx; cases hx
  | cons a r ih =>
    intro h hw x hx
    obtain ⟨h1, h2, h3⟩ := (wholeF_cons h a r).1 hw
    rw [hiF_cons]
    rcases List.mem_cons.1 hx with rfl | hx
    · refine Nat.le_trans ?_ (hiF_mono r _ h3 _)
      unfold updH
      rw [if_pos rfl]
      exact Nat.le_refl _
    · exact ih _ h3 x hx
theorem wholeF_skip (o : Nat) (l : List (Nat × ItV)) : ∀ g h, g o < h o → (∀ p, p ≠ o → g p = h p) → wholeF h l = true → wholeF g l = decide (h o = hiF h l o) := by
  induction l with
  | nil => intro g h _ _ _; exact (decide_eq_true rfl).symm
  | cons y r ih =>
    intro g h hlt hag hw
    obtain ⟨h1, h2, h3⟩ := (wholeF_cons h y r).1 hw
    have h4 := chkIt_zero h1
    rw [hiF_cons]
    by_cases e : spanO y.2 = o
    · have hm := hiF_mono r _ h3 o
      unfold updH at hm
      rw [if_pos e.symm] at hm
      have hne : ¬ h o = hiF (updH h y) r o := by
        rw [e] at h2
        intro q
        have : spanT y.2 ≤ hiF (updH h y) r o := hm
        omega
      rw [decide_eq_false hne]
      rw [e] at h2
      rw [Bool.eq_false_iff]
      intro hq
      have := ((wholeF_cons g y r).1 hq).2.1
      rw [e] at this
      omega
    · have e1 : updH g y o = g o := by unfold updH; rw [if_neg fun q => e q.symm]
      have e2 : updH h y o = h o := by unfold updH; rw [if_neg fun q => e q.symm]
      have hi := ih (updH g y) (updH h y) (by rw [e1, e2]; exact hlt) (fun p hp => by unfold updH; rw [hag p hp]) h3
      rw [e2] at hi
      rw [← hi]
      rw [Bool.eq_iff_iff, wholeF_cons]
      have := hag (spanO y.2) e
      exact ⟨fun hq => hq.2.2, fun hq => ⟨h1, by omega, hq⟩⟩
theorem wholeF_app (a b : List (Nat × ItV)) : ∀ h, wholeF h (a ++ b) = (wholeF h a && wholeF (hiF h a) b) := by
  induction a with
  | nil => intro h; rfl
  | cons x r ih =>
    intro h
    rw [Bool.eq_iff_iff, List.cons_append, wholeF_cons, Bool.and_eq_true, wholeF_cons, ih, Bool.and_eq_true, show hiF h (x :: r) = hiF (updH h x) r from funext (hiF_cons h x r)]
    simp only [and_assoc]
theorem hiF_app (a b : List (Nat × ItV)) (h : Nat → Nat) (o : Nat) : hiF h (a ++ b) o = hiF (hiF h a) b o := by
  unfold hiF
  rw [List.foldl_append]
theorem highL_eq (l : List (Nat × ItV)) (o : Nat) : highL l o = hiF (fun _ => 0) l o := rfl
theorem wholeL_snoc {l : List (Nat × ItV)} {x : Nat × ItV} : wholeL (l ++ [x]) = true ↔ wholeL l = true ∧ chkIt x.2 = 0 ∧ spanF x.2 = highL l (spanO x.2) + 1 := wholeF_snoc l x _
theorem wholeL_left {l : List (Nat × ItV)} (hw : wholeL l = true) {k : Nat} {x : Nat × ItV} (hx : l[k]? = some x) : wholeL (l.take k ++ l.drop (k + 1)) = decide (spanT x.2 = highL l (spanO x.2)) := by
  obtain ⟨hk, hxe⟩ := List.getElem?_eq_some_iff.1 hx
  have hl : l = l.take k ++ (x :: l.drop (k + 1)) := by rw [← hxe, ← List.drop_eq_getElem_cons hk, List.take_append_drop]
  have e2 := congrArg (fun m => hiF (fun _ => 0) m (spanO x.2)) hl
  rw [hiF_app, hiF_cons] at e2
  rw [highL_eq, e2]
  unfold wholeL at hw ⊢
  rw [hl, wholeF_app, Bool.and_eq_true, wholeF_cons] at hw
  obtain ⟨h1, h2, h3, h4⟩ := hw
  have hz := chkIt_zero h2
  rw [wholeF_app, h1, Bool.true_and]
  have hs := wholeF_skip (spanO x.2) (l.drop (k + 1)) (hiF (fun _ => 0) (l.take k)) (updH (hiF (fun _ => 0) (l.take k)) x) (by unfold updH; rw [if_pos rfl]; omega) (fun p hp => by unfold updH; rw [if_neg hp]) h4
  have e1 : updH (hiF (fun _ => 0) (l.take k)) x (spanO x.2) = spanT x.2 := by unfold updH; rw [if_pos rfl]
  rw [hs, e1]
theorem wholeL_twice {l : List (Nat × ItV)} (hw : wholeL l = true) {x : Nat × ItV} (hx : x ∈ l) : wholeL (l ++ [x]) = false := by
  rw [Bool.eq_false_iff]
  intro h
  have h1 := (wholeL_snoc.1 h).2
  have h2 := chkIt_zero h1.1
  have h3 := hiF_mem l _ hw x hx
  rw [← highL_eq] at h3
  omega
theorem wholeL_ahead {l : List (Nat × ItV)} {x : Nat × ItV} (hx : highL l (spanO x.2) + 1 < spanF x.2) : wholeL (l ++ [x]) = false := by
  rw [Bool.eq_false_iff]
  intro h
  have h1 := (wholeL_snoc.1 h).2
  omega
theorem highL_le {l : List (Nat × ItV)} (hl : ∀ x ∈ l, spanF x.2 ≤ spanT x.2 ∧ spanT x.2 ≤ spanF x.2 + 2) (hw : wholeL l = true) : ∀ o, highL l o ≤ 3 * l.length := by
  have key : ∀ (l : List (Nat × ItV)) (h : Nat → Nat) (B : Nat), (∀ x ∈ l, spanF x.2 ≤ spanT x.2 ∧ spanT x.2 ≤ spanF x.2 + 2) → (∀ o, h o ≤ B) → wholeF h l = true → ∀ o, hiF h l o ≤ B + 3 * l.length := by
    intro l
    induction l with
    | nil => intro h B _ hB _ o; exact hB o
    | cons x r ih =>
      intro h B hl hB hw o
      obtain ⟨_, h2, h3⟩ := (wholeF_cons h x r).1 hw
      have hx := hl x (.head _)
      rw [hiF_cons, List.length_cons]
      have := ih (updH h x) (B + 3) (fun y hy => hl y (.tail _ hy)) (fun p => by
        unfold updH
        split
        · have := hB (spanO x.2); omega
        · have := hB p; omega) h3 o
      omega
  intro o
  have := key l (fun _ => 0) 0 hl (fun _ => Nat.le_refl _) hw o
  rw [highL_eq]
  omega
end Go.Proofs.YtdmdfccadjfpiaaGreat
