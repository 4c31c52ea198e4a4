/-
  A line's words as a rule: what the reference's steps are, for the steps of the program: plain law.
-/
import Derived.Test.YtebnbbbiobaneaaGreatDoorRuI
namespace Go.Proofs.YtebnbbbiobaneaaGreatDoor
open Go.RowKit
set_option maxRecDepth 100000

theorem st14 {ws : List ByteArray} (h : lnE14 ws ≠ 0) : lineE ws = lnE14 ws := if_neg h
theorem st13 {ws : List ByteArray} (h : lnE13 ws ≠ 0) : lineE ws = lnE13 ws := by
  have h1 : lnE14 ws = lnE13 ws := by
    unfold lnE14
    split
    · rfl
    · exact failE_n h 2
  rw [st14 (by rw [h1]; exact h), h1]
theorem st11 {ws : List ByteArray} (h : lnE11 ws ≠ 0) : lineE ws = lnE11 ws := by
  have h1 : lnE13 ws = lnE11 ws := by
    unfold lnE13
    split
    · unfold lbE nxE
      repeat' split
      all_goals simp [failE, h]
    · rfl
  rw [st13 (by rw [h1]; exact h), h1]
theorem nmE_n {ws : List ByteArray} {most e : Nat} (h : e ≠ 0) : nmE ws most e = e := by
  unfold nmE nxE
  repeat' split
  all_goals simp [failE, h]
theorem wantE_n {x : ByteArray} {ws : List ByteArray} {e : Nat} (h : e ≠ 0) : wantE x ws e = e := by
  unfold wantE
  split
  · rfl
  · exact failE_n h 2
theorem st9 {ws : List ByteArray} (h : lnE9 ws ≠ 0) : lineE ws = lnE9 ws := by
  have h1 : lnE11 ws = lnE9 ws := by
    have h2 : lnE10 ws = lnE9 ws := wantE_n h
    unfold lnE11
    rw [h2]
    exact nmE_n h
  rw [st11 (by rw [h1]; exact h), h1]
theorem st7 {ws : List ByteArray} (h : lnE7 ws ≠ 0) : lineE ws = lnE7 ws := by
  have h1 : lnE9 ws = lnE7 ws := by
    have h2 : lnE8 ws = lnE7 ws := wantE_n h
    unfold lnE9
    rw [h2]
    exact nmE_n h
  rw [st9 (by rw [h1]; exact h), h1]
theorem st5 {ws : List ByteArray} (h : lnE5 ws ≠ 0) : lineE ws = lnE5 ws := by
  have h1 : lnE7 ws = lnE5 ws := by
    have h2 : lnE6 ws = lnE5 ws := wantE_n h
    unfold lnE7
    rw [h2]
    exact nmE_n h
  rw [st7 (by rw [h1]; exact h), h1]
theorem st4 {ws : List ByteArray} (h : lnE4 ws ≠ 0) : lineE ws = lnE4 ws := by
  have h1 : lnE5 ws = lnE4 ws := by
    unfold lnE5 cdE
    split
    · rfl
    · exact failE_n h _
  rw [st5 (by rw [h1]; exact h), h1]
theorem lbE_n {ws : List ByteArray} {e : Nat} (h : e ≠ 0) : lbE ws e = e := by
  unfold lbE nxE
  repeat' split
  all_goals simp [failE, h]
theorem st2 {ws : List ByteArray} (h : lnE2 ws ≠ 0) : lineE ws = lnE2 ws := by
  have h1 : lnE4 ws = lnE2 ws := by
    unfold lnE4
    split
    · exact lbE_n h
    · rfl
  rw [st4 (by rw [h1]; exact h), h1]
theorem ln_short {ws : List ByteArray} (h : ws.length < 2) : lineE ws = 2 := by
  match ws, h with
  | [], _ => exact st2 (ws := []) (by decide)
  | [a], _ => exact st2 (ws := [a]) (show (2 : Nat) ≠ 0 by decide)
theorem parse_nilC : parseC ⟨#[]⟩ = (0, []) := by unfold parseC; rfl
/-- Behind the first two words. -/
theorem ln_noif (a b : ByteArray) (r : List ByteArray) (h : isW kIf r = false) : lnW4 (a :: b :: r) = r ∧ lnE4 (a :: b :: r) = 0 ∧ lnP (a :: b :: r) = [] := by
  have hi : lnI (a :: b :: r) = false := h
  have h3 : lnW3 (a :: b :: r) = r := by
    show skipW kIf r = r
    unfold skipW
    rw [h]; rfl
  exact ⟨by unfold lnW4; rw [hi, h3]; rfl, by unfold lnE4; rw [hi]; rfl, by unfold lnP; rw [hi]; rfl⟩
theorem ln_if0 (a b : ByteArray) : lineE (a :: b :: [kIf]) = 2 := by
  have h4 : lnE4 (a :: b :: [kIf]) = 2 := by
    have hi : lnI (a :: b :: [kIf]) = true := by unfold lnI isW; exact decide_eq_true rfl
    have h3 : lnW3 (a :: b :: [kIf]) = [] := by show skipW kIf [kIf] = []; unfold skipW isW; simp
    unfold lnE4
    rw [hi, h3, if_pos rfl]
    unfold lbE
    rw [if_pos (by rw [List.headD_nil, parse_nilC])]
    rfl
  rw [st4 (by rw [h4]; decide), h4]
theorem ln_if (a b x : ByteArray) (r : List ByteArray) : lnW4 (a :: b :: kIf :: x :: r) = r ∧ lnE4 (a :: b :: kIf :: x :: r) = (parseC x).1 ∧ lnP (a :: b :: kIf :: x :: r) = (parseC x).2 := by
  have hi : lnI (a :: b :: kIf :: x :: r) = true := by unfold lnI isW; exact decide_eq_true rfl
  have h3 : lnW3 (a :: b :: kIf :: x :: r) = x :: r := by show skipW kIf (kIf :: x :: r) = x :: r; unfold skipW isW; simp
  refine ⟨by unfold lnW4; rw [hi, h3]; rfl, ?_, by unfold lnP; rw [hi, h3]; rfl⟩
  unfold lnE4
  rw [hi, h3, if_pos rfl]
  unfold lbE
  rw [List.headD_cons]
  split
  · rename_i h; rw [h]; rfl
  · rfl
/-! ### The three numbers -/
def keyA : Nat → ByteArray
  | 0 => kFor
  | 1 => kKeep
  | _ => kPrio
def mostA : Nat → Nat
  | 0 => 1048576
  | 1 => 1048576
  | _ => 7
def stW (ws : List ByteArray) : Nat → List ByteArray
  | 0 => lnW5 ws
  | 1 => (lnW6 ws).tail
  | 2 => (lnW8 ws).tail
  | _ => (lnW10 ws).tail
def stE (ws : List ByteArray) : Nat → Nat
  | 0 => lnE5 ws
  | 1 => lnE7 ws
  | 2 => lnE9 ws
  | _ => lnE11 ws
def stV (ws : List ByteArray) : Nat → Nat
  | 0 => lnFo ws
  | 1 => lnKe ws
  | _ => lnPr ws
theorem st_next (ws : List ByteArray) (i : Nat) (h : i < 3) : stW ws (i + 1) = (skipW (keyA i) (stW ws i)).tail ∧ stE ws (i + 1) = nmE (skipW (keyA i) (stW ws i)) (mostA i) (wantE (keyA i) (stW ws i) (stE ws i)) ∧ stV ws i = nmV (skipW (keyA i) (stW ws i)) (mostA i) := by
  obtain rfl | rfl | rfl : i = 0 ∨ i = 1 ∨ i = 2 := by omega
  all_goals exact ⟨rfl, rfl, rfl⟩
theorem st_stick (ws : List ByteArray) (i : Nat) (h : stE ws (i + 1) ≠ 0) : lineE ws = stE ws (i + 1) := by
  match i, h with
  | 0, h => exact st7 h
  | 1, h => exact st9 h
  | (i + 2), h => exact st11 h
theorem num_nil (most : Nat) : numO ⟨#[]⟩ most = false := by
  have h : numF ⟨#[]⟩ = none := by unfold numF; rw [if_pos (.inl (by decide))]
  unfold numO; rw [h]
theorem st_end {ws : List ByteArray} {i : Nat} (hi : i < 3) (he : stE ws i = 0) (h : (stW ws i).head? ≠ some (keyA i) ∨ stW ws i = [keyA i]) : lineE ws = 2 := by
  obtain ⟨_, h2, _⟩ := st_next ws i hi
  have h3 : stE ws (i + 1) = 2 := by
    rw [h2, he]
    rcases h with h | h
    · have : wantE (keyA i) (stW ws i) 0 = 2 := by unfold wantE isW; rw [if_neg (by simpa using h)]; rfl
      rw [this, nmE_n (by decide)]
    · have e1 : wantE (keyA i) (stW ws i) 0 = 0 := by unfold wantE isW; rw [h]; simp
      have e2 : skipW (keyA i) (stW ws i) = [] := by unfold skipW isW; rw [h]; simp
      rw [e1, e2]
      unfold nmE
      rw [List.headD_nil, num_nil]
      rfl
  rw [st_stick ws i (by rw [h3]; decide), h3]
theorem st_step {ws : List ByteArray} {i : Nat} (hi : i < 3) (he : stE ws i = 0) {x : ByteArray} {r : List ByteArray} (h : stW ws i = keyA i :: x :: r) :
    stW ws (i + 1) = r ∧ (numO x (mostA i) = true → stE ws (i + 1) = 0 ∧ stV ws i = numN x) ∧ (numO x (mostA i) = false → lineE ws = 27) := by
  obtain ⟨h1, h2, h3⟩ := st_next ws i hi
  have e1 : wantE (keyA i) (stW ws i) 0 = 0 := by unfold wantE isW; rw [h]; simp
  have e2 : skipW (keyA i) (stW ws i) = x :: r := by unfold skipW isW; rw [h]; simp
  rw [e2] at h1 h2 h3
  rw [he, e1] at h2
  refine ⟨h1, fun ho => ⟨?_, ?_⟩, fun ho => ?_⟩
  · rw [h2]; unfold nmE; rw [List.headD_cons, if_pos ho]; rfl
  · rw [h3]; unfold nmV; rw [List.headD_cons, if_pos ho]
  · have h4 : stE ws (i + 1) = 27 := by
      rw [h2]; unfold nmE; rw [List.headD_cons, ho]; rfl
    rw [st_stick ws i (by rw [h4]; decide), h4]
/-! ### The end -/
theorem en_nowith {ws : List ByteArray} (he : lnE11 ws = 0) (h : isW kWith (stW ws 3) = false) : lnQ ws = [] ∧ (stW ws 3 = [] → lnE14 ws = 0) ∧ (stW ws 3 ≠ [] → lineE ws = 2) := by
  have hi : lnH ws = false := h
  have h12 : lnW12 ws = stW ws 3 := by
    show skipW kWith (stW ws 3) = stW ws 3
    unfold skipW; rw [h]; rfl
  have h13 : lnW13 ws = stW ws 3 := by unfold lnW13; rw [hi, h12]; rfl
  have e13 : lnE13 ws = 0 := by unfold lnE13; rw [hi]; exact he
  refine ⟨by unfold lnQ; rw [hi]; rfl, fun h0 => ?_, fun h0 => ?_⟩
  · unfold lnE14; rw [h13, h0, e13]; rfl
  · have h14 : lnE14 ws = 2 := by
      unfold lnE14
      rw [h13, if_neg (fun h => h0 (List.eq_nil_of_length_eq_zero h)), e13]; rfl
    rw [st14 (by rw [h14]; decide), h14]
theorem en_with0 {ws : List ByteArray} (he : lnE11 ws = 0) (h : stW ws 3 = [kWith]) : lineE ws = 2 := by
  have hi : lnH ws = true := by
    show isW kWith (stW ws 3) = true
    rw [h]; unfold isW; exact decide_eq_true rfl
  have h12 : lnW12 ws = [] := by
    show skipW kWith (stW ws 3) = []
    rw [h]; unfold skipW isW; simp
  have h13 : lnE13 ws = 2 := by
    unfold lnE13
    rw [hi, h12, if_pos rfl, he]
    unfold lbE
    rw [if_pos (by rw [List.headD_nil, parse_nilC])]
    rfl
  rw [st13 (by rw [h13]; decide), h13]
theorem en_with {ws : List ByteArray} (he : lnE11 ws = 0) {x : ByteArray} {r : List ByteArray} (h : stW ws 3 = kWith :: x :: r) :
    lnQ ws = (parseC x).2 ∧ ((parseC x).1 ≠ 0 → lineE ws = (parseC x).1) ∧ ((parseC x).1 = 0 → (r = [] → lnE14 ws = 0) ∧ (r ≠ [] → lineE ws = 2)) := by
  have hi : lnH ws = true := by
    show isW kWith (stW ws 3) = true
    rw [h]; unfold isW; exact decide_eq_true rfl
  have h12 : lnW12 ws = x :: r := by
    show skipW kWith (stW ws 3) = x :: r
    rw [h]; unfold skipW isW; simp
  have h13 : lnW13 ws = r := by unfold lnW13; rw [hi, h12]; rfl
  have e13 : lnE13 ws = (parseC x).1 := by
    unfold lnE13
    rw [hi, h12, if_pos rfl, he]
    unfold lbE
    rw [List.headD_cons]
    split
    · rename_i h; rw [h]; rfl
    · rfl
  refine ⟨by unfold lnQ; rw [hi, h12]; rfl, fun h0 => ?_, fun h0 => ⟨fun hr => ?_, fun hr => ?_⟩⟩
  · rw [st13 (by rw [e13]; exact h0), e13]
  · unfold lnE14; rw [h13, hr, e13, h0]; rfl
  · have h14 : lnE14 ws = 2 := by
      unfold lnE14
      rw [h13, if_neg (fun h => hr (List.eq_nil_of_length_eq_zero h)), e13, h0]; rfl
    rw [st14 (by rw [h14]; decide), h14]
end Go.Proofs.YtebnbbbiobaneaaGreatDoor
