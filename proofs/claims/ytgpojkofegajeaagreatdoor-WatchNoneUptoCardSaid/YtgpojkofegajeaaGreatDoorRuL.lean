/-
  A line's words as a rule: what each step leaves.
-/
import Derived.Test.YtgpojkofegajeaaGreatDoorRuW
import Derived.Test.YtgpojkofegajeaaGreatDoorRuK
namespace Go.Proofs.YtgpojkofegajeaaGreatDoor
open Go.RowKit
set_option maxRecDepth 100000

def kIf : ByteArray := ⟨#[105, 102]⟩
def kFor : ByteArray := ⟨#[102, 111, 114]⟩
def kKeep : ByteArray := ⟨#[107, 101, 101, 112]⟩
def kPrio : ByteArray := ⟨#[112, 114, 105, 111]⟩
def kWith : ByteArray := ⟨#[119, 105, 116, 104]⟩
def wantE (x : ByteArray) (ws : List ByteArray) (e : Nat) : Nat := if isW x ws = true then e else failE e 2
def lnW2 (ws : List ByteArray) : List ByteArray := ws.tail.tail
def lnE2 (ws : List ByteArray) : Nat := nxE ws.tail (nxE ws 0)
def lnI (ws : List ByteArray) : Bool := isW kIf (lnW2 ws)
def lnW3 (ws : List ByteArray) : List ByteArray := skipW kIf (lnW2 ws)
def lnW4 (ws : List ByteArray) : List ByteArray := if lnI ws = true then (lnW3 ws).tail else lnW3 ws
def lnE4 (ws : List ByteArray) : Nat := if lnI ws = true then lbE (lnW3 ws) (lnE2 ws) else lnE2 ws
def lnP (ws : List ByteArray) : List Pr := if lnI ws = true then lbL (lnW3 ws) else []
def lnC (ws : List ByteArray) : List ByteArray := (lnW4 ws).take (cutN kFor (lnW4 ws))
def lnW5 (ws : List ByteArray) : List ByteArray := (lnW4 ws).drop (cutN kFor (lnW4 ws))
def lnE5 (ws : List ByteArray) : Nat := cdE kFor (lnW4 ws) (lnE4 ws)
def lnW6 (ws : List ByteArray) : List ByteArray := skipW kFor (lnW5 ws)
def lnE6 (ws : List ByteArray) : Nat := wantE kFor (lnW5 ws) (lnE5 ws)
def lnFo (ws : List ByteArray) : Nat := nmV (lnW6 ws) 1048576
def lnE7 (ws : List ByteArray) : Nat := nmE (lnW6 ws) 1048576 (lnE6 ws)
def lnW8 (ws : List ByteArray) : List ByteArray := skipW kKeep (lnW6 ws).tail
def lnE8 (ws : List ByteArray) : Nat := wantE kKeep (lnW6 ws).tail (lnE7 ws)
def lnKe (ws : List ByteArray) : Nat := nmV (lnW8 ws) 1048576
def lnE9 (ws : List ByteArray) : Nat := nmE (lnW8 ws) 1048576 (lnE8 ws)
def lnW10 (ws : List ByteArray) : List ByteArray := skipW kPrio (lnW8 ws).tail
def lnE10 (ws : List ByteArray) : Nat := wantE kPrio (lnW8 ws).tail (lnE9 ws)
def lnPr (ws : List ByteArray) : Nat := nmV (lnW10 ws) 7
def lnE11 (ws : List ByteArray) : Nat := nmE (lnW10 ws) 7 (lnE10 ws)
def lnH (ws : List ByteArray) : Bool := isW kWith (lnW10 ws).tail
def lnW12 (ws : List ByteArray) : List ByteArray := skipW kWith (lnW10 ws).tail
def lnW13 (ws : List ByteArray) : List ByteArray := if lnH ws = true then (lnW12 ws).tail else lnW12 ws
def lnE13 (ws : List ByteArray) : Nat := if lnH ws = true then lbE (lnW12 ws) (lnE11 ws) else lnE11 ws
def lnQ (ws : List ByteArray) : List Pr := if lnH ws = true then lbL (lnW12 ws) else []
def lnE14 (ws : List ByteArray) : Nat := if (lnW13 ws).length = 0 then lnE13 ws else failE (lnE13 ws) 2
def lnChk (ws : List ByteArray) : Nat := chkR (nameB (ws.headD ⟨#[]⟩)) (nameB (ws.tail.headD ⟨#[]⟩)) (ownName (ws.headD ⟨#[]⟩)) (chkL (lnP ws)) (chkL (lnQ ws)) (chkC (condK (lnC ws)) (condL (lnC ws)) (condT (lnC ws))) (chkW (lnFo ws) (lnKe ws)) (lnPr ws)
/-- What is wrong with a line's words as a rule: an error's number. -/
def lineE (ws : List ByteArray) : Nat := if lnE14 ws = 0 then lnChk ws else lnE14 ws
/-- The rule that a line's words are; iv and wv hold its labels. -/
def lineR (ws : List ByteArray) (iv wv : Value) : RuV := ⟨ws.headD ⟨#[]⟩, ws.tail.headD ⟨#[]⟩, iv, lnP ws, condK (lnC ws), condL (lnC ws), condT (lnC ws), lnFo ws, lnKe ws, lnPr ws, wv, lnQ ws⟩
def zeroR : RuV := ⟨⟨#[]⟩, ⟨#[]⟩, .slice none 0 0, [], 0, 0, 0, 0, 0, 0, .slice none 0 0, []⟩
def RuV.agg (r : RuV) : Value := .agg #[.string r.nm, .string r.me, r.iv, .int .u8 r.k, .int .i64 r.lim, .int .u64 r.tk, .int .u64 r.fo, .int .u64 r.ke, .int .u8 r.pr, r.wv]

theorem nmV_le (ws : List ByteArray) (most : Nat) : nmV ws most ≤ most := by
  unfold nmV
  split
  · rename_i h
    unfold numO at h
    unfold numN
    cases h2 : numF (ws.headD ⟨#[]⟩) with
    | none => simp
    | some n => rw [h2] at h; simpa using h
  · omega
theorem condK_lt (ws : List ByteArray) : condK ws < 256 := by
  have := kindF_le ws
  unfold condK
  split <;> omega
theorem parseF_small (b : Nat) : ∀ (l : List ByteArray) (acc : List Pr), (∀ x ∈ l, x.size ≤ b) → (∀ p ∈ acc, p.1.size ≤ b ∧ p.2.size ≤ b) → ∀ p ∈ (parseF l acc).2, p.1.size ≤ b ∧ p.2.size ≤ b := by
  intro l
  induction l with
  | nil => intro acc _ h2 p hp; exact h2 p hp
  | cons x r ih =>
    intro acc h1 h2
    unfold parseF
    split
    · split
      · intro p hp; cases hp
      · refine ih _ (fun y hy => h1 y (.tail _ hy)) fun p hp => ?_
        rcases List.mem_append.1 hp with h | h
        · exact h2 p h
        · rw [List.mem_singleton.1 h]
          have := h1 x (.head _)
          have := cutP_small x
          omega
    · intro p hp; cases hp
theorem parseC_small (s : ByteArray) (b : Nat) (hs : s.size ≤ b) : ∀ p ∈ (parseC s).2, p.1.size ≤ b ∧ p.2.size ≤ b := by
  have key := parseF_small b (partsL s) [] (fun x hx => Nat.le_trans (partsL_small hx) hs) (fun p hp => by cases hp)
  unfold parseC
  split
  · intro p hp; cases hp
  · split
    · intro p hp; cases hp
    · split
      · intro p hp
        unfold makeL at hp
        split at hp
        · exact key p ((sortL_perm _).mem_iff.1 hp)
        · cases hp
      · intro p hp; cases hp
theorem small_tail {ws : List ByteArray} (h : ∀ s ∈ ws, s.size ≤ maxLen) : ∀ s ∈ ws.tail, s.size ≤ maxLen := fun s hs => h s (List.mem_of_mem_tail hs)
theorem small_skip {ws : List ByteArray} (x : ByteArray) (h : ∀ s ∈ ws, s.size ≤ maxLen) : ∀ s ∈ skipW x ws, s.size ≤ maxLen := by
  unfold skipW
  split
  · exact small_tail h
  · exact h
theorem lbL_small {us : List ByteArray} (hu : ∀ s ∈ us, s.size ≤ maxLen) : ∀ p ∈ lbL us, p.1.size ≤ maxLen ∧ p.2.size ≤ maxLen := parseC_small _ _ (headD_small hu)
section
variable {ws : List ByteArray} (h : ∀ s ∈ ws, s.size ≤ maxLen)
include h
theorem small2 : ∀ s ∈ lnW2 ws, s.size ≤ maxLen := small_tail (small_tail h)
theorem small3 : ∀ s ∈ lnW3 ws, s.size ≤ maxLen := small_skip _ (small2 h)
theorem small4 : ∀ s ∈ lnW4 ws, s.size ≤ maxLen := by
  unfold lnW4
  split
  · exact small_tail (small3 h)
  · exact small3 h
theorem small5 : ∀ s ∈ lnW5 ws, s.size ≤ maxLen := fun s hs => small4 h s (List.mem_of_mem_drop hs)
theorem small6 : ∀ s ∈ lnW6 ws, s.size ≤ maxLen := small_skip _ (small5 h)
theorem small8 : ∀ s ∈ lnW8 ws, s.size ≤ maxLen := small_skip _ (small_tail (small6 h))
theorem small10 : ∀ s ∈ lnW10 ws, s.size ≤ maxLen := small_skip _ (small_tail (small8 h))
theorem small12 : ∀ s ∈ lnW12 ws, s.size ≤ maxLen := small_skip _ (small_tail (small10 h))
theorem lnP_small : ∀ p ∈ lnP ws, p.1.size ≤ maxLen ∧ p.2.size ≤ maxLen := by
  unfold lnP
  split
  · exact lbL_small (small3 h)
  · intro p hp; cases hp
theorem lnQ_small : ∀ p ∈ lnQ ws, p.1.size ≤ maxLen ∧ p.2.size ≤ maxLen := by
  unfold lnQ
  split
  · exact lbL_small (small12 h)
  · intro p hp; cases hp
end
end Go.Proofs.YtgpojkofegajeaaGreatDoor
