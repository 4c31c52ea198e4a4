/-
  A text as rules: its lines, each line's words.
-/
import Derived.Test.YtgpojkofegajeaaGreatDoorRuX
namespace Go.Proofs.YtgpojkofegajeaaGreatDoor
open Go.RowKit
set_option maxRecDepth 100000

def nlL (s : ByteArray) : List ByteArray := Lib.splitB ⟨#[10]⟩ 0 (Lib.countB s ⟨#[10]⟩) s
theorem nlL_small {s x : ByteArray} (hx : x ∈ nlL s) : x.size ≤ s.size := splitB_small _ _ _ x hx
theorem nlL_length (s : ByteArray) : (nlL s).length = Lib.countB s ⟨#[10]⟩ + 1 := Lib.splitB_all _ (by decide) 0 _ s rfl
theorem countN_le (s : ByteArray) : Lib.countB s ⟨#[10]⟩ ≤ s.size := Lib.countB_le _ (by decide) s.size s (Nat.le_refl _)
/-- No byte above 127. -/
def asc (s : ByteArray) : Prop := ∀ b ∈ s.data.toList, b.toNat < 128
theorem asc_extract {s : ByteArray} (h : asc s) (i j : Nat) : asc (s.extract i j) := fun b hb => h b (by
  rw [ByteArray.data_extract, Array.toList_extract] at hb
  exact List.mem_of_mem_drop (List.mem_of_mem_take hb))
theorem splitB_asc (sep : ByteArray) : ∀ (k : Nat) (s : ByteArray), asc s → ∀ x ∈ Lib.splitB sep 0 k s, asc x := by
  intro k
  induction k with
  | zero => intro s h x hx; rw [Lib.splitB_zero] at hx; simp at hx; subst hx; exact h
  | succ k ih =>
    intro s h x hx
    unfold Lib.splitB at hx
    split at hx
    · simp at hx; subst hx; exact h
    · rcases List.mem_cons.1 hx with rfl | hx
      · exact asc_extract h _ _
      · exact ih _ (asc_extract h _ _) x hx
theorem nlL_asc {s x : ByteArray} (h : asc s) (hx : x ∈ nlL s) : asc x := splitB_asc _ _ _ h x hx
/-- What stands ahead of #. -/
def cutH (x : ByteArray) : ByteArray := ⟨(Lib.cut x.data.toList [35]).1.toArray⟩
theorem cutH_pre (x : ByteArray) : ∃ n, (cutH x).data.toList = x.data.toList.take n := by
  unfold cutH Lib.cut
  split
  · exact ⟨_, rfl⟩
  · exact ⟨x.data.toList.length, (List.take_length (l := x.data.toList)).symm⟩
theorem cutH_small (x : ByteArray) : (cutH x).size ≤ x.size := by
  obtain ⟨n, h⟩ := cutH_pre x
  rw [Lib.size_eq, h, List.length_take, Lib.size_eq x]
  omega
theorem cutH_asc {x : ByteArray} (h : asc x) : asc (cutH x) := fun b hb => by
  obtain ⟨n, hn⟩ := cutH_pre x
  rw [hn] at hb
  exact h b (List.mem_of_mem_take hb)
theorem fieldsGo_small : ∀ (l cur : List UInt8), ∀ f ∈ Lib.fieldsGo cur l, f.length ≤ cur.length + l.length := by
  intro l
  induction l with
  | nil =>
    intro cur f hf
    unfold Lib.fieldsGo at hf
    split at hf
    · cases hf
    · rw [List.mem_singleton.1 hf]; simp
  | cons b l ih =>
    intro cur f hf
    by_cases hb : Lib.isSp b = true
    · by_cases hc : cur = []
      · subst hc
        rw [Lib.fieldsGo_sp b l hb] at hf
        have := ih [] f hf
        simp at this ⊢; omega
      · rw [Lib.fieldsGo_end cur b l hb hc] at hf
        rcases List.mem_cons.1 hf with rfl | hf
        · simp
        · have := ih [] f hf
          simp at this ⊢; omega
    · rw [Lib.fieldsGo_more cur b l (by simpa using hb)] at hf
      have := ih _ f hf
      simp at this ⊢; omega
theorem cntF_le : ∀ (l : List UInt8) (ws : Bool), Lib.cntF ws l ≤ l.length := by
  intro l
  induction l with
  | nil => intro ws; simp [Lib.cntF]
  | cons b l ih =>
    intro ws
    rw [Lib.cntF_step]
    have := ih (Lib.isSp b)
    simp only [List.length_cons]
    split <;> omega
def wordsL (x : ByteArray) : List ByteArray := (Lib.fields (cutH x).data.toList).map fun l => ⟨l.toArray⟩
theorem wordsL_small (x : ByteArray) : ∀ f ∈ wordsL x, f.size ≤ x.size := fun f hf => by
  obtain ⟨l, hl, rfl⟩ := List.mem_map.1 hf
  have h1 := fieldsGo_small _ [] l hl
  have h2 := cutH_small x
  have h3 : (cutH x).data.toList.length = (cutH x).size := (Lib.size_eq _).symm
  show l.toArray.size ≤ _
  rw [List.size_toArray]
  simp only [List.length_nil] at h1
  omega
theorem wordsL_length (x : ByteArray) : (wordsL x).length ≤ x.size := by
  unfold wordsL
  rw [List.length_map, Lib.fields_length]
  have h1 := cntF_le (cutH x).data.toList true
  have h2 := cutH_small x
  have h3 : (cutH x).data.toList.length = (cutH x).size := (Lib.size_eq _).symm
  omega
def kRule : ByteArray := ⟨#[114, 117, 108, 101]⟩
/-- The first line that is no rule, from 1 on, and why; (0, 0): none of them. -/
def readG : Nat → List ByteArray → Nat × Nat
  | _, [] => (0, 0)
  | i, x :: r => match wordsL x with
    | [] => readG (i + 1) r
    | f :: t => if f = kRule then (if lineE t = 0 then readG (i + 1) r else (i + 1, lineE t)) else (i + 1, 2)
def readL : List ByteArray → List (List ByteArray)
  | [] => []
  | x :: r => match wordsL x with
    | [] => readL r
    | _ :: t => t :: readL r
theorem readL_append (a b : List ByteArray) : readL (a ++ b) = readL a ++ readL b := by
  induction a with
  | nil => rfl
  | cons x r ih =>
    simp only [List.cons_append, readL]
    cases wordsL x with
    | nil => exact ih
    | cons f t => simp [ih]
theorem readL_len (a : List ByteArray) : (readL a).length ≤ a.length := by
  induction a with
  | nil => simp [readL]
  | cons x r ih =>
    simp only [readL]
    cases wordsL x with
    | nil => simp; omega
    | cons f t => simp; exact ih
/-- A rule without its labels' memory. -/
def RuV.strip (r : RuV) : RuV := { r with iv := .slice none 0 0, wv := .slice none 0 0 }
theorem strip_line (ws : List ByteArray) (iv wv : Value) : (lineR ws iv wv).strip = lineR ws (.slice none 0 0) (.slice none 0 0) := by simp only [lineR, RuV.strip]
def lineS (ws : List ByteArray) : RuV := lineR ws (.slice none 0 0) (.slice none 0 0)
theorem err_strip (r : RuV) : r.strip.err = r.err := by simp only [RuV.err, RuV.strip]
theorem goL_strip : ∀ (rs : List RuV) (N : List ByteArray), goL N (rs.map RuV.strip) = goL N rs := by
  intro rs
  induction rs with
  | nil => intro N; rfl
  | cons r t ih =>
    intro N
    simp only [List.map_cons, goL]
    rw [err_strip, show r.strip.nm = r.nm from rfl, ih]
theorem chkRs_strip (rs : List RuV) : chkRs (rs.map RuV.strip) = chkRs rs := by
  unfold chkRs
  rw [List.length_map, goL_strip]
/-- A text as rules: the line, the error's number. -/
def parseE (s : ByteArray) : Nat × Nat :=
  if 65536 < s.size then (0, 4) else if (readG 0 (nlL s)).2 ≠ 0 then readG 0 (nlL s) else (0, chkRs ((readL (nlL s)).map lineS))
def parseR (s : ByteArray) : List RuV := if (parseE s).2 = 0 then (readL (nlL s)).map lineS else []
end Go.Proofs.YtgpojkofegajeaaGreatDoor
