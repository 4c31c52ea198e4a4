/-
  A line's words and a text's lines, as the reference takes them: plain law. The reference's Split.
-/
import Derived.Test.YtebnbbbiobaneaaGreatDoorLSplit
import Derived.Test.YtebnbbbiobaneaaGreatDoorLRef
import Derived.Test.YtebnbbbiobaneaaGreatDoorLParse
import Derived.Deep.AppendSrc
import Derived.Test.YtebnbbbiobaneaaGreatDoorFreeS
import Derived.Test.YtebnbbbiobaneaaGreatDoorRuY
namespace Go.Proofs.YtebnbbbiobaneaaGreatDoor
open Go.RowKit
set_option maxRecDepth 100000

theorem infoStr : (Tryz.prog.info? 9).map (fun i => (i.zero, i.size, i.bytes)) = some (some (.string ⟨#[]⟩), 1, 16) := by kernel_rfl
def splitBA (c : UInt8) (s : ByteArray) : List ByteArray := (splitC c s.data.toList).map fun l => ⟨l.toArray⟩
theorem comp_ba : (fun l : List UInt8 => (⟨l.toArray⟩ : ByteArray)) ∘ (fun x : ByteArray => x.data.toList) = id := by
  funext x
  simp
theorem extract_mid (s : ByteArray) (a b : Nat) (_ : a ≤ b) : (s.extract a b).data.toList = (s.data.toList.drop a).take (b - a) := by
  rw [Lib.extract_data]
end Go.Proofs.YtebnbbbiobaneaaGreatDoor
namespace Go.Proofs.YtebnbbbiobaneaaGreatDoor
open Go.RowKit
set_option maxRecDepth 100000

/-- The words of a line from a place on, the word that is being read given. -/
def wordsG (cur : List UInt8) : List UInt8 → List (List UInt8)
  | [] => if cur = [] then [] else [cur]
  | b :: l => if b = 35 then (if cur = [] then [] else [cur]) else if Lib.isSp b = true then (if cur = [] then wordsG [] l else cur :: wordsG [] l) else wordsG (cur ++ [b]) l
theorem cut_hash (b : UInt8) (l : List UInt8) : (Lib.cut (b :: l) [35]).1 = if b = 35 then [] else b :: (Lib.cut l [35]).1 := by
  unfold Lib.cut
  rw [index_one_cons]
  by_cases hb : b = 35
  · rw [if_pos hb, if_pos hb]; rfl
  · rw [if_neg hb, if_neg hb]
    by_cases hi : Lib.index l [35] = -1
    · rw [if_pos hi, hi]; rfl
    · rw [if_neg hi]
      have h0 := Lib.index_ge l [35]
      have h1 : (0 : Int) ≤ Lib.index l [35] := by omega
      rw [if_pos (by omega), if_pos h1]
      show (b :: l).take (Lib.index l [35] + 1).toNat = b :: l.take (Lib.index l [35]).toNat
      rw [show (Lib.index l [35] + 1).toNat = (Lib.index l [35]).toNat + 1 by omega]
      rfl
theorem wordsG_eq : ∀ (l cur : List UInt8), Lib.fieldsGo cur (Lib.cut l [35]).1 = wordsG cur l := by
  intro l
  induction l with
  | nil =>
    intro cur
    show Lib.fieldsGo cur [] = _
    unfold Lib.fieldsGo wordsG
    cases cur <;> rfl
  | cons b l ih =>
    intro cur
    rw [cut_hash]
    unfold wordsG
    by_cases hb : b = 35
    · rw [if_pos hb, if_pos hb]
      unfold Lib.fieldsGo
      cases cur <;> rfl
    · rw [if_neg hb, if_neg hb]
      by_cases hs : Lib.isSp b = true
      · rw [if_pos hs]
        by_cases hc : cur = []
        · subst hc; rw [if_pos rfl, Lib.fieldsGo_sp b _ hs, ih]
        · rw [if_neg hc, Lib.fieldsGo_end cur b _ hs hc, ih]
      · rw [if_neg hs, Lib.fieldsGo_more cur b _ (by simpa using hs), ih]
theorem wordsL_G (x : ByteArray) : wordsL x = (wordsG [] x.data.toList).map fun l => ⟨l.toArray⟩ := by
  unfold wordsL Lib.fields
  rw [← wordsG_eq]
  rfl
theorem nlL_BA (s : ByteArray) : nlL s = splitBA 10 s := by
  have h1 : (nlL s).map (·.data.toList) = splitC 10 s.data.toList := by
    unfold nlL
    rw [Lib.splitB_data]
    have h : Lib.countB s ⟨#[10]⟩ = s.data.toList.count 10 := Lib.count_one 10 s.data.toList
    rw [h]
    exact splitK_eq 10 _
  unfold splitBA
  rw [← h1, List.map_map, comp_ba, List.map_id]
end Go.Proofs.YtebnbbbiobaneaaGreatDoor
