/-
  A line's words and a text's lines, as the reference takes them: plain law. The reference's Split.
-/
import Derived.Test.YtebnbbbiobaneaaGreatDoorMg21
import Derived.Test.YtebnbbbiobaneaaGreatDoorLRefS
import Derived.Test.YtebnbbbiobaneaaGreatDoorMg20
namespace Go.Proofs.YtebnbbbiobaneaaGreatDoor
open Go.RowKit
set_option maxRecDepth 100000

theorem infoStr : (Tryz.prog.info? 9).map (fun i => (i.zero, i.size, i.bytes)) = some (some (.string ⟨#[]⟩), 1, 16) := by kernel_rfl
def splitBA (c : UInt8) (s : ByteArray) : List ByteArray := (splitC c s.data.toList).map fun l => ⟨l.toArray⟩
theorem comp_ba : (fun l : List UInt8 => (⟨l.toArray⟩ : ByteArray)) ∘ (fun x : ByteArray => x.data.toList) = id := by
  funext x
  simp
theorem partsL_BA (s : ByteArray) : partsL s = splitBA 44 s := by
  unfold splitBA
  rw [← partsL_split, List.map_map]
  rw [comp_ba, List.map_id]
theorem extract_mid (s : ByteArray) (a b : Nat) (_ : a ≤ b) : (s.extract a b).data.toList = (s.data.toList.drop a).take (b - a) := by
  rw [Lib.extract_data]
theorem drop_hit {c : UInt8} {l : List UInt8} {f k : Nat} (hf : f ≤ k) (h : l[k]? = some c) : l.drop f = (l.drop f).take (k - f) ++ c :: l.drop (k + 1) := by
  have hk : k < l.length := (List.getElem?_eq_some_iff.1 h).1
  have e := List.take_append_drop (k - f) (l.drop f)
  rw [List.drop_drop, show f + (k - f) = k by omega, drop_cons h] at e
  exact e.symm
set_option maxHeartbeats 1000000 in
theorem refSplit (s : ByteArray) (c : UInt8) (w : World) (hs : s.size ≤ 1048576) :
    Calls Tryz.prog 80 #[.string s, .int .u8 c.toNat] w fun e w' => ∃ v', e = .returned v' ∧ w'.ownsRow w.heap.size 9 1 v' (splitBA c s).length ((splitBA c s).map Value.string) ∧ Below w.heap.size w w' := by
  obtain ⟨i0, hi, hz0, hz1, hz2⟩ := info_parts infoStr
  have hlen : s.data.toList.length = s.size := rfl
  go_enter Tryz.func80, Tryz.ntmps80
  go_wp2_with fail
  go_loopw [5, 6, 7] (fun v fr i wr => ∃ (f k : Nat) (done : List ByteArray), f ≤ k ∧ k ≤ s.size ∧ fr = .int .i64 f ∧ i = .int .i64 k ∧ done.length ≤ k ∧ wr.ownsRow w.heap.size 9 1 v done.length (done.map Value.string) ∧
    splitC c s.data.toList = done.map (·.data.toList) ++ splitC c (s.data.toList.drop f) ∧ c ∉ (s.data.toList.drop f).take (k - f) ∧ Below w.heap.size w wr) (fun _ _ i _ => s.size - (intOf i).toNat)
  case atStart => exact ⟨0, 0, [], Nat.le_refl _, Nat.zero_le _, rfl, rfl, Nat.zero_le _, World.ownsRow_nil _ _ _ _, by simp, by simp, Below.refl _ _⟩
  case round =>
    obtain ⟨f, k, done, hfk, hk, rfl, rfl, hdn, hv, hsp, hno, hB⟩ := hrel
    obtain ⟨Av, cv, rfl⟩ := owns_slice hv
    by_cases hlt : k < s.size
    · have hg : s.data.toList[k]? = some (s[k]'hlt) := by rw [List.getElem?_eq_getElem (by rw [hlen]; exact hlt)]; rfl
      have htk : (s.data.toList.drop f).take (k + 1 - f) = (s.data.toList.drop f).take (k - f) ++ [s[k]'hlt] := by
        rw [show k + 1 - f = (k - f) + 1 by omega, List.take_add_one, List.getElem?_drop, show f + (k - f) = k by omega, hg]
        rfl
      have hsl : (s.extract f k).data.toList = (s.data.toList.drop f).take (k - f) := extract_mid s f k hfk
      by_cases hc : (s[k]'hlt) = c
      · have hE : (((s[k]'hlt).toNat : Int) == (c.toNat : Int)) = true := by rw [hc]; simp
        have hnext : splitC c s.data.toList = (done ++ [s.extract f k]).map (·.data.toList) ++ splitC c (s.data.toList.drop (k + 1)) := by
          rw [hsp, drop_hit hfk (hc ▸ hg), splitC_app _ _ _ hno, List.map_append, List.append_assoc]
          simp
        have HX := Lib.hid hnext
        clear hsp hno htk hsl hg hnext hc hlen
        go_wp2_with (at_builtin; refine wpl_stop fun W hW => ?_)
        refine Stopped.mk ?_
        have hBW : Blk W wr.heap.size #[.string (s.extract f k)] 9 := by rw [hW]; exact Blk.new _ _ _
        have hbW : Below wr.heap.size wr W := by rw [hW]; exact (Below.refl _ _).alloc (Nat.le_refl _) _
        clear hW
        have hvW := owns_below hv hbW
        have hsz2 := hB.size
        have hnx : Rd W 1 (.slice (some ⟨wr.heap.size, 0, none⟩) 1 1) 1 [.string (s.extract f k)] := ⟨_, _, rfl, rfl, Nat.le_refl _, by unfold maxLen; omega, fun _ => ⟨_, _, rfl, fun j u hj => by
          match j, hj with
          | 0, hj => simp at hj; subst hj; exact hBW.cell rfl
          | j + 1, hj => simp at hj⟩⟩
        refine wpl_append_rd rfl (.tmp 19) (.tmp 24) 46 rfl w.heap.size 9 i0 _ 1 16 Tryz.underlying46 hi hz0 hz1 hz2 rfl (by decide) _ done.length _ rfl hvW _ 1 _ rfl hnx (by simp [Value.oneCell']) (by unfold maxLen; omega) (by omega) (Nat.le_trans hsz2 hbW.size) fun v4 w4 hown4 hgr4 _ => ?_
        have hB4 := (hB.trans (hbW.mono hB.size)).grown hgr4 (Nat.le_trans hB.size hbW.size) (fun gg hg => (hvW.lt gg hg).1)
        obtain ⟨A4, c4, rfl⟩ := owns_slice hown4
        clear hv hvW hnx hBW hbW hgr4
        go_wp2_with fail
        go_roundw
        case rel => exact ⟨k + 1, k + 1, done ++ [s.extract f k], Nat.le_refl _, by omega, by go_num, by go_num, by simp; omega, by rw [List.length_append, List.map_append]; exact hown4, HX.out, by simp, hB4⟩
        case measure => simp [intOf]; omega
      · have hE : (((s[k]'hlt).toNat : Int) == (c.toNat : Int)) = false := by
          rw [beq_eq_false_iff_ne]
          intro h
          exact hc (UInt8.toNat_inj.1 (by omega))
        have hno2 : c ∉ (s.data.toList.drop f).take (k + 1 - f) := by
          rw [htk]
          intro h
          rcases List.mem_append.1 h with h | h
          · exact hno h
          · exact hc (List.mem_singleton.1 h).symm
        have HX := Lib.hid (And.intro hsp hno2)
        clear hsp hno hno2 htk hsl hg hc hlen
        go_wp2_with fail
        go_roundw
        case rel => exact ⟨f, k + 1, done, by omega, by omega, rfl, by go_num, by omega, hv, HX.out.1, HX.out.2, hB⟩
        case measure => simp [intOf]; omega
    · obtain rfl : k = s.size := by omega
      have hsl : (s.extract f s.size).data.toList = s.data.toList.drop f := by
        rw [extract_mid s f s.size hfk]
        exact List.take_of_length_le (by rw [List.length_drop, hlen]; omega)
      have hfin : splitBA c s = done ++ [s.extract f s.size] := by
        have hno' : c ∉ s.data.toList.drop f := by
          rwa [List.take_of_length_le (by rw [List.length_drop, hlen]; omega)] at hno
        unfold splitBA
        have e : (⟨(s.data.toList.drop f).toArray⟩ : ByteArray) = s.extract f s.size := ba_inj (by rw [hsl])
        rw [hsp, splitC_free _ _ hno', List.map_append, List.map_map, comp_ba, List.map_id, List.map_singleton, e]
      have HX := Lib.hid hfin
      clear hsp hno hsl hfin hlen
      go_wp2_with (at_builtin; refine wpl_stop fun W hW => ?_)
      refine Stopped.mk ?_
      have hBW : Blk W wr.heap.size #[.string (s.extract f s.size)] 9 := by rw [hW]; exact Blk.new _ _ _
      have hbW : Below wr.heap.size wr W := by rw [hW]; exact (Below.refl _ _).alloc (Nat.le_refl _) _
      clear hW
      have hvW := owns_below hv hbW
      have hsz2 := hB.size
      have hnx : Rd W 1 (.slice (some ⟨wr.heap.size, 0, none⟩) 1 1) 1 [.string (s.extract f s.size)] := ⟨_, _, rfl, rfl, Nat.le_refl _, by unfold maxLen; omega, fun _ => ⟨_, _, rfl, fun j u hj => by
        match j, hj with
        | 0, hj => simp at hj; subst hj; exact hBW.cell rfl
        | j + 1, hj => simp at hj⟩⟩
      refine wpl_append_rd rfl (.tmp 28) (.tmp 32) 46 rfl w.heap.size 9 i0 _ 1 16 Tryz.underlying46 hi hz0 hz1 hz2 rfl (by decide) _ done.length _ rfl hvW _ 1 _ rfl hnx (by simp [Value.oneCell']) (by unfold maxLen; omega) (by omega) (Nat.le_trans hsz2 hbW.size) fun v4 w4 hown4 hgr4 _ => ?_
      have hB4 := (hB.trans (hbW.mono hB.size)).grown hgr4 (Nat.le_trans hB.size hbW.size) (fun gg hg => (hvW.lt gg hg).1)
      obtain ⟨A4, c4, rfl⟩ := owns_slice hown4
      clear hv hvW hnx hBW hbW hgr4
      go_wp2_with fail
      go_ret
      exact ⟨_, rfl, by rw [HX.out, List.length_append, List.map_append]; exact hown4, hB4⟩
end Go.Proofs.YtebnbbbiobaneaaGreatDoor
namespace Go.Proofs.YtebnbbbiobaneaaGreatDoor
open Go.RowKit
set_option maxRecDepth 100000

/-- The words of a line from a place on, the word that is being read given. -/
def wordsG (cur : List UInt8) : List UInt8 → List (List UInt8)
  | [] => if cur = [] then [] else [cur]
  | b :: l => if b = 35 then (if cur = [] then [] else [cur]) else if Lib.isSp b = true then (if cur = [] then wordsG [] l else cur :: wordsG [] l) else wordsG (cur ++ [b]) l
theorem cut_hash (b : UInt8) (l : List UInt8) : (Lib.cut (b :: l) [35]).1 = if b = 35 then [] else b :: (Lib.cut l [35]).1 := by
  unfold Lib.cut
  rw [index_one_cons]
  by_cases hb : b = 35
  · rw [if_pos hb, if_pos hb]; rfl
  · rw [if_neg hb, if_neg hb]
    by_cases hi : Lib.index l [35] = -1
    · rw [if_pos hi, hi]; rfl
    · rw [if_neg hi]
      have h0 := Lib.index_ge l [35]
      have h1 : (0 : Int) ≤ Lib.index l [35] := by omega
      rw [if_pos (by omega), if_pos h1]
      show (b :: l).take (Lib.index l [35] + 1).toNat = b :: l.take (Lib.index l [35]).toNat
      rw [show (Lib.index l [35] + 1).toNat = (Lib.index l [35]).toNat + 1 by omega]
      rfl
theorem wordsG_eq : ∀ (l cur : List UInt8), Lib.fieldsGo cur (Lib.cut l [35]).1 = wordsG cur l := by
  intro l
  induction l with
  | nil =>
    intro cur
    show Lib.fieldsGo cur [] = _
    unfold Lib.fieldsGo wordsG
    cases cur <;> rfl
  | cons b l ih =>
    intro cur
    rw [cut_hash]
    unfold wordsG
    by_cases hb : b = 35
    · rw [if_pos hb, if_pos hb]
      unfold Lib.fieldsGo
      cases cur <;> rfl
    · rw [if_neg hb, if_neg hb]
      by_cases hs : Lib.isSp b = true
      · rw [if_pos hs]
        by_cases hc : cur = []
        · subst hc; rw [if_pos rfl, Lib.fieldsGo_sp b _ hs, ih]
        · rw [if_neg hc, Lib.fieldsGo_end cur b _ hs hc, ih]
      · rw [if_neg hs, Lib.fieldsGo_more cur b _ (by simpa using hs), ih]
theorem wordsL_G (x : ByteArray) : wordsL x = (wordsG [] x.data.toList).map fun l => ⟨l.toArray⟩ := by
  unfold wordsL Lib.fields
  rw [← wordsG_eq]
  rfl
theorem nlL_BA (s : ByteArray) : nlL s = splitBA 10 s := by
  have h1 : (nlL s).map (·.data.toList) = splitC 10 s.data.toList := by
    unfold nlL
    rw [Lib.splitB_data]
    have h : Lib.countB s ⟨#[10]⟩ = s.data.toList.count 10 := Lib.count_one 10 s.data.toList
    rw [h]
    exact splitK_eq 10 _
  unfold splitBA
  rw [← h1, List.map_map, comp_ba, List.map_id]
end Go.Proofs.YtebnbbbiobaneaaGreatDoor
