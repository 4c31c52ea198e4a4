/-
  The reference's Split.
-/
import Derived.Test.YtfmehjdlpfijbaaDoorLSplit
import Derived.Test.YtfmehjdlpfijbaaDoorLRefS
namespace Go.Proofs.YtfmehjdlpfijbaaDoor
open Go.RowKit
set_option maxRecDepth 100000

theorem infoStr : (Tryd.prog.info? 9).map (fun i => (i.zero, i.size, i.bytes)) = some (some (.string ⟨#[]⟩), 1, 16) := by kernel_rfl
def splitBA (c : UInt8) (s : ByteArray) : List ByteArray := (splitC c s.data.toList).map fun l => ⟨l.toArray⟩
theorem comp_ba : (fun l : List UInt8 => (⟨l.toArray⟩ : ByteArray)) ∘ (fun x : ByteArray => x.data.toList) = id := by
  funext x
  simp
theorem partsL_BA (s : ByteArray) : partsL s = splitBA 44 s := by
  unfold splitBA
  rw [← partsL_split, List.map_map]
  rw [comp_ba, List.map_id]
theorem extract_mid (s : ByteArray) (a b : Nat) (_ : a ≤ b) : (s.extract a b).data.toList = (s.data.toList.drop a).take (b - a) := by
  rw [Lib.extract_data]
theorem drop_hit {c : UInt8} {l : List UInt8} {f k : Nat} (hf : f ≤ k) (h : l[k]? = some c) : l.drop f = (l.drop f).take (k - f) ++ c :: l.drop (k + 1) := by
  have hk : k < l.length := (List.getElem?_eq_some_iff.1 h).1
  have e := List.take_append_drop (k - f) (l.drop f)
  rw [List.drop_drop, show f + (k - f) = k by omega, drop_cons h] at e
  exact e.symm
set_option maxHeartbeats 1000000 in
theorem refSplit (s : ByteArray) (c : UInt8) (w : World) (hs : s.size ≤ 1048576) :
    Calls Tryd.prog 49 #[.string s, .int .u8 c.toNat] w fun e w' => ∃ v', e = .returned v' ∧ w'.ownsRow w.heap.size 9 1 v' (splitBA c s).length ((splitBA c s).map Value.string) ∧ Below w.heap.size w w' := by
  obtain ⟨i0, hi, hz0, hz1, hz2⟩ := info_parts infoStr
  have hlen : s.data.toList.length = s.size := rfl
  go_enter Tryd.func49, Tryd.ntmps49
  go_wp2_with fail
  go_loopw [5, 6, 7] (fun v fr i wr => ∃ (f k : Nat) (done : List ByteArray), f ≤ k ∧ k ≤ s.size ∧ fr = .int .i64 f ∧ i = .int .i64 k ∧ done.length ≤ k ∧ wr.ownsRow w.heap.size 9 1 v done.length (done.map Value.string) ∧
    splitC c s.data.toList = done.map (·.data.toList) ++ splitC c (s.data.toList.drop f) ∧ c ∉ (s.data.toList.drop f).take (k - f) ∧ Below w.heap.size w wr) (fun _ _ i _ => s.size - (intOf i).toNat)
  case atStart => exact ⟨0, 0, [], Nat.le_refl _, Nat.zero_le _, rfl, rfl, Nat.zero_le _, World.ownsRow_nil _ _ _ _, by simp, by simp, Below.refl _ _⟩
  case round =>
    obtain ⟨f, k, done, hfk, hk, rfl, rfl, hdn, hv, hsp, hno, hB⟩ := hrel
    obtain ⟨Av, cv, rfl⟩ := owns_slice hv
    by_cases hlt : k < s.size
    · have hg : s.data.toList[k]? = some (s[k]'hlt) := by rw [List.getElem?_eq_getElem (by rw [hlen]; exact hlt)]; rfl
      have htk : (s.data.toList.drop f).take (k + 1 - f) = (s.data.toList.drop f).take (k - f) ++ [s[k]'hlt] := by
        rw [show k + 1 - f = (k - f) + 1 by omega, List.take_add_one, List.getElem?_drop, show f + (k - f) = k by omega, hg]
        rfl
      have hsl : (s.extract f k).data.toList = (s.data.toList.drop f).take (k - f) := extract_mid s f k hfk
      by_cases hc : (s[k]'hlt) = c
      · have hE : (((s[k]'hlt).toNat : Int) == (c.toNat : Int)) = true := by rw [hc]; simp
        have hnext : splitC c s.data.toList = (done ++ [s.extract f k]).map (·.data.toList) ++ splitC c (s.data.toList.drop (k + 1)) := by
          rw [hsp, drop_hit hfk (hc ▸ hg), splitC_app _ _ _ hno, List.map_append, List.append_assoc]
          simp
        have HX := Lib.hid hnext
        clear hsp hno htk hsl hg hnext hc hlen
        go_wp2_with (at_builtin; refine wpl_stop fun W hW => ?_)
        refine Stopped.mk ?_
        have hBW : Blk W wr.heap.size #[.string (s.extract f k)] 9 := by rw [hW]; exact Blk.new _ _ _
        have hbW : Below wr.heap.size wr W := by rw [hW]; exact (Below.refl _ _).alloc (Nat.le_refl _) _
        clear hW
        have hvW := owns_below hv hbW
        have hsz2 := hB.size
        have hnx : Rd W 1 (.slice (some ⟨wr.heap.size, 0, none⟩) 1 1) 1 [.string (s.extract f k)] := ⟨_, _, rfl, rfl, Nat.le_refl _, by unfold maxLen; omega, fun _ => ⟨_, _, rfl, fun j u hj => by
          match j, hj with
          | 0, hj => simp at hj; subst hj; exact hBW.cell rfl
          | j + 1, hj => simp at hj⟩⟩
        refine wpl_append_rd rfl (.tmp 19) (.tmp 24) 46 rfl w.heap.size 9 i0 _ 1 16 Tryd.underlying46 hi hz0 hz1 hz2 rfl (by decide) _ done.length _ rfl hvW _ 1 _ rfl hnx (by simp [Value.oneCell']) (by unfold maxLen; omega) (by omega) (Nat.le_trans hsz2 hbW.size) fun v4 w4 hown4 hgr4 _ => ?_
        have hB4 := (hB.trans (hbW.mono hB.size)).grown hgr4 (Nat.le_trans hB.size hbW.size) (fun gg hg => (hvW.lt gg hg).1)
        obtain ⟨A4, c4, rfl⟩ := owns_slice hown4
        clear hv hvW hnx hBW hbW hgr4
        go_wp2_with fail
        go_roundw
        case rel => exact ⟨k + 1, k + 1, done ++ [s.extract f k], Nat.le_refl _, by omega, by go_num, by go_num, by simp; omega, by rw [List.length_append, List.map_append]; exact hown4, HX.out, by simp, hB4⟩
        case measure => simp [intOf]; omega
      · have hE : (((s[k]'hlt).toNat : Int) == (c.toNat : Int)) = false := by
          rw [beq_eq_false_iff_ne]
          intro h
          exact hc (UInt8.toNat_inj.1 (by omega))
        have hno2 : c ∉ (s.data.toList.drop f).take (k + 1 - f) := by
          rw [htk]
          intro h
          rcases List.mem_append.1 h with h | h
          · exact hno h
          · exact hc (List.mem_singleton.1 h).symm
        have HX := Lib.hid (And.intro hsp hno2)
        clear hsp hno hno2 htk hsl hg hc hlen
        go_wp2_with fail
        go_roundw
        case rel => exact ⟨f, k + 1, done, by omega, by omega, rfl, by go_num, by omega, hv, HX.out.1, HX.out.2, hB⟩
        case measure => simp [intOf]; omega
    · obtain rfl : k = s.size := by omega
      have hsl : (s.extract f s.size).data.toList = s.data.toList.drop f := by
        rw [extract_mid s f s.size hfk]
        exact List.take_of_length_le (by rw [List.length_drop, hlen]; omega)
      have hfin : splitBA c s = done ++ [s.extract f s.size] := by
        have hno' : c ∉ s.data.toList.drop f := by
          rwa [List.take_of_length_le (by rw [List.length_drop, hlen]; omega)] at hno
        unfold splitBA
        have e : (⟨(s.data.toList.drop f).toArray⟩ : ByteArray) = s.extract f s.size := ba_inj (by rw [hsl])
        rw [hsp, splitC_free _ _ hno', List.map_append, List.map_map, comp_ba, List.map_id, List.map_singleton, e]
      have HX := Lib.hid hfin
      clear hsp hno hsl hfin hlen
      go_wp2_with (at_builtin; refine wpl_stop fun W hW => ?_)
      refine Stopped.mk ?_
      have hBW : Blk W wr.heap.size #[.string (s.extract f s.size)] 9 := by rw [hW]; exact Blk.new _ _ _
      have hbW : Below wr.heap.size wr W := by rw [hW]; exact (Below.refl _ _).alloc (Nat.le_refl _) _
      clear hW
      have hvW := owns_below hv hbW
      have hsz2 := hB.size
      have hnx : Rd W 1 (.slice (some ⟨wr.heap.size, 0, none⟩) 1 1) 1 [.string (s.extract f s.size)] := ⟨_, _, rfl, rfl, Nat.le_refl _, by unfold maxLen; omega, fun _ => ⟨_, _, rfl, fun j u hj => by
        match j, hj with
        | 0, hj => simp at hj; subst hj; exact hBW.cell rfl
        | j + 1, hj => simp at hj⟩⟩
      refine wpl_append_rd rfl (.tmp 28) (.tmp 32) 46 rfl w.heap.size 9 i0 _ 1 16 Tryd.underlying46 hi hz0 hz1 hz2 rfl (by decide) _ done.length _ rfl hvW _ 1 _ rfl hnx (by simp [Value.oneCell']) (by unfold maxLen; omega) (by omega) (Nat.le_trans hsz2 hbW.size) fun v4 w4 hown4 hgr4 _ => ?_
      have hB4 := (hB.trans (hbW.mono hB.size)).grown hgr4 (Nat.le_trans hB.size hbW.size) (fun gg hg => (hvW.lt gg hg).1)
      obtain ⟨A4, c4, rfl⟩ := owns_slice hown4
      clear hv hvW hnx hBW hbW hgr4
      go_wp2_with fail
      go_ret
      exact ⟨_, rfl, by rw [HX.out, List.length_append, List.map_append]; exact hown4, hB4⟩
end Go.Proofs.YtfmehjdlpfijbaaDoor
