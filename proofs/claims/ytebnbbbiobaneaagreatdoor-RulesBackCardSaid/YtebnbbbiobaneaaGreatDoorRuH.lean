/-
  The reference's Words.
-/
import Derived.Test.YtebnbbbiobaneaaGreatDoorMg29
namespace Go.Proofs.YtebnbbbiobaneaaGreatDoor
open Go.RowKit
set_option maxRecDepth 100000

theorem isSp_iff (x : UInt8) : Lib.isSp x = true ↔ x.toNat = 32 ∨ (9 ≤ x.toNat ∧ x.toNat ≤ 13) := by
  have key : ∀ c : UInt8, (x == c) = true ↔ x.toNat = c.toNat := fun c => by rw [beq_iff_eq, UInt8.toNat_inj]
  have h9 := key 9; have h10 := key 10; have h11 := key 11; have h12 := key 12; have h13 := key 13; have h32 := key 32
  simp only [show (9 : UInt8).toNat = 9 from rfl, show (10 : UInt8).toNat = 10 from rfl, show (11 : UInt8).toNat = 11 from rfl, show (12 : UInt8).toNat = 12 from rfl, show (13 : UInt8).toNat = 13 from rfl, show (32 : UInt8).toNat = 32 from rfl] at h9 h10 h11 h12 h13 h32
  unfold Lib.isSp
  simp only [Bool.or_eq_true, h9, h10, h11, h12, h13, h32]
  omega
/-- The word that is being read: from a place on, or none. -/
def curL (s : ByteArray) (k : Nat) : Option Nat → List UInt8
  | none => []
  | some f => (s.data.toList.drop f).take (k - f)
def frI : Option Nat → Int
  | none => -1
  | some f => (f : Int)
theorem wordsG_nil (cur : List UInt8) : wordsG cur [] = if cur = [] then [] else [cur] := rfl
set_option maxHeartbeats 8000000 in
theorem refWords (s : ByteArray) (w : World) (hs : s.size ≤ 1048576) :
    Calls Tryz.prog 40 #[.string s] w fun e w' => ∃ v', e = .returned v' ∧ w'.ownsRow w.heap.size 9 1 v' (wordsL s).length (wsC (wordsL s)) ∧ Below w.heap.size w w' := by
  obtain ⟨i0, hi, hz0, hz1, hz2⟩ := info_parts infoStr
  have hlen : s.data.toList.length = s.size := (Lib.size_eq s).symm
  have hfinal : ∀ done : List ByteArray, done.map (·.data.toList) = wordsG [] s.data.toList → wordsL s = done := fun done h => by rw [wordsL_G, ← h, List.map_map, comp_ba, List.map_id]
  have HF := Lib.hid hfinal
  clear hfinal
  go_enter Tryz.func40, Tryz.ntmps40
  go_wp2_with fail
  go_loopw [3, 4, 5] (fun v fr i wr => ∃ (f : Option Nat) (k : Nat) (done : List ByteArray), (∀ g, f = some g → g < k) ∧ k ≤ s.size ∧ fr = .int .i64 (frI f) ∧ i = .int .i64 k ∧ done.length ≤ k ∧ Upd [] w [chRow 9 1 v done.length (done.map Value.string)] wr ∧
    wordsG [] s.data.toList = done.map (·.data.toList) ++ wordsG (curL s k f) (s.data.toList.drop k)) (fun _ _ i _ => s.size - (intOf i).toNat)
  case atStart => exact ⟨none, 0, [], (fun g h => by cases h), Nat.zero_le _, rfl, rfl, Nat.zero_le _, (Upd.nil [] w).nilRow _ _, by simp [curL]⟩
  case round =>
    obtain ⟨f, k, done, hfk, hk, rfl, rfl, hdn, hU, hG⟩ := hrel
    obtain ⟨Av, cv, rfl⟩ := owns_slice (hU.row 0 rfl)
    by_cases hlt : k < s.size
    · obtain ⟨x, hx⟩ : ∃ x : UInt8, s[k]'hlt = x := ⟨_, rfl⟩
      have hg : s.data.toList[k]? = some x := by rw [Lib.data_getElem? s k hlt, hx]
      have hd : s.data.toList.drop k = x :: s.data.toList.drop (k + 1) := Lib.drop_at hg
      have hx8 := x.toNat_lt
      have h35 : x = 35 ↔ x.toNat = 35 := by rw [← UInt8.toNat_inj]; rfl
      have hiff := isSp_iff x
      by_cases a : x.toNat = 35
      · have hx35 := h35.2 a
        clear h35 hiff hg
        have d0 : ((k : Int) == (s.size : Int)) = false := by simp; omega
        have i1 : (k : Int) < (s.size : Int) := by omega
        have e35 : ((x.toNat : Int) == 35) = true := by simp; omega
        cases f with
        | none =>
          simp only [curL] at hG
          have HX := Lib.hid (HF.out done (Eq.symm (by rw [hG, hd, wordsG, if_pos hx35, if_pos rfl, List.append_nil])))
          clear hG hd hx35
          simp only [frI]
          go_wp2_with fail
          go_ret
          exact ⟨_, rfl, by rw [HX.out]; exact hU.rowBase 0 rfl, hU.below⟩
        | some f =>
          have hf := hfk f rfl
          have hne : (s.data.toList.drop f).take (k - f) ≠ [] := Lib.piece_ne hf (by omega)
          have hex : (s.extract f k).data.toList = (s.data.toList.drop f).take (k - f) := extract_mid s f k (by omega)
          simp only [curL] at hG
          have f0 : decide ((f : Int) < 0) = false := decide_eq_false (by omega)
          have f1 : decide ((0 : Int) ≤ (f : Int)) = true := by simp
          have HX := Lib.hid (HF.out (done ++ [s.extract f k]) (by rw [hG, hd, wordsG, if_pos hx35, if_neg hne, List.map_append, List.map_singleton, hex]))
          clear hG hex hne hfk hd hx35
          simp only [frI]
          go_wp2_with (at_builtin; refine wpl_stop fun W hW => ?_)
          refine Stopped.mk ?_
          have UW := (hU.alloc #[.string (s.extract f k)] 9).same hW
          clear hW hU
          refine wpl_append_rd rfl (.tmp 44) (.tmp 49) 46 rfl 0 9 i0 _ 1 16 Tryz.underlying46 hi hz0 hz1 hz2 rfl (by decide) _ done.length _ rfl (UW.row 1 rfl) _ 1 _ rfl (rd_one (UW.blk 0 rfl) (n := 1) rfl) (by simp [Value.oneCell']) (by unfold maxLen; omega) (by omega) (Nat.zero_le _) fun v4 w4 hown4 hgr4 hv4 => ?_
          have U4 := (UW.app 1 rfl hown4 hgr4 hv4).drop 1
          simp only [List.eraseIdx_cons_succ, List.eraseIdx_cons_zero] at U4
          obtain ⟨A4, c4, rfl⟩ := owns_slice hown4
          clear hown4 hgr4 hv4 UW
          go_wp2_with fail
          go_ret
          exact ⟨_, rfl, by rw [HX.out, List.length_append, wsC, List.map_append]; exact U4.rowBase 0 rfl, U4.below⟩
      have hx35 : ¬ x = 35 := fun h => a (h35.1 h)
      clear h35
      by_cases b : x.toNat = 32
      · have hsp : Lib.isSp x = true := hiff.2 (.inl b)
        clear hiff hg
        have d0 : ((k : Int) == (s.size : Int)) = false := by simp; omega
        have i1 : (k : Int) < (s.size : Int) := by omega
        have e35 : ((x.toNat : Int) == 35) = false := by simp; omega
        have e32 : ((x.toNat : Int) == 32) = true := by simp; omega
        cases f with
        | none =>
          simp only [curL] at hG
          have HX := Lib.hid (show wordsG [] s.data.toList = done.map (·.data.toList) ++ wordsG (curL s (k + 1) none) (s.data.toList.drop (k + 1)) by rw [hG, hd, wordsG, if_neg hx35, if_pos hsp, if_pos rfl]; rfl)
          clear hG hd hx35 hsp
          simp only [frI]
          go_wp2_with fail
          go_roundw
          case rel => exact ⟨none, k + 1, done, (fun g h => by cases h), by omega, rfl, by go_num, by omega, hU, HX.out⟩
          case measure => simp [intOf]; omega
        | some f =>
          have hf := hfk f rfl
          have hne : (s.data.toList.drop f).take (k - f) ≠ [] := Lib.piece_ne hf (by omega)
          have hex : (s.extract f k).data.toList = (s.data.toList.drop f).take (k - f) := extract_mid s f k (by omega)
          simp only [curL] at hG
          have f0 : decide ((f : Int) < 0) = false := decide_eq_false (by omega)
          have f1 : decide ((0 : Int) ≤ (f : Int)) = true := by simp
          have HX := Lib.hid (show wordsG [] s.data.toList = (done ++ [s.extract f k]).map (·.data.toList) ++ wordsG (curL s (k + 1) none) (s.data.toList.drop (k + 1)) by rw [hG, hd, wordsG, if_neg hx35, if_pos hsp, if_neg hne, List.map_append, List.map_singleton, hex, List.append_assoc]; rfl)
          clear hG hd hx35 hsp hex hne hfk
          simp only [frI]
          go_wp2_with (at_builtin; refine wpl_stop fun W hW => ?_)
          refine Stopped.mk ?_
          have UW := (hU.alloc #[.string (s.extract f k)] 9).same hW
          clear hW hU
          refine wpl_append_rd rfl (.tmp 44) (.tmp 49) 46 rfl 0 9 i0 _ 1 16 Tryz.underlying46 hi hz0 hz1 hz2 rfl (by decide) _ done.length _ rfl (UW.row 1 rfl) _ 1 _ rfl (rd_one (UW.blk 0 rfl) (n := 1) rfl) (by simp [Value.oneCell']) (by unfold maxLen; omega) (by omega) (Nat.zero_le _) fun v4 w4 hown4 hgr4 hv4 => ?_
          have U4 := (UW.app 1 rfl hown4 hgr4 hv4).drop 1
          simp only [List.eraseIdx_cons_succ, List.eraseIdx_cons_zero] at U4
          obtain ⟨A4, c4, rfl⟩ := owns_slice hown4
          clear hown4 hgr4 hv4 UW
          go_wp2_with fail
          go_roundw
          case rel => exact ⟨none, k + 1, done ++ [s.extract f k], (fun g h => by cases h), by omega, rfl, by go_num, by simp; omega, by rw [List.length_append, List.map_append]; exact U4, HX.out⟩
          case measure => simp [intOf]; omega
      by_cases c9 : 9 ≤ x.toNat
      · by_cases c13 : x.toNat ≤ 13
        · have hsp : Lib.isSp x = true := hiff.2 (.inr ⟨c9, c13⟩)
          clear hiff hg
          have d0 : ((k : Int) == (s.size : Int)) = false := by simp; omega
          have i1 : (k : Int) < (s.size : Int) := by omega
          have e35 : ((x.toNat : Int) == 35) = false := by simp; omega
          have e32 : ((x.toNat : Int) == 32) = false := by simp; omega
          have e9 : decide ((9 : Int) ≤ (x.toNat : Int)) = true := by simp; omega
          have e13 : decide ((x.toNat : Int) ≤ 13) = true := by simp; omega
          cases f with
          | none =>
            simp only [curL] at hG
            have HX := Lib.hid (show wordsG [] s.data.toList = done.map (·.data.toList) ++ wordsG (curL s (k + 1) none) (s.data.toList.drop (k + 1)) by rw [hG, hd, wordsG, if_neg hx35, if_pos hsp, if_pos rfl]; rfl)
            clear hG hd hx35 hsp
            simp only [frI]
            go_wp2_with fail
            go_roundw
            case rel => exact ⟨none, k + 1, done, (fun g h => by cases h), by omega, rfl, by go_num, by omega, hU, HX.out⟩
            case measure => simp [intOf]; omega
          | some f =>
            have hf := hfk f rfl
            have hne : (s.data.toList.drop f).take (k - f) ≠ [] := Lib.piece_ne hf (by omega)
            have hex : (s.extract f k).data.toList = (s.data.toList.drop f).take (k - f) := extract_mid s f k (by omega)
            simp only [curL] at hG
            have f0 : decide ((f : Int) < 0) = false := decide_eq_false (by omega)
            have f1 : decide ((0 : Int) ≤ (f : Int)) = true := by simp
            have HX := Lib.hid (show wordsG [] s.data.toList = (done ++ [s.extract f k]).map (·.data.toList) ++ wordsG (curL s (k + 1) none) (s.data.toList.drop (k + 1)) by rw [hG, hd, wordsG, if_neg hx35, if_pos hsp, if_neg hne, List.map_append, List.map_singleton, hex, List.append_assoc]; rfl)
            clear hG hd hx35 hsp hex hne hfk
            simp only [frI]
            go_wp2_with (at_builtin; refine wpl_stop fun W hW => ?_)
            refine Stopped.mk ?_
            have UW := (hU.alloc #[.string (s.extract f k)] 9).same hW
            clear hW hU
            refine wpl_append_rd rfl (.tmp 44) (.tmp 49) 46 rfl 0 9 i0 _ 1 16 Tryz.underlying46 hi hz0 hz1 hz2 rfl (by decide) _ done.length _ rfl (UW.row 1 rfl) _ 1 _ rfl (rd_one (UW.blk 0 rfl) (n := 1) rfl) (by simp [Value.oneCell']) (by unfold maxLen; omega) (by omega) (Nat.zero_le _) fun v4 w4 hown4 hgr4 hv4 => ?_
            have U4 := (UW.app 1 rfl hown4 hgr4 hv4).drop 1
            simp only [List.eraseIdx_cons_succ, List.eraseIdx_cons_zero] at U4
            obtain ⟨A4, c4, rfl⟩ := owns_slice hown4
            clear hown4 hgr4 hv4 UW
            go_wp2_with fail
            go_roundw
            case rel => exact ⟨none, k + 1, done ++ [s.extract f k], (fun g h => by cases h), by omega, rfl, by go_num, by simp; omega, by rw [List.length_append, List.map_append]; exact U4, HX.out⟩
            case measure => simp [intOf]; omega
        · have hsp : ¬ Lib.isSp x = true := fun h => by have := hiff.1 h; omega
          clear hiff
          have d0 : ((k : Int) == (s.size : Int)) = false := by simp; omega
          have i1 : (k : Int) < (s.size : Int) := by omega
          have e35 : ((x.toNat : Int) == 35) = false := by simp; omega
          have e32 : ((x.toNat : Int) == 32) = false := by simp; omega
          have e9 : decide ((9 : Int) ≤ (x.toNat : Int)) = true := by simp; omega
          have e13 : decide ((x.toNat : Int) ≤ 13) = false := by simp; omega
          cases f with
          | none =>
            simp only [curL] at hG
            have HX := Lib.hid (show wordsG [] s.data.toList = done.map (·.data.toList) ++ wordsG (curL s (k + 1) (some k)) (s.data.toList.drop (k + 1)) by rw [hG, hd, wordsG, if_neg hx35, if_neg hsp]; simp only [curL]; rw [List.nil_append, show k + 1 - k = 1 by omega, hd]; rfl)
            clear hG hd hx35 hsp
            simp only [frI]
            go_wp2_with fail
            go_roundw
            case rel => exact ⟨some k, k + 1, done, (fun g h => by cases h; omega), by omega, rfl, by go_num, by omega, hU, HX.out⟩
            case measure => simp [intOf]; omega
          | some f =>
            have hf := hfk f rfl
            have hne : (s.data.toList.drop f).take (k - f) ≠ [] := Lib.piece_ne hf (by omega)
            have hex : (s.extract f k).data.toList = (s.data.toList.drop f).take (k - f) := extract_mid s f k (by omega)
            simp only [curL] at hG
            have f0 : decide ((f : Int) < 0) = false := decide_eq_false (by omega)
            have f1 : decide ((0 : Int) ≤ (f : Int)) = true := by simp
            have htk := Lib.piece_more (Nat.le_of_lt hf) hg
            have HX := Lib.hid (show wordsG [] s.data.toList = done.map (·.data.toList) ++ wordsG (curL s (k + 1) (some f)) (s.data.toList.drop (k + 1)) by rw [hG, hd, wordsG, if_neg hx35, if_neg hsp]; simp only [curL]; rw [htk])
            clear hG hd hx35 hsp htk hex hne
            simp only [frI]
            go_wp2_with fail
            go_roundw
            case rel => exact ⟨some f, k + 1, done, (fun g h => by cases h; omega), by omega, rfl, by go_num, by omega, hU, HX.out⟩
            case measure => simp [intOf]; omega
      · have hsp : ¬ Lib.isSp x = true := fun h => by have := hiff.1 h; omega
        clear hiff
        have d0 : ((k : Int) == (s.size : Int)) = false := by simp; omega
        have i1 : (k : Int) < (s.size : Int) := by omega
        have e35 : ((x.toNat : Int) == 35) = false := by simp; omega
        have e32 : ((x.toNat : Int) == 32) = false := by simp; omega
        have e9 : decide ((9 : Int) ≤ (x.toNat : Int)) = false := by simp; omega
        cases f with
        | none =>
          simp only [curL] at hG
          have HX := Lib.hid (show wordsG [] s.data.toList = done.map (·.data.toList) ++ wordsG (curL s (k + 1) (some k)) (s.data.toList.drop (k + 1)) by rw [hG, hd, wordsG, if_neg hx35, if_neg hsp]; simp only [curL]; rw [List.nil_append, show k + 1 - k = 1 by omega, hd]; rfl)
          clear hG hd hx35 hsp
          simp only [frI]
          go_wp2_with fail
          go_roundw
          case rel => exact ⟨some k, k + 1, done, (fun g h => by cases h; omega), by omega, rfl, by go_num, by omega, hU, HX.out⟩
          case measure => simp [intOf]; omega
        | some f =>
          have hf := hfk f rfl
          have hne : (s.data.toList.drop f).take (k - f) ≠ [] := Lib.piece_ne hf (by omega)
          have hex : (s.extract f k).data.toList = (s.data.toList.drop f).take (k - f) := extract_mid s f k (by omega)
          simp only [curL] at hG
          have f0 : decide ((f : Int) < 0) = false := decide_eq_false (by omega)
          have f1 : decide ((0 : Int) ≤ (f : Int)) = true := by simp
          have htk := Lib.piece_more (Nat.le_of_lt hf) hg
          have HX := Lib.hid (show wordsG [] s.data.toList = done.map (·.data.toList) ++ wordsG (curL s (k + 1) (some f)) (s.data.toList.drop (k + 1)) by rw [hG, hd, wordsG, if_neg hx35, if_neg hsp]; simp only [curL]; rw [htk])
          clear hG hd hx35 hsp htk hex hne
          simp only [frI]
          go_wp2_with fail
          go_roundw
          case rel => exact ⟨some f, k + 1, done, (fun g h => by cases h; omega), by omega, rfl, by go_num, by omega, hU, HX.out⟩
          case measure => simp [intOf]; omega
    · obtain rfl : k = s.size := by omega
      have d0 : ((s.size : Int) == (s.size : Int)) = true := by simp
      cases f with
      | none =>
        rw [show s.data.toList.drop s.size = [] from by rw [← hlen]; exact List.drop_length] at hG
        simp only [curL] at hG
        have HX := Lib.hid (HF.out done (Eq.symm (by rw [hG, wordsG_nil, if_pos rfl, List.append_nil])))
        clear hG
        simp only [frI]
        go_wp2_with fail
        go_ret
        exact ⟨_, rfl, by rw [HX.out]; exact hU.rowBase 0 rfl, hU.below⟩
      | some f =>
        have hf := hfk f rfl
        have hne : (s.data.toList.drop f).take (s.size - f) ≠ [] := Lib.piece_ne hf (by omega)
        have hex : (s.extract f s.size).data.toList = (s.data.toList.drop f).take (s.size - f) := extract_mid s f s.size (by omega)
        simp only [curL] at hG
        have f0 : decide ((f : Int) < 0) = false := decide_eq_false (by omega)
        have f1 : decide ((0 : Int) ≤ (f : Int)) = true := by simp
        rw [show s.data.toList.drop s.size = [] from by rw [← hlen]; exact List.drop_length] at hG
        have HX := Lib.hid (HF.out (done ++ [s.extract f s.size]) (by rw [hG, wordsG_nil, if_neg hne, List.map_append, List.map_singleton, hex]))
        clear hG hex hne hfk
        simp only [frI]
        go_wp2_with (at_builtin; refine wpl_stop fun W hW => ?_)
        refine Stopped.mk ?_
        have UW := (hU.alloc #[.string (s.extract f s.size)] 9).same hW
        clear hW hU
        refine wpl_append_rd rfl (.tmp 44) (.tmp 49) 46 rfl 0 9 i0 _ 1 16 Tryz.underlying46 hi hz0 hz1 hz2 rfl (by decide) _ done.length _ rfl (UW.row 1 rfl) _ 1 _ rfl (rd_one (UW.blk 0 rfl) (n := 1) rfl) (by simp [Value.oneCell']) (by unfold maxLen; omega) (by omega) (Nat.zero_le _) fun v4 w4 hown4 hgr4 hv4 => ?_
        have U4 := (UW.app 1 rfl hown4 hgr4 hv4).drop 1
        simp only [List.eraseIdx_cons_succ, List.eraseIdx_cons_zero] at U4
        obtain ⟨A4, c4, rfl⟩ := owns_slice hown4
        clear hown4 hgr4 hv4 UW
        go_wp2_with fail
        go_ret
        exact ⟨_, rfl, by rw [HX.out, List.length_append, wsC, List.map_append]; exact U4.rowBase 0 rfl, U4.below⟩
end Go.Proofs.YtebnbbbiobaneaaGreatDoor
