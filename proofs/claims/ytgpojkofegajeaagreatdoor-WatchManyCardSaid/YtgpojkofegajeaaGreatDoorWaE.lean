/-
  The walk of WatchMany.
-/
import Derived.Test.YtgpojkofegajeaaGreatDoorWaB
import Derived.Test.YtgpojkofegajeaaGreatDoorRItoa
namespace Go.Proofs.YtgpojkofegajeaaGreatDoor
open Go.RowKit
set_option maxRecDepth 100000

def intOfE : Value → Int
  | .int _ x => x
  | _ => 0
def keyM (i : Nat) : ByteArray := ⟨#[109]⟩ ++ decB i
def kM (i : Nat) : ByteArray × ByteArray := (keyM i, ⟨#[]⟩)
theorem keyM_all : ∀ i : Fin 80, nameB (keyM i.val) = true ∧ (keyM i.val).size ≤ 8 ∧ (decB i.val).size ≤ 8 := by decide +kernel
theorem keyM_ne : ∀ i : Fin 80, ∀ j : Fin 80, keyM i.val = keyM j.val → i = j := by decide +kernel
theorem kM_inj {i j : Nat} (hi : i < 80) (hj : j < 80) (h : kM i = kM j) : i = j := by
  have := keyM_ne ⟨i, hi⟩ ⟨j, hj⟩ (congrArg Prod.fst h)
  exact congrArg Fin.val this
theorem kM_none {sm : List ((ByteArray × ByteArray) × Value)} {k : Nat} (hk : k < 80) (h : sm.map (·.1) = (List.range (min k 64)).map kM) : ∀ p ∈ sm, p.1 ≠ kM k := by
  intro p hp e
  have : p.1 ∈ sm.map (·.1) := List.mem_map.2 ⟨p, hp, rfl⟩
  rw [h] at this
  obtain ⟨j, hj, he⟩ := List.mem_map.1 this
  have hj' := List.mem_range.1 hj
  have := kM_inj (by omega) hk (he.trans e)
  omega
theorem kM_put {sm : List ((ByteArray × ByteArray) × Value)} {k : Nat} (hk : k < 64) (v : Value) (h : sm.map (·.1) = (List.range (min k 64)).map kM) : (putK sm (kM k) v).map (·.1) = (List.range (min (k + 1) 64)).map kM := by
  have hn := kM_none (by omega) h
  rw [putK_keys, if_neg (fun hm => by obtain ⟨p, hp, e⟩ := List.mem_map.1 hm; exact hn p hp e), h, Nat.min_eq_left (by omega), Nat.min_eq_left (by omega), List.range_succ, List.map_append]
  rfl
set_option maxHeartbeats 8000000 in
theorem watchManyWalk (n : Nat) (v : Int) (mx : Int) (w : World) (_hn : n < 256) (hm : w.cell? ⟨2, 0, none⟩ = some (.int .i64 mx)) (hT : Lib.TabIs Tryz.prog w "strings.asciiSpace" .u8 Lib.asciiSpaceTab) :
    Calls Tryz.prog 4 #[.int .u8 n, .int .i64 v] w fun e w' => e = .returned (.bool true) ∧ Below w.heap.size w w' := by
  have KA := awake16 mx w hm hT
  obtain ⟨m, hm80⟩ : ∃ x, x = n % 80 := ⟨_, rfl⟩
  have tn : (n : Int).tmod 80 = (m : Int) := by rw [hm80]; rfl
  have mlt : m < 80 := by omega
  have wn : IntKind.i64.wrap (m : Int) = (m : Int) := by rw [IntKind.wrap_i64]; omega
  clear hm hT hm80
  go_enter Tryz.func4, Tryz.ntmps4
  go_wp2_with fail
  (with_reducible refine KA.mono ?_)
  rintro e w1 ⟨rfl, hb1⟩
  have KN : Calls Tryz.prog 8 #[.slice none 0 0, .slice none 0 0] w1 fun e w' => ∃ b rv ms mp mk, e = .returned (.tuple #[.pointer (some ⟨b, 0, none⟩), .int .i64 0]) ∧ Upd [] w1 (wParts b rv [] ms [] (.slice none 0 0) [] mp [] mk []) w' :=
    wNew_ok (.slice none 0 0) [] w1 (rd_nilW _ _ _ _ (Nat.zero_le _)) (fun _ h => nomatch h) (by decide) (by decide)
  go_wp2_with fail
  (with_reducible refine KN.mono ?_)
  rintro e w2 ⟨b, rv, ms, mp, mk, rfl, hu⟩
  have U1 := Upd.grp (l := wParts b rv [] ms [] (.slice none 0 0) [] mp [] mk []) (C := []) (((Upd.nil [] w).grow hb1).call hu)
  clear hu KN KA hb1
  go_wp2_with fail
  go_loopw [20] (fun i wr => ∃ (k : Nat) (sm : List ((ByteArray × ByteArray) × Value)) (ov : Value) (os : List (ByteArray × ByteArray)), k ≤ m ∧ i = .int .i64 k ∧ sm.map (·.1) = (List.range (min k 64)).map kM ∧ os.length = min k 64 ∧ Upd [] w [chGrp (wParts b rv [] ms sm ov os mp [] mk [])] wr) (fun i _ => m - (intOfE i).toNat)
  case atStart => exact ⟨0, [], _, [], Nat.zero_le _, rfl, rfl, rfl, U1⟩
  case round =>
    obtain ⟨k, sm, ov, os, hk, rfl, hsm, hos, U⟩ := hrel
    have hsl : sm.length = min k 64 := by have := congrArg List.length hsm; simpa using this
    by_cases hkm : k < m
    · have hd : decide (k < m) = true := by simp [hkm]
      have wk : IntKind.u64.wrap (k : Int) = (k : Int) := by rw [IntKind.wrap_u64]; omega
      obtain ⟨nk, sk, dk⟩ := keyM_all ⟨k, by omega⟩
      have dk : (decB k).size ≤ 8 := dk
      have c1 : ¬ 9223372036854775807 < 1 + (decB k).size := by omega
      have nk : nameB (keyM k) = true := nk
      have sk : (keyM k).size ≤ maxLen := by have : (keyM k).size ≤ 8 := sk; unfold maxLen; omega
      have hnone : findK sm (keyM k, txtS []) = none := findK_none (kM_none (by omega) hsm)
      have KI := fun w' => refItoa k w' (by omega)
      by_cases h64 : k < 64
      · have d64 : decide ((k : Int) < 64) = true := by simp; omega
        have KAd := fun w' (hP : (chGrp (wParts b rv [] ms sm ov os mp [] mk [])).P w') => (show Calls Tryz.prog 9 #[.pointer (some ⟨b, 0, none⟩), .int .u64 1, .agg #[.string (⟨#[109]⟩ ++ decB k), .slice none 0 0, .int .i64 v]] w' _ from wAddNew (keyM k) (.slice none 0 0) [] 1 v b rv [] ms sm ov os mp [] mk [] w' hP (rd_nilW w' 2 none 0 (Nat.zero_le _)) sk (fun _ h => nomatch h) nk (by decide) (by decide) (by decide) hnone (by omega) (by omega) (by decide))
        have hsm' := fun v => kM_put h64 v hsm
        have H := Lib.hid hsm'
        have HO := Lib.hid hos
        clear hsm hnone hsm' nk sk hsl hos
        go_wp2_with fail
        (with_reducible refine (KI _).mono ?_)
        rintro e w3 ⟨rfl, hb3⟩
        have U3 := U.grow hb3
        clear hb3 U KI
        go_wp2_with fail
        (with_reducible refine (KAd _ (U3.get 0 rfl)).mono ?_)
        rintro e w4 ⟨rfl, lv', pv', ov', hu⟩
        have U4 := U3.turn 0 rfl hu
        have U5 := (U4.drop 2).drop 1
        simp only [List.cons_append, List.nil_append, List.eraseIdx_cons_succ, List.eraseIdx_cons_zero] at U5
        clear hu U3 U4 KAd
        go_wp2_with fail
        go_roundw
        case rel => exact ⟨k + 1, _, _, _, by omega, by simp, H.out _, by rw [List.length_append, HO.out]; simp; omega, U5⟩
        case measure => simp [intOfE]; omega
      · have d64 : decide ((k : Int) < 64) = false := by simp; omega
        have GU := grp_open (U.get 0 rfl)
        have KAd := fun w' (hB : Blk w' b #[rv, .map (some ms), ov, .map (some mp), .map (some mk)] 81) (hM : MapAt keyE w' ms sm) => (show Calls Tryz.prog 9 #[.pointer (some ⟨b, 0, none⟩), .int .u64 1, .agg #[.string (⟨#[109]⟩ ++ decB k), .slice none 0 0, .int .i64 v]] w' _ from wAddFull (keyM k) (.slice none 0 0) [] 1 v b rv ms sm ov mp mk w' hB hM (rd_nilW w' 2 none 0 (Nat.zero_le _)) sk (fun _ h => nomatch h) nk (by decide) (by decide) hnone (by omega))
        have hsm' : sm.map (·.1) = (List.range (min (k + 1) 64)).map kM := by rw [hsm, Nat.min_eq_right (by omega), Nat.min_eq_right (by omega)]
        have H := Lib.hid hsm'
        have hos' : os.length = min (k + 1) 64 := by omega
        have HO := Lib.hid hos'
        clear hsm hnone hsm' nk sk hsl hos hos'
        go_wp2_with fail
        (with_reducible refine (KI _).mono ?_)
        rintro e w3 ⟨rfl, hb3⟩
        have U3 := U.grow hb3
        have G3 := grp_open (U3.get 0 rfl)
        clear hb3 U KI GU
        go_wp2_with fail
        (with_reducible refine (KAd _ (G3.blk 0 rfl) (G3.map 2 rfl)).mono ?_)
        rintro e w4 ⟨rfl, hb4⟩
        have U5 := U3.grow hb4
        clear hb4 U3 G3 KAd
        go_wp2_with fail
        go_roundw
        case rel => exact ⟨k + 1, sm, ov, os, by omega, by simp, H.out, HO.out, U5⟩
        case measure => simp [intOfE]; omega
    · have hd : decide (k < m) = false := by simp; omega
      have G := grp_open (U.get 0 rfl)
      have KC := wCounts b rv [] ms sm ov os mp [] mk [] wr (G.blk 0 rfl) (G.map 2 rfl) (G.map 5 rfl)
      have KT : ∀ w', Upd [] w [chGrp (wParts b rv [] ms sm ov os mp [] mk [])] w' → Calls Tryz.prog 10 #[.pointer (some ⟨b, 0, none⟩), .int .u64 2] w' fun e w'' => e = .returned (.slice none 0 0) ∧ Below w'.heap.size w' w'' := fun w' U' => by
        have G' := grp_open (U'.get 0 rfl)
        obtain ⟨Ar, cr, e⟩ := owns_slice (G'.row 1 rfl)
        have hB := G'.blk 0 rfl
        rw [e] at hB
        exact wTick0 b 2 Ar cr ov ms mp mk w' hB (G'.map 5 rfl)
      have KC : Calls Tryz.prog 12 #[.pointer (some ⟨b, 0, none⟩)] wr fun e w' => e = .returned (.tuple #[.int .i64 sm.length, .int .i64 0]) ∧ Below wr.heap.size wr w' := KC
      have hkm' : k = m := by omega
      subst hkm'
      obtain ⟨q, hq⟩ : ∃ q, q = sm.length := ⟨_, rfl⟩
      rw [← hq] at KC
      have dl : ((q : Int) == min (k : Int) 64) = true := by rw [hq, hsl]; simp; omega
      clear G hsm hq hsl hos
      go_wp2_with fail
      (with_reducible refine KC.mono ?_)
      rintro e w3 ⟨rfl, hb3⟩
      have U3 := U.grow hb3
      have KT3 := KT _ U3
      clear KC KT hb3 U
      go_wp2_with fail
      (with_reducible refine KT3.mono ?_)
      rintro e w4 ⟨rfl, hb4⟩
      have hB := (U3.grow hb4).below
      clear KT3 U3 hb4
      go_wp2_with fail
      go_ret
      exact ⟨rfl, hB⟩
end Go.Proofs.YtgpojkofegajeaaGreatDoor
