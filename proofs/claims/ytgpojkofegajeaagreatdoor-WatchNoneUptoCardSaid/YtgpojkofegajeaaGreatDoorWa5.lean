/-
  (*Watch).Add of a right sample.
-/
import Derived.Test.YtgpojkofegajeaaGreatDoorWa4
import Derived.Test.YtgpojkofegajeaaGreatDoorMg20
import Derived.Test.YtgpojkofegajeaaGreatDoorLChk
import Derived.Test.YtgpojkofegajeaaGreatDoorLText
import Derived.Test.YtgpojkofegajeaaGreatDoorLSort
namespace Go.Proofs.YtgpojkofegajeaaGreatDoor
open Go.RowKit FreeSl
set_option maxRecDepth 100000
attribute [local go_sem] out

theorem zeroSer (w : World) : (zeroValue 101).run Tryz.prog w = .ok (.agg #[.slice none 0 0, .slice none 0 0]) w := by simp
theorem infoKeyW : (Tryz.prog.info? 96).map (fun i => (i.zero, i.size, i.bytes)) = some (some (.agg #[.string ⟨#[]⟩, .string ⟨#[]⟩]), 2, 32) := by kernel_rfl
def txtS (ps : List Pr) : ByteArray := ⟨(textL ps).toArray⟩
theorem size_txt (ps : List Pr) : (txtS ps).size = (textL ps).length := by unfold txtS; rw [Lib.size_eq]
set_option maxHeartbeats 8000000 in
theorem wAddNew (m : ByteArray) (lv : Value) (ps : List Pr) (now : Nat) (x : Int) (b : Nat) (rv : Value) (rs : List RuV) (ms : Nat) (sm : List ((ByteArray × ByteArray) × Value)) (ov : Value) (os : List (ByteArray × ByteArray)) (mp : Nat) (ph : List ((Int × ByteArray) × Value)) (mk : Nat) (kn : List ((Int × ByteArray) × Value)) (w : World)
    (hP : (chGrp (wParts b rv rs ms sm ov os mp ph mk kn)).P w) (hl : Rd w 2 lv ps.length (pairCells ps)) (hm : m.size ≤ maxLen) (hps : ∀ p ∈ ps, p.1.size ≤ maxLen ∧ p.2.size ≤ maxLen)
    (hn : nameB m = true) (hc : chkL ps = 0) (hz : (textL ps).length ≤ 1048576) (hlen : ps.length ≤ 1048576) (hk : findK sm (m, txtS ps) = none) (hroom : sm.length < 64) (hos : os.length < 1048576) (hnow : now ≤ 1099511627776) :
    Calls Tryz.prog 9 #[.pointer (some ⟨b, 0, none⟩), .int .u64 now, .agg #[.string m, lv, .int .i64 x]] w fun e w' => e = .returned (.int .i64 0) ∧ ∃ lv' pv' ov', Upd (chGrp (wParts b rv rs ms sm ov os mp ph mk kn)).fp w [chGrp (wParts b rv rs ms (putK sm (m, txtS ps) (.agg #[lv', pv'])) ov' (os ++ [(m, txtS ps)]) mp ph mk kn), chRow 140 2 pv' 1 (ptC (now, x)), chRow 92 2 lv' ps.length (pairCells ps)] w' := by
  have G0 := grp_open hP
  have hB : Blk w b #[rv, .map (some ms), ov, .map (some mp), .map (some mk)] 81 := G0.blk 0 rfl
  have hM : MapAt keyE w ms sm := G0.map 2 rfl
  have KN := fun w' => lName m w' hm
  have KC := fun w' (h : Rd w' 2 lv ps.length (pairCells ps)) => lCheck lv ps w' h hps
  have KT := fun w' (h : Rd w' 2 lv ps.length (pairCells ps)) => labText lv ps w' h (by omega)
  rw [hn] at KN
  rw [hc] at KC
  have hnm : ∀ s : ByteArray × ByteArray, s = (m, txtS ps) → keyE.ok s := fun s e => by
    subst e
    refine ⟨hm, ?_⟩
    unfold txtS maxLen
    rw [Lib.size_eq]
    simp
    omega
  obtain ⟨A, c, rfl, _⟩ := id hl
  have KCl := fun w' (h : Rd w' 2 (.slice A ps.length c) ps.length (pairCells ps)) => clonePairs (.slice A ps.length c) ps w' h hlen
  have U0 := (Upd.nil [] w).alloc #[.string m, .slice A ps.length c, .int .i64 x] 46
  have hBb := fun w' (h : Below w.heap.size w w') => hB.below h hB.lt
  have hMb := fun w' (h : Below w.heap.size w w') => hM.below h
  have hlb := fun w' (h : Below w.heap.size w w') => hl.below h
  clear hm hps hn hc hB hM hl
  go_enter Tryz.func9, Tryz.ntmps9
  go_wp2_with fail
  refine calls_genP fun w1 hw1 => ?_
  have U1 := U0.same hw1
  clear hw1 U0
  (with_reducible refine (KN w1).mono ?_)
  rintro e w2 ⟨rfl, hb2⟩
  have U2 := U1.grow hb2
  have y1 := (U2.blk 0 rfl).cell (j := 1) rfl
  clear U1 hb2
  go_wp2_with fail
  (with_reducible refine (KC w2 (hlb _ U2.below)).mono ?_)
  rintro e w3 ⟨rfl, hb3⟩
  have U3 := U2.grow hb3
  clear U2 hb3 y1 KC KN
  go_upto_region 8 with fail
  have F : ∀ w', Below w3.heap.size w3 w' → w'.cell? ⟨w.heap.size, 0, none⟩ = some (.string m) ∧ w'.cell? ⟨w.heap.size, 1, none⟩ = some (.slice A ps.length c) := fun w' h => ⟨((U3.grow h).blk 0 rfl).cell (j := 0) rfl, ((U3.grow h).blk 0 rfl).cell (j := 1) rfl⟩
  have KT3 := fun w' (h : Below w3.heap.size w3 w') => KT w' (hlb _ (U3.below.trans (h.mono U3.size)))
  refine region_free (fun w' => Below w3.heap.size w3 w') [6] [7] [0, 1, 2, 3, 4, 5, 6] (by kernel_rfl) (by kernel_rfl) (by kernel_rfl) (Below.refl _ _).drew ?_
  repeat (first
    | (refine RelSeq.pure_ (c := ?_) rfl rfl ?_ ?_; rotate_left; (focus (intro x w'; dsimp only; go_simp; (repeat' apply And.intro) <;> first | with_reducible rfl | assumption)); simp only [Act.put, List.setIfInBounds_toArray, List.set_cons_zero, List.set_cons_succ])
    | (refine RelSeq.grow_ (c := ?_) rfl rfl ?_ ?_; rotate_left; (focus (intro x w' hw _; dsimp only; obtain ⟨c0, c1⟩ := F w' hw; have hbr := Below.refl w'.heap.size w'; go_simp; (repeat' apply And.intro) <;> first | with_reducible rfl | assumption)); simp only [Act.put, List.setIfInBounds_toArray, List.set_cons_zero, List.set_cons_succ]))
  refine RelSeq.grow_ (c := .string ⟨(textL ps).toArray⟩) rfl rfl ?_ ?_
  focus
    intro x w' hw _; dsimp only
    go_simp
    (with_reducible refine (KT3 w' hw).mono ?_)
    rintro e w2 ⟨rfl, hb2⟩
    exact ⟨rfl, hw.trans (hb2.mono hw.size), hb2⟩
  simp only [Act.put, List.setIfInBounds_toArray, List.set_cons_zero, List.set_cons_succ]
  repeat (first
    | (refine RelSeq.pure_ (c := ?_) rfl rfl ?_ ?_; rotate_left; (focus (intro x w'; dsimp only; go_simp; (repeat' apply And.intro) <;> first | with_reducible rfl | assumption)); simp only [Act.put, List.setIfInBounds_toArray, List.set_cons_zero, List.set_cons_succ])
    | (refine RelSeq.grow_ (c := ?_) rfl rfl ?_ ?_; rotate_left; (focus (intro x w' hw _; dsimp only; obtain ⟨c0, c1⟩ := F w' hw; have hbr := Below.refl w'.heap.size w'; go_simp; (repeat' apply And.intro) <;> first | with_reducible rfl | assumption)); simp only [Act.put, List.setIfInBounds_toArray, List.set_cons_zero, List.set_cons_succ, List.nil_append, List.cons_append]))
  refine RelSeq.rel_ (NewPt w3.heap.size 0 #[.string ⟨#[]⟩, .string ⟨#[]⟩] 96) rfl rfl NewPt.stable ?_ ?_
  focus
    intro x w' hw _; dsimp only
    have hba : Below w'.heap.size w' (w'.alloc (.cells #[.string ⟨#[]⟩, .string ⟨#[]⟩] 96)) := (Below.refl _ _).alloc (Nat.le_refl _) _
    have hI := hw.trans (hba.mono hw.size)
    have hsz := hw.size
    go_simp
    (repeat' apply And.intro) <;> first | assumption | exact ⟨_, rfl, hsz, Blk.new _ _ _⟩ | exact fun _ => ⟨_, rfl, Nat.le_refl _, by simp⟩
  simp only [Act.put, List.setIfInBounds_toArray, List.set_cons_zero, List.set_cons_succ, List.nil_append]
  refine RelSeq.nil_ fun xv w4 hw hf _ => ?_
  obtain ⟨kb, e1, hkb, hK⟩ := hf _ (.head _)

  simp only [e1]
  have U4 := U3.add hw (chBlk kb _ 96) hK (fun q hq => by rw [chBlk_fp.1 hq]; exact hkb)
  clear hf hw F KT3 KT U3 hK e1
  have z0 := (U4.blk 0 rfl).cell (j := 0) rfl
  have z1 := (U4.blk 0 rfl).cell (j := 1) rfl
  have zf := (U4.blk 0 rfl).frozen
  refine TailSeq.cons_ rfl ?_
  go_simp
  refine TailSeq.nil_gen fun w5 hw5 => ?_
  have U5 := ((U4.put 0 rfl 0 (.string m)).put 0 rfl 1 (.string ⟨(textL ps).toArray⟩)).same hw5
  simp only [List.setIfInBounds_toArray, List.set_cons_succ, List.set_cons_zero, List.eraseIdx_cons_zero] at U5
  clear hw5 U4 z0 z1 zf
  go_upto_region 9 with fail
  have LK : ∀ w', Below w5.heap.size w5 w' → (Instr.lookup 76 (.map (some ms)) (.agg #[.string m, .string ⟨(textL ps).toArray⟩]) true).run Tryz.prog w' = .ok (.tuple #[.agg #[.slice none 0 0, .slice none 0 0], .bool false]) w' := fun w' h => map_look (t := 76) Tryz.underlying76 (hMb _ (U5.grow h).below) (zeroSer _) (m, txtS ps) (hnm _ rfl) false (.agg #[.slice none 0 0, .slice none 0 0]) (by rw [hk]; rfl) (by rw [hk]; rfl)
  have F : ∀ w', Below w5.heap.size w5 w' → w'.cell? ⟨kb, 0, none⟩ = some (.string m) ∧ w'.cell? ⟨kb, 1, none⟩ = some (.string ⟨(textL ps).toArray⟩) ∧ w'.cell? ⟨b, 1, none⟩ = some (.map (some ms)) ∧ (Instr.lookup 76 (.map (some ms)) (.agg #[.string m, .string ⟨(textL ps).toArray⟩]) true).run Tryz.prog w' = .ok (.tuple #[.agg #[.slice none 0 0, .slice none 0 0], .bool false]) w' := fun w' h => ⟨((U5.grow h).blk 0 rfl).cell (j := 0) rfl, ((U5.grow h).blk 0 rfl).cell (j := 1) rfl, (hBb _ (U5.grow h).below).cell (j := 1) rfl, LK w' h⟩
  refine region_free (fun w' => Below w5.heap.size w5 w') [9] [10, 11] [0, 1, 2, 3, 4, 5, 6, 7, 8, 9] (by kernel_rfl) (by kernel_rfl) (by kernel_rfl) (Below.refl _ _).drew ?_
  repeat (first
    | (refine RelSeq.pure_ (c := ?_) rfl rfl ?_ ?_; rotate_left; (focus (intro x w'; dsimp only; go_simp; (repeat' apply And.intro) <;> first | with_reducible rfl | assumption)); simp only [Act.put, List.setIfInBounds_toArray, List.set_cons_zero, List.set_cons_succ])
    | (refine RelSeq.grow_ (c := ?_) rfl rfl ?_ ?_; rotate_left; (focus (intro x w' hw _; dsimp only; obtain ⟨c0, c1, c2, l⟩ := F w' hw; have hbr := Below.refl w'.heap.size w'; go_simp; (repeat' apply And.intro) <;> first | with_reducible rfl | assumption)); simp only [Act.put, List.setIfInBounds_toArray, List.set_cons_zero, List.set_cons_succ]))
  refine RelSeq.rel_ (NewPt w5.heap.size 0 #[.slice none 0 0, .slice none 0 0] 101) rfl rfl NewPt.stable ?_ ?_
  focus
    intro x w' hw _; dsimp only
    have hba : Below w'.heap.size w' (w'.alloc (.cells #[.slice none 0 0, .slice none 0 0] 101)) := (Below.refl _ _).alloc (Nat.le_refl _) _
    have hI := hw.trans (hba.mono hw.size)
    have hsz := hw.size
    go_simp
    (repeat' apply And.intro) <;> first | assumption | exact ⟨_, rfl, hsz, Blk.new _ _ _⟩ | exact fun _ => ⟨_, rfl, Nat.le_refl _, by simp⟩
  simp only [Act.put, List.setIfInBounds_toArray, List.set_cons_zero, List.set_cons_succ, List.nil_append]
  refine RelSeq.nil_ fun xv w6 hw hf _ => ?_
  obtain ⟨sb, e1, hsb, hS⟩ := hf _ (.head _)
  simp only [e1]
  have U6 := U5.add hw (chBlk sb _ 101) hS (fun q hq => by rw [chBlk_fp.1 hq]; exact hsb)
  clear hf hw F LK U5 hS e1
  have z0 := (U6.blk 0 rfl).cell (j := 0) rfl
  have z1 := (U6.blk 0 rfl).cell (j := 1) rfl
  have zf := (U6.blk 0 rfl).frozen
  refine TailSeq.cons_ rfl ?_
  go_simp
  refine TailSeq.cons_ rfl ?_
  go_simp
  refine TailSeq.nil_gen fun w7 hw7 => ?_
  have U7 := ((U6.put 0 rfl 0 (.slice none 0 0)).put 0 rfl 1 (.slice none 0 0)).same hw7
  simp only [List.setIfInBounds_toArray, List.set_cons_succ, List.set_cons_zero, List.eraseIdx_cons_zero] at U7
  clear hw7 U6 z0 z1 zf
  have LN := fun ty => map_len (t := 76) Tryz.underlying76 (hMb _ U7.below) ty
  have dn : ((sm.length : Int) == 64) = false := by simp; omega
  have b1 := (hBb _ U7.below).cell (j := 1) rfl
  have y1 := (U7.blk 2 rfl).cell (j := 1) (v := .slice A ps.length c) rfl
  have hl7 := hlb _ U7.below
  go_wp2_with fail
  (with_reducible refine (KCl _ hl7).mono ?_)
  rintro e w8 ⟨lv', rfl, hlv, hb8⟩
  obtain ⟨A8, c8, rfl⟩ := owns_slice hlv
  have U8 := U7.addRow hb8 hlv (Nat.le_refl _)
  have z0 := (U8.blk 1 rfl).cell (j := 0) (v := .slice none 0 0) rfl
  have zf := (U8.blk 1 rfl).frozen
  have y2 := (U8.blk 3 rfl).cell (j := 2) rfl
  clear hMb hBb hlb LN b1 y1 hl7 KCl hb8 hlv U7

  go_wp2_with fail
  refine calls_genP fun w9 hw9 => ?_
  have U9 := (U8.put 1 rfl 0 (.slice A8 ps.length c8)).same hw9
  simp only [List.setIfInBounds_toArray, List.set_cons_zero, List.eraseIdx_cons_succ, List.eraseIdx_cons_zero] at U9
  clear hw9 U8 z0 zf y2
  have U10 := G0.call U9
  have KA := serAdd sb (.slice A8 ps.length c8) (.slice none 0 0) [] now x w9 (U9.blk 0 rfl) (World.ownsRow_nil _ _ _ _) hnow (by simp) (by simp)
  clear G0 U9
  (with_reducible refine KA.mono ?_)
  rintro e w10 ⟨rfl, pv', hu⟩
  have U12 := U10.turn 0 rfl hu
  obtain ⟨A10, c10, rfl⟩ := owns_slice (U12.row 1 rfl)
  simp only [List.eraseIdx_cons_zero, List.cons_append, List.nil_append] at U12
  have U13 := U12
  unfold wParts at U13
  obtain ⟨Ao, co, rfl⟩ := owns_slice (U13.row 8 rfl)
  obtain ⟨i0, hi, hz0, hz1, hz2⟩ := info_parts infoKeyW
  clear KA hu U10 U12
  go_upto_region 18 with fail
  refine wp_gen fun w11 hw11 => ?_
  have U14 := U13.same hw11
  clear hw11 U13
  have F : ∀ w', Below w11.heap.size w11 w' → w'.cell? ⟨kb, 0, none⟩ = some (.string m) ∧ w'.cell? ⟨kb, 1, none⟩ = some (.string ⟨(textL ps).toArray⟩) ∧ w'.cell? ⟨b, 2, none⟩ = some (.slice Ao os.length co) := fun w' h => ⟨((U14.grow h).blk 3 rfl).cell (j := 0) rfl, ((U14.grow h).blk 3 rfl).cell (j := 1) rfl, ((U14.grow h).blk 5 rfl).cell (j := 2) rfl⟩
  refine region_free (fun w' => Below w11.heap.size w11 w') [6] [7, 8, 9, 10] [0, 1, 2, 3, 4, 5, 6] (by kernel_rfl) (by kernel_rfl) (by kernel_rfl) (Below.refl _ _).drew ?_
  repeat (first
    | (refine RelSeq.pure_ (c := ?_) rfl rfl ?_ ?_; rotate_left; (focus (intro x w'; dsimp only; go_simp; (repeat' apply And.intro) <;> first | with_reducible rfl | assumption)); simp only [Act.put, List.setIfInBounds_toArray, List.set_cons_zero, List.set_cons_succ])
    | (refine RelSeq.grow_ (c := ?_) rfl rfl ?_ ?_; rotate_left; (focus (intro x w' hw _; dsimp only; obtain ⟨c0, c1, c2⟩ := F w' hw; have hbr := Below.refl w'.heap.size w'; go_simp; (repeat' apply And.intro) <;> first | with_reducible rfl | assumption)); simp only [Act.put, List.setIfInBounds_toArray, List.set_cons_zero, List.set_cons_succ]))
  refine RelSeq.rel_ (NewSl w11.heap.size 1 #[.string m, .string ⟨(textL ps).toArray⟩] 96) rfl rfl NewSl.stable ?_ ?_
  focus
    intro x w' hw _; dsimp only
    have hba : Below w'.heap.size w' (w'.alloc (.cells #[.string m, .string ⟨(textL ps).toArray⟩] 96)) := (Below.refl _ _).alloc (Nat.le_refl _) _
    have hI := hw.trans (hba.mono hw.size)
    have hsz := hw.size
    go_simp
    (repeat' apply And.intro) <;> first | assumption | exact ⟨_, rfl, hsz, Blk.new _ _ _⟩ | exact fun _ => ⟨_, rfl, Nat.le_refl _, by simp⟩ | rfl
  simp only [Act.put, List.setIfInBounds_toArray, List.set_cons_zero, List.set_cons_succ, List.nil_append]
  refine RelSeq.nil_ fun xv w12 hw hf _ => ?_
  obtain ⟨tb, e9, htb, hTb⟩ := hf _ (.head _)
  have U15 := U14.add hw (chBlk tb _ 96) hTb (fun q hq => by rw [chBlk_fp.1 hq]; exact htb)
  clear hf hw F U14 hTb
  refine TailSeq.cons_ rfl ?_
  refine wp_append_rd (.tmp 67) (.tmp 69) 79 rfl 0 96 i0 _ 2 32 Tryz.underlying79 hi hz0 hz1 hz2 rfl (by decide) (.slice Ao os.length co) os.length _ rfl (U15.row 9 rfl) (.slice (some ⟨tb, 0, none⟩) 1 1) 1 _ (by exact e9) (rd_oneW (U15.blk 0 rfl) (n := 2) rfl) (by intro u hu; simp at hu; rcases hu with rfl | rfl <;> rfl) (by unfold maxLen; omega) (by omega) (Nat.zero_le _) fun v16 w16 hown16 hgr16 hv16 => ?_
  refine ⟨rfl, ?_⟩
  have U16 := U15.app 9 rfl hown16 hgr16 hv16
  simp only [List.eraseIdx_cons_succ, List.eraseIdx_cons_zero] at U16
  obtain ⟨A16, c16, rfl⟩ := owns_slice hown16
  clear U15 hown16 hgr16 hv16 e9
  simp only [out, Act.put, List.setIfInBounds_toArray, List.set_cons_zero, List.set_cons_succ]
  refine TailSeq.cons_ rfl ?_
  go_simp
  refine TailSeq.cons_ rfl ?_
  go_simp
  refine TailSeq.cons_ rfl ?_
  have d1 := (U16.blk 7 rfl).cell (j := 2) rfl
  have f1 := (U16.blk 7 rfl).frozen
  go_simp
  refine TailSeq.nil_gen fun w17 hw17 => ?_
  have U17 := (U16.put 7 rfl 2 (.slice A16 (os.length + 1) c16)).same hw17
  simp only [List.setIfInBounds_toArray, List.set_cons_succ, List.set_cons_zero, List.eraseIdx_cons_succ, List.eraseIdx_cons_zero] at U17
  clear hw17 U16 d1 f1
  go_upto_region 19 with fail
  have F : ∀ w', Below w17.heap.size w17 w' → w'.cell? ⟨kb, 0, none⟩ = some (.string m) ∧ w'.cell? ⟨kb, 1, none⟩ = some (.string ⟨(textL ps).toArray⟩) ∧ w'.cell? ⟨b, 1, none⟩ = some (.map (some ms)) ∧ w'.cell? ⟨sb, 0, none⟩ = some (.slice A8 ps.length c8) ∧ w'.cell? ⟨sb, 1, none⟩ = some (.slice A10 1 c10) := fun w' h => ⟨((U17.grow h).blk 6 rfl).cell (j := 0) rfl, ((U17.grow h).blk 6 rfl).cell (j := 1) rfl, ((U17.grow h).blk 0 rfl).cell (j := 1) rfl, ((U17.grow h).blk 3 rfl).cell (j := 0) rfl, ((U17.grow h).blk 3 rfl).cell (j := 1) rfl⟩
  refine region_free (fun w' => Below w17.heap.size w17 w') [] [6] [0, 1, 2, 3, 4, 5] (by kernel_rfl) (by kernel_rfl) (by kernel_rfl) (Below.refl _ _).drew ?_
  repeat (first
    | (refine RelSeq.pure_ (c := ?_) rfl rfl ?_ ?_; rotate_left; (focus (intro x w'; dsimp only; go_simp; (repeat' apply And.intro) <;> first | with_reducible rfl | assumption)); simp only [Act.put, List.setIfInBounds_toArray, List.set_cons_zero, List.set_cons_succ])
    | (refine RelSeq.grow_ (c := ?_) rfl rfl ?_ ?_; rotate_left; (focus (intro x w' hw _; dsimp only; obtain ⟨c0, c1, c2, c3, c4⟩ := F w' hw; have hbr := Below.refl w'.heap.size w'; go_simp; (repeat' apply And.intro) <;> first | with_reducible rfl | assumption)); simp only [Act.put, List.setIfInBounds_toArray, List.set_cons_zero, List.set_cons_succ]))
  refine RelSeq.nil_ fun xv w18 hw _ _ => ?_
  have U18 := U17.grow hw
  obtain ⟨w19, hput, hm19, hg19, hz19⟩ := map_put (t := 76) Tryz.underlying76 (U18.map 9 rfl) (m, txtS ps) (hnm _ rfl) (.agg #[(.slice A8 ps.length c8), (.slice A10 1 c10)])
  have hput : (Instr.mapUpdate 76 (.map (some ms)) (.agg #[.string m, .string ⟨(textL ps).toArray⟩]) (.agg #[(.slice A8 ps.length c8), (.slice A10 1 c10)])).run Tryz.prog w18 = .ok () w19 := hput
  have U19 := U18.putMap 9 rfl hm19 hg19
  simp only [List.eraseIdx_cons_succ, List.eraseIdx_cons_zero] at U19
  clear hw F U17 U18 hm19 hg19 hz19
  refine TailSeq.cons_ rfl ?_
  go_simp
  refine TailSeq.nil_gen fun w21 hw21 => ?_
  have U21 := U19.same hw21
  clear hput hw21 U19
  go_wp2_with fail
  go_ret
  refine ⟨rfl, .slice A8 ps.length c8, .slice A10 1 c10, .slice A16 (os.length + 1) c16, ?_⟩
  have U22 := U21.pick [1, 9, 0, 2, 10, 11, 5, 6] (by decide)
  simp only [List.filterMap_cons, List.filterMap_nil, List.getElem?_cons_zero, List.getElem?_cons_succ] at U22
  have e1 : os.length + 1 = (os ++ [(m, txtS ps)]).length := by simp
  have e2 : pairCells os ++ [.string m, .string ⟨(textL ps).toArray⟩] = pairCells (os ++ [(m, txtS ps)]) := by simp [pairCells, txtS]
  rw [e1, e2] at U22
  rw [e1]
  exact Upd.grp (l := wParts b rv rs ms (putK sm (m, txtS ps) (.agg #[.slice A8 ps.length c8, .slice A10 1 c10])) (.slice A16 (os ++ [(m, txtS ps)]).length c16) (os ++ [(m, txtS ps)]) mp ph mk kn) U22
end Go.Proofs.YtgpojkofegajeaaGreatDoor
