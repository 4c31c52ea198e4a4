/-
  Notices: which alerts are in a state, a notice's text; an alert is the same L itself.
-/
import Derived.Test.YtdghpjkjhlankaaRefV
import Derived.Test.YtdghpjkjhlankaaOne
import Derived.Test.YtdghpjkjhlankaaAlert
import Derived.Test.YtdghpjkjhlankaaSt2
import Derived.Test.YtdghpjkjhlankaaBut
import Derived.WalkSpells
namespace Go.Proofs.Ytdghpjkjhlankaa
open Go.RowKit FreeOrd
set_option maxRecDepth 100000
attribute [local go_sem] out

structure AlV where
  o : Nat
  rule : ByteArray
  lv : Value
  ps : List (ByteArray × ByteArray)
  st : Nat
  since : Nat
  prio : Nat
  val : Int
def al7 (a : AlV) : List Value := [.int .u8 a.o, .string a.rule, a.lv, .int .u8 a.st, .int .u64 a.since, .int .u8 a.prio, .int .i64 a.val]
structure AlV.ok (a : AlV) (w : World) : Prop where
  o : a.o < 256
  rule : a.rule.size ≤ 1048576
  rd : Rd w 2 a.lv a.ps.length (pairCells a.ps)
  pz : (textL a.ps).length ≤ 100000000
  st : a.st < 256
  since : a.since < 18446744073709551616
  val : -9223372036854775808 ≤ a.val ∧ a.val ≤ 9223372036854775807
theorem AlV.ok.below {a : AlV} {w w' : World} (h : a.ok w) (hb : Below w.heap.size w w') : a.ok w' := ⟨h.o, h.rule, h.rd.below hb, h.pz, h.st, h.since, h.val⟩
theorem infoAlert : (Try.prog.info? 45).map (fun i => (i.zero, i.size, i.bytes)) = some (some (.agg #[.int .u8 0, .string ⟨#[]⟩, .slice none 0 0, .int .u8 0, .int .u64 0, .int .u8 0, .int .i64 0]), 7, 80) := by kernel_rfl
theorem take_snocV {α : Type} {l : List α} {k : Nat} {a : α} (h : l[k]? = some a) : l.take (k + 1) = l.take k ++ [a] := by
  rw [List.take_add_one, h]; rfl

set_option maxHeartbeats 4000000 in
theorem viewTold (nt : Nat) (to : ByteArray) (Ag : Option Addr) (ng cg : Nat) (av : Value) (L : List AlV) (s : Nat) (w : World) (hr : Rd w 7 av L.length (L.flatMap al7)) (hsh : ∀ a ∈ L, ∃ A n c, a.lv = .slice A n c) (hlen : L.length ≤ 1048576) :
    Calls Try.prog 14 #[.agg #[.int .u64 nt, .string to, .slice Ag ng cg, av], .int .u8 s] w fun e w' => ∃ v, e = .returned v ∧
      w'.ownsRow w.heap.size 45 7 v (L.filter fun a => decide (a.st = s)).length ((L.filter fun a => decide (a.st = s)).flatMap al7) ∧ Below w.heap.size w w' := by
  obtain ⟨i0, hi, hz0, hz1, hz2⟩ := info_parts infoAlert
  obtain ⟨A, c, rfl, h1, h2, h3, h4⟩ := hr
  unfold maxLen at h3
  obtain ⟨n, hn⟩ : ∃ n, n = L.length := ⟨_, rfl⟩
  rw [← hn] at h2 h4 hlen ⊢
  have HN := Lib.hid hn
  clear hn h1
  go_enter Try.func14, Try.ntmps14
  go_wp2_with fail
  have S0 := ((Upd.nil [] w).alloc #[.int .u64 nt, .string to, .slice Ag ng cg, .slice A n c] 52).nilRow 45 7
  go_loopw [5, 11] (fun v i wr => ∃ k, k ≤ n ∧ i = .int .i64 k ∧ Upd [] w [chRow 45 7 v ((L.take k).filter fun a => decide (a.st = s)).length (((L.take k).filter fun a => decide (a.st = s)).flatMap al7)] wr) (fun _ i _ => n - (intOf i).toNat)
  case atStart => exact ⟨0, Nat.zero_le _, rfl, S0.drop 1⟩
  case round =>
    obtain ⟨k, hk, rfl, S1⟩ := hrel
    clear S0
    obtain ⟨Av, cv, rfl⟩ := owns_slice (S1.row 0 rfl)
    by_cases hkn : k < n
    · obtain ⟨a, ha⟩ : ∃ a, L[k]? = some a := ⟨_, List.getElem?_eq_getElem (by rw [← HN.out]; exact hkn)⟩
      obtain ⟨b, o, rfl, hat⟩ := h4 (by omega)
      obtain ⟨Al, nl, cl, hlv⟩ := hsh a (List.mem_of_getElem? ha)
      have e0 := fun j hj => flat_at al7 7 (fun _ => rfl) L k a ha j hj
      have ht := take_snocV ha
      have hf : ((L.take (k + 1)).filter fun a => decide (a.st = s)) = ((L.take k).filter fun a => decide (a.st = s)) ++ if a.st = s then [a] else [] := by
        rw [ht, List.filter_append]
        by_cases h : a.st = s <;> simp [h]
      have hfl : ((L.take k).filter fun a => decide (a.st = s)).length ≤ 1048576 := by
        have := List.length_filter_le (fun a : AlV => decide (a.st = s)) (L.take k)
        rw [List.length_take] at this
        omega
      generalize ((L.take k).filter fun a => decide (a.st = s)) = fk at S1 hf hfl ⊢
      have HF := Lib.hid hf
      obtain ⟨ao, ar, lv, aps, ast, asi, apr, ava⟩ := a
      simp only at hlv
      subst hlv
      have hbe := S1.below
      have x0 := hat.nth0 hbe (k * 7) (.int .u8 ao) (e0 0 (by omega))
      have x1 := hat.nth hbe (k * 7) 1 (.string ar) (e0 1 (by omega))
      have x2 := hat.nth hbe (k * 7) 2 (.slice Al nl cl) (e0 2 (by omega))
      have x3 := hat.nth hbe (k * 7) 3 (.int .u8 ast) (e0 3 (by omega))
      have x4 := hat.nth hbe (k * 7) 4 (.int .u64 asi) (e0 4 (by omega))
      have x5 := hat.nth hbe (k * 7) 5 (.int .u8 apr) (e0 5 (by omega))
      have x6 := hat.nth hbe (k * 7) 6 (.int .i64 ava) (e0 6 (by omega))
      clear ha hat e0 hbe ht hf h4
      by_cases hs : ast = s
      · have hs1 : ((ast : Int) == (s : Int)) = true := by simp [hs]
        have HS := Lib.hid hs
        clear hs
        go_wp2_with (at_builtin; refine wpl_stop fun W hW => ?_)
        refine Stopped.mk ?_
        (try rw [← hW])
        have T1 := (S1.alloc #[.int .u8 ao, .string ar, .slice Al nl cl, .int .u8 ast, .int .u64 asi, .int .u8 apr, .int .i64 ava] 45).alloc #[.int .u8 ao, .string ar, .slice Al nl cl, .int .u8 ast, .int .u64 asi, .int .u8 apr, .int .i64 ava] 45
        simp only [World.size_alloc] at T1
        have T2 := T1.same hW
        clear hW T1 S1 x0 x1 x2 x3 x4 x5 x6
        refine wpl_append_rd rfl (.tmp 19) (.tmp 21) 50 rfl 0 45 i0 _ 7 80 Try.underlying50 hi hz0 hz1 hz2 rfl (by decide) _ fk.length _ rfl (T2.row 2 rfl) _ 1 _ rfl (rd_one (T2.blk 0 rfl) (n := 7) rfl) (by intro u hu; simp at hu; rcases hu with rfl | rfl | rfl | rfl | rfl | rfl | rfl <;> rfl) (by unfold maxLen; omega) (by omega) (Nat.zero_le _) fun v4 w4 hown4 hgr4 hv4 => ?_
        have T3 := (T2.app 2 rfl hown4 hgr4 hv4).pick [0] (by decide)
        simp only [List.filterMap_cons, List.filterMap_nil, List.getElem?_cons_zero] at T3
        obtain ⟨A4, c4, rfl⟩ := owns_slice hown4
        clear hown4 hgr4 hv4 T2
        go_wp2_with fail
        go_roundw
        case rel => exact ⟨k + 1, by omega, by go_num, by rw [HF.out, if_pos HS.out, List.length_append, List.flatMap_append, List.flatMap_singleton]; exact T3⟩
        case measure => simp [intOf]; omega
      · have hs1 : ((ast : Int) == (s : Int)) = false := by simp; omega
        have HS := Lib.hid hs
        have S2 := S1.grow ((Below.refl wr.heap.size wr).alloc (Nat.le_refl _) (.cells #[.int .u8 ao, .string ar, .slice Al nl cl, .int .u8 ast, .int .u64 asi, .int .u8 apr, .int .i64 ava] 45))
        clear hs S1
        go_wp2_with fail
        go_roundw
        case rel => exact ⟨k + 1, by omega, by go_num, by rw [HF.out, if_neg HS.out, List.append_nil]; exact S2⟩
        case measure => simp [intOf]; omega
    · obtain rfl : k = n := by omega
      have hkk : decide ((k : Int) < (k : Int)) = false := by simp
      have hrow := S1.row 0 rfl
      have hfr : ∀ g, (Value.slice Av ((L.take k).filter fun a => decide (a.st = s)).length cv).ownBlock = some g → w.heap.size ≤ g := fun g hg => by
        rcases S1.own _ (.head _) g (chRow_fp.2 hg) with h | h
        · cases h
        · exact h
      have hrow2 := owns_base hrow hfr
      have hbe := S1.below
      have htk : L.take k = L := by rw [HN.out, List.take_length]
      rw [htk] at hrow2
      have HR := Lib.hid hrow2
      have HT := Lib.hid htk
      clear hrow hfr hrow2 htk S1
      go_wp2_with fail
      go_ret
      exact ⟨_, rfl, by rw [HT.out]; exact HR.out, hbe⟩

theorem oneB_self (o : Nat) (r : ByteArray) (ps : List (ByteArray × ByteArray)) : oneB o r ps o r ps = true := by
  have : sameB ps ps = true := by
    unfold sameB
    simp
  unfold oneB
  simp [this]
set_option maxHeartbeats 2000000 in
theorem sameAlertSelf (a : AlV) (w : World) (h : Rd w 2 a.lv a.ps.length (pairCells a.ps)) :
    Calls Try.prog 18 #[.agg (al7 a).toArray, .agg (al7 a).toArray] w fun e w' => e = .returned (.bool true) ∧ Below w.heap.size w w' := by
  obtain ⟨ao, ar, lv, aps, ast, asi, apr, ava⟩ := a
  simp only at h
  have h0 := h
  obtain ⟨Al, cl, rfl, _⟩ := h
  have hw : Below w.heap.size w ((w.alloc (.cells #[.int .u8 ao, .string ar, .slice Al aps.length cl, .int .u8 ast, .int .u64 asi, .int .u8 apr, .int .i64 ava] 45)).alloc (.cells #[.int .u8 ao, .string ar, .slice Al aps.length cl, .int .u8 ast, .int .u64 asi, .int .u8 apr, .int .i64 ava] 45)) := ((Below.refl _ _).alloc (Nat.le_refl _) _).alloc (by simp) _
  have kO := refOne ao ao ar ar _ _ aps aps (.int .u8 ast) (.int .u64 asi) (.int .u8 apr) (.int .i64 ava) (.int .u8 ast) (.int .u64 asi) (.int .u8 apr) (.int .i64 ava) ((w.alloc (.cells #[.int .u8 ao, .string ar, .slice Al aps.length cl, .int .u8 ast, .int .u64 asi, .int .u8 apr, .int .i64 ava] 45)).alloc (.cells #[.int .u8 ao, .string ar, .slice Al aps.length cl, .int .u8 ast, .int .u64 asi, .int .u8 apr, .int .i64 ava] 45)) (h0.below hw) (h0.below hw)
  rw [oneB_self] at kO
  simp only [al7]
  clear h0
  go_enter Try.func18, Try.ntmps18
  go_wp2_with fail
  (with_reducible refine kO.mono ?_)
  rintro e w1 ⟨rfl, hb1⟩
  have b00 := cell_later hb1 (show ((w.alloc (.cells #[.int .u8 ao, .string ar, .slice Al aps.length cl, .int .u8 ast, .int .u64 asi, .int .u8 apr, .int .i64 ava] 45)).alloc (.cells #[.int .u8 ao, .string ar, .slice Al aps.length cl, .int .u8 ast, .int .u64 asi, .int .u8 apr, .int .i64 ava] 45)).cell? ⟨w.heap.size, 0, none⟩ = some (.int .u8 ao) from by exact (Blk.new w #[.int .u8 ao, .string ar, .slice Al aps.length cl, .int .u8 ast, .int .u64 asi, .int .u8 apr, .int .i64 ava] 45).alloc _ |>.cell rfl)
  have b01 := cell_later hb1 (show ((w.alloc (.cells #[.int .u8 ao, .string ar, .slice Al aps.length cl, .int .u8 ast, .int .u64 asi, .int .u8 apr, .int .i64 ava] 45)).alloc (.cells #[.int .u8 ao, .string ar, .slice Al aps.length cl, .int .u8 ast, .int .u64 asi, .int .u8 apr, .int .i64 ava] 45)).cell? ⟨w.heap.size, 1, none⟩ = some (.string ar) from by exact (Blk.new w #[.int .u8 ao, .string ar, .slice Al aps.length cl, .int .u8 ast, .int .u64 asi, .int .u8 apr, .int .i64 ava] 45).alloc _ |>.cell rfl)
  have b02 := cell_later hb1 (show ((w.alloc (.cells #[.int .u8 ao, .string ar, .slice Al aps.length cl, .int .u8 ast, .int .u64 asi, .int .u8 apr, .int .i64 ava] 45)).alloc (.cells #[.int .u8 ao, .string ar, .slice Al aps.length cl, .int .u8 ast, .int .u64 asi, .int .u8 apr, .int .i64 ava] 45)).cell? ⟨w.heap.size, 2, none⟩ = some (.slice Al aps.length cl) from by exact (Blk.new w #[.int .u8 ao, .string ar, .slice Al aps.length cl, .int .u8 ast, .int .u64 asi, .int .u8 apr, .int .i64 ava] 45).alloc _ |>.cell rfl)
  have b03 := cell_later hb1 (show ((w.alloc (.cells #[.int .u8 ao, .string ar, .slice Al aps.length cl, .int .u8 ast, .int .u64 asi, .int .u8 apr, .int .i64 ava] 45)).alloc (.cells #[.int .u8 ao, .string ar, .slice Al aps.length cl, .int .u8 ast, .int .u64 asi, .int .u8 apr, .int .i64 ava] 45)).cell? ⟨w.heap.size, 3, none⟩ = some (.int .u8 ast) from by exact (Blk.new w #[.int .u8 ao, .string ar, .slice Al aps.length cl, .int .u8 ast, .int .u64 asi, .int .u8 apr, .int .i64 ava] 45).alloc _ |>.cell rfl)
  have b04 := cell_later hb1 (show ((w.alloc (.cells #[.int .u8 ao, .string ar, .slice Al aps.length cl, .int .u8 ast, .int .u64 asi, .int .u8 apr, .int .i64 ava] 45)).alloc (.cells #[.int .u8 ao, .string ar, .slice Al aps.length cl, .int .u8 ast, .int .u64 asi, .int .u8 apr, .int .i64 ava] 45)).cell? ⟨w.heap.size, 4, none⟩ = some (.int .u64 asi) from by exact (Blk.new w #[.int .u8 ao, .string ar, .slice Al aps.length cl, .int .u8 ast, .int .u64 asi, .int .u8 apr, .int .i64 ava] 45).alloc _ |>.cell rfl)
  have b05 := cell_later hb1 (show ((w.alloc (.cells #[.int .u8 ao, .string ar, .slice Al aps.length cl, .int .u8 ast, .int .u64 asi, .int .u8 apr, .int .i64 ava] 45)).alloc (.cells #[.int .u8 ao, .string ar, .slice Al aps.length cl, .int .u8 ast, .int .u64 asi, .int .u8 apr, .int .i64 ava] 45)).cell? ⟨w.heap.size, 5, none⟩ = some (.int .u8 apr) from by exact (Blk.new w #[.int .u8 ao, .string ar, .slice Al aps.length cl, .int .u8 ast, .int .u64 asi, .int .u8 apr, .int .i64 ava] 45).alloc _ |>.cell rfl)
  have b06 := cell_later hb1 (show ((w.alloc (.cells #[.int .u8 ao, .string ar, .slice Al aps.length cl, .int .u8 ast, .int .u64 asi, .int .u8 apr, .int .i64 ava] 45)).alloc (.cells #[.int .u8 ao, .string ar, .slice Al aps.length cl, .int .u8 ast, .int .u64 asi, .int .u8 apr, .int .i64 ava] 45)).cell? ⟨w.heap.size, 6, none⟩ = some (.int .i64 ava) from by exact (Blk.new w #[.int .u8 ao, .string ar, .slice Al aps.length cl, .int .u8 ast, .int .u64 asi, .int .u8 apr, .int .i64 ava] 45).alloc _ |>.cell rfl)
  have b10 := cell_later hb1 (show ((w.alloc (.cells #[.int .u8 ao, .string ar, .slice Al aps.length cl, .int .u8 ast, .int .u64 asi, .int .u8 apr, .int .i64 ava] 45)).alloc (.cells #[.int .u8 ao, .string ar, .slice Al aps.length cl, .int .u8 ast, .int .u64 asi, .int .u8 apr, .int .i64 ava] 45)).cell? ⟨w.heap.size + 1, 0, none⟩ = some (.int .u8 ao) from by have := (Blk.new (w.alloc (.cells #[.int .u8 ao, .string ar, .slice Al aps.length cl, .int .u8 ast, .int .u64 asi, .int .u8 apr, .int .i64 ava] 45)) #[.int .u8 ao, .string ar, .slice Al aps.length cl, .int .u8 ast, .int .u64 asi, .int .u8 apr, .int .i64 ava] 45).cell (j := 0) (v := .int .u8 ao) rfl; rwa [World.size_alloc] at this)
  have b11 := cell_later hb1 (show ((w.alloc (.cells #[.int .u8 ao, .string ar, .slice Al aps.length cl, .int .u8 ast, .int .u64 asi, .int .u8 apr, .int .i64 ava] 45)).alloc (.cells #[.int .u8 ao, .string ar, .slice Al aps.length cl, .int .u8 ast, .int .u64 asi, .int .u8 apr, .int .i64 ava] 45)).cell? ⟨w.heap.size + 1, 1, none⟩ = some (.string ar) from by have := (Blk.new (w.alloc (.cells #[.int .u8 ao, .string ar, .slice Al aps.length cl, .int .u8 ast, .int .u64 asi, .int .u8 apr, .int .i64 ava] 45)) #[.int .u8 ao, .string ar, .slice Al aps.length cl, .int .u8 ast, .int .u64 asi, .int .u8 apr, .int .i64 ava] 45).cell (j := 1) (v := .string ar) rfl; rwa [World.size_alloc] at this)
  have b12 := cell_later hb1 (show ((w.alloc (.cells #[.int .u8 ao, .string ar, .slice Al aps.length cl, .int .u8 ast, .int .u64 asi, .int .u8 apr, .int .i64 ava] 45)).alloc (.cells #[.int .u8 ao, .string ar, .slice Al aps.length cl, .int .u8 ast, .int .u64 asi, .int .u8 apr, .int .i64 ava] 45)).cell? ⟨w.heap.size + 1, 2, none⟩ = some (.slice Al aps.length cl) from by have := (Blk.new (w.alloc (.cells #[.int .u8 ao, .string ar, .slice Al aps.length cl, .int .u8 ast, .int .u64 asi, .int .u8 apr, .int .i64 ava] 45)) #[.int .u8 ao, .string ar, .slice Al aps.length cl, .int .u8 ast, .int .u64 asi, .int .u8 apr, .int .i64 ava] 45).cell (j := 2) (v := .slice Al aps.length cl) rfl; rwa [World.size_alloc] at this)
  have b13 := cell_later hb1 (show ((w.alloc (.cells #[.int .u8 ao, .string ar, .slice Al aps.length cl, .int .u8 ast, .int .u64 asi, .int .u8 apr, .int .i64 ava] 45)).alloc (.cells #[.int .u8 ao, .string ar, .slice Al aps.length cl, .int .u8 ast, .int .u64 asi, .int .u8 apr, .int .i64 ava] 45)).cell? ⟨w.heap.size + 1, 3, none⟩ = some (.int .u8 ast) from by have := (Blk.new (w.alloc (.cells #[.int .u8 ao, .string ar, .slice Al aps.length cl, .int .u8 ast, .int .u64 asi, .int .u8 apr, .int .i64 ava] 45)) #[.int .u8 ao, .string ar, .slice Al aps.length cl, .int .u8 ast, .int .u64 asi, .int .u8 apr, .int .i64 ava] 45).cell (j := 3) (v := .int .u8 ast) rfl; rwa [World.size_alloc] at this)
  have b14 := cell_later hb1 (show ((w.alloc (.cells #[.int .u8 ao, .string ar, .slice Al aps.length cl, .int .u8 ast, .int .u64 asi, .int .u8 apr, .int .i64 ava] 45)).alloc (.cells #[.int .u8 ao, .string ar, .slice Al aps.length cl, .int .u8 ast, .int .u64 asi, .int .u8 apr, .int .i64 ava] 45)).cell? ⟨w.heap.size + 1, 4, none⟩ = some (.int .u64 asi) from by have := (Blk.new (w.alloc (.cells #[.int .u8 ao, .string ar, .slice Al aps.length cl, .int .u8 ast, .int .u64 asi, .int .u8 apr, .int .i64 ava] 45)) #[.int .u8 ao, .string ar, .slice Al aps.length cl, .int .u8 ast, .int .u64 asi, .int .u8 apr, .int .i64 ava] 45).cell (j := 4) (v := .int .u64 asi) rfl; rwa [World.size_alloc] at this)
  have b15 := cell_later hb1 (show ((w.alloc (.cells #[.int .u8 ao, .string ar, .slice Al aps.length cl, .int .u8 ast, .int .u64 asi, .int .u8 apr, .int .i64 ava] 45)).alloc (.cells #[.int .u8 ao, .string ar, .slice Al aps.length cl, .int .u8 ast, .int .u64 asi, .int .u8 apr, .int .i64 ava] 45)).cell? ⟨w.heap.size + 1, 5, none⟩ = some (.int .u8 apr) from by have := (Blk.new (w.alloc (.cells #[.int .u8 ao, .string ar, .slice Al aps.length cl, .int .u8 ast, .int .u64 asi, .int .u8 apr, .int .i64 ava] 45)) #[.int .u8 ao, .string ar, .slice Al aps.length cl, .int .u8 ast, .int .u64 asi, .int .u8 apr, .int .i64 ava] 45).cell (j := 5) (v := .int .u8 apr) rfl; rwa [World.size_alloc] at this)
  have b16 := cell_later hb1 (show ((w.alloc (.cells #[.int .u8 ao, .string ar, .slice Al aps.length cl, .int .u8 ast, .int .u64 asi, .int .u8 apr, .int .i64 ava] 45)).alloc (.cells #[.int .u8 ao, .string ar, .slice Al aps.length cl, .int .u8 ast, .int .u64 asi, .int .u8 apr, .int .i64 ava] 45)).cell? ⟨w.heap.size + 1, 6, none⟩ = some (.int .i64 ava) from by have := (Blk.new (w.alloc (.cells #[.int .u8 ao, .string ar, .slice Al aps.length cl, .int .u8 ast, .int .u64 asi, .int .u8 apr, .int .i64 ava] 45)) #[.int .u8 ao, .string ar, .slice Al aps.length cl, .int .u8 ast, .int .u64 asi, .int .u8 apr, .int .i64 ava] 45).cell (j := 6) (v := .int .i64 ava) rfl; rwa [World.size_alloc] at this)
  have hbe := hw.trans (hb1.mono hw.size)
  clear hb1 hw kO
  go_wp2_with fail
  go_ret
  exact ⟨rfl, hbe⟩
end Go.Proofs.Ytdghpjkjhlankaa
