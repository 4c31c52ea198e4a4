/-
  Entries as a text (view.Ledger).
-/
import Derived.Test.YtdghpjkjhlankaaItem
namespace Go.Proofs.Ytdghpjkjhlankaa
open Go.RowKit FreeOrd
set_option maxRecDepth 100000
attribute [local go_sem] out

def en14 (e : Nat × ItV) : List Value := .int .u64 e.1 :: it13 e.2
def entryB (names : List ByteArray) (e : Nat × ItV) : ByteArray := decB e.1 ++ ⟨#[58, 32]⟩ ++ itemB names e.2 ++ ⟨#[10]⟩
def ledgerB (names : List ByteArray) (L : List (Nat × ItV)) : ByteArray := L.foldl (fun s e => s ++ entryB names e) ⟨#[]⟩
theorem ledgerB_snoc (names : List ByteArray) (L : List (Nat × ItV)) (a : Nat × ItV) : ledgerB names (L ++ [a]) = ledgerB names L ++ entryB names a := by
  unfold ledgerB; rw [List.foldl_append]; rfl
theorem itemB_size (names : List ByteArray) (a : ItV) (w : World) (h : a.ok w) (hns : ∀ s ∈ names, s.size ≤ 1000000) : (itemB names a).size ≤ 110000000 := by
  unfold itemB
  split
  · unfold gapB
    simp only [ByteArray.size_append]
    have h1 := originB_size names a.go h.go hns
    have h2 := decB_size a.gf h.gf
    have h3 := decB_size a.gt h.gt
    have l1 : (⟨#[32]⟩ : ByteArray).size = 1 := rfl
    have l2 : (⟨#[32, 116, 111, 32]⟩ : ByteArray).size = 4 := rfl
    have l3 : (⟨#[32, 101, 118, 105, 99, 116, 101, 100]⟩ : ByteArray).size = 8 := rfl
    omega
  · unfold eventB
    simp only [ByteArray.size_append, text_size]
    have h1 := originB_size names a.o h.o hns
    have h2 := decB_size a.sq h.sq
    have h3 := decB_size a.tm h.tm
    have h4 := h.ru
    have h5 := h.pz
    have h6 := stateB_size a.st
    have h7 := decB_size a.pr (Nat.lt_of_lt_of_le h.pr (by decide))
    have h8 := sdecB_size a.va h.va.1 h.va.2
    have l1 : (⟨#[32]⟩ : ByteArray).size = 1 := rfl
    have l2 : (⟨#[32, 97, 116, 32]⟩ : ByteArray).size = 4 := rfl
    have l3 : (⟨#[123]⟩ : ByteArray).size = 1 := rfl
    have l4 : (⟨#[125, 32]⟩ : ByteArray).size = 2 := rfl
    have l5 : (⟨#[32, 112, 114, 105, 111, 32]⟩ : ByteArray).size = 6 := rfl
    have l6 : (⟨#[32, 118, 97, 108, 117, 101, 32]⟩ : ByteArray).size = 7 := rfl
    omega
theorem entryB_size (names : List ByteArray) (e : Nat × ItV) (w : World) (h : e.2.ok w) (h1 : e.1 < 18446744073709551616) (hns : ∀ s ∈ names, s.size ≤ 1000000) : (entryB names e).size ≤ 110000100 := by
  unfold entryB
  simp only [ByteArray.size_append]
  have h2 := itemB_size names e.2 w h hns
  have h3 := decB_size e.1 h1
  have l1 : (⟨#[58, 32]⟩ : ByteArray).size = 2 := rfl
  have l2 : (⟨#[10]⟩ : ByteArray).size = 1 := rfl
  omega
theorem ledgerB_size (names : List ByteArray) (L : List (Nat × ItV)) (w : World) (hL : ∀ a ∈ L, a.1 < 18446744073709551616 ∧ a.2.ok w) (hns : ∀ s ∈ names, s.size ≤ 1000000) : ∀ k, (ledgerB names (L.take k)).size ≤ 110000100 * k := by
  intro k
  induction k with
  | zero => exact Nat.le_refl _
  | succ k ih =>
    cases hk : L[k]? with
    | none =>
      have : L.take (k + 1) = L.take k := by rw [List.take_add_one, hk]; simp
      rw [this]; omega
    | some a =>
      rw [take_snocV hk, ledgerB_snoc, ByteArray.size_append]
      have := entryB_size names a w (hL a (List.mem_of_getElem? hk)).2 (hL a (List.mem_of_getElem? hk)).1 hns
      omega

set_option maxHeartbeats 8000000 in
theorem viewLedger (v0 v1 v2 v3 v4 v5 v6 v7 : Value) (names : List ByteArray) (lv : Value) (L : List (Nat × ItV)) (w : World) (hn : Named w v0 names) (hns : ∀ s ∈ names, s.size ≤ 1000000) (hr : Rd w 14 lv L.length (L.flatMap en14)) (hL : ∀ a ∈ L, a.1 < 18446744073709551616 ∧ a.2.ok w) (hlen : L.length ≤ 64) :
    Calls Try.prog 24 #[.agg #[v0, v1, v2, v3, v4, v5, v6, v7], lv] w fun e w' => e = .returned (.string (ledgerB names L)) ∧ Below w.heap.size w w' := by
  have hsz := ledgerB_size names L w hL hns
  obtain ⟨A, c, rfl, h1, h2, h3, h4⟩ := hr
  unfold maxLen at h3
  obtain ⟨n, hnn⟩ : ∃ n, n = L.length := ⟨_, rfl⟩
  rw [← hnn] at h2 h4 hlen ⊢
  have HN := Lib.hid hnn
  have HSZ := Lib.hid hsz
  have HLL := Lib.hid hL
  have HNS := Lib.hid hns
  clear hnn h1 hsz hL hns
  go_enter Try.func24, Try.ntmps24
  go_wp2_with fail
  obtain ⟨Wb, hWb⟩ : ∃ Wb, Wb = w.alloc (Obj.cells #[v0, v1, v2, v3, v4, v5, v6, v7] 33) := ⟨_, rfl⟩
  have hbb : Below w.heap.size w Wb := by rw [hWb]; exact (Below.refl _ _).alloc (Nat.le_refl _) _
  have hT : Blk Wb w.heap.size #[v0, v1, v2, v3, v4, v5, v6, v7] 33 := by rw [hWb]; exact Blk.new _ _ _
  have hWs : Wb.heap.size = w.heap.size + 1 := by rw [hWb, World.size_alloc]
  rw [← hWb]
  obtain ⟨W0, hW⟩ : ∃ W, W = Wb.alloc (.cells #[.pointer none, .slice none 0 0] 111) := ⟨_, rfl⟩
  have hB0 : Lib.IsBuilderF 111 5 Wb.heap.size Wb.heap.size (Lib.byteCells []) W0 := by rw [hW]; exact Lib.IsBuilderF.of (Lib.fresh_isBuilder 111 5 Wb)
  have hbW0 : Below Wb.heap.size Wb W0 := by rw [hW]; exact (Below.refl _ _).alloc (Nat.le_refl _) _
  rw [← hW]
  rw [hWs] at hB0
  have HWS := Lib.hid hWs
  clear hWb hW hWs
  go_loopw [10] (fun i wr => ∃ k, k ≤ n ∧ i = .int .i64 k ∧ Lib.IsBuilderF 111 5 (w.heap.size + 1) (w.heap.size + 1) (Lib.byteCells (ledgerB names (L.take k)).data.toList) wr ∧ Below Wb.heap.size Wb wr) (fun i _ => n - (intOf i).toNat)
  case atStart => exact ⟨0, Nat.zero_le _, rfl, hB0, hbW0⟩
  case round =>
    obtain ⟨k, hk, rfl, hB5, hb5⟩ := hrel
    clear hB0 hbW0 W0
    have hbw5 := hbb.trans (hb5.mono hbb.size)
    by_cases hkn : k < n
    · obtain ⟨a, ha⟩ : ∃ a, L[k]? = some a := ⟨_, List.getElem?_eq_getElem (by rw [← HN.out]; exact hkn)⟩
      obtain ⟨b, oo, rfl, hat⟩ := h4 (by omega)
      have e0 := fun j hj => flat_at en14 14 (fun _ => rfl) L k a ha j hj
      have hok := (HLL.out a (List.mem_of_getElem? ha)).2
      have hti := (HLL.out a (List.mem_of_getElem? ha)).1
      have hls := entryB_size names a w hok hti HNS.out
      have als := itemB_size names a.2 w hok HNS.out
      have hzk := HSZ.out k
      have hnx : ledgerB names (L.take (k + 1)) = ledgerB names (L.take k) ++ entryB names a := by rw [take_snocV ha, ledgerB_snoc]
      have HX := Lib.hid hnx
      obtain ⟨ab, hab⟩ : ∃ ab, ab = itemB names a.2 := ⟨_, rfl⟩
      have kA := fun w' (h : Below w.heap.size w w') => viewItem v0 v1 v2 v3 v4 v5 v6 v7 names a.2 w' (hn.below h) HNS.out (hok.below h)
      rw [← hab] at als kA
      have HAB := Lib.hid hab
      obtain ⟨Al, cl, hlv, _⟩ := hok.rd
      have dz := decB_size a.1 hti
      clear hok hab hls
      obtain ⟨ti, gap, o, sq, tm, ru, lv, aps, st, pr, va, ow, go, gf, gt⟩ := a
      simp only at hlv hti als kA dz
      subst hlv
      obtain ⟨nl, hnl⟩ : ∃ n, n = aps.length := ⟨_, rfl⟩
      rw [← hnl] at kA
      have KA := Lib.hid kA
      have x0 := hat.nth0 hbw5 (k * 14) (.int .u64 ti) (e0 0 (by omega))
      have x1 := hat.nth hbw5 (k * 14) 1 (.bool gap) (e0 1 (by omega))
      have x2 := hat.nth hbw5 (k * 14) 2 (.int .u8 o) (e0 2 (by omega))
      have x3 := hat.nth hbw5 (k * 14) 3 (.int .u64 sq) (e0 3 (by omega))
      have x4 := hat.nth hbw5 (k * 14) 4 (.int .u64 tm) (e0 4 (by omega))
      have x5 := hat.nth hbw5 (k * 14) 5 (.string ru) (e0 5 (by omega))
      have x6 := hat.nth hbw5 (k * 14) 6 (.slice Al nl cl) (by rw [hnl]; exact e0 6 (by omega))
      have x7 := hat.nth hbw5 (k * 14) 7 (.int .u8 st) (e0 7 (by omega))
      have x8 := hat.nth hbw5 (k * 14) 8 (.int .u8 pr) (e0 8 (by omega))
      have x9 := hat.nth hbw5 (k * 14) 9 (.int .i64 va) (e0 9 (by omega))
      have x10 := hat.nth hbw5 (k * 14) 10 (.int .u8 ow) (e0 10 (by omega))
      have x11 := hat.nth hbw5 (k * 14) 11 (.int .u8 go) (e0 11 (by omega))
      have x12 := hat.nth hbw5 (k * 14) 12 (.int .u64 gf) (e0 12 (by omega))
      have x13 := hat.nth hbw5 (k * 14) 13 (.int .u64 gt) (e0 13 (by omega))
      have t := fun (j : Nat) (v : Value) (hv : (#[v0, v1, v2, v3, v4, v5, v6, v7] : Array Value)[j]? = some v) => (hT.below hb5 hT.lt).cell hv
      have hWs5 : w.heap.size + 1 ≤ wr.heap.size := by have := hb5.size; have := HWS.out; omega
      have hlt1 : w.heap.size < wr.heap.size := by omega
      clear ha hat e0 hnx kA hnl h4
      go_wp2_with fail
      obtain ⟨W, hW⟩ : ∃ W, W = wr.alloc (.cells #[.int .u64 ti, .bool gap, .int .u8 o, .int .u64 sq, .int .u64 tm, .string ru, .slice Al nl cl, .int .u8 st, .int .u8 pr, .int .i64 va, .int .u8 ow, .int .u8 go, .int .u64 gf, .int .u64 gt] 68) := ⟨_, rfl⟩
      have hal : Below wr.heap.size wr W := by rw [hW]; exact (Below.refl _ _).alloc (Nat.le_refl _) _
      have hE : Blk W wr.heap.size #[.int .u64 ti, .bool gap, .int .u8 o, .int .u64 sq, .int .u64 tm, .string ru, .slice Al nl cl, .int .u8 st, .int .u8 pr, .int .i64 va, .int .u8 ow, .int .u8 go, .int .u64 gf, .int .u64 gt] 68 := by rw [hW]; exact Blk.new _ _ _
      have hbW : Below w.heap.size w W := hbw5.trans (hal.mono hbw5.size)
      rw [← hW]
      have hTW := (hT.below hb5 hT.lt).below hal (hT.below hb5 hT.lt).lt
      have F : ∀ w', Below W.heap.size W w' → w'.cell? ⟨w.heap.size, 0, none⟩ = some v0 ∧ w'.cell? ⟨w.heap.size, 1, none⟩ = some v1 ∧ w'.cell? ⟨w.heap.size, 2, none⟩ = some v2 ∧ w'.cell? ⟨w.heap.size, 3, none⟩ = some v3 ∧ w'.cell? ⟨w.heap.size, 4, none⟩ = some v4 ∧ w'.cell? ⟨w.heap.size, 5, none⟩ = some v5 ∧ w'.cell? ⟨w.heap.size, 6, none⟩ = some v6 ∧ w'.cell? ⟨w.heap.size, 7, none⟩ = some v7 ∧ w'.cell? ⟨wr.heap.size, 0, none⟩ = some (.int .u64 ti) ∧ w'.cell? ⟨wr.heap.size, 1, none⟩ = some (.bool gap) ∧ w'.cell? ⟨wr.heap.size, 2, none⟩ = some (.int .u8 o) ∧ w'.cell? ⟨wr.heap.size, 3, none⟩ = some (.int .u64 sq) ∧ w'.cell? ⟨wr.heap.size, 4, none⟩ = some (.int .u64 tm) ∧ w'.cell? ⟨wr.heap.size, 5, none⟩ = some (.string ru) ∧ w'.cell? ⟨wr.heap.size, 6, none⟩ = some (.slice Al nl cl) ∧ w'.cell? ⟨wr.heap.size, 7, none⟩ = some (.int .u8 st) ∧ w'.cell? ⟨wr.heap.size, 8, none⟩ = some (.int .u8 pr) ∧ w'.cell? ⟨wr.heap.size, 9, none⟩ = some (.int .i64 va) ∧ w'.cell? ⟨wr.heap.size, 10, none⟩ = some (.int .u8 ow) ∧ w'.cell? ⟨wr.heap.size, 11, none⟩ = some (.int .u8 go) ∧ w'.cell? ⟨wr.heap.size, 12, none⟩ = some (.int .u64 gf) ∧ w'.cell? ⟨wr.heap.size, 13, none⟩ = some (.int .u64 gt) := fun w' h => by
        have q := hE.below h hE.lt
        have p := hTW.below h hTW.lt
        exact ⟨p.cell rfl, p.cell rfl, p.cell rfl, p.cell rfl, p.cell rfl, p.cell rfl, p.cell rfl, p.cell rfl, q.cell rfl, q.cell rfl, q.cell rfl, q.cell rfl, q.cell rfl, q.cell rfl, q.cell rfl, q.cell rfl, q.cell rfl, q.cell rfl, q.cell rfl, q.cell rfl, q.cell rfl, q.cell rfl⟩
      have hB6 := builder_below hB5 hal
      have hb6 := hb5.trans (hal.mono hb5.size)
      clear hW x0 x1 x2 x3 x4 x5 x6 x7 x8 x9 x10 x11 x12 x13 hbw5 hlt1 hB5 hTW hE hal t
      refine region_free (fun w' => Below W.heap.size W w') [] [10] [0, 1, 2, 3, 4, 5, 6, 7, 8, 9] (by kernel_rfl) (by kernel_rfl) (by kernel_rfl) (Below.refl _ _).drew ?_
      repeat (first
        | (refine RelSeq.pure_ (c := ?_) rfl rfl ?_ ?_; rotate_left; (focus (intro x w'; dsimp only; go_simp; (try (split; (focus (exfalso; omega)); go_simp)); (repeat' apply And.intro) <;> first | with_reducible rfl | assumption)); simp only [Act.put, List.setIfInBounds_toArray, List.set_cons_zero, List.set_cons_succ])
        | (refine RelSeq.grow_ (c := ?_) rfl rfl ?_ ?_; rotate_left; (focus (intro x w' hw _; dsimp only; obtain ⟨t0, t1, t2, t3, t4, t5, t6, t7, d0, d1, d2, d3, d4, d5, d6, d7, d8, d9, d10, d11, d12, d13⟩ := F w' hw; have hbr := Below.refl w'.heap.size w'; go_simp; (repeat' apply And.intro) <;> first | with_reducible rfl | assumption)); simp only [Act.put, List.setIfInBounds_toArray, List.set_cons_zero, List.set_cons_succ])
        | (refine RelSeq.grow_ (c := ?_) rfl rfl ?_ ?_; rotate_left
           (focus (intro x w' hw _; dsimp only
                   have hbg := hbW.trans (hw.mono hbW.size)
                   go_simp
                   first
                     | (go_at_call 33; refine (printed _ _ hti).mono ?_; rintro e w1 ⟨rfl, hb1⟩; have hI1 := hw.trans (hb1.mono hw.size); go_simp; (repeat' apply And.intro) <;> first | with_reducible rfl | assumption)
                     | (go_at_call 23; refine (KA.out _ hbg).mono ?_; rintro e w1 ⟨rfl, hb1⟩; have hI1 := hw.trans (hb1.mono hw.size); go_simp; (repeat' apply And.intro) <;> first | with_reducible rfl | assumption)))
           simp only [Act.put, List.setIfInBounds_toArray, List.set_cons_zero, List.set_cons_succ]))
      refine RelSeq.nil_ fun x w3 hw3 _ => ?_
      clear F
      refine TailSeq.cons_ rfl ?_
      have hB7 := builder_below hB6 hw3
      have hbe7 := hb6.trans (hw3.mono hb6.size)
      have hs7 := hbe7.size
      have kB := bld_WriteString (w.heap.size + 1) (w.heap.size + 1) _ (decB ti ++ ⟨#[58, 32]⟩ ++ ab ++ ⟨#[10]⟩) w3 hB7 (by
        rw [Lib.byteCells_length]
        simp only [ByteArray.size_append, Array.length_toList]
        have l1 : (⟨#[58, 32]⟩ : ByteArray).size = 2 := rfl
        have l2 : (⟨#[10]⟩ : ByteArray).size = 1 := rfl
        have : (ledgerB names (L.take k)).data.size = (ledgerB names (L.take k)).size := rfl
        omega) (by rw [← HWS.out]; exact hs7)
      clear hB7 hB6 hb6 hbW
      go_simp
      (with_reducible refine kB.mono ?_)
      rintro e w8 ⟨rfl, hat8, hb8, _⟩
      have hB8 : Lib.IsBuilderF 111 5 (w.heap.size + 1) (w.heap.size + 1) (Lib.byteCells (ledgerB names (L.take (k + 1))).data.toList) w8 := by
        rw [Lib.strCells_eq, ← Lib.byteCells_append] at hat8
        rw [HX.out]
        unfold entryB
        simp only
        rw [← HAB.out, ByteArray.data_append, Array.toList_append]
        exact .inr hat8
      rw [← HWS.out] at hb8
      have hbe8 := hbe7.trans hb8
      clear kB hat8 hb8 hbe7 hw3 KA als dz
      go_simp
      refine TailSeq.nil_ ?_
      go_wp2_with fail
      go_roundw
      case rel => exact ⟨k + 1, by omega, by go_num, hB8, hbe8⟩
      case measure => simp [intOf]; omega
    · obtain rfl : k = n := by omega
      have hkk : decide ((k : Int) < (k : Int)) = false := by simp
      have htk : L.take k = L := by rw [HN.out, List.take_length]
      rw [htk] at hB5
      have kS := bld_String (w.heap.size + 1) (w.heap.size + 1) _ wr hB5 (by rw [← HWS.out]; exact hb5.size)
      clear htk hB5
      go_wp2_with fail
      (with_reducible refine kS.mono ?_)
      rintro e w2 ⟨rfl, _, hb2, _⟩
      have hbe : Below w.heap.size w w2 := hbw5.trans (hb2.mono (by have := hb5.size; have := HWS.out; omega))
      clear hb2 kS
      go_wp2_with fail
      go_ret
      exact ⟨rfl, hbe⟩
end Go.Proofs.Ytdghpjkjhlankaa
