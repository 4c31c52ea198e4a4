/-
  A notice's text (view.Notice).
-/
import Derived.Test.YtdghpjkjhlankaaNote
namespace Go.Proofs.Ytdghpjkjhlankaa
open Go.RowKit FreeOrd
set_option maxRecDepth 100000
attribute [local go_sem] out

theorem builder_below {T e B b : Nat} {bs : List Value} {w w' : World} (h : Lib.IsBuilderF T e B b bs w) (hb : Below w.heap.size w w') : Lib.IsBuilderF T e B b bs w' := by
  have key : ∀ p, Lib.BuilderAtF T e B b p bs w → Lib.BuilderAtF T e B b p bs w' := by
    intro p h
    have hlt := h.lt
    obtain ⟨hB, v, hh, hown, hne⟩ := h
    exact ⟨hB, v, (hb.block b hlt).trans hh, hown.kept (row := none) ⟨hb.os, hb.tape, hb.output, hb.size, fun k hk _ => hb.block k hk⟩ (by cases hv : v.ownBlock <;> simp), hne⟩
  exact h.imp (key _) (key _)
def lineB (names : List ByteArray) (a : AlV) : ByteArray := ⟨#[45, 32]⟩ ++ alertB names a.o a.rule a.ps a.st a.since a.val ++ ⟨#[10]⟩
def headB (time : Nat) (to : ByteArray) (gp : List (ByteArray × ByteArray)) : ByteArray := decB time ++ ⟨#[32]⟩ ++ to ++ ⟨#[32, 123]⟩ ++ ⟨(textL gp).toArray⟩ ++ ⟨#[125, 10]⟩
def noticeB (names : List ByteArray) (time : Nat) (to : ByteArray) (gp : List (ByteArray × ByteArray)) (L : List AlV) : ByteArray := L.foldl (fun s a => s ++ lineB names a) (headB time to gp)
theorem noticeB_snoc (names : List ByteArray) (time : Nat) (to : ByteArray) (gp : List (ByteArray × ByteArray)) (L : List AlV) (a : AlV) : noticeB names time to gp (L ++ [a]) = noticeB names time to gp L ++ lineB names a := by
  unfold noticeB; rw [List.foldl_append]; rfl
theorem originB_size (names : List ByteArray) (o : Nat) (ho : o < 256) (hn : ∀ s ∈ names, s.size ≤ 1000000) : (originB names o).size ≤ 1000000 := by
  unfold originB
  cases h : names[o]? with
  | none => have := decB_size o (by omega); simp only [Option.getD_none]; omega
  | some s => exact hn s (List.mem_of_getElem? h)
theorem text_size (ps : List (ByteArray × ByteArray)) : (⟨(textL ps).toArray⟩ : ByteArray).size = (textL ps).length := by simp [ByteArray.size]
theorem alertB_size (names : List ByteArray) (a : AlV) (w : World) (ha : a.ok w) (hn : ∀ s ∈ names, s.size ≤ 1000000) : (alertB names a.o a.rule a.ps a.st a.since a.val).size ≤ 200000000 := by
  unfold alertB
  simp only [ByteArray.size_append, text_size]
  have h1 := originB_size names a.o ha.o hn
  have h2 := ha.rule
  have h3 := ha.pz
  have h4 := stateB_size a.st
  have h5 := decB_size a.since ha.since
  have h6 := sdecB_size a.val ha.val.1 ha.val.2
  have l1 : (⟨#[32]⟩ : ByteArray).size = 1 := rfl
  have l2 : (⟨#[123]⟩ : ByteArray).size = 1 := rfl
  have l3 : (⟨#[125, 32]⟩ : ByteArray).size = 2 := rfl
  have l4 : (⟨#[32, 115, 105, 110, 99, 101, 32]⟩ : ByteArray).size = 7 := rfl
  have l5 : (⟨#[32, 118, 97, 108, 117, 101, 32]⟩ : ByteArray).size = 7 := rfl
  omega
theorem lineB_size (names : List ByteArray) (a : AlV) (w : World) (ha : a.ok w) (hn : ∀ s ∈ names, s.size ≤ 1000000) : (lineB names a).size ≤ 200000003 := by
  unfold lineB
  simp only [ByteArray.size_append]
  have h1 := alertB_size names a w ha hn
  have l1 : (⟨#[45, 32]⟩ : ByteArray).size = 2 := rfl
  have l2 : (⟨#[10]⟩ : ByteArray).size = 1 := rfl
  omega
theorem headB_size (time : Nat) (to : ByteArray) (gp : List (ByteArray × ByteArray)) (h1 : time < 18446744073709551616) (h2 : to.size ≤ 1048576) (h3 : (textL gp).length ≤ 100000000) : (headB time to gp).size ≤ 200000003 := by
  unfold headB
  simp only [ByteArray.size_append, text_size]
  have h4 := decB_size time h1
  have l1 : (⟨#[32]⟩ : ByteArray).size = 1 := rfl
  have l2 : (⟨#[32, 123]⟩ : ByteArray).size = 2 := rfl
  have l3 : (⟨#[125, 10]⟩ : ByteArray).size = 2 := rfl
  omega
theorem noticeB_size (names : List ByteArray) (time : Nat) (to : ByteArray) (gp : List (ByteArray × ByteArray)) (L : List AlV) (w : World) (hL : ∀ a ∈ L, a.ok w) (hn : ∀ s ∈ names, s.size ≤ 1000000) (h1 : time < 18446744073709551616) (h2 : to.size ≤ 1048576) (h3 : (textL gp).length ≤ 100000000) :
    ∀ k, (noticeB names time to gp (L.take k)).size ≤ 200000003 * (k + 1) := by
  intro k
  induction k with
  | zero => have := headB_size time to gp h1 h2 h3; simpa [noticeB] using this
  | succ k ih =>
    cases hk : L[k]? with
    | none =>
      have : L.take (k + 1) = L.take k := by rw [List.take_add_one, hk]; simp
      rw [this]; omega
    | some a =>
      rw [take_snocV hk, noticeB_snoc, ByteArray.size_append]
      have := lineB_size names a w (hL a (List.mem_of_getElem? hk)) hn
      omega

set_option maxHeartbeats 8000000 in
theorem viewNotice (v0 v1 v2 v3 v4 v5 v6 v7 : Value) (names : List ByteArray) (nt : Nat) (to : ByteArray) (gv : Value) (gp : List (ByteArray × ByteArray)) (av : Value) (L : List AlV) (w : World) (hn : Named w v0 names) (hns : ∀ s ∈ names, s.size ≤ 1000000)
    (hg : Rd w 2 gv gp.length (pairCells gp)) (hgz : (textL gp).length ≤ 100000000) (hto : to.size ≤ 1048576) (hnt : nt < 18446744073709551616) (hr : Rd w 7 av L.length (L.flatMap al7)) (hL : ∀ a ∈ L, a.ok w) (hlen : L.length ≤ 64) :
    Calls Try.prog 15 #[.agg #[v0, v1, v2, v3, v4, v5, v6, v7], .agg #[.int .u64 nt, .string to, gv, av]] w fun e w' => e = .returned (.string (noticeB names nt to gp L)) ∧ Below w.heap.size w w' := by
  have hsz := noticeB_size names nt to gp L w hL hns hnt hto hgz
  have hg0 := hg
  obtain ⟨A, c, rfl, h1, h2, h3, h4⟩ := hr
  obtain ⟨Ag, cg, rfl, _⟩ := hg0
  unfold maxLen at h3
  obtain ⟨n, hnn⟩ : ∃ n, n = L.length := ⟨_, rfl⟩
  rw [← hnn] at h2 h4 hlen ⊢
  obtain ⟨ng, hng⟩ : ∃ n, n = gp.length := ⟨_, rfl⟩
  rw [← hng] at hg ⊢
  have HN := Lib.hid hnn
  have HNG := Lib.hid hng
  have hg : Rd w 2 (.slice Ag ng cg) gp.length (pairCells gp) := by rw [← hng]; exact hg
  have HSZ := Lib.hid hsz
  have HLL := Lib.hid hL
  have HNS := Lib.hid hns
  have dz := decB_size nt hnt
  have tz : (⟨(textL gp).toArray⟩ : ByteArray).size ≤ 100000000 := by rw [text_size]; exact hgz
  clear hnn hng h1 hsz hL hns
  go_enter Try.func15, Try.ntmps15
  go_wp2_with fail
  obtain ⟨Wb, hWb⟩ : ∃ Wb, Wb = (w.alloc (Obj.cells #[v0, v1, v2, v3, v4, v5, v6, v7] 33)).alloc (Obj.cells #[.int .u64 nt, .string to, .slice Ag ng cg, .slice A n c] 52) := ⟨_, rfl⟩
  have hbb : Below w.heap.size w Wb := by rw [hWb]; exact ((Below.refl _ _).alloc (Nat.le_refl _) _).alloc (by simp) _
  have hT : Blk Wb w.heap.size #[v0, v1, v2, v3, v4, v5, v6, v7] 33 := by rw [hWb]; exact (Blk.new _ _ _).alloc _
  have hN : Blk Wb (w.heap.size + 1) #[.int .u64 nt, .string to, .slice Ag ng cg, .slice A n c] 52 := by
    rw [hWb]
    have := Blk.new (w.alloc (Obj.cells #[v0, v1, v2, v3, v4, v5, v6, v7] 33)) #[.int .u64 nt, .string to, .slice Ag ng cg, .slice A n c] 52
    rwa [World.size_alloc] at this
  have hWs : Wb.heap.size = w.heap.size + 1 + 1 := by rw [hWb, World.size_alloc, World.size_alloc]
  rw [← hWb]
  obtain ⟨W, hW⟩ : ∃ W, W = Wb.alloc (.cells #[.pointer none, .slice none 0 0] 111) := ⟨_, rfl⟩
  have hB0 : Lib.IsBuilderF 111 5 Wb.heap.size Wb.heap.size (Lib.byteCells []) W := by rw [hW]; exact Lib.IsBuilderF.of (Lib.fresh_isBuilder 111 5 Wb)
  have hbW0 : Below Wb.heap.size Wb W := by rw [hW]; exact (Below.refl _ _).alloc (Nat.le_refl _) _
  have hbW : Below w.heap.size w W := hbb.trans (hbW0.mono hbb.size)
  rw [← hW]
  have F : ∀ w', Below W.heap.size W w' → w'.cell? ⟨w.heap.size + 1, 0, none⟩ = some (.int .u64 nt) ∧ w'.cell? ⟨w.heap.size + 1, 1, none⟩ = some (.string to) ∧ w'.cell? ⟨w.heap.size + 1, 2, none⟩ = some (.slice Ag ng cg) := fun w' h => by
    have q := ((hN.below hbW0 hN.lt).below h (hN.below hbW0 hN.lt).lt)
    exact ⟨q.cell rfl, q.cell rfl, q.cell rfl⟩
  rw [hWs] at hB0
  have HWS := Lib.hid hWs
  clear hWb hW hWs
  refine region_free (fun w' => Below W.heap.size W w') [] [13] [0, 1, 2, 3, 4, 5, 6, 7, 8, 9, 10, 11, 12] (by kernel_rfl) (by kernel_rfl) (by kernel_rfl) (Below.refl _ _).drew ?_
  repeat (first
    | (refine RelSeq.pure_ (c := ?_) rfl rfl ?_ ?_; rotate_left; (focus (intro x w'; dsimp only; go_simp; (try (split; (focus (exfalso; omega)); go_simp)); (repeat' apply And.intro) <;> first | with_reducible rfl | assumption)); simp only [Act.put, List.setIfInBounds_toArray, List.set_cons_zero, List.set_cons_succ])
    | (refine RelSeq.grow_ (c := ?_) rfl rfl ?_ ?_; rotate_left; (focus (intro x w' hw _; dsimp only; obtain ⟨d0, d1, d2⟩ := F w' hw; have hbr := Below.refl w'.heap.size w'; go_simp; (repeat' apply And.intro) <;> first | with_reducible rfl | assumption)); simp only [Act.put, List.setIfInBounds_toArray, List.set_cons_zero, List.set_cons_succ])
    | (refine RelSeq.grow_ (c := ?_) rfl rfl ?_ ?_; rotate_left
       (focus (intro x w' hw _; dsimp only
               have hbg := hg.below (hbW.trans (hw.mono hbW.size))
               go_simp
               first
                 | (go_at_call 32; refine (labText _ gp _ hbg (by omega)).mono ?_; rintro e w1 ⟨rfl, hb1⟩; have hI1 := hw.trans (hb1.mono hw.size); go_simp; (repeat' apply And.intro) <;> first | with_reducible rfl | assumption)
                 | (go_at_call 33; refine (printed _ _ hnt).mono ?_; rintro e w1 ⟨rfl, hb1⟩; have hI1 := hw.trans (hb1.mono hw.size); go_simp; (repeat' apply And.intro) <;> first | with_reducible rfl | assumption)))
       simp only [Act.put, List.setIfInBounds_toArray, List.set_cons_zero, List.set_cons_succ]))
  refine RelSeq.nil_ fun x w3 hw3 _ => ?_
  clear F
  refine TailSeq.cons_ rfl ?_
  have hB3 := builder_below hB0 hw3
  have hz0 := HSZ.out 0
  simp only [List.take_zero] at hz0
  have e0 : noticeB names nt to gp [] = decB nt ++ ⟨#[32]⟩ ++ to ++ ⟨#[32, 123]⟩ ++ ⟨(textL gp).toArray⟩ ++ ⟨#[125, 10]⟩ := rfl
  rw [e0] at hz0
  have hWw : Wb.heap.size ≤ w3.heap.size := Nat.le_trans hbW0.size hw3.size
  have kB := bld_WriteString (w.heap.size + 1 + 1) (w.heap.size + 1 + 1) _ (decB nt ++ ⟨#[32]⟩ ++ to ++ ⟨#[32, 123]⟩ ++ ⟨(textL gp).toArray⟩ ++ ⟨#[125, 10]⟩) w3 hB3 (by rw [Lib.byteCells_length]; simp only [List.length_nil]; omega) (by rw [← HWS.out]; exact hWw)
  clear hB3 hB0
  go_simp
  (with_reducible refine kB.mono ?_)
  rintro e w4 ⟨rfl, hat4, hb4, _⟩
  have hB4 : Lib.IsBuilderF 111 5 (w.heap.size + 1 + 1) (w.heap.size + 1 + 1) (Lib.byteCells (noticeB names nt to gp (L.take 0)).data.toList) w4 := by
    rw [Lib.strCells_eq, ← Lib.byteCells_append] at hat4
    rw [List.take_zero, e0]
    exact .inr (by simpa using hat4)
  rw [← HWS.out] at hb4
  have hbe4 : Below Wb.heap.size Wb w4 := (hbW0.trans (hw3.mono hbW0.size)).trans hb4
  clear kB hat4 hb4 hw3 hbW0 hbW e0 hz0 hWw dz tz
  go_simp
  refine TailSeq.nil_ ?_
  have c3 := (hN.below hbe4 hN.lt).cell (j := 3) (v := .slice A n c) rfl
  go_wp2_with fail
  go_loopw [25] (fun i wr => ∃ k, k ≤ n ∧ i = .int .i64 k ∧ Lib.IsBuilderF 111 5 (w.heap.size + 1 + 1) (w.heap.size + 1 + 1) (Lib.byteCells (noticeB names nt to gp (L.take k)).data.toList) wr ∧ Below Wb.heap.size Wb wr) (fun i _ => n - (intOf i).toNat)
  case atStart => exact ⟨0, Nat.zero_le _, rfl, hB4, hbe4⟩
  case round =>
    obtain ⟨k, hk, rfl, hB5, hb5⟩ := hrel
    clear hB4 hbe4 c3
    have hbw5 := hbb.trans (hb5.mono hbb.size)
    by_cases hkn : k < n
    · obtain ⟨a, ha⟩ : ∃ a, L[k]? = some a := ⟨_, List.getElem?_eq_getElem (by rw [← HN.out]; exact hkn)⟩
      obtain ⟨b, o, rfl, hat⟩ := h4 (by omega)
      have e0 := fun j hj => flat_at al7 7 (fun _ => rfl) L k a ha j hj
      have hok := HLL.out a (List.mem_of_getElem? ha)
      have hls := lineB_size names a w hok HNS.out
      have als := alertB_size names a w hok HNS.out
      have hzk := HSZ.out k
      have hnx : noticeB names nt to gp (L.take (k + 1)) = noticeB names nt to gp (L.take k) ++ lineB names a := by rw [take_snocV ha, noticeB_snoc]
      have HX := Lib.hid hnx
      obtain ⟨ao, ar, lv, aps, ast, asi, apr, ava⟩ := a
      obtain ⟨q1, q2, q3, q4, q5, q6, q7⟩ := hok
      simp only at q1 q2 q3 q4 q5 q6 q7 als
      have q30 := q3
      obtain ⟨Al, cl, rfl, _⟩ := q30
      obtain ⟨nl, hnl⟩ : ∃ n, n = aps.length := ⟨_, rfl⟩
      have x0 := hat.nth0 hbw5 (k * 7) (.int .u8 ao) (e0 0 (by omega))
      have x1 := hat.nth hbw5 (k * 7) 1 (.string ar) (e0 1 (by omega))
      have x2 := hat.nth hbw5 (k * 7) 2 (.slice Al nl cl) (by rw [hnl]; exact e0 2 (by omega))
      have x3 := hat.nth hbw5 (k * 7) 3 (.int .u8 ast) (e0 3 (by omega))
      have x4 := hat.nth hbw5 (k * 7) 4 (.int .u64 asi) (e0 4 (by omega))
      have x5 := hat.nth hbw5 (k * 7) 5 (.int .u8 apr) (e0 5 (by omega))
      have x6 := hat.nth hbw5 (k * 7) 6 (.int .i64 ava) (e0 6 (by omega))
      have t := fun (j : Nat) (v : Value) (hv : (#[v0, v1, v2, v3, v4, v5, v6, v7] : Array Value)[j]? = some v) => (hT.below hb5 hT.lt).cell hv
      have t0 := t 0 v0 rfl
      have t1 := t 1 v1 rfl
      have t2 := t 2 v2 rfl
      have t3 := t 3 v3 rfl
      have t4 := t 4 v4 rfl
      have t5 := t 5 v5 rfl
      have t6 := t 6 v6 rfl
      have t7 := t 7 v7 rfl
      have q3' : Rd w 2 (.slice Al nl cl) aps.length (pairCells aps) := by rw [hnl]; exact q3
      have kA := fun w' (h : Below w.heap.size w w') => viewAlert v0 v1 v2 v3 v4 v5 v6 v7 names ao ar (.slice Al nl cl) aps ast asi (.int .u8 apr) ava w' (hn.below h) q1 (q3'.below h) q6 q7.1 q7.2 (fun s hs => Nat.le_trans (HNS.out s hs) (by decide)) (by omega) (by omega)
      have KA := Lib.hid kA
      obtain ⟨ab, hab⟩ : ∃ ab, ab = alertB names ao ar aps ast asi ava := ⟨_, rfl⟩
      rw [← hab] at als
      have HAB := Lib.hid hab
      have hWs5 : w.heap.size + 1 + 1 ≤ wr.heap.size := by have := hb5.size; have := HWS.out; omega
      have hlt1 : w.heap.size < wr.heap.size := by omega
      clear ha hat e0 hnx q3 q3' t kA hnl h4 hab hls
      go_wp2_with fail
      have hal : Below wr.heap.size wr (wr.alloc (.cells #[.int .u8 ao, .string ar, .slice Al nl cl, .int .u8 ast, .int .u64 asi, .int .u8 apr, .int .i64 ava] 45)) := (Below.refl _ _).alloc (Nat.le_refl _) _
      have hB6 := builder_below hB5 hal
      have hb6 := hb5.trans (hal.mono hb5.size)
      have hbw6 := hbb.trans (hb6.mono hbb.size)
      (with_reducible refine (KA.out _ hbw6).mono ?_)
      rintro e w7 ⟨rfl, hb7⟩
      rw [← HAB.out]
      have hB7 := builder_below hB6 hb7
      have hbe7 := hb6.trans (hb7.mono hb6.size)
      clear hB6 hb6 hbw6 hb7 KA hal hB5
      have hs7 := hbe7.size
      have kB := bld_WriteString (w.heap.size + 1 + 1) (w.heap.size + 1 + 1) _ (⟨#[45, 32]⟩ ++ ab ++ ⟨#[10]⟩) w7 hB7 (by
        rw [Lib.byteCells_length]
        simp only [ByteArray.size_append, Array.length_toList]
        have l1 : (⟨#[45, 32]⟩ : ByteArray).size = 2 := rfl
        have l2 : (⟨#[10]⟩ : ByteArray).size = 1 := rfl
        have : (noticeB names nt to gp (L.take k)).data.size = (noticeB names nt to gp (L.take k)).size := rfl
        omega) (by rw [← HWS.out]; exact hs7)
      clear hB7
      go_wp2_with fail
      (with_reducible refine kB.mono ?_)
      rintro e w8 ⟨rfl, hat8, hb8, _⟩
      have hB8 : Lib.IsBuilderF 111 5 (w.heap.size + 1 + 1) (w.heap.size + 1 + 1) (Lib.byteCells (noticeB names nt to gp (L.take (k + 1))).data.toList) w8 := by
        rw [Lib.strCells_eq, ← Lib.byteCells_append] at hat8
        rw [HX.out]
        unfold lineB
        simp only
        rw [← HAB.out, ByteArray.data_append, Array.toList_append]
        exact .inr hat8
      rw [← HWS.out] at hb8
      have hbe8 := hbe7.trans hb8
      clear kB hat8 hb8 hbe7
      go_wp2_with fail
      go_roundw
      case rel => exact ⟨k + 1, by omega, by go_num, hB8, hbe8⟩
      case measure => simp [intOf]; omega
    · obtain rfl : k = n := by omega
      have hkk : decide ((k : Int) < (k : Int)) = false := by simp
      have htk : L.take k = L := by rw [HN.out, List.take_length]
      rw [htk] at hB5
      have kS := bld_String (w.heap.size + 1 + 1) (w.heap.size + 1 + 1) _ wr hB5 (by rw [← HWS.out]; exact hb5.size)
      clear htk hB5
      go_wp2_with fail
      (with_reducible refine kS.mono ?_)
      rintro e w2 ⟨rfl, _, hb2, _⟩
      have hbe : Below w.heap.size w w2 := hbw5.trans (hb2.mono (by omega))
      clear hb2 kS
      go_wp2_with fail
      go_ret
      exact ⟨rfl, hbe⟩
end Go.Proofs.Ytdghpjkjhlankaa
