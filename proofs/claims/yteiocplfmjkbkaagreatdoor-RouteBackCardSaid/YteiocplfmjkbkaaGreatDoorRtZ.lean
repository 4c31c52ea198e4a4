/-
  (*Tree).Text: a node as a line.
-/
import Derived.Test.YteiocplfmjkbkaaGreatDoorRtY
namespace Go.Proofs.YteiocplfmjkbkaaGreatDoor
open Go.RowKit
set_option maxRecDepth 100000
attribute [local go_sem] FreeSl.out

def setsOf (p : RN) : List Set1 := [.tgt p.tgt, .bys p.bys, .wait p.wait, .between p.between, .again p.again] ++ (if p.more = true then [.more] else [])
/-- A node's line. -/
def lineOf (p : RN) (d : Nat) : LnV := ⟨d, p.asks, setsOf p⟩
theorem joinW_dash (m : Nat) (x : ByteArray) (r : List ByteArray) : joinW (List.replicate m dashB ++ (x :: r)) = Lib.repeatL [45, 32] m ++ joinW (x :: r) := by
  induction m with
  | zero => rfl
  | succ m ih =>
    have key : ∀ L : List ByteArray, L ≠ [] → joinW (dashB :: L) = 45 :: 32 :: joinW L := by
      intro L hL
      cases L with
      | nil => exact absurd rfl hL
      | cons y ys => simp [joinW, dashB]
    rw [List.replicate_succ, List.cons_append, key _ (by simp), ih]
    rfl
theorem lineOf_text (p : RN) (d : Nat) : (lineOf p d).text.data.toList = Lib.repeatL [45, 32] d ++ [114, 111, 117, 116, 101, 32] ++ (asksT p.asks).data.toList ++ [32, 116, 111, 32] ++ p.tgt.data.toList ++ [32, 98, 121, 32] ++ (keysT p.bys).data.toList ++ [32, 119, 97, 105, 116, 32] ++ (decB p.wait).data.toList ++ [32, 98, 101, 116, 119, 101, 101, 110, 32] ++ (decB p.between).data.toList ++ [32, 114, 101, 112, 101, 97, 116, 32] ++ (decB p.again).data.toList ++ (if p.more = true then [32, 109, 111, 114, 101] else []) := by
  have h : (lineOf p d).text.data.toList = joinW (List.replicate d dashB ++ lineWords p.asks (setsOf p)) := by
    unfold LnV.text lineB deepWords
    simp [lineOf, LnV.words]
  rw [h]
  unfold lineWords
  rw [joinW_dash]
  unfold setsOf setWords
  by_cases hm : p.more = true <;> simp [hm, joinW, Set1.words]
theorem repeat_size (m : Nat) : (⟨(Lib.repeatL [45, 32] m).toArray⟩ : ByteArray).size = 2 * m := by
  have := Lib.repeatL_length [45, 32] m
  show (Lib.repeatL [45, 32] m).toArray.size = _
  rw [List.size_toArray, this]
  simp
  omega
set_option maxHeartbeats 16000000 in
/-- (*Tree).Text of a place that there is. -/
theorem tText (t : Nat) (v : Value) (ns : List RNV) (d : Nat → Nat) (k : Nat) (n : RNV) (w : World) (hB : Blk w t #[v] 74) (hN : NodesAt w v ns) (hf : TreeFit ns d) (hk : ns[k]? = some n) :
    Calls Tryz.prog 19 #[.pointer (some ⟨t, 0, none⟩), .int .i64 (k : Nat)] w fun e w' => e = .returned (.string (lineOf n.p (d k - 1)).text) ∧ Below w.heap.size w w' := by
  have hkl : k < ns.length := (List.getElem?_eq_some_iff.1 hk).1
  have hm := List.mem_of_getElem? hk
  have hfit := hf.fit n hm
  have hmany := hf.many
  have hmost := hf.most k hkl
  have hdeep := hf.deep.le k hkl
  have KN := tNode t v ns k n w hB hN (fun m hm => ⟨(hf.fit m hm).asks, (hf.fit m hm).bys⟩) hk hmany
  have KD0 := fun w' (h : Below w.heap.size w w') => tDepth t v ns d (k : Int) w' (hB.below h hB.lt) (hN.1.below h) hf.deep (by omega) (by omega) (by omega)
  have hdz : deepZ d (k : Int) = d k := by unfold deepZ; rw [if_neg (by omega)]; rfl
  rw [hdz] at KD0
  have E0 := Lib.hid (lineOf_text n.p (d k - 1))
  obtain ⟨dk, hdk⟩ : ∃ z, z = d k := ⟨_, rfl⟩
  rw [← hdk] at KD0 E0 hmost hdeep ⊢
  obtain ⟨de, hde⟩ : ∃ z, z = dk - 1 := ⟨_, rfl⟩
  rw [← hde] at E0 ⊢
  have hd1 : (dk : Int) - 1 = (de : Int) := by omega
  have hwd : IntKind.i64.wrap (de : Int) = (de : Int) := by rw [IntKind.wrap_i64]; omega
  have zt := name_size hfit.name
  have zk := keysT_size hfit.bys hfit.key
  have za := asksT_size hfit.asks hfit.ask
  have z1 := decB_size n.p.wait (by have := hfit.wait; omega)
  have z2 := decB_size n.p.between (by have := hfit.more; have := hfit.again; omega)
  have z3 := decB_size n.p.again (by have := hfit.again; omega)
  have zr := repeat_size de
  have KR := fun w' => strRepeat ⟨#[45, 32]⟩ de w' (by omega) (by decide)
  rw [show (⟨#[45, 32]⟩ : ByteArray).data.toList = [45, 32] from rfl] at KR
  have KP1 := fun w' => tPrinted n.p.wait w' (by have := hfit.wait; omega)
  have KP2 := fun w' => tPrinted n.p.between w' (by have := hfit.more; have := hfit.again; omega)
  have KP3 := fun w' => tPrinted n.p.again w' (by have := hfit.again; omega)
  obtain ⟨⟨asks, tgt, bys, wait, betw, again, more, ab⟩, va0, vb0⟩ := n
  dsimp only at hfit KN E0 zt zk za z1 z2 z3 KP1 KP2 KP3
  have hla := hfit.asks
  have hca := hfit.ask
  have hlb := hfit.bys
  obtain ⟨s1, hs1⟩ : ∃ z, z = decB wait := ⟨_, rfl⟩
  obtain ⟨s2, hs2⟩ : ∃ z, z = decB betw := ⟨_, rfl⟩
  obtain ⟨s3, hs3⟩ : ∃ z, z = decB again := ⟨_, rfl⟩
  obtain ⟨sr, hsr⟩ : ∃ z : ByteArray, z = ⟨(Lib.repeatL [45, 32] de).toArray⟩ := ⟨_, rfl⟩
  have Er := Lib.hid (show sr.data.toList = Lib.repeatL [45, 32] de by rw [hsr])
  rw [← hs1] at KP1 z1 E0
  rw [← hs2] at KP2 z2 E0
  rw [← hs3] at KP3 z3 E0
  rw [← hsr] at KR zr
  have zr' : sr.size ≤ 20 := by omega
  clear hs1 hs2 hs3 hsr hB hN hf hk hkl hm hmany hmost hdeep hdz hdk hde zr
  go_enter Tryz.func19, Tryz.ntmps19
  go_wp2_with fail
  (with_reducible refine KN.mono ?_)
  rintro e w1 ⟨va, vb, rfl, hU⟩
  clear KN
  obtain ⟨Av, cv, rfl⟩ := owns_slice (hU.row 0 rfl)
  obtain ⟨Bv, bv, rfl⟩ := owns_slice (hU.row 1 rfl)
  have hra : Rd w1 3 (.slice Av asks.length cv) asks.length (asks.flatMap aqC) := rd_of_owns (hU.row 0 rfl)
  have hrb : Rd w1 1 (.slice Bv bys.length bv) bys.length (bys.map Value.string) := rd_of_owns (hU.row 1 rfl)
  have U1 := hU.alloc #[.slice Av asks.length cv, .string tgt, .slice Bv bys.length bv, .int .u64 (wait : Nat), .int .u64 (betw : Nat), .int .u64 (again : Nat), .bool more, .int .i64 ab] 50
  have hal : Below w1.heap.size w1 (w1.alloc (.cells #[.slice Av asks.length cv, .string tgt, .slice Bv bys.length bv, .int .u64 (wait : Nat), .int .u64 (betw : Nat), .int .u64 (again : Nat), .bool more, .int .i64 ab] 50)) := (Below.refl _ _).alloc (Nat.le_refl _) _
  have hra2 := hra.below hal
  have hrb2 := hrb.below hal
  obtain ⟨na, hna⟩ : ∃ z, z = asks.length := ⟨_, rfl⟩
  obtain ⟨nb, hnb⟩ : ∃ z, z = bys.length := ⟨_, rfl⟩
  have KA0 := fun w' (h : Below (w1.alloc (.cells #[.slice Av asks.length cv, .string tgt, .slice Bv bys.length bv, .int .u64 (wait : Nat), .int .u64 (betw : Nat), .int .u64 (again : Nat), .bool more, .int .i64 ab] 50)).heap.size (w1.alloc (.cells #[.slice Av asks.length cv, .string tgt, .slice Bv bys.length bv, .int .u64 (wait : Nat), .int .u64 (betw : Nat), .int .u64 (again : Nat), .bool more, .int .i64 ab] 50)) w') => asksText asks (.slice Av asks.length cv) w' (hra2.below h) hla hca
  obtain ⟨sa, hsa⟩ : ∃ z, z = asksT asks := ⟨_, rfl⟩
  rw [← hsa] at KA0 E0 za
  have hbz := hfit.bys
  have hkey := hfit.key
  clear hU hra hsa hal hra2
  by_cases h0 : bys = []
  · subst h0
    obtain rfl : nb = 0 := hnb
    have Ek := Lib.hid (show (keysT []).data.toList = (⟨#[42]⟩ : ByteArray).data.toList from rfl)
    have zs : (⟨#[42]⟩ : ByteArray).size ≤ 80 := by decide
    rw [← hna] at U1 KA0 ⊢
    clear hrb hrb2 hna hfit hkey hbz
    go_upto_region 7 with fail
    refine wp_gen fun W9 hW9 => ?_
    have hb9 : Below (w1.alloc (.cells #[.slice Av na cv, .string tgt, .slice Bv 0 bv, .int .u64 (wait : Nat), .int .u64 (betw : Nat), .int .u64 (again : Nat), .bool more, .int .i64 ab] 50)).heap.size (w1.alloc (.cells #[.slice Av na cv, .string tgt, .slice Bv 0 bv, .int .u64 (wait : Nat), .int .u64 (betw : Nat), .int .u64 (again : Nat), .bool more, .int .i64 ab] 50)) W9 := by rw [hW9]; exact Below.refl _ _
    have U9 := U1.grow hb9
    clear hW9 U1
    have KA := fun w' (h : Below W9.heap.size W9 w') => KA0 w' (hb9.trans (h.mono hb9.size))
    have KD := fun w' (h : Below W9.heap.size W9 w') => KD0 w' (U9.below.trans (h.mono U9.size))
    clear KA0 KD0
    have F : ∀ w', Below W9.heap.size W9 w' → w'.cell? ⟨w1.heap.size, 0, none⟩ = some (.slice Av na cv) ∧ w'.cell? ⟨w1.heap.size, 1, none⟩ = some (.string tgt) ∧ w'.cell? ⟨w1.heap.size, 3, none⟩ = some (.int .u64 (wait : Nat)) ∧ w'.cell? ⟨w1.heap.size, 4, none⟩ = some (.int .u64 (betw : Nat)) ∧ w'.cell? ⟨w1.heap.size, 5, none⟩ = some (.int .u64 (again : Nat)) := fun w' h => ⟨((U9.grow h).blk 0 rfl).cell (j := 0) rfl, ((U9.grow h).blk 0 rfl).cell (j := 1) rfl, ((U9.grow h).blk 0 rfl).cell (j := 3) rfl, ((U9.grow h).blk 0 rfl).cell (j := 4) rfl, ((U9.grow h).blk 0 rfl).cell (j := 5) rfl⟩
    have ext : ∀ w' w'', Below W9.heap.size W9 w' → Below w'.heap.size w' w'' → Below W9.heap.size W9 w'' := fun w' w'' h h2 => h.trans (h2.mono h.size)
    refine FreeSl.region_free (fun w' => Below W9.heap.size W9 w') [] [] (List.range 36) (by kernel_rfl) (by kernel_rfl) (by kernel_rfl) (Below.refl _ _).drew ?_
    simp only [List.range, List.range.loop]
    repeat (first
      | (refine FreeSl.RelSeq.pure_ (c := ?_) rfl rfl ?_ ?_; rotate_left; (focus (intro x w'; dsimp only; go_simp; (first | ((repeat' apply And.intro) <;> first | with_reducible rfl | assumption) | (split <;> (try (focus (exfalso; omega))); (try go_simp); (repeat' apply And.intro) <;> first | with_reducible rfl | assumption)))); simp only [Act.put, List.setIfInBounds_toArray, List.set_cons_zero, List.set_cons_succ])
      | (refine FreeSl.RelSeq.grow_ (c := ?_) rfl rfl ?_ ?_; rotate_left; (focus (intro x w' hw _; dsimp only; obtain ⟨d0, d1, d3, d4, d5⟩ := F w' hw; have hbr := Below.refl w'.heap.size w'; go_simp; (repeat' apply And.intro) <;> first | with_reducible rfl | assumption)); simp only [Act.put, List.setIfInBounds_toArray, List.set_cons_zero, List.set_cons_succ])
      | (refine FreeSl.RelSeq.grow_ (c := ?_) rfl rfl ?_ ?_; rotate_left; (focus (intro x w' hw _; dsimp only; go_simp; (with_reducible refine (KD w' hw).mono ?_); rintro e w2 ⟨rfl, rfl⟩; have hbr := Below.refl w2.heap.size w2; go_simp; (repeat' apply And.intro) <;> first | with_reducible rfl | assumption)); simp only [Act.put, List.setIfInBounds_toArray, List.set_cons_zero, List.set_cons_succ])
      | (refine FreeSl.RelSeq.grow_ (c := ?_) rfl rfl ?_ ?_; rotate_left; (focus (intro x w' hw _; dsimp only; go_simp; (with_reducible refine (KR w').mono ?_); rintro e w2 ⟨rfl, hb2⟩; have hI := ext w' w2 hw hb2; go_simp; (repeat' apply And.intro) <;> first | with_reducible rfl | assumption)); simp only [Act.put, List.setIfInBounds_toArray, List.set_cons_zero, List.set_cons_succ])
      | (refine FreeSl.RelSeq.grow_ (c := ?_) rfl rfl ?_ ?_; rotate_left; (focus (intro x w' hw _; dsimp only; go_simp; (with_reducible refine (KA w' hw).mono ?_); rintro e w2 ⟨rfl, hb2⟩; have hI := ext w' w2 hw hb2; go_simp; (repeat' apply And.intro) <;> first | with_reducible rfl | assumption)); simp only [Act.put, List.setIfInBounds_toArray, List.set_cons_zero, List.set_cons_succ])
      | (refine FreeSl.RelSeq.grow_ (c := ?_) rfl rfl ?_ ?_; rotate_left; (focus (intro x w' hw _; dsimp only; go_simp; (with_reducible refine (KP1 w').mono ?_); rintro e w2 ⟨rfl, hb2⟩; have hI := ext w' w2 hw hb2; go_simp; (repeat' apply And.intro) <;> first | with_reducible rfl | assumption)); simp only [Act.put, List.setIfInBounds_toArray, List.set_cons_zero, List.set_cons_succ])
      | (refine FreeSl.RelSeq.grow_ (c := ?_) rfl rfl ?_ ?_; rotate_left; (focus (intro x w' hw _; dsimp only; go_simp; (with_reducible refine (KP2 w').mono ?_); rintro e w2 ⟨rfl, hb2⟩; have hI := ext w' w2 hw hb2; go_simp; (repeat' apply And.intro) <;> first | with_reducible rfl | assumption)); simp only [Act.put, List.setIfInBounds_toArray, List.set_cons_zero, List.set_cons_succ])
      | (refine FreeSl.RelSeq.grow_ (c := ?_) rfl rfl ?_ ?_; rotate_left; (focus (intro x w' hw _; dsimp only; go_simp; (with_reducible refine (KP3 w').mono ?_); rintro e w2 ⟨rfl, hb2⟩; have hI := ext w' w2 hw hb2; go_simp; (repeat' apply And.intro) <;> first | with_reducible rfl | assumption)); simp only [Act.put, List.setIfInBounds_toArray, List.set_cons_zero, List.set_cons_succ]))
    refine FreeSl.RelSeq.nil_ fun x w10 hw _ _ => ?_
    have U10 := U9.grow hw
    clear F ext KA KD KR KP1 KP2 KP3 hw U9
    refine FreeSl.TailSeq.nil_ ?_
    have m6 := (U10.blk 0 rfl).cell (j := 6) (v := .bool more) rfl
    cases more with
    | true =>
      go_wp2_with fail
      go_ret
      refine ⟨congrArg (fun s => Ending.returned (.string s)) (ba_ext ?_), U10.below⟩
      refine Eq.trans ?_ E0.out.symm
      simp [ByteArray.data_append, Er.out, Ek.out]
    | false =>
      go_wp2_with fail
      go_ret
      refine ⟨congrArg (fun s => Ending.returned (.string s)) (ba_ext ?_), U10.below⟩
      refine Eq.trans ?_ E0.out.symm
      simp [ByteArray.data_append, Er.out, Ek.out]
  · have KJ := strJoin (.slice Bv bys.length bv) bys _ hrb2 (by
      have h5 := joinC_len 8 (bys.map (·.data.toList)) fun y hy => by
        obtain ⟨b, hb, rfl⟩ := List.mem_map.1 hy
        have := word_size (hkey b hb)
        rw [Lib.size_eq] at this
        exact this
      rw [List.length_map] at h5
      omega) (by omega)
    rw [show (⟨(joinC (bys.map (·.data.toList))).toArray⟩ : ByteArray) = keysT bys by unfold keysT; rw [if_neg h0]] at KJ
    have hpb : 0 < bys.length := List.length_pos_iff.2 h0
    obtain ⟨sk, hsk⟩ : ∃ z, z = keysT bys := ⟨_, rfl⟩
    rw [← hsk] at KJ E0 zk
    have Ek := Lib.hid (rfl : sk.data.toList = sk.data.toList)
    have zs : sk.size ≤ 80 := zk
    rw [← hna] at U1 KA0 KJ ⊢
    rw [← hnb] at U1 KA0 KJ hpb ⊢
    have y2 := (U1.blk 0 rfl).cell (j := 2) (v := .slice Bv nb bv) rfl
    clear hrb hrb2 hnb hna hfit hkey hbz hsk h0
    go_wp2_with fail
    (with_reducible refine KJ.mono ?_)
    rintro e w2 ⟨rfl, hb2⟩
    have hbk := hb2
    clear KJ y2
    go_upto_region 7 with fail
    refine wp_gen fun W9 hW9 => ?_
    have hb9 : Below (w1.alloc (.cells #[.slice Av na cv, .string tgt, .slice Bv nb bv, .int .u64 (wait : Nat), .int .u64 (betw : Nat), .int .u64 (again : Nat), .bool more, .int .i64 ab] 50)).heap.size (w1.alloc (.cells #[.slice Av na cv, .string tgt, .slice Bv nb bv, .int .u64 (wait : Nat), .int .u64 (betw : Nat), .int .u64 (again : Nat), .bool more, .int .i64 ab] 50)) W9 := by rw [hW9]; exact hbk
    have U9 := U1.grow hb9
    clear hW9 U1
    have KA := fun w' (h : Below W9.heap.size W9 w') => KA0 w' (hb9.trans (h.mono hb9.size))
    have KD := fun w' (h : Below W9.heap.size W9 w') => KD0 w' (U9.below.trans (h.mono U9.size))
    clear KA0 KD0
    have F : ∀ w', Below W9.heap.size W9 w' → w'.cell? ⟨w1.heap.size, 0, none⟩ = some (.slice Av na cv) ∧ w'.cell? ⟨w1.heap.size, 1, none⟩ = some (.string tgt) ∧ w'.cell? ⟨w1.heap.size, 3, none⟩ = some (.int .u64 (wait : Nat)) ∧ w'.cell? ⟨w1.heap.size, 4, none⟩ = some (.int .u64 (betw : Nat)) ∧ w'.cell? ⟨w1.heap.size, 5, none⟩ = some (.int .u64 (again : Nat)) := fun w' h => ⟨((U9.grow h).blk 0 rfl).cell (j := 0) rfl, ((U9.grow h).blk 0 rfl).cell (j := 1) rfl, ((U9.grow h).blk 0 rfl).cell (j := 3) rfl, ((U9.grow h).blk 0 rfl).cell (j := 4) rfl, ((U9.grow h).blk 0 rfl).cell (j := 5) rfl⟩
    have ext : ∀ w' w'', Below W9.heap.size W9 w' → Below w'.heap.size w' w'' → Below W9.heap.size W9 w'' := fun w' w'' h h2 => h.trans (h2.mono h.size)
    refine FreeSl.region_free (fun w' => Below W9.heap.size W9 w') [] [] (List.range 36) (by kernel_rfl) (by kernel_rfl) (by kernel_rfl) (Below.refl _ _).drew ?_
    simp only [List.range, List.range.loop]
    repeat (first
      | (refine FreeSl.RelSeq.pure_ (c := ?_) rfl rfl ?_ ?_; rotate_left; (focus (intro x w'; dsimp only; go_simp; (first | ((repeat' apply And.intro) <;> first | with_reducible rfl | assumption) | (split <;> (try (focus (exfalso; omega))); (try go_simp); (repeat' apply And.intro) <;> first | with_reducible rfl | assumption)))); simp only [Act.put, List.setIfInBounds_toArray, List.set_cons_zero, List.set_cons_succ])
      | (refine FreeSl.RelSeq.grow_ (c := ?_) rfl rfl ?_ ?_; rotate_left; (focus (intro x w' hw _; dsimp only; obtain ⟨d0, d1, d3, d4, d5⟩ := F w' hw; have hbr := Below.refl w'.heap.size w'; go_simp; (repeat' apply And.intro) <;> first | with_reducible rfl | assumption)); simp only [Act.put, List.setIfInBounds_toArray, List.set_cons_zero, List.set_cons_succ])
      | (refine FreeSl.RelSeq.grow_ (c := ?_) rfl rfl ?_ ?_; rotate_left; (focus (intro x w' hw _; dsimp only; go_simp; (with_reducible refine (KD w' hw).mono ?_); rintro e w2 ⟨rfl, rfl⟩; have hbr := Below.refl w2.heap.size w2; go_simp; (repeat' apply And.intro) <;> first | with_reducible rfl | assumption)); simp only [Act.put, List.setIfInBounds_toArray, List.set_cons_zero, List.set_cons_succ])
      | (refine FreeSl.RelSeq.grow_ (c := ?_) rfl rfl ?_ ?_; rotate_left; (focus (intro x w' hw _; dsimp only; go_simp; (with_reducible refine (KR w').mono ?_); rintro e w2 ⟨rfl, hb2⟩; have hI := ext w' w2 hw hb2; go_simp; (repeat' apply And.intro) <;> first | with_reducible rfl | assumption)); simp only [Act.put, List.setIfInBounds_toArray, List.set_cons_zero, List.set_cons_succ])
      | (refine FreeSl.RelSeq.grow_ (c := ?_) rfl rfl ?_ ?_; rotate_left; (focus (intro x w' hw _; dsimp only; go_simp; (with_reducible refine (KA w' hw).mono ?_); rintro e w2 ⟨rfl, hb2⟩; have hI := ext w' w2 hw hb2; go_simp; (repeat' apply And.intro) <;> first | with_reducible rfl | assumption)); simp only [Act.put, List.setIfInBounds_toArray, List.set_cons_zero, List.set_cons_succ])
      | (refine FreeSl.RelSeq.grow_ (c := ?_) rfl rfl ?_ ?_; rotate_left; (focus (intro x w' hw _; dsimp only; go_simp; (with_reducible refine (KP1 w').mono ?_); rintro e w2 ⟨rfl, hb2⟩; have hI := ext w' w2 hw hb2; go_simp; (repeat' apply And.intro) <;> first | with_reducible rfl | assumption)); simp only [Act.put, List.setIfInBounds_toArray, List.set_cons_zero, List.set_cons_succ])
      | (refine FreeSl.RelSeq.grow_ (c := ?_) rfl rfl ?_ ?_; rotate_left; (focus (intro x w' hw _; dsimp only; go_simp; (with_reducible refine (KP2 w').mono ?_); rintro e w2 ⟨rfl, hb2⟩; have hI := ext w' w2 hw hb2; go_simp; (repeat' apply And.intro) <;> first | with_reducible rfl | assumption)); simp only [Act.put, List.setIfInBounds_toArray, List.set_cons_zero, List.set_cons_succ])
      | (refine FreeSl.RelSeq.grow_ (c := ?_) rfl rfl ?_ ?_; rotate_left; (focus (intro x w' hw _; dsimp only; go_simp; (with_reducible refine (KP3 w').mono ?_); rintro e w2 ⟨rfl, hb2⟩; have hI := ext w' w2 hw hb2; go_simp; (repeat' apply And.intro) <;> first | with_reducible rfl | assumption)); simp only [Act.put, List.setIfInBounds_toArray, List.set_cons_zero, List.set_cons_succ]))
    refine FreeSl.RelSeq.nil_ fun x w10 hw _ _ => ?_
    have U10 := U9.grow hw
    clear F ext KA KD KR KP1 KP2 KP3 hw U9
    refine FreeSl.TailSeq.nil_ ?_
    have m6 := (U10.blk 0 rfl).cell (j := 6) (v := .bool more) rfl
    cases more with
    | true =>
      go_wp2_with fail
      go_ret
      refine ⟨congrArg (fun s => Ending.returned (.string s)) (ba_ext ?_), U10.below⟩
      refine Eq.trans ?_ E0.out.symm
      simp [ByteArray.data_append, Er.out]
    | false =>
      go_wp2_with fail
      go_ret
      refine ⟨congrArg (fun s => Ending.returned (.string s)) (ba_ext ?_), U10.below⟩
      refine Eq.trans ?_ E0.out.symm
      simp [ByteArray.data_append, Er.out]
end Go.Proofs.YteiocplfmjkbkaaGreatDoor
