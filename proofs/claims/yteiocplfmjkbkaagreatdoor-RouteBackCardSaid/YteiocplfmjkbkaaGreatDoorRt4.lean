/-
  match.Parse at the text of right questions.
-/
import Derived.Test.YteiocplfmjkbkaaGreatDoorRt3
namespace Go.Proofs.YteiocplfmjkbkaaGreatDoor
open Go.RowKit
set_option maxRecDepth 100000

def joinC : List (List UInt8) → List UInt8
  | [] => []
  | x :: r => x ++ r.flatMap fun y => 44 :: y
theorem split_joinC : ∀ (r : List (List UInt8)) (x : List UInt8), (44 : UInt8) ∉ x → (∀ y ∈ r, (44 : UInt8) ∉ y) → splitC 44 (x ++ r.flatMap fun y => 44 :: y) = x :: r := by
  intro r
  induction r with
  | nil => intro x hx _; simp only [List.flatMap_nil, List.append_nil]; exact splitC_free 44 x hx
  | cons y r ih =>
    intro x hx h
    simp only [List.flatMap_cons, List.cons_append]
    rw [splitC_app 44 x _ hx, ih y (h y (.head _)) fun z hz => h z (.tail _ hz)]
/-- Questions as a text. -/
def asksT (l : List Aq) : ByteArray := if l = [] then ⟨#[42]⟩ else ⟨(joinC (l.map aqL)).toArray⟩
theorem asksT_ne {l : List Aq} (h : l ≠ []) : (asksT l).data.toList = joinC (l.map aqL) := by unfold asksT; rw [if_neg h]
theorem aqL_ch {a : Aq} (h : chkA a = 0) : (44 : UInt8) ∉ aqL a ∧ ∃ c t, aqL a = c :: t ∧ c ≠ 42 := by
  obtain ⟨h1, h2, h3, h4, h5⟩ := chkA_parts h
  have k1 := key_ch h1
  have kne := word_ok1 h1
  have hk44 : (44 : UInt8) ∉ a.1.data.toList := fun hm => absurd (k1 44 hm).1 (by decide)
  have hkc : ∃ c t, a.1.data.toList = c :: t ∧ c ≠ 42 := by
    cases hd : a.1.data.toList with
    | nil => exact absurd hd kne
    | cons c t => exact ⟨c, t, rfl, by rintro rfl; exact absurd (k1 42 (by rw [hd]; exact .head _)).1 (by decide)⟩
  obtain ⟨c, t, hc, hne⟩ := hkc
  have hv44 : a.2.1 < 4 → (44 : UInt8) ∉ a.2.2.data.toList := fun h6 hm => absurd (val_ch (h4 h6) 44 hm) (by decide)
  unfold aqL
  by_cases e1 : a.2.1 = 1
  · rw [if_pos e1]
    exact ⟨by simp only [List.mem_append, List.mem_cons, not_or]; exact ⟨hk44, by decide, hv44 (by omega)⟩, c, _, by rw [hc]; rfl, hne⟩
  rw [if_neg e1]
  by_cases e2 : a.2.1 = 2
  · rw [if_pos e2]
    exact ⟨by simp only [List.mem_append, List.mem_cons, not_or]; exact ⟨hk44, by decide, by decide, hv44 (by omega)⟩, c, _, by rw [hc]; rfl, hne⟩
  rw [if_neg e2]
  by_cases e3 : a.2.1 = 3
  · rw [if_pos e3]
    exact ⟨by simp only [List.mem_append, List.mem_cons, not_or]; exact ⟨hk44, by decide, by decide, hv44 (by omega)⟩, c, _, by rw [hc]; rfl, hne⟩
  rw [if_neg e3]
  split
  · exact ⟨hk44, c, t, hc, hne⟩
  · exact ⟨by simp only [List.mem_cons, not_or]; exact ⟨by decide, hk44⟩, 33, _, rfl, by decide⟩
theorem parts_asks {l : List Aq} (hne : l ≠ []) (h : ∀ a ∈ l, chkA a = 0) : partsL (asksT l) = l.map aqT := by
  have h1 := partsL_split (asksT l)
  rw [asksT_ne hne] at h1
  have h2 : splitC 44 (joinC (l.map aqL)) = l.map aqL := by
    cases l with
    | nil => exact absurd rfl hne
    | cons a r =>
      refine split_joinC _ _ (aqL_ch (h a (.head _))).1 fun y hy => ?_
      obtain ⟨b, hb, rfl⟩ := List.mem_map.1 hy
      exact (aqL_ch (h b (.tail _ hb))).1
  rw [h2] at h1
  have h3 := congrArg (List.map fun l : List UInt8 => (⟨l.toArray⟩ : ByteArray)) h1
  rw [List.map_map, List.map_map] at h3
  rw [show ((fun l : List UInt8 => (⟨l.toArray⟩ : ByteArray)) ∘ fun x : ByteArray => x.data.toList) = id from by funext x; rfl, List.map_id] at h3
  exact h3
theorem joinC_len (B : Nat) : ∀ (l : List (List UInt8)), (∀ x ∈ l, x.length ≤ B) → (joinC l).length ≤ (B + 1) * l.length := by
  intro l h
  cases l with
  | nil => simp [joinC]
  | cons x r =>
    have hx := h x (.head _)
    have key : ∀ r : List (List UInt8), (∀ y ∈ r, y.length ≤ B) → (r.flatMap fun y => (44 : UInt8) :: y).length ≤ (B + 1) * r.length := by
      intro r
      induction r with
      | nil => intro _; simp
      | cons y r ih =>
        intro h
        have h1 := h y (.head _)
        have h2 := ih fun z hz => h z (.tail _ hz)
        rw [List.flatMap_cons, List.length_append, List.length_cons, List.length_cons, Nat.mul_succ]
        omega
    have h2 := key r fun y hy => h y (.tail _ hy)
    unfold joinC
    rw [List.length_append, List.length_cons, Nat.mul_succ]
    omega
theorem asksT_size {l : List Aq} (hl : l.length ≤ 8) (h : ∀ a ∈ l, chkA a = 0) : (asksT l).size ≤ 300 := by
  by_cases hne : l = []
  · subst hne; decide
  rw [Lib.size_eq, asksT_ne hne]
  have h1 := joinC_len 32 (l.map aqL) fun x hx => by
    obtain ⟨a, ha, rfl⟩ := List.mem_map.1 hx
    have := aqT_size (h a ha)
    rw [Lib.size_eq, aqT_list] at this
    exact this
  rw [List.length_map] at h1
  omega
theorem rd_oneR {w : World} {g n : Nat} {cs : Array Value} {t : TypeId} (h : Blk w g cs t) (hn : cs.size = n) : Rd w n (.slice (some ⟨g, 0, none⟩) 1 1) 1 cs.toList :=
  ⟨_, _, rfl, by simp [hn], Nat.le_refl _, by unfold maxLen; omega, fun _ => ⟨_, _, rfl, fun j u hj => by rw [Nat.zero_add]; exact h.cell (by simpa using hj)⟩⟩
theorem rowBaseR {w0 w : World} {C : List Chunk} (h : Upd [] w0 C w) (i : Nat) {e : TypeId} {size : Nat} {v : Value} {n : Nat} {xs : List Value} (hi : C[i]? = some (chRow e size v n xs)) : w.ownsRow w0.heap.size e size v n xs :=
  owns_base (h.row i hi) fun g hg => by
    rcases h.own _ (List.mem_of_getElem? hi) g (by simp [chRow, hg]) with h1 | h1
    · cases h1
    · exact h1
theorem infoAskT : (Tryz.prog.info? 68).map (fun i => (i.zero, i.size, i.bytes)) = some (some (.agg #[.string ⟨#[]⟩, .int .u8 0, .string ⟨#[]⟩]), 3, 40) := by kernel_rfl
theorem mParseOne (a : Aq) (mx : Int) (w : World) (hm : w.cell? ⟨2, 0, none⟩ = some (.int .i64 mx)) (hc : chkA a = 0) :
    Calls Tryz.prog 75 #[.string (aqT a)] w fun e w' => e = .returned (.tuple #[.agg #[.string a.1, .int .u8 (a.2.1 : Nat), .string a.2.2], .int .i64 0]) ∧ Below w.heap.size w w' := by
  obtain ⟨key, op, x⟩ := a
  have h2 := (chkA_parts hc).2.1
  have h3 := (chkA_parts hc).2.2.1
  dsimp only at h2 h3
  obtain rfl | rfl | rfl | rfl | rfl : op = 1 ∨ op = 2 ∨ op = 3 ∨ op = 4 ∨ op = 5 := by omega
  · exact mParse1 key x mx w hm hc
  · exact mParse2 key x mx w hm hc
  · exact mParse3 key x mx w hm hc
  · exact mParse4 key x mx w hm hc
  · exact mParse5 key x mx w hm hc
set_option maxHeartbeats 4000000 in
theorem mParseAll (l : List Aq) (mx : Int) (w : World) (hl : l.length ≤ 8) (h : ∀ a ∈ l, chkA a = 0) (hm : w.cell? ⟨2, 0, none⟩ = some (.int .i64 mx)) :
    Calls Tryz.prog 60 #[.string (asksT l)] w fun e w' => ∃ v, e = .returned (.tuple #[v, .int .i64 0]) ∧ w'.ownsRow w.heap.size 68 3 v l.length (l.flatMap aqC) ∧ Below w.heap.size w w' := by
  have hz := asksT_size hl h
  have d1 : decide ((65536 : Int) < ((asksT l).size : Int)) = false := decide_eq_false (by omega)
  by_cases hne : l = []
  · subst hne
    have e0 : asksT [] = ⟨#[42]⟩ := rfl
    rw [e0] at d1 ⊢
    clear hm hz e0
    go_enter Tryz.func60, Tryz.ntmps60
    go_wp2_with fail
    go_ret2
    exact ⟨_, rfl, World.ownsRow_nil _ _ _ _, Below.refl _ _⟩
  have hp := parts_asks hne h
  have hcnt := partsL_length (asksT l)
  have hne42 : asksT l ≠ ⟨#[42]⟩ := by
    intro e
    have e1 := congrArg (fun x : ByteArray => x.data.toList) e
    dsimp only at e1
    rw [asksT_ne hne] at e1
    cases l with
    | nil => exact hne rfl
    | cons a r =>
      obtain ⟨c, t, hc, hc42⟩ := (aqL_ch (h a (.head _))).2
      rw [List.map_cons, joinC, hc] at e1
      exact hc42 (List.cons.inj e1).1
  have KS := strings_SplitC (asksT l) mx w (by omega) hm
  rw [← hcnt, hp, List.length_map] at KS
  have e1 : (asksT l == ⟨#[42]⟩) = false := by rw [beqS]; exact decide_eq_false hne42
  have e2 : ((asksT l).toList == (⟨#[42]⟩ : ByteArray).toList) = false := by rw [eqS_eq]; exact decide_eq_false hne42
  have e3 : ((asksT l).toList == [42]) = false := by rw [show (⟨#[42]⟩ : ByteArray).toList = [42] by decide +kernel] at e2; exact e2
  obtain ⟨tx, htx⟩ : ∃ y, y = asksT l := ⟨_, rfl⟩
  rw [← htx] at KS e1 e2 e3 hz d1 ⊢
  have HM := Lib.hid hm
  have HC := Lib.hid h
  obtain ⟨i0, hi, hz0, hz1, hz2⟩ := info_parts infoAskT
  clear hm h hp hcnt hne42 htx hne
  go_enter Tryz.func60, Tryz.ntmps60
  go_wp2_with fail
  (with_reducible refine KS.mono ?_)
  rintro e w1 ⟨rfl, hw1⟩
  have U1 := ((Upd.nil [] w).alloc ((l.map aqT).map Value.string).toArray 9).same hw1
  have U2 := U1.nilRow 68 3
  clear hw1 KS U1
  go_wp2_with fail
  go_loopw [4, 17] (fun v i wr => ∃ k : Nat, k ≤ l.length ∧ i = .int .i64 k ∧ Upd [] w [chRow 68 3 v k ((l.take k).flatMap aqC), chBlk w.heap.size ((l.map aqT).map Value.string).toArray 9] wr) (fun _ i _ => l.length - (intOf i).toNat)
  case atStart => exact ⟨0, Nat.zero_le _, rfl, U2⟩
  case round =>
    obtain ⟨k, hk, rfl, U3⟩ := hrel
    obtain ⟨Av, cv, rfl⟩ := owns_slice (U3.row 0 rfl)
    by_cases hlt : k < l.length
    · obtain ⟨a, ha⟩ : ∃ a, l[k]? = some a := ⟨_, List.getElem?_eq_getElem hlt⟩
      have hc := HC.out a (List.mem_of_getElem? ha)
      have c0 := (U3.blk 1 rfl).cell (j := k) (v := .string (aqT a)) (by simp [ha])
      have i1 : (k : Int) < (l.length : Int) := by omega
      have htk : (l.take (k + 1)).flatMap aqC = (l.take k).flatMap aqC ++ aqC a := by
        rw [List.take_add_one, ha, List.flatMap_append]
        simp
      have HT := Lib.hid htk
      have KP := mParseOne a mx wr (cell_updR U3 (by simp) HM.out) hc
      clear ha hc htk
      obtain ⟨ta, hta⟩ : ∃ y, y = aqT a := ⟨_, rfl⟩
      rw [← hta] at c0 KP
      clear hta
      go_wp2_with fail
      (with_reducible refine KP.mono ?_)
      rintro e w4 ⟨rfl, hb4⟩
      have U4 := U3.grow hb4
      have UA0 := (U4.alloc #[.string a.1, .int .u8 (a.2.1 : Nat), .string a.2.2] 68).alloc #[.string a.1, .int .u8 (a.2.1 : Nat), .string a.2.2] 68
      rw [allocSzR] at UA0
      clear KP hb4 U3 c0 U4
      go_wp2_with (at_builtin; refine wpl_stop fun W hW => ?_)
      refine Stopped.mk ?_
      have UA := UA0.same hW
      try rw [allocSzR]
      clear UA0 hW
      refine wpl_append_rd rfl (.tmp 29) (.tmp 31) 45 rfl 0 68 i0 _ 3 40 Tryz.underlying45 hi hz0 hz1 hz2 rfl (by decide) _ k _ rfl (UA.row 2 rfl) _ 1 _ rfl (rd_oneR (UA.blk 0 rfl) (n := 3) rfl) (by intro u hu; simp at hu; rcases hu with rfl | rfl | rfl <;> rfl) (by unfold maxLen; omega) (by omega) (Nat.zero_le _) fun v7 w7 hown7 hgr7 hv7 => ?_
      have U7 := UA.app 2 rfl hown7 hgr7 hv7
      simp only [List.eraseIdx_cons_succ, List.eraseIdx_cons_zero] at U7
      obtain ⟨A7, c7, rfl⟩ := owns_slice hown7
      have d8 : decide ((8 : Int) < (k : Int) + 1) = false := decide_eq_false (by omega)
      clear hown7 hgr7 hv7 UA
      go_wp2_with fail
      go_roundw
      case rel => exact ⟨k + 1, by omega, by go_num, by rw [HT.out]; exact (U7.drop 1).drop 1⟩
      case measure => simp [intOf]; omega
    · obtain rfl : k = l.length := by omega
      rw [List.take_length] at U3
      go_wp2_with fail
      go_ret2
      exact ⟨_, rfl, rowBaseR U3 0 rfl, U3.below⟩
end Go.Proofs.YteiocplfmjkbkaaGreatDoor
