/-
  route.parse of a right line.
-/
import Derived.Test.YteiocplfmjkbkaaGreatDoorRtT
namespace Go.Proofs.YteiocplfmjkbkaaGreatDoor
open Go.RowKit
set_option maxRecDepth 100000

def dashB : ByteArray := ⟨#[45]⟩
def deepWords (d : Nat) (ws : List ByteArray) : List ByteArray := List.replicate d dashB ++ ws
def lineB (d : Nat) (ws : List ByteArray) : ByteArray := ⟨(joinW (deepWords d ws)).toArray⟩
theorem dash_ok : wOk dashB := ⟨by decide, by decide⟩
theorem deep_ok {d : Nat} {ws : List ByteArray} (h : ∀ y ∈ ws, wOk y) : ∀ y ∈ deepWords d ws, wOk y := by
  intro y hy
  rcases List.mem_append.1 hy with hy | hy
  · rw [(List.mem_replicate.1 hy).2]; exact dash_ok
  · exact h y hy
theorem deep_at {d : Nat} {x : ByteArray} {r : List ByteArray} {k : Nat} (hk : k ≤ d) : ((deepWords d (x :: r)).map Value.string)[k]? = some (.string (if k < d then dashB else x)) := by
  unfold deepWords
  rw [List.getElem?_map]
  by_cases h : k < d
  · rw [List.getElem?_append_left (by simpa using h), if_pos h, List.getElem?_replicate, if_pos h]; rfl
  · rw [List.getElem?_append_right (by simp; omega), if_neg h, show k - (List.replicate d dashB).length = 0 by simp; omega]; rfl
theorem tab_below {w w' : World} {nm : String} {k : IntKind} {zs : List Int} (h : Lib.TabIs Tryz.prog w nm k zs) (hb : Below w.heap.size w w') : Lib.TabIs Tryz.prog w' nm k zs := by
  unfold Lib.TabIs World.var? at h ⊢
  cases hg : Tryz.prog.globalNamed nm with
  | none => rw [hg] at h; cases h
  | some g =>
    rw [hg] at h
    simp only [Option.bind_some] at h ⊢
    have hlt : g < w.heap.size := by
      cases e : w.heap[g]? with
      | none => rw [e] at h; cases h
      | some o => exact (Array.getElem?_eq_some_iff.1 e).1
    rw [hb.block g hlt]
    exact h
/-- `s[k:]`, at any world. -/
theorem cutS2 (b o c m k : Nat) (kk : Int) (hkk : kk = (k : Int)) (hc : m + k ≤ c) :
    ∃ A', (∀ W : World, (Instr.slice 46 (.slice (some ⟨b, o, none⟩) (m + k) c) (some (.int .i64 kk)) none none).run Tryz.prog W = .ok (.slice A' m (c - k)) W) ∧ (∀ (w : World) xs, Rd w 1 (.slice (some ⟨b, o, none⟩) (m + k) c) (m + k) xs → Rd w 1 (.slice A' m (c - k)) m (xs.drop k)) ∧ ∀ g ∈ rdFp (.slice A' m (c - k)) m, g = b := by
  subst hkk
  have ht : Tryz.prog.underlying 46 = some (.slice (Tryz.prog.elem 46)) := by simp [Program.elem, Tryz.underlying46]
  have hel : Tryz.prog.elem 46 = 9 := by simp [Program.elem, Tryz.underlying46]
  refine ⟨if c = k then some ⟨b, o, none⟩ else some ⟨b, o + k, none⟩, fun W => ?_, fun w xs h => ?_, fun g hg => ?_⟩
  · rw [run_slice_l W _ _ _ _ ht .i64 _ (by omega) (by omega), hel, Tryz.sizeOf9]
    by_cases h0 : c = k
    · simp [Result.andThen, sliced, h0]
    · by_cases h5 : k = 0
      · subst h5; simp [Result.andThen, sliced, Addr.add, h0]
      · simp [Result.andThen, sliced, Addr.add, h0, h5]
  · obtain ⟨A, c', he, h1, h2, h3, h4⟩ := h
    cases he
    refine ⟨_, _, rfl, by simp; omega, by omega, by omega, fun hn => ?_⟩
    obtain ⟨q', o', he, hr⟩ := h4 (by omega)
    cases he
    rw [if_neg (by omega)]
    refine ⟨_, _, rfl, fun j u hj => ?_⟩
    rw [List.getElem?_drop] at hj
    rw [Nat.add_assoc]
    exact hr _ u hj
  · unfold rdFp at hg
    split at hg
    · cases hg
    · split at hg <;> (have : g = b := List.mem_singleton.1 hg; exact this)
def LineMade (d : Nat) (ws : List ByteArray) (w : World) (e : Ending) (w' : World) : Prop := ∃ A c, e = .returned (.agg #[.int .i64 (d : Nat), .slice A ws.length c]) ∧ Rd w' 1 (.slice A ws.length c) ws.length (ws.map Value.string) ∧ (∀ b ∈ rdFp (.slice A ws.length c) ws.length, w.heap.size ≤ b) ∧ Below w.heap.size w w'
set_option maxHeartbeats 4000000 in
theorem rLine (d : Nat) (x : ByteArray) (r : List ByteArray) (w : World) (hok : ∀ y ∈ x :: r, wOk y) (hx : x ≠ dashB) (hs : (lineB d (x :: r)).size < 4294967281) (hd : d ≤ 1000) (hr : r.length ≤ 1000) (hT : Lib.TabIs Tryz.prog w "strings.asciiSpace" .u8 Lib.asciiSpaceTab) :
    Calls Tryz.prog 39 #[.string (lineB d (x :: r))] w (LineMade d (x :: r) w) := by
  have U0 := (Upd.nil [] w).alloc #[.int .i64 0, .slice none 0 0] 96
  have KF := fun w' h => Tryz.strings_Fields (lineB d (x :: r)) w' hs (fun j b hb => joinW_asc _ (deep_ok hok) b (List.mem_of_getElem? hb)) h
  have hfj := fields_join (deepWords d (x :: r)) (deep_ok hok)
  have hfl : (Lib.fields (lineB d (x :: r)).data.toList).length = (deepWords d (x :: r)).length := by
    have := congrArg List.length hfj
    rw [List.length_map, List.length_map] at this
    exact this
  have hfj : (Lib.fields (lineB d (x :: r)).data.toList).map (fun l => Value.string ⟨l.toArray⟩) = (deepWords d (x :: r)).map Value.string := hfj
  rw [hfl, hfj] at KF
  have KF0 := KF _ (tab_below hT U0.below)
  have hdl : (deepWords d (x :: r)).length = (r.length + 1) + d := by unfold deepWords; simp; omega
  have hat := fun k (hk : k ≤ d) => deep_at (r := r) (x := x) hk
  rw [hdl] at KF0
  have e1 : (x == dashB) = false := by rw [beqS]; exact decide_eq_false hx
  have e2 : (x.toList == dashB.toList) = false := by rw [eqS_eq]; exact decide_eq_false hx
  have e3 : (x.toList == [45]) = false := by rw [show dashB.toList = [45] by decide +kernel] at e2; exact e2
  have hxs : x.data.toList ≠ [] := (hok x (.head _)).1
  unfold dashB at e1 e2
  obtain ⟨n, hn⟩ : ∃ n, n = r.length + 1 := ⟨_, rfl⟩
  rw [← hn] at KF0 hdl
  have U1 := U0.alloc ((deepWords d (x :: r)).map Value.string).toArray 9
  rw [allocSzR] at U1
  obtain ⟨tx, htx⟩ : ∃ t, t = lineB d (x :: r) := ⟨_, rfl⟩
  rw [← htx] at KF0 ⊢
  rw [allocSzR] at KF0
  have HN := Lib.hid hn
  have hn0 : 1 ≤ n ∧ n ≤ 1001 := by omega
  have HDL := Lib.hid hdl
  clear KF hfl hfj hs hok hT htx hn hx hdl
  go_enter Tryz.func39, Tryz.ntmps39
  go_wp2_with fail
  (with_reducible refine KF0.mono ?_)
  rintro e w1 ⟨rfl, hw1⟩
  have U2 := U1.same hw1
  have hrd : Rd w1 1 (.slice (some ⟨w.heap.size + 1, 0, none⟩) (n + d) (n + d)) (n + d) ((deepWords d (x :: r)).map Value.string) :=
    ⟨_, _, rfl, by simp [HDL.out], Nat.le_refl _, by unfold maxLen; omega, fun _ => ⟨_, _, rfl, fun j u hu => by rw [Nat.zero_add]; exact (U2.blk 0 rfl).cell (by simpa using hu)⟩⟩
  have hcell := fun k v hk => (U2.blk 0 rfl).cell (j := k) (v := v) hk
  have hln : r.length ≤ 1000 := hr
  clear hw1 KF0 U1 U0 hr
  go_wp2_with fail
  go_loop [4] (fun i => ∃ k : Nat, k ≤ d ∧ i = .int .i64 k) (fun i => d - (intOf i).toNat)
  case atStart => exact ⟨0, Nat.zero_le _, rfl⟩
  case round =>
    obtain ⟨k, hk, rfl⟩ := hrel
    have hc := hat k hk
    have i1 : (k : Int) < (n : Int) + (d : Int) := by omega
    by_cases hlt : k < d
    · rw [if_pos hlt] at hc
      have c0 := hcell k _ (by rw [List.getElem?_toArray]; exact hc)
      unfold dashB at c0
      clear hcell hc hat
      go_wp2_with fail
      go_round
      case rel => exact ⟨k + 1, by omega, by go_num⟩
      case measure => simp [intOf]; omega
    · obtain rfl : k = d := by omega
      rw [if_neg hlt] at hc
      have c0 := hcell k _ (by rw [List.getElem?_toArray]; exact hc)
      obtain ⟨Ac, hrun, hcut0, hfp⟩ := cutS2 (w.heap.size + 1) 0 (n + k) n k (k : Int) rfl (Nat.le_refl _)
      have hcut := fun w' h => hcut0 w' ((deepWords k (x :: r)).map Value.string) h
      clear hcut0
      have hdrop : (((deepWords k (x :: r)).map Value.string).drop k) = (x :: r).map Value.string := by
        unfold deepWords
        rw [List.map_append, List.drop_append_of_le_length (by simp), List.drop_of_length_le (by simp), List.nil_append]
      rw [hdrop, Nat.add_sub_cancel] at hcut
      rw [Nat.add_sub_cancel] at hfp
      have HC := Lib.hid hcut
      have HFP := Lib.hid hfp
      have y0 := (U2.blk 1 rfl).cell (j := 0) (v := .int .i64 0) rfl
      have y1 := (U2.blk 1 rfl).cell (j := 1) (v := .slice none 0 0) rfl
      have yf := (U2.blk 1 rfl).frozen
      clear hcell hc hat hcut hdrop hrd hfp
      go_wp2_with fail
      refine bodyPost_gen fun w4 hw4 => ?_
      have V := ((U2.put 1 rfl 0 (.int .i64 (k : Nat))).put 0 rfl 1 (.slice Ac n n)).same hw4
      simp only [List.setIfInBounds_toArray, List.set_cons_succ, List.set_cons_zero, List.eraseIdx_cons_succ, List.eraseIdx_cons_zero] at V
      have a0 := (V.blk 0 rfl).cell (j := 0) (v := .int .i64 (k : Nat)) rfl
      have a1 := (V.blk 0 rfl).cell (j := 1) (v := .slice Ac n n) rfl
      have hcr : Rd w4 1 (.slice Ac n n) n ((x :: r).map Value.string) := HC.out w4 ⟨_, _, rfl, by simp [HDL.out], Nat.le_refl _, by unfold maxLen; omega, fun _ => ⟨_, _, rfl, fun j u hu => by rw [Nat.zero_add]; exact (V.blk 1 rfl).cell (by simpa using hu)⟩⟩
      refine bodyPost_ret (v := .agg #[.int .i64 (k : Nat), .slice Ac n n]) ?_ rfl ?_
      · simp [results, Tryz.results39, go_sem, a0, a1]
      · have hnl : (x :: r).length = n := HN.out.symm
        refine ⟨Ac, n, by rw [hnl], by rw [hnl]; exact hcr, fun g hg => ?_, V.below⟩
        rw [hnl] at hg
        have := HFP.out g hg
        omega
end Go.Proofs.YteiocplfmjkbkaaGreatDoor
