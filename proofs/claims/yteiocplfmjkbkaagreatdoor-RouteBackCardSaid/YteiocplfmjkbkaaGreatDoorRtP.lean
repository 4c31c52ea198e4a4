/-
  route.Parse of right lines.
-/
import Derived.Test.YteiocplfmjkbkaaGreatDoorRtU
import Derived.OwnWalk
namespace Go.Proofs.YteiocplfmjkbkaaGreatDoor
open Go.RowKit
set_option maxRecDepth 100000

/-- A right line: how deep, its questions, its settings. -/
structure LnV where
  deep : Nat
  asks : List Aq
  sets : List Set1
def zeroRN : RN := ⟨[], ⟨#[]⟩, [], 0, 0, 0, false, -1⟩
def LnV.words (l : LnV) : List ByteArray := lineWords l.asks l.sets
def LnV.text (l : LnV) : ByteArray := lineB l.deep l.words
def wayTo (wy : List Nat) (d : Nat) : Nat := wy.getD (d - 1) 0
def baseOf (ns : List RN) (wy : List Nat) (d : Nat) : RN := if d = 0 then zeroRN else { ns.getD (wayTo wy d) zeroRN with above := (wayTo wy d : Nat) }
def stepL (st : List RN × List Nat) (l : LnV) : List RN × List Nat :=
  (st.1 ++ [lineNode (baseOf st.1 st.2 l.deep) l.asks l.sets], st.2.take l.deep ++ [st.1.length])
def runL (ls : List LnV) : List RN × List Nat := ls.foldl stepL ([], [])
theorem runL_succ {ls : List LnV} {k : Nat} {l : LnV} (h : ls[k]? = some l) : runL (ls.take (k + 1)) = stepL (runL (ls.take k)) l := by
  unfold runL
  rw [List.take_add_one, h, List.foldl_append]
  rfl
theorem foldl_inv {α β : Type} (P : β → Prop) (f : β → α → β) (hf : ∀ b a, P b → P (f b a)) : ∀ (l : List α) (b : β), P b → P (l.foldl f b)
  | [], _, h => h
  | a :: r, b, h => foldl_inv P f hf r (f b a) (hf b a h)
theorem runL_inv (ls : List LnV) : (∀ x ∈ (runL ls).2, x < (runL ls).1.length) ∧ (runL ls).2.length ≤ (runL ls).1.length := by
  refine foldl_inv (fun st : List RN × List Nat => (∀ x ∈ st.2, x < st.1.length) ∧ st.2.length ≤ st.1.length) stepL ?_ ls _ ⟨by simp, by simp⟩
  rintro ⟨ns, wy⟩ l ⟨h1, h2⟩
  refine ⟨fun x hx => ?_, ?_⟩
  · unfold stepL at hx ⊢
    simp only [List.length_append, List.length_cons, List.length_nil] at hx ⊢
    rcases List.mem_append.1 hx with hx | hx
    · have := h1 x (List.mem_of_mem_take hx); simp only at this; omega
    · have : x = ns.length := List.mem_singleton.1 hx
      omega
  · unfold stepL
    simp only [List.length_append, List.length_cons, List.length_nil, List.length_take] at h2 ⊢
    omega
theorem runL_len (ls : List LnV) : (runL ls).1.length = ls.length := by
  have : ∀ (l : List LnV) (st : List RN × List Nat), (l.foldl stepL st).1.length = st.1.length + l.length := by
    intro l
    induction l with
    | nil => intro st; rfl
    | cons a r ih => intro st; rw [List.foldl_cons, ih]; simp [stepL]; omega
  have h := this ls ([], [])
  simpa [runL] using h
/-- Lines that are a tree's. -/
structure LinesFit (ls : List LnV) : Prop where
  many : ls.length ≤ 32
  asks : ∀ l ∈ ls, l.asks.length ≤ 8 ∧ ∀ a ∈ l.asks, chkA a = 0
  sets : ∀ l ∈ ls, ∀ s ∈ l.sets, s.Fit
  words : ∀ l ∈ ls, (∀ y ∈ l.words, wOk y) ∧ l.text.size < 4294967281 ∧ l.sets.length ≤ 100
  deep : ∀ k l, ls[k]? = some l → l.deep ≤ (runL (ls.take k)).2.length ∧ (l.deep = 0 ↔ k = 0)
/-! ### What the nodes hold -/
def chData (fp : List Nat) (ms : List RNV) : Chunk :=
  ⟨fp, fun w => (∀ b ∈ fp, b < w.heap.size) ∧ ∀ m ∈ ms, (Rd w 3 m.va m.p.asks.length (m.p.asks.flatMap aqC) ∧ ∀ b ∈ rdFp m.va m.p.asks.length, b ∈ fp) ∧ (Rd w 1 m.vb m.p.bys.length (m.p.bys.map Value.string) ∧ ∀ b ∈ rdFp m.vb m.p.bys.length, b ∈ fp), fun w w' h hP => by
    refine ⟨fun b hb => ?_, fun m hm => ?_⟩
    · have h1 := h b hb
      have h2 := hP.1 b hb
      have h3 : w.heap[b]? = some w.heap[b] := Array.getElem?_eq_getElem h2
      rw [h3] at h1
      exact (Array.getElem?_eq_some_iff.1 h1).1
    · obtain ⟨⟨h1, h2⟩, h3, h4⟩ := hP.2 m hm
      exact ⟨⟨(chRd 3 m.va m.p.asks.length _ (by decide)).loc w w' (fun b hb => h b (h2 b hb)) h1, h2⟩, (chRd 1 m.vb m.p.bys.length _ (by decide)).loc w w' (fun b hb => h b (h4 b hb)) h3, h4⟩, fun w hP b hb => hP.1 b hb⟩
def chFp (fp : List Nat) : Chunk := ⟨fp, fun w => ∀ b ∈ fp, b < w.heap.size, fun w w' h hP b hb => by
    have h1 := h b hb
    rw [Array.getElem?_eq_getElem (hP b hb)] at h1
    exact (Array.getElem?_eq_some_iff.1 h1).1, fun w hP b hb => hP b hb⟩
theorem rdFp_owns {w : World} {base : Nat} {e : TypeId} {size : Nat} {v : Value} {n : Nat} {xs : List Value} (_h : w.ownsRow base e size v n xs) : ∀ b ∈ rdFp v n, v.ownBlock = some b := by
  intro b hb
  unfold rdFp at hb
  split at hb
  · cases hb
  · simpa using hb
theorem owns_lt {w : World} {base : Nat} {e : TypeId} {size : Nat} {v : Value} {n : Nat} {xs : List Value} (h : w.ownsRow base e size v n xs) : ∀ b, v.ownBlock = some b → b < w.heap.size := by
  intro b hb
  exact (chRow e size v n xs).inn w (owns_base h fun _ _ => Nat.zero_le _) b (by simp [chRow, hb])
/-- One node more. -/
theorem Upd.data {S : List Nat} {w0 w w' : World} {fp : List Nat} {ms : List RNV} {C : List Chunk} (h : Upd S w0 (chData fp ms :: C) w) (hb : Below w.heap.size w w') (m : RNV)
    (ha : w'.ownsRow w.heap.size 68 3 m.va m.p.asks.length (m.p.asks.flatMap aqC)) (hk : (Rd w 1 m.vb m.p.bys.length (m.p.bys.map Value.string) ∧ ∀ b ∈ rdFp m.vb m.p.bys.length, b ∈ fp) ∨ w'.ownsRow w.heap.size 9 1 m.vb m.p.bys.length (m.p.bys.map Value.string)) :
    ∃ fp', Upd S w0 (chData fp' (ms ++ [m]) :: C) w' := by
  have hD := (h.grow hb).get 0 rfl
  rcases hk with ⟨hk1, hk2⟩ | hk
  · have U := (h.grow hb).more (chFp m.va.ownBlock.toList) (fun b hx => owns_lt ha b (by simpa using hx)) (fun b hx => .inr (Nat.le_trans h.size (owns_ge ha b (by simpa [chFp] using hx)))) (fun d hd b hx hy => by
      have h1 := owns_ge ha b (by simpa [chFp] using hx)
      have h2 := h.lt hd hy
      omega)
    refine ⟨m.va.ownBlock.toList ++ fp, U.join _ ⟨fun b hx => ?_, fun n hn => ?_⟩ (fun b hx => List.mem_append.1 hx)⟩
    · rcases List.mem_append.1 hx with hx | hx
      · exact owns_lt ha b (by simpa using hx)
      · exact hD.1 b hx
    · rcases List.mem_append.1 hn with hn | hn
      · obtain ⟨⟨a1, a2⟩, a3, a4⟩ := hD.2 n hn
        exact ⟨⟨a1, fun b hb => List.mem_append.2 (.inr (a2 b hb))⟩, a3, fun b hb => List.mem_append.2 (.inr (a4 b hb))⟩
      · rw [List.mem_singleton.1 hn]
        exact ⟨⟨rd_of_owns ha, fun b hb => List.mem_append.2 (.inl (by simpa using rdFp_owns ha b hb))⟩, hk1.below hb, fun b hb => List.mem_append.2 (.inr (hk2 b hb))⟩
  · have hne := rows_apart ha hk (by decide)
    have U := (h.grow hb).more (chFp (m.va.ownBlock.toList ++ m.vb.ownBlock.toList)) (fun b hx => by
      rcases List.mem_append.1 hx with hx | hx
      · exact owns_lt ha b (by simpa using hx)
      · exact owns_lt hk b (by simpa using hx)) (fun b hx => .inr (Nat.le_trans h.size (by
      rcases List.mem_append.1 hx with hx | hx
      · exact owns_ge ha b (by simpa using hx)
      · exact owns_ge hk b (by simpa using hx)))) (fun d hd b hx hy => by
      have h2 := h.lt hd hy
      rcases List.mem_append.1 hx with hx | hx
      · have := owns_ge ha b (by simpa using hx); omega
      · have := owns_ge hk b (by simpa using hx); omega)
    refine ⟨(m.va.ownBlock.toList ++ m.vb.ownBlock.toList) ++ fp, U.join _ ⟨fun b hx => ?_, fun n hn => ?_⟩ (fun b hx => List.mem_append.1 hx)⟩
    · rcases List.mem_append.1 hx with hx | hx
      · rcases List.mem_append.1 hx with hx | hx
        · exact owns_lt ha b (by simpa using hx)
        · exact owns_lt hk b (by simpa using hx)
      · exact hD.1 b hx
    · rcases List.mem_append.1 hn with hn | hn
      · obtain ⟨⟨a1, a2⟩, a3, a4⟩ := hD.2 n hn
        exact ⟨⟨a1, fun b hb => List.mem_append.2 (.inr (a2 b hb))⟩, a3, fun b hb => List.mem_append.2 (.inr (a4 b hb))⟩
      · rw [List.mem_singleton.1 hn]
        exact ⟨⟨rd_of_owns ha, fun b hb => List.mem_append.2 (.inl (List.mem_append.2 (.inl (by simpa using rdFp_owns ha b hb))))⟩, rd_of_owns hk, fun b hb => List.mem_append.2 (.inl (List.mem_append.2 (.inr (by simpa using rdFp_owns hk b hb))))⟩
theorem owns_take {w : World} {base : Nat} {e : TypeId} {A : Option Addr} {n c m : Nat} {xs : List Value} (h : w.ownsRow base e 1 (.slice A n c) n xs) (hm : m ≤ n) : w.ownsRow base e 1 (.slice A m c) m (xs.take m) := by
  obtain ⟨hl, ⟨he, h0⟩ | ⟨g, cap, cur, he, hb, hh, h1, h2, h3, h4⟩⟩ := h
  · cases he
    obtain rfl : m = 0 := by omega
    exact ⟨by simp, .inl ⟨rfl, rfl⟩⟩
  · cases he
    refine ⟨by rw [List.length_take]; omega, .inr ⟨g, _, cur, rfl, hb, hh, by omega, h2, h3, ?_⟩⟩
    rw [← h4, List.take_take, Nat.min_eq_left (by omega), Nat.mul_one]
theorem cutWay (A : Option Addr) (n c m : Nat) (hA : ∀ x, A = some x → x.add 0 = x) (hm : m ≤ c) (W : World) :
    (Instr.slice 39 (.slice A n c) none (some (.int .i64 (m : Int))) none).run Tryz.prog W = .ok (.slice A m c) W := by
  have ht : Tryz.prog.underlying 39 = some (.slice (Tryz.prog.elem 39)) := by simp [Program.elem, Tryz.underlying39]
  have hel : Tryz.prog.elem 39 = 3 := by simp [Program.elem, Tryz.underlying39]
  rw [run_slice_h W _ _ _ _ ht .i64 _ (by omega) (by omega), hel, Tryz.sizeOf3]
  cases A with
  | none => simp [Result.andThen, sliced]
  | some x => simp [Result.andThen, sliced, hA x rfl]
theorem owns_addr {w : World} {base : Nat} {e : TypeId} {size : Nat} {A : Option Addr} {n c : Nat} {xs : List Value} (h : w.ownsRow base e size (.slice A n c) n xs) : (∀ x, A = some x → x.add 0 = x) ∧ n ≤ c := by
  rcases h.2 with ⟨he, h0⟩ | ⟨g, cap, cur, he, _, _, h1, _⟩
  · cases he; exact ⟨fun x hx => (nomatch hx), by omega⟩
  · cases he; exact ⟨fun x hx => by cases hx; rfl, h1⟩
theorem chRow_cut {e : TypeId} {size : Nat} {A : Option Addr} {n m c : Nat} {xs ys : List Value} : ∀ b ∈ (chRow e size (.slice A m c) m ys).fp, b ∈ (chRow e size (.slice A n c) n xs).fp := by
  cases A <;> exact fun b hb => hb
def ParseMade (ls : List LnV) (w : World) (e : Ending) (w' : World) : Prop := ∃ (t : Nat) (v' : Value) (ms : List RNV), e = .returned (.tuple #[.pointer (some ⟨t, 0, none⟩), .int .i64 (-1), .int .i64 0]) ∧ ms.map (·.p) = (runL ls).1 ∧ Blk w' t #[v'] 74 ∧ NodesAt w' v' ms ∧ w.heap.size ≤ t ∧ Below w.heap.size w w'
theorem route_ne : (⟨#[114, 111, 117, 116, 101]⟩ : ByteArray) ≠ dashB := by decide
set_option maxHeartbeats 16000000 in
theorem rParse (ls : List LnV) (v : Value) (mx : Int) (w : World) (hv : Rd w 1 v ls.length ((ls.map LnV.text).map Value.string)) (hf : LinesFit ls) (hn : ∀ ns : List RNV, ns.map (·.p) = (runL ls).1 → ∃ d, TreeFit ns d) (hm : w.cell? ⟨2, 0, none⟩ = some (.int .i64 mx)) (hT : Lib.TabIs Tryz.prog w "strings.asciiSpace" .u8 Lib.asciiSpaceTab) :
    Calls Tryz.prog 20 #[v] w (ParseMade ls w) := by
  obtain ⟨i0, hi, hz0, hz1, hz2⟩ := info_parts infoNodeX
  obtain ⟨n0, ni, nz0, nz1, nz2⟩ := info_parts infoIntR
  have HF := Lib.hid hf
  have HNF := Lib.hid hn
  have HM := Lib.hid hm
  have HT := Lib.hid hT
  have hmany := hf.many
  obtain ⟨nl, hnl⟩ : ∃ n, n = ls.length := ⟨_, rfl⟩
  rw [← hnl] at hv hmany
  obtain ⟨A, c, rfl, h1, h2, h3, h4⟩ := hv
  unfold maxLen at h3
  have HA := Lib.hid h4
  have HNL := Lib.hid hnl
  have hD0 : (chData [] []).P w := ⟨(fun b hb => nomatch hb), (fun m hm => nomatch hm)⟩
  have U0 := (((Upd.nil [] w).add (Below.refl _ _) (chData [] []) hD0 (fun b hb => nomatch hb)).nilRow 3 1).nilRow 50 8
  clear hf hn hm hT h1 h4 hnl hD0
  go_enter Tryz.func20, Tryz.ntmps20
  go_wp2_with fail
  go_loopw [5, 6, 20] (fun vo vw i wr => ∃ (k : Nat) (ms : List RNV) (fp : List Nat) (wy : List Nat), k ≤ nl ∧ i = .int .i64 k ∧ Hid (ms.map (·.p) = (runL (ls.take k)).1) ∧ Hid (wy = (runL (ls.take k)).2) ∧ Upd [] w [chRow 50 8 vo k (ms.flatMap rn8), chRow 3 1 vw wy.length (natV wy), chData fp ms] wr) (fun _ _ i _ => nl - (intOf i).toNat)
  case atStart => exact ⟨0, [], [], [], Nat.zero_le _, rfl, Lib.hid rfl, Lib.hid rfl, U0⟩
  case round =>
    obtain ⟨k, ms, fp, wy, hk, rfl, HMS, HWY, U1⟩ := hrel
    clear U0
    obtain ⟨Ao, co, rfl⟩ := owns_slice (U1.row 0 rfl)
    obtain ⟨Aw, cw, rfl⟩ := owns_slice (U1.row 1 rfl)
    by_cases hlt : k < nl
    · obtain ⟨b, o, rfl, hat⟩ := HA.out (by omega)
      obtain ⟨l, hl⟩ : ∃ l, ls[k]? = some l := ⟨_, List.getElem?_eq_getElem (by rw [← HNL.out]; exact hlt)⟩
      have hmem := List.mem_of_getElem? hl
      have x0 := hat.nth0 U1.below k (.string l.text) (by rw [List.getElem?_map, List.getElem?_map, hl]; rfl)
      obtain ⟨hd1, hd2⟩ := HF.out.deep k l hl
      rw [← HWY.out] at hd1
      obtain ⟨fa1, fa2⟩ := HF.out.asks l hmem
      have fs := HF.out.sets l hmem
      obtain ⟨fw1, fw2, fw3⟩ := HF.out.words l hmem
      have hsucc := runL_succ hl
      have hwl : wy.length ≤ k := by
        have h5 := (runL_inv (ls.take k)).2
        rw [runL_len, List.length_take, ← HWY.out] at h5
        omega
      have hwlt : ∀ x ∈ wy, x < k := by
        have h5 := (runL_inv (ls.take k)).1
        rw [runL_len, List.length_take, ← HWY.out] at h5
        intro x hx
        have := h5 x hx
        omega
      have hml : ms.length = k := by
        have h5 := congrArg List.length HMS.out
        rw [List.length_map, runL_len, List.length_take] at h5
        have := HNL.out
        omega
      obtain ⟨d, asks, sets⟩ := l
      dsimp only at hd1 hd2 fa1 fa2 fs fw3
      have hsl : (setWords sets).length ≤ 2 * sets.length := by
        unfold setWords
        clear fs fw1 fw2 fw3 hsucc hl hmem x0
        induction sets with
        | nil => simp
        | cons s r ih =>
          rw [List.flatMap_cons, List.length_append, List.length_cons]
          have : s.words.length ≤ 2 := by cases s <;> simp [Set1.words]
          omega
      have KL := fun w' h => rLine d ⟨#[114, 111, 117, 116, 101]⟩ (asksT asks :: setWords sets) w' fw1 route_ne fw2 (by omega) (by simp; omega) h
      have KL0 := KL _ (tab_below HT.out U1.below)
      replace x0 : wr.cell? ⟨b, o + k, none⟩ = some (.string (lineB d (⟨#[114, 111, 117, 116, 101]⟩ :: asksT asks :: setWords sets))) := x0
      obtain ⟨tx, htx⟩ : ∃ t, t = lineB d (⟨#[114, 111, 117, 116, 101]⟩ :: asksT asks :: setWords sets) := ⟨_, rfl⟩
      rw [← htx] at x0 KL0
      have HS := Lib.hid hsucc
      have HFS := Lib.hid fs
      have HFA := Lib.hid fa2
      have HML := Lib.hid hml
      have HWLT := Lib.hid hwlt
      have HD2 := Lib.hid hd2
      obtain ⟨lw, hlw⟩ : ∃ n, n = wy.length := ⟨_, rfl⟩
      have HLW := Lib.hid hlw
      rw [← hlw] at U1 hd1 hwl
      rw [← hlw]
      clear hl hmem fw1 fw2 fw3 hsucc hml hwlt hd2 hsl KL htx hat fs fa2 hlw
      go_wp2_with fail
      (with_reducible refine KL0.mono ?_)
      rintro e w2 ⟨A2, c2, rfl, hr2, hfp2, hb2⟩
      have U2 := U1.add hb2 (chRd 1 (.slice A2 (lineWords asks sets).length c2) (lineWords asks sets).length ((lineWords asks sets).map Value.string) (by decide)) hr2 hfp2
      clear KL0 hb2 U1 hfp2 x0
      obtain ⟨ln, hln⟩ : ∃ n, n = (lineWords asks sets).length := ⟨_, rfl⟩
      rw [show (⟨#[114, 111, 117, 116, 101]⟩ :: asksT asks :: setWords sets : List ByteArray).length = ln from hln.symm]
      rw [← hln] at U2
      clear hr2
      have HLN := Lib.hid hln
      clear hln
      have U3 := U2.alloc #[.int .i64 (d : Nat), .slice A2 ln c2] 96
      have bd1 : decide ((lw : Int) < (d : Int)) = false := decide_eq_false (by omega)
      have bd2 : decide (lw < d) = false := decide_eq_false (by omega)
      obtain ⟨had, hcw⟩ := owns_addr (U3.row 3 rfl)
      have hrun := cutWay Aw lw cw d had (by omega)
      clear had
      by_cases hd0 : d = 0
      · have hk0 : k = 0 := HD2.out.1 hd0
        subst hd0
        subst hk0
        go_upto_region 17 with fail
        refine wp_gen fun W5 hW5 => ?_
        have U5 := (U3.alloc #[.slice none 0 0, .string ⟨#[]⟩, .slice none 0 0, .int .u64 0, .int .u64 0, .int .u64 0, .bool false, .int .i64 (-1)] 50).same hW5
        rw [allocSzR] at U5
        clear hW5 U3
        have KN := fun w' hw' hb' hm' => rNode asks sets zeroRN (.slice none 0 0) (.slice none 0 0) (.slice A2 ln c2) mx w' hw' hb' fa1 HFA.out HFS.out hm'
        have hw5 : Rd W5 1 (.slice A2 ln c2) (lineWords asks sets).length ((lineWords asks sets).map Value.string) := by
          have := U5.get 2 rfl
          rw [← HLN.out]
          exact this
        have KN5 := (show Calls Tryz.prog 40 #[.slice A2 ln c2, .agg #[.slice none 0 0, .string ⟨#[]⟩, .slice none 0 0, .int .u64 0, .int .u64 0, .int .u64 0, .bool false, .int .i64 (-1)]] W5 (NodeMade (lineNode zeroRN asks sets) (.slice none 0 0) zeroRN.bys W5) from (KN W5 hw5 (rd_of_owns (World.ownsRow_nil W5 0 9 1)) (cell_updR U5 (by simp) HM.out)))
        have y0 := (U5.blk 0 rfl).cell (j := 0) rfl
        have y1 := (U5.blk 0 rfl).cell (j := 1) rfl
        have y2 := (U5.blk 0 rfl).cell (j := 2) rfl
        have y3 := (U5.blk 0 rfl).cell (j := 3) rfl
        have y4 := (U5.blk 0 rfl).cell (j := 4) rfl
        have y5 := (U5.blk 0 rfl).cell (j := 5) rfl
        have y6 := (U5.blk 0 rfl).cell (j := 6) rfl
        have y7 := (U5.blk 0 rfl).cell (j := 7) rfl
        have l1 := (U5.blk 1 rfl).cell (j := 1) rfl
        obtain ⟨mm, hmm⟩ : ∃ mm, mm = lineNode zeroRN asks sets := ⟨_, rfl⟩
        rw [← hmm] at KN5
        have HMM := Lib.hid hmm
        have HB5 := U5.below
        have hD5 := U5.get 5 rfl
        have U5f := U5.front 5 rfl
        simp only [List.eraseIdx_cons_succ, List.eraseIdx_cons_zero] at U5f
        clear KN hw5 hmm hrun
        go_wp2_with fail
        (with_reducible refine KN5.mono ?_)
        rintro e6 w6 ⟨va6, vb6, rfl, ha6, hk6, hb6⟩
        have hk7 : (Rd W5 1 vb6 mm.bys.length (mm.bys.map Value.string) ∧ ∀ b ∈ rdFp vb6 mm.bys.length, b ∈ fp) ∨ w6.ownsRow W5.heap.size 9 1 vb6 mm.bys.length (mm.bys.map Value.string) := by
          rcases hk6 with ⟨h5, h6⟩ | h5
          · left
            rw [h5, h6]
            exact ⟨rd_of_owns (World.ownsRow_nil W5 0 9 1), fun b hb => (nomatch hb)⟩
          · exact .inr h5
        obtain ⟨B6, n6, d6, rfl⟩ : ∃ B n c, vb6 = .slice B n c := by
          rcases hk7 with h5 | h5
          · obtain ⟨B, c, h5, _⟩ := h5.1
            exact ⟨_, _, _, h5⟩
          · obtain ⟨B, c, h5⟩ := owns_slice h5
            exact ⟨_, _, _, h5⟩
        obtain ⟨A6, c6, rfl⟩ := owns_slice ha6
        obtain ⟨fp', U6⟩ := U5f.data hb6 ⟨mm, .slice A6 mm.asks.length c6, .slice B6 n6 d6⟩ ha6 hk7
        obtain ⟨n5, hn5⟩ : ∃ n, n = mm.asks.length := ⟨_, rfl⟩
        rw [← hn5] at U6
        rw [← hn5]
        have HN5 := Lib.hid hn5
        have p0 := (U6.blk 1 rfl).cell (j := 0) rfl
        have p1 := (U6.blk 1 rfl).cell (j := 1) rfl
        have p2 := (U6.blk 1 rfl).cell (j := 2) rfl
        have p3 := (U6.blk 1 rfl).cell (j := 3) rfl
        have p4 := (U6.blk 1 rfl).cell (j := 4) rfl
        have p5 := (U6.blk 1 rfl).cell (j := 5) rfl
        have p6 := (U6.blk 1 rfl).cell (j := 6) rfl
        have p7 := (U6.blk 1 rfl).cell (j := 7) rfl
        have pf := (U6.blk 1 rfl).frozen
        have U7 := ((((((((U6.put 1 rfl 0 (.slice A6 n5 c6)).put 0 rfl 1 (.string mm.tgt)).put 0 rfl 2 (.slice B6 n6 d6)).put 0 rfl 3 (.int .u64 (mm.wait : Nat))).put 0 rfl 4 (.int .u64 (mm.between : Nat))).put 0 rfl 5 (.int .u64 (mm.again : Nat))).put 0 rfl 6 (.bool mm.more)).put 0 rfl 7 (.int .i64 mm.above)).alloc #[.slice A6 n5 c6, .string mm.tgt, .slice B6 n6 d6, .int .u64 (mm.wait : Nat), .int .u64 (mm.between : Nat), .int .u64 (mm.again : Nat), .bool mm.more, .int .i64 mm.above] 50
        simp only [List.setIfInBounds_toArray, List.set_cons_succ, List.set_cons_zero, List.eraseIdx_cons_succ, List.eraseIdx_cons_zero] at U7
        simp only [World.size_setCell] at U7
        clear U5 U5f hD5 hk6 ha6 hk7 hb6 hn5 KN5 y0 y1 y2 y3 y4 y5 y6 y7 l1 U6
        go_wp2_with (at_builtin; refine wpl_stop fun W8 hW8 => ?_)
        refine Stopped.mk ?_
        have U8 := U7.same hW8
        clear hW8 U7 p0 p1 p2 p3 p4 p5 p6 p7 pf
        refine wpl_append_rd rfl (.tmp 72) (.tmp 74) 25 rfl 0 50 i0 _ 8 104 Tryz.underlying25 hi hz0 hz1 hz2 rfl (by decide) _ 0 _ rfl (U8.row 5 rfl) _ 1 _ rfl (rd_oneR (U8.blk 0 rfl) (n := 8) rfl) (by intro u hu; simp at hu; rcases hu with rfl | rfl | rfl | rfl | rfl | rfl | rfl | rfl <;> rfl) (by unfold maxLen; omega) (by omega) (Nat.zero_le _) fun v9 w9 hown9 hgr9 hv9 => ?_
        have U9 := U8.app 5 rfl hown9 hgr9 hv9
        simp only [List.eraseIdx_cons_succ, List.eraseIdx_cons_zero] at U9
        obtain ⟨A9, c9, rfl⟩ := owns_slice hown9
        clear hown9 hgr9 hv9 U8
        have T0 := U9.front 6 rfl
        simp only [List.eraseIdx_cons_succ, List.eraseIdx_cons_zero] at T0
        have ht0 : (natV wy).take 0 = natV (wy.take 0) := by simp [natV]
        have ho0 := owns_take (T0.row 0 rfl) (m := 0) (by omega)
        rw [ht0] at ho0
        have T1 := (T0.say (chRow 3 1 (.slice Aw 0 cw) 0 (natV (wy.take 0))) ho0 chRow_cut).alloc #[.int .i64 (0 : Nat)] 3
        clear T0 U9 ht0 ho0
        go_wp2_with (at_builtin; refine wpl_stop fun W10 hW10 => ?_)
        refine Stopped.mk ?_
        have T2 := T1.same hW10
        clear hW10 T1
        refine wpl_append_rd rfl (.tmp 76) (.tmp 78) 39 rfl 0 3 n0 _ 1 8 Tryz.underlying39 ni nz0 nz1 nz2 rfl (by decide) _ 0 _ rfl (T2.row 1 rfl) _ 1 _ rfl (rd_oneR (T2.blk 0 rfl) (n := 1) rfl) (by intro u hu; simp at hu; subst hu; rfl) (by unfold maxLen; omega) (by omega) (Nat.zero_le _) fun v11 w11 hown11 hgr11 hv11 => ?_
        have T3 := T2.app 1 rfl hown11 hgr11 hv11
        simp only [List.eraseIdx_cons_succ, List.eraseIdx_cons_zero] at T3
        obtain ⟨A11, c11, rfl⟩ := owns_slice hown11
        clear hown11 hgr11 hv11 T2
        have hwy2 : (wy.take 0 ++ [0]).length = 0 + 1 := by rw [List.length_append, List.length_take, Nat.min_eq_left (by rw [← HLW.out]; omega)]; rfl
        have hst : runL (ls.take (0 + 1)) = ((runL (ls.take 0)).1 ++ [mm], wy.take 0 ++ [0]) := by
          rw [HS.out, stepL, HMM.out, ← HWY.out]
          dsimp only
          rw [show baseOf (runL (ls.take 0)).1 wy 0 = zeroRN from rfl]
          congr 3
          all_goals (first | rfl | (rw [runL_len, List.length_take]; have := HNL.out; omega))
        have HMS2 : Hid ((ms ++ [(⟨mm, .slice A6 mm.asks.length c6, .slice B6 n6 d6⟩ : RNV)]).map (·.p) = (runL (ls.take (0 + 1))).1) := Lib.hid (by rw [hst, List.map_append, HMS.out]; rfl)
        have HWY2 : Hid (wy.take 0 ++ [0] = (runL (ls.take (0 + 1))).2) := Lib.hid (by rw [hst])
        have T4 := T3.pick [2, 0, 5] (by decide)
        simp only [List.filterMap_cons, List.filterMap_nil, List.getElem?_cons_zero, List.getElem?_cons_succ] at T4
        have T5 : Upd [] w [chRow 50 8 (.slice A9 (0 + 1) c9) (0 + 1) ((ms ++ [(⟨mm, .slice A6 mm.asks.length c6, .slice B6 n6 d6⟩ : RNV)]).flatMap rn8), chRow 3 1 (.slice A11 (0 + 1) c11) (wy.take 0 ++ [0]).length (natV (wy.take 0 ++ [0])), chData fp' (ms ++ [(⟨mm, .slice A6 mm.asks.length c6, .slice B6 n6 d6⟩ : RNV)])] w11 := by
          have h1 : mm.asks.length = n5 := HN5.out.symm
          rw [hwy2, ← natV_app]
          rw [h1]
          simpa [rn8, natV] using T4
        clear T3 T4 hst hwy2
        go_wp2_with fail
        go_roundw
        case rel => exact ⟨0 + 1, _, fp', _, by omega, by go_num, HMS2, HWY2, T5⟩
        case measure => simp [intOf]; omega
      · have hk0 : ¬ k = 0 := fun h => hd0 (HD2.out.2 h)
        have q1 : ((k : Int) == 0) = false := by
          have : ¬ (k : Int) = 0 := by omega
          simpa using this
        have q2 : ((d : Int) == 0) = false := by
          have : ¬ (d : Int) = 0 := by omega
          simpa using this
        have q3 : decide ((0 : Int) < (d : Int)) = true := decide_eq_true (by omega)
        have q4 : decide (0 < d) = true := decide_eq_true (by omega)
        obtain ⟨e, he1⟩ : ∃ e, d = e + 1 := ⟨d - 1, by omega⟩
        have hde : (d : Int) - 1 = (e : Int) := by omega
        have HE1 := Lib.hid he1
        have U4 := U3.alloc #[.slice none 0 0, .string ⟨#[]⟩, .slice none 0 0, .int .u64 0, .int .u64 0, .int .u64 0, .bool false, .int .i64 (-1)] 50
        rw [allocSzR] at U4
        have hel : e < wy.length := by rw [← HLW.out]; omega
        obtain ⟨a, ha⟩ : ∃ a, wy[e]? = some a := ⟨_, List.getElem?_eq_getElem hel⟩
        have hak := HWLT.out a (List.mem_of_getElem? ha)
        obtain ⟨m0, hm0⟩ : ∃ m0, ms[a]? = some m0 := ⟨_, List.getElem?_eq_getElem (by rw [HML.out]; exact hak)⟩
        have hwt : wayTo wy d = a := by unfold wayTo; rw [he1, List.getD_eq_getElem?_getD, Nat.add_sub_cancel, ha]; rfl
        have hns : (runL (ls.take k)).1.getD a zeroRN = m0.p := by rw [← HMS.out, List.getD_eq_getElem?_getD, List.getElem?_map, hm0]; rfl
        have hba : baseOf (runL (ls.take k)).1 wy d = { m0.p with above := (a : Nat) } := by
          unfold baseOf
          rw [if_neg (by omega), hwt, hns]
        obtain ⟨_, _, he, _, _, _, hwr⟩ := rd_of_owns (U4.row 4 rfl)
        cases he
        obtain ⟨bw, ow, hwe, hwat⟩ := hwr (by omega)
        subst hwe
        have w0 := hwat e (.int .i64 (a : Nat)) (by unfold natV; rw [List.getElem?_map, ha]; rfl)
        obtain ⟨_, _, he, _, _, _, hor⟩ := rd_of_owns (U4.row 3 rfl)
        cases he
        obtain ⟨bo, oo, hoe, hoat⟩ := hor (by omega)
        subst hoe
        have hmm0 := (U4.get 5 rfl).2 m0 (List.mem_of_getElem? hm0)
        have hat0 := flatN rn8 8 rn8_len ms a m0 hm0
        have HM0 := Lib.hid hm0
        obtain ⟨⟨asks0, tgt0, bys0, wait0, betw0, again0, more0, ab0⟩, va0, vb0⟩ := m0
        dsimp only at hmm0 hat0 hba hns
        obtain ⟨A0, c0, e0, _⟩ := hmm0.1.1
        obtain ⟨B0, b0, e1, _⟩ := hmm0.2.1
        subst e0
        subst e1
        have hbr := Below.refl (((w2.alloc (.cells #[.int .i64 (d : Nat), .slice A2 ln c2] 96)).alloc (.cells #[.slice none 0 0, .string ⟨#[]⟩, .slice none 0 0, .int .u64 0, .int .u64 0, .int .u64 0, .bool false, .int .i64 (-1)] 50))).heap.size ((w2.alloc (.cells #[.int .i64 (d : Nat), .slice A2 ln c2] 96)).alloc (.cells #[.slice none 0 0, .string ⟨#[]⟩, .slice none 0 0, .int .u64 0, .int .u64 0, .int .u64 0, .bool false, .int .i64 (-1)] 50))
        have o0 := hoat.nth0 hbr (a * 8) _ (hat0 0 _ rfl)
        have o1 := hoat.nth hbr (a * 8) 1 _ (hat0 1 _ rfl)
        have o2 := hoat.nth hbr (a * 8) 2 _ (hat0 2 _ rfl)
        have o3 := hoat.nth hbr (a * 8) 3 _ (hat0 3 _ rfl)
        have o4 := hoat.nth hbr (a * 8) 4 _ (hat0 4 _ rfl)
        have o5 := hoat.nth hbr (a * 8) 5 _ (hat0 5 _ rfl)
        have o6 := hoat.nth hbr (a * 8) 6 _ (hat0 6 _ rfl)
        have o7 := hoat.nth hbr (a * 8) 7 _ (hat0 7 _ rfl)
        have z0 := (U4.blk 0 rfl).cell (j := 0) rfl
        have z1 := (U4.blk 0 rfl).cell (j := 1) rfl
        have z2 := (U4.blk 0 rfl).cell (j := 2) rfl
        have z3 := (U4.blk 0 rfl).cell (j := 3) rfl
        have z4 := (U4.blk 0 rfl).cell (j := 4) rfl
        have z5 := (U4.blk 0 rfl).cell (j := 5) rfl
        have z6 := (U4.blk 0 rfl).cell (j := 6) rfl
        have z7 := (U4.blk 0 rfl).cell (j := 7) rfl
        have zf := (U4.blk 0 rfl).frozen
        have i1 : (a : Int) < (k : Int) := by omega
        have HBA := Lib.hid hba
        clear he1 ha hwt hns hm0 hat0 hmm0 hwat hoat hwr hor hel hbr hba hak
        go_upto_region 17 with fail
        refine wp_gen fun W5 hW5 => ?_
        have U5 := (U3.alloc #[.slice A0 asks0.length c0, .string tgt0, .slice B0 bys0.length b0, .int .u64 (wait0 : Nat), .int .u64 (betw0 : Nat), .int .u64 (again0 : Nat), .bool more0, .int .i64 (a : Nat)] 50).same hW5
        rw [allocSzR] at U5
        have hD5m := (U5.get 5 rfl).2 _ (List.mem_of_getElem? HM0.out)
        dsimp only at hD5m
        clear hW5 U4 U3 z0 z1 z2 z3 z4 z5 z6 z7 zf o0 o1 o2 o3 o4 o5 o6 o7 w0
        have KN := fun w' hw' hb' hm' => rNode asks sets (⟨asks0, tgt0, bys0, wait0, betw0, again0, more0, (a : Nat)⟩ : RN) (.slice A0 asks0.length c0) (.slice B0 bys0.length b0) (.slice A2 ln c2) mx w' hw' hb' fa1 HFA.out HFS.out hm'
        have hw5 : Rd W5 1 (.slice A2 ln c2) (lineWords asks sets).length ((lineWords asks sets).map Value.string) := by
          have := U5.get 2 rfl
          rw [← HLN.out]
          exact this
        have KN5 := (id (KN W5 hw5 (hD5m).2.1 (cell_updR U5 (by simp) HM.out)))
        have y0 := (U5.blk 0 rfl).cell (j := 0) rfl
        have y1 := (U5.blk 0 rfl).cell (j := 1) rfl
        have y2 := (U5.blk 0 rfl).cell (j := 2) rfl
        have y3 := (U5.blk 0 rfl).cell (j := 3) rfl
        have y4 := (U5.blk 0 rfl).cell (j := 4) rfl
        have y5 := (U5.blk 0 rfl).cell (j := 5) rfl
        have y6 := (U5.blk 0 rfl).cell (j := 6) rfl
        have y7 := (U5.blk 0 rfl).cell (j := 7) rfl
        have l1 := (U5.blk 1 rfl).cell (j := 1) rfl
        obtain ⟨mm, hmm⟩ : ∃ mm, mm = lineNode (⟨asks0, tgt0, bys0, wait0, betw0, again0, more0, (a : Nat)⟩ : RN) asks sets := ⟨_, rfl⟩
        rw [← hmm] at KN5
        have HMM := Lib.hid hmm
        have HB5 := U5.below
        have hD5 := U5.get 5 rfl
        have U5f := U5.front 5 rfl
        simp only [List.eraseIdx_cons_succ, List.eraseIdx_cons_zero] at U5f
        clear KN hw5 hmm hrun
        go_wp2_with fail
        (with_reducible refine KN5.mono ?_)
        rintro e6 w6 ⟨va6, vb6, rfl, ha6, hk6, hb6⟩
        have hk7 : (Rd W5 1 vb6 mm.bys.length (mm.bys.map Value.string) ∧ ∀ b ∈ rdFp vb6 mm.bys.length, b ∈ fp) ∨ w6.ownsRow W5.heap.size 9 1 vb6 mm.bys.length (mm.bys.map Value.string) := by
          rcases hk6 with ⟨h5, h6⟩ | h5
          · left
            rw [h5, h6]
            exact ⟨hD5m.2.1, hD5m.2.2⟩
          · exact .inr h5
        obtain ⟨B6, n6, d6, rfl⟩ : ∃ B n c, vb6 = .slice B n c := by
          rcases hk7 with h5 | h5
          · obtain ⟨B, c, h5, _⟩ := h5.1
            exact ⟨_, _, _, h5⟩
          · obtain ⟨B, c, h5⟩ := owns_slice h5
            exact ⟨_, _, _, h5⟩
        obtain ⟨A6, c6, rfl⟩ := owns_slice ha6
        obtain ⟨fp', U6⟩ := U5f.data hb6 ⟨mm, .slice A6 mm.asks.length c6, .slice B6 n6 d6⟩ ha6 hk7
        obtain ⟨n5, hn5⟩ : ∃ n, n = mm.asks.length := ⟨_, rfl⟩
        rw [← hn5] at U6
        rw [← hn5]
        have HN5 := Lib.hid hn5
        have p0 := (U6.blk 1 rfl).cell (j := 0) rfl
        have p1 := (U6.blk 1 rfl).cell (j := 1) rfl
        have p2 := (U6.blk 1 rfl).cell (j := 2) rfl
        have p3 := (U6.blk 1 rfl).cell (j := 3) rfl
        have p4 := (U6.blk 1 rfl).cell (j := 4) rfl
        have p5 := (U6.blk 1 rfl).cell (j := 5) rfl
        have p6 := (U6.blk 1 rfl).cell (j := 6) rfl
        have p7 := (U6.blk 1 rfl).cell (j := 7) rfl
        have pf := (U6.blk 1 rfl).frozen
        have U7 := ((((((((U6.put 1 rfl 0 (.slice A6 n5 c6)).put 0 rfl 1 (.string mm.tgt)).put 0 rfl 2 (.slice B6 n6 d6)).put 0 rfl 3 (.int .u64 (mm.wait : Nat))).put 0 rfl 4 (.int .u64 (mm.between : Nat))).put 0 rfl 5 (.int .u64 (mm.again : Nat))).put 0 rfl 6 (.bool mm.more)).put 0 rfl 7 (.int .i64 mm.above)).alloc #[.slice A6 n5 c6, .string mm.tgt, .slice B6 n6 d6, .int .u64 (mm.wait : Nat), .int .u64 (mm.between : Nat), .int .u64 (mm.again : Nat), .bool mm.more, .int .i64 mm.above] 50
        simp only [List.setIfInBounds_toArray, List.set_cons_succ, List.set_cons_zero, List.eraseIdx_cons_succ, List.eraseIdx_cons_zero] at U7
        simp only [World.size_setCell] at U7
        clear U5 U5f hD5 hk6 ha6 hk7 hb6 hn5 KN5 y0 y1 y2 y3 y4 y5 y6 y7 l1 U6
        go_wp2_with (at_builtin; refine wpl_stop fun W8 hW8 => ?_)
        refine Stopped.mk ?_
        have U8 := U7.same hW8
        clear hW8 U7 p0 p1 p2 p3 p4 p5 p6 p7 pf
        refine wpl_append_rd rfl (.tmp 72) (.tmp 74) 25 rfl 0 50 i0 _ 8 104 Tryz.underlying25 hi hz0 hz1 hz2 rfl (by decide) _ k _ rfl (U8.row 5 rfl) _ 1 _ rfl (rd_oneR (U8.blk 0 rfl) (n := 8) rfl) (by intro u hu; simp at hu; rcases hu with rfl | rfl | rfl | rfl | rfl | rfl | rfl | rfl <;> rfl) (by unfold maxLen; omega) (by omega) (Nat.zero_le _) fun v9 w9 hown9 hgr9 hv9 => ?_
        have U9 := U8.app 5 rfl hown9 hgr9 hv9
        simp only [List.eraseIdx_cons_succ, List.eraseIdx_cons_zero] at U9
        obtain ⟨A9, c9, rfl⟩ := owns_slice hown9
        clear hown9 hgr9 hv9 U8
        have T0 := U9.front 6 rfl
        simp only [List.eraseIdx_cons_succ, List.eraseIdx_cons_zero] at T0
        have ht0 : (natV wy).take d = natV (wy.take d) := by simp [natV, List.map_take]
        have ho0 := owns_take (T0.row 0 rfl) (m := d) (by omega)
        rw [ht0] at ho0
        have T1 := (T0.say (chRow 3 1 (.slice (some ⟨bw, ow, none⟩) d cw) d (natV (wy.take d))) ho0 chRow_cut).alloc #[.int .i64 (k : Nat)] 3
        clear T0 U9 ht0 ho0
        go_wp2_with (at_builtin; refine wpl_stop fun W10 hW10 => ?_)
        refine Stopped.mk ?_
        have T2 := T1.same hW10
        clear hW10 T1
        refine wpl_append_rd rfl (.tmp 76) (.tmp 78) 39 rfl 0 3 n0 _ 1 8 Tryz.underlying39 ni nz0 nz1 nz2 rfl (by decide) _ d _ rfl (T2.row 1 rfl) _ 1 _ rfl (rd_oneR (T2.blk 0 rfl) (n := 1) rfl) (by intro u hu; simp at hu; subst hu; rfl) (by unfold maxLen; omega) (by omega) (Nat.zero_le _) fun v11 w11 hown11 hgr11 hv11 => ?_
        have T3 := T2.app 1 rfl hown11 hgr11 hv11
        simp only [List.eraseIdx_cons_succ, List.eraseIdx_cons_zero] at T3
        obtain ⟨A11, c11, rfl⟩ := owns_slice hown11
        clear hown11 hgr11 hv11 T2
        have hwy2 : (wy.take d ++ [k]).length = d + 1 := by rw [List.length_append, List.length_take, Nat.min_eq_left (by rw [← HLW.out]; omega)]; rfl
        have hst : runL (ls.take (k + 1)) = ((runL (ls.take k)).1 ++ [mm], wy.take d ++ [k]) := by
          rw [HS.out, stepL, HMM.out, ← HWY.out]
          dsimp only
          rw [HBA.out]
          congr 3
          all_goals (first | rfl | (rw [runL_len, List.length_take]; have := HNL.out; omega))
        have HMS2 : Hid ((ms ++ [(⟨mm, .slice A6 mm.asks.length c6, .slice B6 n6 d6⟩ : RNV)]).map (·.p) = (runL (ls.take (k + 1))).1) := Lib.hid (by rw [hst, List.map_append, HMS.out]; rfl)
        have HWY2 : Hid (wy.take d ++ [k] = (runL (ls.take (k + 1))).2) := Lib.hid (by rw [hst])
        have T4 := T3.pick [2, 0, 5] (by decide)
        simp only [List.filterMap_cons, List.filterMap_nil, List.getElem?_cons_zero, List.getElem?_cons_succ] at T4
        have T5 : Upd [] w [chRow 50 8 (.slice A9 (k + 1) c9) (k + 1) ((ms ++ [(⟨mm, .slice A6 mm.asks.length c6, .slice B6 n6 d6⟩ : RNV)]).flatMap rn8), chRow 3 1 (.slice A11 (d + 1) c11) (wy.take d ++ [k]).length (natV (wy.take d ++ [k])), chData fp' (ms ++ [(⟨mm, .slice A6 mm.asks.length c6, .slice B6 n6 d6⟩ : RNV)])] w11 := by
          have h1 : mm.asks.length = n5 := HN5.out.symm
          rw [hwy2, ← natV_app]
          rw [h1]
          simpa [rn8, natV] using T4
        clear T3 T4 hst hwy2
        go_wp2_with fail
        go_roundw
        case rel => exact ⟨k + 1, _, fp', _, by omega, by go_num, HMS2, HWY2, T5⟩
        case measure => simp [intOf]; omega
    · obtain rfl : k = nl := by omega
      have hfin : ms.map (·.p) = (runL ls).1 := by rw [HMS.out, HNL.out, List.take_length]
      obtain ⟨dd, hdd⟩ := HNF.out ms hfin
      have hml : ms.length = k := by
        have h5 := congrArg List.length hfin
        rw [List.length_map, runL_len, ← HNL.out] at h5
        exact h5
      have hna : NodesAt wr (.slice Ao k co) ms := ⟨by rw [hml]; exact rd_of_owns (U1.row 0 rfl), fun m hm => by
        have h5 := (U1.get 2 rfl).2 m hm
        exact ⟨h5.1.1, h5.2.1⟩⟩
      have KW := tNew (.slice Ao k co) ms dd wr hna hdd
      have HFIN := Lib.hid hfin
      clear hfin hdd hml hna
      go_wp2_with fail
      (with_reducible refine KW.mono ?_)
      rintro e w2 ⟨t, v', ns, rfl, h5, h6, h7, h8, h9⟩
      have H5 := Lib.hid h5
      clear h5
      go_wp2_with fail
      go_ret3
      exact ⟨t, v', ns, rfl, H5.out.trans HFIN.out, h6, h7, Nat.le_trans U1.size h8, U1.below.trans (h9.mono U1.size)⟩
end Go.Proofs.YteiocplfmjkbkaaGreatDoor
