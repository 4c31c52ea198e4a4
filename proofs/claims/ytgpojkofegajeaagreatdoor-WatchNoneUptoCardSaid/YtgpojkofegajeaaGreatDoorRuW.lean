/-
  Going through a line's words: rules.words.
-/
import Derived.Test.YtgpojkofegajeaaGreatDoorRuP
import Derived.Test.YtgpojkofegajeaaGreatDoorLParse
namespace Go.Proofs.YtgpojkofegajeaaGreatDoor
open Go.RowKit
set_option maxRecDepth 100000

/-- Words that are left of a line, and the first error: a block g, and a row in the blocks of T that nobody writes. -/
def chWd (T : List Nat) (g : Nat) (ws : List ByteArray) (e : Nat) : Chunk :=
  ⟨g :: T, fun w => ∃ v, Blk w g #[v, .int .i64 e] 159 ∧ Rd w 1 v ws.length (wsC ws) ∧ g ∉ T ∧ (∀ q ∈ rdFp v ws.length, q ∈ T) ∧ ∀ q ∈ T, q < w.heap.size, fun w w' h hP => by
    obtain ⟨v, hB, hr, hg, hf, hT⟩ := hP
    refine ⟨v, (h g (.head _)).trans hB, (chRd 1 v ws.length (wsC ws) (by decide)).loc w w' (fun b hb => h b (.tail _ (hf b hb))) hr, hg, hf, fun q hq => ?_⟩
    have e1 := h q (.tail _ hq)
    have h1 := hT q hq
    rw [Array.getElem?_eq_getElem h1] at e1
    exact (Array.getElem?_eq_some_iff.1 e1).1, fun w hP b hb => by
    obtain ⟨v, hB, hr, hg, hf, hT⟩ := hP
    rcases List.mem_cons.1 hb with rfl | hb
    · exact hB.lt
    · exact hT b hb⟩
theorem wd_step {T : List Nat} {g : Nat} {ws ws' : List ByteArray} {e e' : Nat} {v' : Value} {w w' : World} (h : Upd [g] w [chBlk g #[v', .int .i64 e'] 159] w') (hP : (chWd T g ws e).P w) (hr : Rd w 1 v' ws'.length (wsC ws')) (hf : ∀ q ∈ rdFp v' ws'.length, q ∈ T) :
    Upd (g :: T) w [chWd T g ws' e'] w' := by
  obtain ⟨v, hB, hr0, hg, hf0, hT⟩ := hP
  have hq : ∀ q ∈ T, w'.heap[q]? = w.heap[q]? := fun q hq => h.block q (hT q hq) fun hm => hg (by rw [← List.mem_singleton.1 hm]; exact hq)
  refine ⟨h.os, h.tape, h.output, h.size, fun k hk hS => h.block k hk fun hm => hS ?_, fun c hc => ?_, fun c hc b hb => ?_, by simp⟩
  · rw [List.mem_singleton.1 hm]; exact .head _
  · rw [List.mem_singleton.1 hc]
    exact ⟨v', h.blk 0 rfl, (chRd 1 v' ws'.length (wsC ws') (by decide)).loc w w' (fun b hb => hq b (hf b hb)) hr, hg, hf, fun q hm => Nat.lt_of_lt_of_le (hT q hm) h.size⟩
  · rw [List.mem_singleton.1 hc] at hb
    exact .inl hb
def failE (e x : Nat) : Nat := if e = 0 then x else e
theorem failE_0 (x : Nat) : failE 0 x = x := rfl
theorem failE_n {e : Nat} (h : e ≠ 0) (x : Nat) : failE e x = e := if_neg h
theorem Rd.cut1 {w : World} {q o n c k : Nat} {xs : List Value} (h : Rd w 1 (.slice (some ⟨q, o, none⟩) n c) n xs) (hk : k ≤ n) :
    Rd w 1 (.slice (if c = k then some ⟨q, o, none⟩ else some ⟨q, o + k, none⟩) (n - k) (c - k)) (n - k) (xs.drop k) := by
  obtain ⟨A, c', he, h1, h2, h3, h4⟩ := h
  cases he
  refine ⟨_, _, rfl, by simp; omega, by omega, by omega, fun hn => ?_⟩
  obtain ⟨q', o', he, hr⟩ := h4 (by omega)
  cases he
  rw [if_neg (by omega)]
  refine ⟨_, _, rfl, fun j u hj => ?_⟩
  rw [List.getElem?_drop] at hj
  rw [Nat.add_assoc]
  exact hr _ u hj
theorem fp_tail {q o n c n' c' : Nat} {T : List Nat} {A : Option Addr} (hn : n ≠ 0) (hA : ∀ a, A = some a → a.block = q) (h : ∀ b ∈ rdFp (.slice (some ⟨q, o, none⟩) n c) n, b ∈ T) : ∀ b ∈ rdFp (.slice A n' c') n', b ∈ T := by
  intro b hb
  unfold rdFp at hb
  split at hb
  · cases hb
  · cases A with
    | none => simp [Value.ownBlock] at hb
    | some a =>
      have hab : b ∈ (Value.ownBlock (.slice (some a) n' c')).toList := hb
      apply h
      unfold rdFp
      rw [if_neg hn]
      have h2 := hA a rfl
      unfold Value.ownBlock at hab ⊢
      simp at hab ⊢
      rw [hab, h2]
theorem wFail (T : List Nat) (g : Nat) (ws : List ByteArray) (e x : Nat) (w : World) (hP : (chWd T g ws e).P w) :
    Calls Tryz.prog 74 #[.pointer (some ⟨g, 0, none⟩), .int .i64 x] w fun en w' => en = .returned (.tuple #[]) ∧ Upd (g :: T) w [chWd T g ws (failE e x)] w' := by
  have hP0 := hP
  obtain ⟨v, hB, hr, hg, hf, hT⟩ := hP
  have U0 := Upd.one (chBlk g #[v, .int .i64 e] 159) w hB
  by_cases he : e = 0
  · subst he
    have c1 := hB.cell (j := 1) (v := .int .i64 0) rfl
    have z1 := hB.frozen 1
    rw [failE_0]
    have HP := Lib.hid hP0
    clear hP0 hB
    go_enter Tryz.func74, Tryz.ntmps74
    go_wp2_with fail
    refine bodyPost_gen fun w2 hw2 => ?_
    have U2 := (U0.put 0 rfl 1 (.int .i64 (x : Nat))).same hw2
    simp only [List.setIfInBounds_toArray, List.set_cons_zero, List.set_cons_succ, List.eraseIdx_cons_zero] at U2
    clear hw2
    go_end0
    exact ⟨rfl, wd_step U2 HP.out hr hf⟩
  · rw [failE_n he]
    have c1 := hB.cell (j := 1) (v := .int .i64 e) rfl
    have d0 : ((e : Int) == 0) = false := by simp; omega
    have HP := Lib.hid hP0
    clear hP0 hB he
    go_enter Tryz.func74, Tryz.ntmps74
    go_wp2_with fail
    go_end0
    exact ⟨rfl, Upd.one _ w HP.out⟩
theorem wFailI (T : List Nat) (g : Nat) (ws : List ByteArray) (e x : Nat) (i : Int) (hi : i = (x : Int)) (w : World) (hP : (chWd T g ws e).P w) :
    Calls Tryz.prog 74 #[.pointer (some ⟨g, 0, none⟩), .int .i64 i] w fun en w' => en = .returned (.tuple #[]) ∧ Upd (g :: T) w [chWd T g ws (failE e x)] w' := by
  subst hi
  exact wFail T g ws e x w hP
theorem wNextN (T : List Nat) (g : Nat) (e : Nat) (w : World) (hP : (chWd T g [] e).P w) :
    Calls Tryz.prog 68 #[.pointer (some ⟨g, 0, none⟩)] w fun en w' => en = .returned (.string ⟨#[]⟩) ∧ Upd (g :: T) w [chWd T g [] (failE e 2)] w' := by
  have K := wFailI T g [] e 2 2 rfl w hP
  obtain ⟨v, hB, hr, hg, hf, hT⟩ := hP
  obtain ⟨A, c, rfl, h1, h2, h3, h4⟩ := hr
  have c0 := hB.cell (j := 0) (v := .slice A 0 c) rfl
  clear h1 h4 hB
  go_enter Tryz.func68, Tryz.ntmps68
  go_wp2_with fail
  (with_reducible refine K.mono ?_)
  rintro en w1 ⟨rfl, hU⟩
  go_wp2_with fail
  go_ret
  exact ⟨rfl, hU⟩
theorem wNextC (T : List Nat) (g : Nat) (s : ByteArray) (r : List ByteArray) (e : Nat) (w : World) (hP : (chWd T g (s :: r) e).P w) :
    Calls Tryz.prog 68 #[.pointer (some ⟨g, 0, none⟩)] w fun en w' => en = .returned (.string s) ∧ Upd (g :: T) w [chWd T g r e] w' := by
  have hP0 := hP
  obtain ⟨v, hB, hr, hg, hf, hT⟩ := hP
  have hr0 := hr
  obtain ⟨A, c, rfl, h1, h2, h3, h4⟩ := hr
  obtain ⟨b, oo, rfl, hat⟩ := h4 (by simp)
  have x0 : w.cell? ⟨b, oo, none⟩ = some (.string s) := hat 0 _ rfl
  have U0 := Upd.one (chBlk g #[.slice (some ⟨b, oo, none⟩) (r.length + 1) c, .int .i64 e] 159) w hB
  have c0 := hB.cell (j := 0) (v := .slice (some ⟨b, oo, none⟩) (r.length + 1) c) rfl
  have z0 := hB.frozen 0
  have hcut := Rd.cut1 (k := 1) hr0 (by simp)
  rw [show (wsC (s :: r)).drop 1 = wsC r from rfl, show (s :: r).length - 1 = r.length from rfl] at hcut
  have hfp := Lib.hid (fun (A' : Option Addr) (c' : Nat) (h : ∀ a, A' = some a → a.block = b) => fp_tail (n' := r.length) (c' := c') (A := A') (by simp : (s :: r).length ≠ 0) h hf)
  have h2' : r.length + 1 ≤ c := h2
  unfold maxLen at h3
  have d0 : ((r.length : Int) + 1 == 0) = false := by simp; omega
  have d1 : (0 : Int) < (r.length : Int) + 1 := by omega
  have d2 : (1 : Int) ≤ (r.length : Int) + 1 := by omega
  have HP := Lib.hid hP0
  
  clear h1 h2 h4 hat hB hr0 hP0 hf hg hT
  by_cases hc1 : c = 1
  · rw [if_pos hc1] at hcut
    subst hc1
    obtain rfl : r = [] := List.eq_nil_of_length_eq_zero (by omega)
    have HC := Lib.hid hcut
    clear hcut
    go_enter Tryz.func68, Tryz.ntmps68
    go_wp2_with fail
    refine bodyPost_gen fun w2 hw2 => ?_
    have U2 := (U0.put 0 rfl 0 (.slice (some ⟨b, oo, none⟩) 0 0)).same hw2
    simp only [List.setIfInBounds_toArray, List.set_cons_zero, List.eraseIdx_cons_zero] at U2
    clear hw2
    go_ret
    exact ⟨rfl, wd_step U2 HP.out HC.out (hfp.out _ _ (fun a ha => by cases ha; rfl))⟩
  · rw [if_neg hc1] at hcut
    have HC := Lib.hid hcut
    clear hcut
    go_enter Tryz.func68, Tryz.ntmps68
    go_wp2_with fail
    refine bodyPost_gen fun w2 hw2 => ?_
    have U2 := (U0.put 0 rfl 0 (.slice (some ⟨b, oo + 1, none⟩) r.length (c - 1))).same hw2
    simp only [List.setIfInBounds_toArray, List.set_cons_zero, List.eraseIdx_cons_zero] at U2
    clear hw2
    go_ret
    exact ⟨rfl, wd_step U2 HP.out HC.out (hfp.out _ _ (fun a ha => by cases ha; rfl))⟩
theorem wIsY (T : List Nat) (g : Nat) (s : ByteArray) (r : List ByteArray) (e : Nat) (w : World) (hP : (chWd T g (s :: r) e).P w) :
    Calls Tryz.prog 69 #[.pointer (some ⟨g, 0, none⟩), .string s] w fun en w' => en = .returned (.bool true) ∧ Upd (g :: T) w [chWd T g r e] w' := by
  have hP0 := hP
  obtain ⟨v, hB, hr, hg, hf, hT⟩ := hP
  have hr0 := hr
  obtain ⟨A, c, rfl, h1, h2, h3, h4⟩ := hr
  obtain ⟨b, oo, rfl, hat⟩ := h4 (by simp)
  have x0 : w.cell? ⟨b, oo, none⟩ = some (.string s) := hat 0 _ rfl
  have U0 := Upd.one (chBlk g #[.slice (some ⟨b, oo, none⟩) (r.length + 1) c, .int .i64 e] 159) w hB
  have c0 := hB.cell (j := 0) (v := .slice (some ⟨b, oo, none⟩) (r.length + 1) c) rfl
  have z0 := hB.frozen 0
  have hcut := Rd.cut1 (k := 1) hr0 (by simp)
  rw [show (wsC (s :: r)).drop 1 = wsC r from rfl, show (s :: r).length - 1 = r.length from rfl] at hcut
  have hfp := Lib.hid (fun (A' : Option Addr) (c' : Nat) (h : ∀ a, A' = some a → a.block = b) => fp_tail (n' := r.length) (c' := c') (A := A') (by simp : (s :: r).length ≠ 0) h hf)
  have h2' : r.length + 1 ≤ c := h2
  unfold maxLen at h3
  have d0 : ((r.length : Int) + 1 == 0) = false := by simp; omega
  have d1 : (0 : Int) < (r.length : Int) + 1 := by omega
  have d2 : (1 : Int) ≤ (r.length : Int) + 1 := by omega
  have HP := Lib.hid hP0
  have hE : (s == s) = true := by rw [beqS]; simp
  clear h1 h2 h4 hat hB hr0 hP0 hf hg hT
  by_cases hc1 : c = 1
  · rw [if_pos hc1] at hcut
    subst hc1
    obtain rfl : r = [] := List.eq_nil_of_length_eq_zero (by omega)
    have HC := Lib.hid hcut
    clear hcut
    go_enter Tryz.func69, Tryz.ntmps69
    go_wp2_with fail
    refine bodyPost_gen fun w2 hw2 => ?_
    have U2 := (U0.put 0 rfl 0 (.slice (some ⟨b, oo, none⟩) 0 0)).same hw2
    simp only [List.setIfInBounds_toArray, List.set_cons_zero, List.eraseIdx_cons_zero] at U2
    clear hw2
    go_ret
    exact ⟨rfl, wd_step U2 HP.out HC.out (hfp.out _ _ (fun a ha => by cases ha; rfl))⟩
  · rw [if_neg hc1] at hcut
    have HC := Lib.hid hcut
    clear hcut
    go_enter Tryz.func69, Tryz.ntmps69
    go_wp2_with fail
    refine bodyPost_gen fun w2 hw2 => ?_
    have U2 := (U0.put 0 rfl 0 (.slice (some ⟨b, oo + 1, none⟩) r.length (c - 1))).same hw2
    simp only [List.setIfInBounds_toArray, List.set_cons_zero, List.eraseIdx_cons_zero] at U2
    clear hw2
    go_ret
    exact ⟨rfl, wd_step U2 HP.out HC.out (hfp.out _ _ (fun a ha => by cases ha; rfl))⟩
theorem wIsN (T : List Nat) (g : Nat) (x : ByteArray) (ws : List ByteArray) (e : Nat) (w : World) (hP : (chWd T g ws e).P w) (hx : ws.head? ≠ some x) :
    Calls Tryz.prog 69 #[.pointer (some ⟨g, 0, none⟩), .string x] w fun en w' => en = .returned (.bool false) ∧ w' = w := by
  obtain ⟨v, hB, hr, hg, hf, hT⟩ := hP
  obtain ⟨A, c, rfl, h1, h2, h3, h4⟩ := hr
  cases ws with
  | nil =>
    have c0 := hB.cell (j := 0) (v := .slice A 0 c) rfl
    clear h1 h4 hB
    go_enter Tryz.func69, Tryz.ntmps69
    go_wp2_with fail
    go_ret
    exact ⟨rfl, rfl⟩
  | cons s r =>
    obtain ⟨b, oo, rfl, hat⟩ := h4 (by simp)
    have x0 : w.cell? ⟨b, oo, none⟩ = some (.string s) := hat 0 _ rfl
    have c0 := hB.cell (j := 0) (v := .slice (some ⟨b, oo, none⟩) (r.length + 1) c) rfl
    have hs : s ≠ x := fun h => hx (by rw [h]; rfl)
    have hE : (s == x) = false := by rw [beqS]; simpa using hs
    have hT2 : (s.toList == x.toList) = false := by rw [eqS_eq]; simpa using hs
    have d0 : ((r.length : Int) + 1 == 0) = false := by simp; omega
    have d1 : (0 : Int) < (r.length : Int) + 1 := by omega
    clear h1 h4 hB hat hs hx
    go_enter Tryz.func69, Tryz.ntmps69
    go_wp2_with fail
    go_ret
    exact ⟨rfl, rfl⟩
def nxE (ws : List ByteArray) (e : Nat) : Nat := match ws with | [] => failE e 2 | _ :: _ => e
def isW (x : ByteArray) (ws : List ByteArray) : Bool := decide (ws.head? = some x)
def skipW (x : ByteArray) (ws : List ByteArray) : List ByteArray := if isW x ws = true then ws.tail else ws
theorem wNext (T : List Nat) (g : Nat) (ws : List ByteArray) (e : Nat) (w : World) (hP : (chWd T g ws e).P w) :
    Calls Tryz.prog 68 #[.pointer (some ⟨g, 0, none⟩)] w fun en w' => en = .returned (.string (ws.headD ⟨#[]⟩)) ∧ Upd (g :: T) w [chWd T g ws.tail (nxE ws e)] w' := by
  cases ws with
  | nil => exact wNextN T g e w hP
  | cons s r => exact wNextC T g s r e w hP
theorem wIs (T : List Nat) (g : Nat) (x : ByteArray) (ws : List ByteArray) (e : Nat) (w : World) (hP : (chWd T g ws e).P w) :
    Calls Tryz.prog 69 #[.pointer (some ⟨g, 0, none⟩), .string x] w fun en w' => en = .returned (.bool (isW x ws)) ∧ Upd (g :: T) w [chWd T g (skipW x ws) e] w' := by
  by_cases h : ws.head? = some x
  · cases ws with
    | nil => cases h
    | cons s r =>
      obtain rfl : s = x := by simpa using h
      rw [show skipW s (s :: r) = r by unfold skipW isW; rw [if_pos (by simp)]; rfl, show isW s (s :: r) = true by unfold isW; simp]
      exact wIsY T g s r e w hP
  · rw [show skipW x ws = ws by unfold skipW isW; rw [if_neg (by simpa using h)], show isW x ws = false by unfold isW; simpa using h]
    refine (wIsN T g x ws e w hP h).mono ?_
    rintro en w' ⟨rfl, rfl⟩
    exact ⟨rfl, Upd.one _ _ hP⟩
theorem wWant (T : List Nat) (g : Nat) (x : ByteArray) (ws : List ByteArray) (e : Nat) (w : World) (hP : (chWd T g ws e).P w) :
    Calls Tryz.prog 72 #[.pointer (some ⟨g, 0, none⟩), .string x] w fun en w' => en = .returned (.tuple #[]) ∧ Upd (g :: T) w [chWd T g (skipW x ws) (if isW x ws = true then e else failE e 2)] w' := by
  have K := wIs T g x ws e w hP
  cases h : isW x ws with
  | true =>
    rw [h] at K
    rw [if_pos rfl]
    clear h
    go_enter Tryz.func72, Tryz.ntmps72
    go_wp2_with fail
    (with_reducible refine K.mono ?_)
    rintro en w1 ⟨rfl, hU⟩
    go_wp2_with fail
    go_end0
    exact ⟨rfl, hU⟩
  | false =>
    rw [h] at K
    rw [if_neg (by decide)]
    clear h
    go_enter Tryz.func72, Tryz.ntmps72
    go_wp2_with fail
    (with_reducible refine K.mono ?_)
    rintro en w1 ⟨rfl, hU⟩
    have K2 := wFailI T g (skipW x ws) e 2 2 rfl w1 (hU.get 0 rfl)
    go_wp2_with fail
    (with_reducible refine K2.mono ?_)
    rintro en w2 ⟨rfl, hU2⟩
    have U2 := hU.turn 0 rfl hU2
    go_wp2_with fail
    go_end0
    exact ⟨rfl, U2⟩
def nmV (ws : List ByteArray) (most : Nat) : Nat := if numO (ws.headD ⟨#[]⟩) most = true then numN (ws.headD ⟨#[]⟩) else 0
def nmE (ws : List ByteArray) (most e : Nat) : Nat := if numO (ws.headD ⟨#[]⟩) most = true then nxE ws e else failE (nxE ws e) 27
theorem headD_small {ws : List ByteArray} (hz : ∀ s ∈ ws, s.size ≤ maxLen) : (ws.headD ⟨#[]⟩).size ≤ maxLen := by
  cases ws with
  | nil => decide
  | cons s r => exact hz s (.head _)
theorem wNumber (T : List Nat) (g : Nat) (ws : List ByteArray) (e most : Nat) (mi : Int) (hmi : mi = (most : Int)) (w : World) (hP : (chWd T g ws e).P w) (hz : ∀ s ∈ ws, s.size ≤ maxLen) :
    Calls Tryz.prog 73 #[.pointer (some ⟨g, 0, none⟩), .int .u64 mi] w fun en w' => en = .returned (.int .u64 (nmV ws most : Nat)) ∧ Upd (g :: T) w [chWd T g ws.tail (nmE ws most e)] w' := by
  have K := wNext T g ws e w hP
  have N := fun w' => condNumberI (ws.headD ⟨#[]⟩) most mi hmi w' (headD_small hz)
  have HV := Lib.hid (show nmV ws most = if numO (ws.headD ⟨#[]⟩) most = true then numN (ws.headD ⟨#[]⟩) else 0 from rfl)
  have HE := Lib.hid (show nmE ws most e = if numO (ws.headD ⟨#[]⟩) most = true then nxE ws e else failE (nxE ws e) 27 from rfl)
  obtain ⟨s, hs⟩ : ∃ s, s = ws.headD ⟨#[]⟩ := ⟨_, rfl⟩
  obtain ⟨b, hb⟩ : ∃ b, b = numO s most := ⟨_, rfl⟩
  rw [← hs] at K N HV HE
  rw [← hb] at N HV HE
  clear hb hs hz hmi
  cases b with
  | true =>
    go_enter Tryz.func73, Tryz.ntmps73
    go_wp2_with fail
    (with_reducible refine K.mono ?_)
    rintro en w1 ⟨rfl, hU⟩
    go_wp2_with fail
    (with_reducible refine (N _).mono ?_)
    rintro en w2 ⟨rfl, rfl⟩
    go_wp2_with fail
    go_ret
    exact ⟨by rw [HV.out]; rfl, by rw [HE.out]; exact hU⟩
  | false =>
    go_enter Tryz.func73, Tryz.ntmps73
    go_wp2_with fail
    (with_reducible refine K.mono ?_)
    rintro en w1 ⟨rfl, hU⟩
    go_wp2_with fail
    (with_reducible refine (N _).mono ?_)
    rintro en w2 ⟨rfl, rfl⟩
    have K2 := wFailI T g ws.tail (nxE ws e) 27 27 rfl w2 (hU.get 0 rfl)
    go_wp2_with fail
    (with_reducible refine K2.mono ?_)
    rintro en w3 ⟨rfl, hU2⟩
    have U2 := hU.turn 0 rfl hU2
    go_wp2_with fail
    go_ret
    exact ⟨by rw [HV.out]; rfl, by rw [HE.out]; exact U2⟩
def lbE (ws : List ByteArray) (e : Nat) : Nat := if (parseC (ws.headD ⟨#[]⟩)).1 = 0 then nxE ws e else failE (nxE ws e) (parseC (ws.headD ⟨#[]⟩)).1
def lbL (ws : List ByteArray) : List Pr := (parseC (ws.headD ⟨#[]⟩)).2
theorem cell_upd {S : List Nat} {w w' : World} {C : List Chunk} {b o : Nat} {v : Value} (h : Upd S w C w') (hb : b ∉ S) (hc : w.cell? ⟨b, o, none⟩ = some v) : w'.cell? ⟨b, o, none⟩ = some v := by
  rw [World.cell?_of_block (h.block b (World.block_lt_of_cell? w _ hc) hb)]
  exact hc
theorem wLabels (T : List Nat) (g : Nat) (ws : List ByteArray) (e : Nat) (mx : Int) (w : World) (hP : (chWd T g ws e).P w) (hz : ∀ s ∈ ws, s.size ≤ maxLen) (hm : w.cell? ⟨2, 0, none⟩ = some (.int .i64 mx)) (hn : 2 ∉ g :: T) :
    Calls Tryz.prog 70 #[.pointer (some ⟨g, 0, none⟩)] w fun en w' => ∃ v, en = .returned v ∧ Upd (g :: T) w [chWd T g ws.tail (lbE ws e), chRow 92 2 v (lbL ws).length (pairCells (lbL ws))] w' := by
  have K := wNext T g ws e w hP
  have N := fun w' h => lParse (ws.headD ⟨#[]⟩) mx w' (headD_small hz) h
  have HE := Lib.hid (show lbE ws e = if (parseC (ws.headD ⟨#[]⟩)).1 = 0 then nxE ws e else failE (nxE ws e) (parseC (ws.headD ⟨#[]⟩)).1 from rfl)
  unfold lbL
  obtain ⟨s, hs⟩ : ∃ s, s = ws.headD ⟨#[]⟩ := ⟨_, rfl⟩
  rw [← hs] at K N HE ⊢
  obtain ⟨l, hl⟩ : ∃ l, l = (parseC s).2 := ⟨_, rfl⟩
  obtain ⟨c, hc⟩ : ∃ c, c = (parseC s).1 := ⟨_, rfl⟩
  rw [← hl] at N ⊢
  rw [← hc] at N HE
  clear hl hc hs hz
  by_cases h0 : c = 0
  · subst h0
    go_enter Tryz.func70, Tryz.ntmps70
    go_wp2_with fail
    (with_reducible refine K.mono ?_)
    rintro en w1 ⟨rfl, hU⟩
    have N1 := N w1 (cell_upd hU hn hm)
    go_wp2_with fail
    (with_reducible refine N1.mono ?_)
    rintro en w2 ⟨v, rfl, ho, hb⟩
    have U2 := hU.addRow hb ho (Nat.le_refl _)
    clear N N1 hU ho hb
    go_wp2_with fail
    go_ret
    exact ⟨v, rfl, by rw [HE.out]; exact U2.front 1 rfl⟩
  · have hce2 : ((c : Int) == 0) = false := by simp; omega
    have hc0 := Lib.hid h0
    clear h0
    go_enter Tryz.func70, Tryz.ntmps70
    go_wp2_with fail
    (with_reducible refine K.mono ?_)
    rintro en w1 ⟨rfl, hU⟩
    have N1 := N w1 (cell_upd hU hn hm)
    go_wp2_with fail
    (with_reducible refine N1.mono ?_)
    rintro en w2 ⟨v, rfl, ho, hb⟩
    have U2 := hU.addRow hb ho (Nat.le_refl _)
    have K2 := wFailI T g ws.tail (nxE ws e) c c rfl w2 (U2.get 1 rfl)
    clear N N1 hU ho hb
    go_wp2_with fail
    (with_reducible refine K2.mono ?_)
    rintro en w3 ⟨rfl, hU3⟩
    have U3 := U2.turn 1 rfl hU3
    clear U2 hU3 K2
    go_wp2_with fail
    go_ret
    exact ⟨v, rfl, by rw [HE.out, if_neg hc0.out]; exact U3⟩
def cutN (x : ByteArray) : List ByteArray → Nat
  | [] => 0
  | s :: r => if s = x then 0 else cutN x r + 1
theorem cutN_le (x : ByteArray) : ∀ ws, cutN x ws ≤ ws.length := by
  intro ws
  induction ws with
  | nil => simp [cutN]
  | cons s r ih =>
    unfold cutN
    split
    · omega
    · simp; omega
theorem cutN_in (x : ByteArray) : ∀ (ws : List ByteArray) (k : Nat), k < cutN x ws → ∃ s, ws[k]? = some s ∧ s ≠ x := by
  intro ws
  induction ws with
  | nil => intro k h; simp [cutN] at h
  | cons s r ih =>
    intro k h
    unfold cutN at h
    split at h
    · omega
    · rename_i hs
      cases k with
      | zero => exact ⟨s, rfl, hs⟩
      | succ k => exact ih k (by omega)
theorem cutN_end (x : ByteArray) : ∀ (ws : List ByteArray), cutN x ws < ws.length → ws[cutN x ws]? = some x := by
  intro ws
  induction ws with
  | nil => intro h; simp at h
  | cons s r ih =>
    intro h
    unfold cutN at h ⊢
    split
    · rename_i hs; rw [hs]; rfl
    · rename_i hs
      rw [if_neg hs] at h
      exact ih (by simp at h; omega)
theorem Rd.preW {w : World} {A : Option Addr} {n c m : Nat} {xs : List Value} (h : Rd w 1 (.slice A n c) n xs) (hm : m ≤ n) : Rd w 1 (.slice A m c) m (xs.take m) := by
  obtain ⟨A', c', he, h1, h2, h3, h4⟩ := h
  cases he
  refine ⟨_, _, rfl, by simp; omega, by omega, h3, fun hn => ?_⟩
  obtain ⟨q, o, rfl, hr⟩ := h4 (by omega)
  exact ⟨q, o, rfl, fun j u hj => hr j u (by
    rw [List.getElem?_take] at hj
    split at hj
    · exact hj
    · cases hj)⟩
theorem rd_nilK {w : World} {A : Option Addr} {n c : Nat} (hn : n = 0) (hc : c ≤ maxLen) : Rd w 1 (.slice A n c) ([] : List ByteArray).length (wsC []) := by
  subst hn
  exact ⟨A, c, rfl, rfl, Nat.zero_le _, hc, fun h => absurd h (by simp)⟩
def cdA (x : ByteArray) (ws : List ByteArray) : Value := condA (ws.take (cutN x ws))
def cdE (x : ByteArray) (ws : List ByteArray) (e : Nat) : Nat := if condE (ws.take (cutN x ws)) = 0 then e else failE e (condE (ws.take (cutN x ws)))
set_option maxHeartbeats 4000000 in
theorem wCond (T : List Nat) (g : Nat) (x : ByteArray) (ws : List ByteArray) (e : Nat) (w : World) (hP : (chWd T g ws e).P w) (hz : ∀ s ∈ ws, s.size ≤ maxLen) :
    Calls Tryz.prog 71 #[.pointer (some ⟨g, 0, none⟩), .string x] w fun en w' => en = .returned (cdA x ws) ∧ Upd (g :: T) w [chWd T g (ws.drop (cutN x ws)) (cdE x ws e)] w' := by
  have U1 := (show Upd (g :: T) w [chWd T g ws e] w from Upd.one _ w hP).alloc #[.int .u8 0, .int .i64 0, .int .u64 0] 28
  have hk0 := cutN_le x ws
  have hA : ∃ K L Tn, condA (ws.take (cutN x ws)) = .agg #[.int .u8 (K : Nat), .int .i64 L, .int .u64 (Tn : Nat)] := ⟨_, _, _, rfl⟩
  have hcd : cdA x ws = condA (ws.take (cutN x ws)) := rfl
  have hce : cdE x ws e = if condE (ws.take (cutN x ws)) = 0 then e else failE e (condE (ws.take (cutN x ws))) := rfl
  have hEnd := cutN_end x ws
  have hIn := cutN_in x ws
  have NPf := fun (W : World) (A : Option Addr) (c : Nat) (hr : Rd W 1 (.slice A ws.length c) ws.length (wsC ws)) => condParse (.slice A (cutN x ws) c) (ws.take (cutN x ws)) W (by
    have e1 : (ws.take (cutN x ws)).length = cutN x ws := by rw [List.length_take]; omega
    rw [e1, show wsC (ws.take (cutN x ws)) = (wsC ws).take (cutN x ws) by simp [wsC]]
    exact Rd.preW hr hk0) (fun s hs => hz s (List.mem_of_mem_take hs))
  rw [hcd, hce]
  obtain ⟨n, hkk⟩ : ∃ n, n = cutN x ws := ⟨_, rfl⟩
  obtain ⟨ce, hc⟩ : ∃ y, y = condE (ws.take (cutN x ws)) := ⟨_, rfl⟩
  obtain ⟨K, L, Tn, hA⟩ := hA
  rw [← hc] at NPf ⊢
  rw [hA] at NPf ⊢
  rw [← hkk] at hEnd hIn NPf hk0 ⊢
  clear hcd hce hc hA hkk hz
  have HEnd := Lib.hid hEnd
  have HIn := Lib.hid hIn
  obtain ⟨_, hB00, _⟩ := hP
  have hgl := hB00.lt
  clear hB00 hEnd hIn
  go_enter Tryz.func71, Tryz.ntmps71
  go_wp2_with fail
  refine wp_gen fun W hW => ?_
  have UW := U1.same hW
  clear U1 hW
  obtain ⟨v, hB, hr, hg, hf, hT⟩ := UW.get 1 rfl
  have hr0 := hr
  obtain ⟨A, c, rfl, h1, h2, h3, h4⟩ := hr
  unfold maxLen at h3
  have HB1 := Lib.hid (show ∀ k s, ws[k]? = some s → ∃ b oo, A = some ⟨b, oo, none⟩ ∧ W.cell? ⟨b, oo + k, none⟩ = some (.string s) from fun k s hs => by
    obtain ⟨b, oo, rfl, hat⟩ := h4 (by have := (List.getElem?_eq_some_iff.1 hs).1; omega)
    exact ⟨b, oo, rfl, hat k _ (by simp [wsC, hs])⟩)
  have c0 := hB.cell (j := 0) (v := .slice A ws.length c) rfl
  have HR := Lib.hid hr0
  have HUW := Lib.hid UW
  have NP := NPf W A c hr0
  clear hr0 h4 hB h1 hf hT UW NPf
  go_loopw [5] (fun i wr => ∃ k : Nat, k ≤ n ∧ i = .int .i64 k ∧ W = wr) (fun i _ => n - (intOf i).toNat)
  case atStart => exact ⟨0, Nat.zero_le _, rfl, rfl⟩
  case round =>
    obtain ⟨k, hk, rfl, rfl⟩ := hrel
    by_cases hlt : k < n
    · obtain ⟨s, hs, hne⟩ := HIn.out k hlt
      obtain ⟨b, oo, rfl, x1⟩ := HB1.out k s hs
      have i1 : (k : Int) < (ws.length : Int) := by omega
      have hE : (s == x) = false := by rw [beqS]; simpa using hne
      have hT2 : (s.toList == x.toList) = false := by rw [eqS_eq]; simpa using hne
      clear hs hne
      go_wp2_with fail
      go_roundw
      case rel => exact ⟨k + 1, by omega, by go_num, by first | rfl | trivial⟩
      case measure => simp [intOf]; omega
    · obtain rfl : k = n := by omega
      clear hk hlt
      have hkc : (k : Int) ≤ (c : Int) := by omega
      have k1 : (0 : Int) ≤ (k : Int) := by omega
      by_cases hend : k < ws.length
      · obtain ⟨b, oo, rfl, x1⟩ := HB1.out k x (HEnd.out hend)
        have i1 : (k : Int) < (ws.length : Int) := by omega
        have hE : (x == x) = true := by rw [beqS]; simp
        by_cases h0 : ce = 0
        · subst h0
          go_wp2_with fail
          (with_reducible refine NP.mono ?_)
          rintro en w1 ⟨rfl, hb1⟩
          have U2 := HUW.out.grow hb1
          clear NP hb1
          obtain ⟨v2, hB2, hr2, hg2, hf2, hT2⟩ := U2.get 1 rfl
          have hr20 := hr2
          obtain ⟨A2, c2, rfl, q1, q2, q3, q4⟩ := hr2
          unfold maxLen at q3
          obtain ⟨b2, o2, rfl, _⟩ := q4 (by omega)
          have hcut := Rd.cut1 (k := k) hr20 hk0
          rw [if_neg (by omega : ¬ c2 = k)] at hcut
          have hfp := fp_tail (n' := ws.length - k) (c' := c2 - k) (A := some ⟨b2, o2 + k, none⟩) (by omega : ws.length ≠ 0) (fun a ha => by cases ha; rfl) hf2
          have y0 := hB2.cell (j := 0) (v := .slice (some ⟨b2, o2, none⟩) ws.length c2) rfl
          rw [show ws.length - k = (ws.drop k).length by simp, show (wsC ws).drop k = wsC (ws.drop k) by simp [wsC]] at hcut
          rw [show ws.length - k = (ws.drop k).length by simp] at hfp
          have HC := Lib.hid (And.intro hcut hfp)
          have z0 := hB2.frozen 0
          have r0 := (U2.blk 0 rfl).cell (j := 0) (v := .int .u8 0) rfl
          have f0 := (U2.blk 0 rfl).frozen 0
          have r1 := (U2.blk 0 rfl).cell (j := 1) (v := .int .i64 0) rfl
          have f1 := (U2.blk 0 rfl).frozen 1
          have r2 := (U2.blk 0 rfl).cell (j := 2) (v := .int .u64 0) rfl
          have f2 := (U2.blk 0 rfl).frozen 2
          have kc2 : (k : Int) ≤ (c2 : Int) := by omega
          have kl : (k : Int) ≤ (ws.length : Int) := by omega
          have hl2 := (U2.blk 0 rfl).lt
          have hl3 := hB2.lt
          have n1 : ¬ w.heap.size = g := by omega
          have n2 : ¬ g = w.heap.size := by omega
          have n3 : ¬ w.heap.size = w1.heap.size := by omega
          have n4 : ¬ w1.heap.size = w.heap.size := by omega
          have n5 : ¬ g = w1.heap.size := by omega
          have n6 : ¬ w1.heap.size = g := by omega
          have HU2 := Lib.hid U2
          have HB2 := Lib.hid hB2
          clear hcut hfp hr20 q1 q4 hg2 hf2 hT2 hB2 U2
          go_wp2_with fail
          refine bodyPost_gen fun w6 hw6 => ?_
          have S := wd_step ((Upd.one (chBlk g #[.slice (some ⟨b2, o2, none⟩) ws.length c2, .int .i64 e] 159) w1 HB2.out).put 0 rfl 0 (.slice (some ⟨b2, o2 + k, none⟩) (ws.length - k) (c2 - k))) (HU2.out.get 1 rfl) (ws' := ws.drop k) (by simpa using HC.out.1) (by simpa using HC.out.2)
          have U3 := HU2.out.turn 1 rfl S
          simp only [List.eraseIdx_cons_succ, List.eraseIdx_cons_zero, List.cons_append, List.nil_append] at U3
          have U6 := ((((U3.put 1 rfl 0 (.int .u8 (K : Nat))).put 0 rfl 1 (.int .i64 L)).put 0 rfl 2 (.int .u64 (Tn : Nat))).alloc #[.int .u8 (K : Nat), .int .i64 L, .int .u64 (Tn : Nat)] 28).same hw6
          simp only [List.setIfInBounds_toArray, List.set_cons_zero, List.set_cons_succ, List.eraseIdx_cons_zero, List.eraseIdx_cons_succ] at U6
          clear hw6
          have a0 := (U6.blk 1 rfl).cell (j := 0) (v := .int .u8 (K : Nat)) rfl
          have a1 := (U6.blk 1 rfl).cell (j := 1) (v := .int .i64 L) rfl
          have a2 := (U6.blk 1 rfl).cell (j := 2) (v := .int .u64 (Tn : Nat)) rfl
          refine bodyPost_ret (v := .agg #[.int .u8 (K : Nat), .int .i64 L, .int .u64 (Tn : Nat)]) ?_ rfl ⟨rfl, (U6.drop 0).drop 0⟩
          simp [results, Tryz.results71, go_sem, a0, a1, a2]
        · have hce2 : ((ce : Int) == 0) = false := by simp; omega
          have H0 := Lib.hid h0
          clear h0
          go_wp2_with fail
          (with_reducible refine NP.mono ?_)
          rintro en w1 ⟨rfl, hb1⟩
          have U2 := HUW.out.grow hb1
          clear NP hb1
          go_wp2_with fail
          refine calls_genP fun w3 hw3 => ?_
          have U3 := (U2.alloc #[.int .u8 (K : Nat), .int .i64 L, .int .u64 (Tn : Nat)] 28).same hw3
          have hl1 := (U2.blk 0 rfl).lt
          have hl0 := U3.size
          have K2 := wFailI T g ws e ce ce rfl w3 (U3.get 2 rfl)
          (with_reducible refine K2.mono ?_)
          rintro en w4 ⟨rfl, hU4⟩
          have U4 := U3.turn 2 rfl hU4
          simp only [List.eraseIdx_cons_succ, List.eraseIdx_cons_zero, List.cons_append, List.nil_append] at U4
          clear K2 U2 U3 hU4 hw3
          obtain ⟨v2, hB2, hr2, hg2, hf2, hT2⟩ := U4.get 0 rfl
          have hr20 := hr2
          obtain ⟨A2, c2, rfl, q1, q2, q3, q4⟩ := hr2
          unfold maxLen at q3
          obtain ⟨b2, o2, rfl, _⟩ := q4 (by omega)
          have hcut := Rd.cut1 (k := k) hr20 hk0
          rw [if_neg (by omega : ¬ c2 = k)] at hcut
          have hfp := fp_tail (n' := ws.length - k) (c' := c2 - k) (A := some ⟨b2, o2 + k, none⟩) (by omega : ws.length ≠ 0) (fun a ha => by cases ha; rfl) hf2
          have y0 := hB2.cell (j := 0) (v := .slice (some ⟨b2, o2, none⟩) ws.length c2) rfl
          rw [show ws.length - k = (ws.drop k).length by simp, show (wsC ws).drop k = wsC (ws.drop k) by simp [wsC]] at hcut
          rw [show ws.length - k = (ws.drop k).length by simp] at hfp
          have HC := Lib.hid (And.intro hcut hfp)
          have z0 := hB2.frozen 0
          have r0 := (U4.blk 2 rfl).cell (j := 0) (v := .int .u8 0) rfl
          have f0 := (U4.blk 2 rfl).frozen 0
          have r1 := (U4.blk 2 rfl).cell (j := 1) (v := .int .i64 0) rfl
          have f1 := (U4.blk 2 rfl).frozen 1
          have r2 := (U4.blk 2 rfl).cell (j := 2) (v := .int .u64 0) rfl
          have f2 := (U4.blk 2 rfl).frozen 2
          have d0 := (U4.blk 1 rfl).cell (j := 0) (v := .int .u8 (K : Nat)) rfl
          have d1 := (U4.blk 1 rfl).cell (j := 1) (v := .int .i64 L) rfl
          have d2 := (U4.blk 1 rfl).cell (j := 2) (v := .int .u64 (Tn : Nat)) rfl
          have kc2 : (k : Int) ≤ (c2 : Int) := by omega
          have kl : (k : Int) ≤ (ws.length : Int) := by omega
          have hl2 := (U4.blk 2 rfl).lt
          have hl3 := hB2.lt
          have hl4 := (U4.blk 1 rfl).lt
          have n1 : ¬ w.heap.size = g := by omega
          have n2 : ¬ g = w.heap.size := by omega
          have n3 : ¬ w.heap.size = w1.heap.size := by omega
          have n4 : ¬ w1.heap.size = w.heap.size := by omega
          have n5 : ¬ g = w1.heap.size := by omega
          have n6 : ¬ w1.heap.size = g := by omega
          have HU2 := Lib.hid U4
          have HB2 := Lib.hid hB2
          clear hcut hfp hr20 q1 q4 hg2 hf2 hT2 hB2 U4
          go_wp2_with fail
          refine bodyPost_gen fun w6 hw6 => ?_
          have S := wd_step ((Upd.one (chBlk g #[.slice (some ⟨b2, o2, none⟩) ws.length c2, .int .i64 (failE e ce)] 159) w4 HB2.out).put 0 rfl 0 (.slice (some ⟨b2, o2 + k, none⟩) (ws.length - k) (c2 - k))) (HU2.out.get 0 rfl) (ws' := ws.drop k) (by simpa using HC.out.1) (by simpa using HC.out.2)
          have U3 := HU2.out.turn 0 rfl S
          simp only [List.eraseIdx_cons_zero, List.cons_append, List.nil_append] at U3
          have U6 := (((U3.put 2 rfl 0 (.int .u8 (K : Nat))).put 0 rfl 1 (.int .i64 L)).put 0 rfl 2 (.int .u64 (Tn : Nat))).same hw6
          simp only [List.setIfInBounds_toArray, List.set_cons_zero, List.set_cons_succ, List.eraseIdx_cons_zero, List.eraseIdx_cons_succ] at U6
          clear hw6
          have a0 := (U6.blk 0 rfl).cell (j := 0) (v := .int .u8 (K : Nat)) rfl
          have a1 := (U6.blk 0 rfl).cell (j := 1) (v := .int .i64 L) rfl
          have a2 := (U6.blk 0 rfl).cell (j := 2) (v := .int .u64 (Tn : Nat)) rfl
          refine bodyPost_ret (v := .agg #[.int .u8 (K : Nat), .int .i64 L, .int .u64 (Tn : Nat)]) ?_ rfl ⟨rfl, (U6.drop 0).drop 1⟩
          simp [results, Tryz.results71, go_sem, a0, a1, a2]
      · have hkl : k = ws.length := by omega
        have i1 : decide ((k : Int) < (ws.length : Int)) = false := by simp; omega
        have HKL := Lib.hid hkl
        clear hkl
        by_cases h0 : ce = 0
        · subst h0
          go_wp2_with fail
          (with_reducible refine NP.mono ?_)
          rintro en w1 ⟨rfl, hb1⟩
          have U2 := HUW.out.grow hb1
          clear NP hb1
          obtain ⟨v2, hB2, hr2, hg2, hf2, hT2⟩ := U2.get 1 rfl
          have hr20 := hr2
          obtain ⟨A2, c2, rfl, q1, q2, q3, q4⟩ := hr2
          unfold maxLen at q3
          have y0 := hB2.cell (j := 0) (v := .slice A2 ws.length c2) rfl
          have z0 := hB2.frozen 0
          have r0 := (U2.blk 0 rfl).cell (j := 0) (v := .int .u8 0) rfl
          have f0 := (U2.blk 0 rfl).frozen 0
          have r1 := (U2.blk 0 rfl).cell (j := 1) (v := .int .i64 0) rfl
          have f1 := (U2.blk 0 rfl).frozen 1
          have r2 := (U2.blk 0 rfl).cell (j := 2) (v := .int .u64 0) rfl
          have f2 := (U2.blk 0 rfl).frozen 2
          have kc2 : (k : Int) ≤ (c2 : Int) := by omega
          have kl : (k : Int) ≤ (ws.length : Int) := by omega
          have hl2 := (U2.blk 0 rfl).lt
          have hl3 := hB2.lt
          have n1 : ¬ w.heap.size = g := by omega
          have n2 : ¬ g = w.heap.size := by omega
          have n3 : ¬ w.heap.size = w1.heap.size := by omega
          have n4 : ¬ w1.heap.size = w.heap.size := by omega
          have n5 : ¬ g = w1.heap.size := by omega
          have n6 : ¬ w1.heap.size = g := by omega
          have HU2 := Lib.hid U2
          have HB2 := Lib.hid hB2
          clear  hr20 q1 q4 hg2 hf2 hT2 hB2 U2
          by_cases hck : c2 = k
          · have hck2 := hck
            go_wp2_with fail
            refine bodyPost_gen fun w6 hw6 => ?_
            have S := wd_step ((Upd.one (chBlk g #[.slice A2 ws.length c2, .int .i64 e] 159) w1 HB2.out).put 0 rfl 0 (.slice A2 (ws.length - k) 0)) (HU2.out.get 1 rfl) (ws' := []) (rd_nilK (by have := HKL.out; omega) (by unfold maxLen; omega)) (fun q hq => nomatch hq)
            have U3 := HU2.out.turn 1 rfl S
            simp only [List.eraseIdx_cons_succ, List.eraseIdx_cons_zero, List.cons_append, List.nil_append] at U3
            have U6 := ((((U3.put 1 rfl 0 (.int .u8 (K : Nat))).put 0 rfl 1 (.int .i64 L)).put 0 rfl 2 (.int .u64 (Tn : Nat))).alloc #[.int .u8 (K : Nat), .int .i64 L, .int .u64 (Tn : Nat)] 28).same hw6
            simp only [List.setIfInBounds_toArray, List.set_cons_zero, List.set_cons_succ, List.eraseIdx_cons_zero, List.eraseIdx_cons_succ] at U6
            clear hw6
            have a0 := (U6.blk 1 rfl).cell (j := 0) (v := .int .u8 (K : Nat)) rfl
            have a1 := (U6.blk 1 rfl).cell (j := 1) (v := .int .i64 L) rfl
            have a2 := (U6.blk 1 rfl).cell (j := 2) (v := .int .u64 (Tn : Nat)) rfl
            refine bodyPost_ret (v := .agg #[.int .u8 (K : Nat), .int .i64 L, .int .u64 (Tn : Nat)]) ?_ rfl ⟨rfl, by rw [List.drop_of_length_le (by have := HKL.out; omega)]; exact (U6.drop 0).drop 0⟩
            simp [results, Tryz.results71, go_sem, a0, a1, a2]
          · have hck2 : ¬ k = c2 := fun h => hck h.symm
            go_wp2_with fail
            refine bodyPost_gen fun w6 hw6 => ?_
            have S := wd_step ((Upd.one (chBlk g #[.slice A2 ws.length c2, .int .i64 e] 159) w1 HB2.out).put 0 rfl 0 (.slice (A2.map fun x => x.add k) (ws.length - k) (c2 - k))) (HU2.out.get 1 rfl) (ws' := []) (rd_nilK (by have := HKL.out; omega) (by unfold maxLen; omega)) (fun q hq => nomatch hq)
            have U3 := HU2.out.turn 1 rfl S
            simp only [List.eraseIdx_cons_succ, List.eraseIdx_cons_zero, List.cons_append, List.nil_append] at U3
            have U6 := ((((U3.put 1 rfl 0 (.int .u8 (K : Nat))).put 0 rfl 1 (.int .i64 L)).put 0 rfl 2 (.int .u64 (Tn : Nat))).alloc #[.int .u8 (K : Nat), .int .i64 L, .int .u64 (Tn : Nat)] 28).same hw6
            simp only [List.setIfInBounds_toArray, List.set_cons_zero, List.set_cons_succ, List.eraseIdx_cons_zero, List.eraseIdx_cons_succ] at U6
            clear hw6
            have a0 := (U6.blk 1 rfl).cell (j := 0) (v := .int .u8 (K : Nat)) rfl
            have a1 := (U6.blk 1 rfl).cell (j := 1) (v := .int .i64 L) rfl
            have a2 := (U6.blk 1 rfl).cell (j := 2) (v := .int .u64 (Tn : Nat)) rfl
            refine bodyPost_ret (v := .agg #[.int .u8 (K : Nat), .int .i64 L, .int .u64 (Tn : Nat)]) ?_ rfl ⟨rfl, by rw [List.drop_of_length_le (by have := HKL.out; omega)]; exact (U6.drop 0).drop 0⟩
            simp [results, Tryz.results71, go_sem, a0, a1, a2]
        · have hce2 : ((ce : Int) == 0) = false := by simp; omega
          have H0 := Lib.hid h0
          clear h0
          go_wp2_with fail
          (with_reducible refine NP.mono ?_)
          rintro en w1 ⟨rfl, hb1⟩
          have U2 := HUW.out.grow hb1
          clear NP hb1
          go_wp2_with fail
          refine calls_genP fun w3 hw3 => ?_
          have U3 := (U2.alloc #[.int .u8 (K : Nat), .int .i64 L, .int .u64 (Tn : Nat)] 28).same hw3
          have hl1 := (U2.blk 0 rfl).lt
          have hl0 := U3.size
          have K2 := wFailI T g ws e ce ce rfl w3 (U3.get 2 rfl)
          (with_reducible refine K2.mono ?_)
          rintro en w4 ⟨rfl, hU4⟩
          have U4 := U3.turn 2 rfl hU4
          simp only [List.eraseIdx_cons_succ, List.eraseIdx_cons_zero, List.cons_append, List.nil_append] at U4
          clear K2 U2 U3 hU4 hw3
          obtain ⟨v2, hB2, hr2, hg2, hf2, hT2⟩ := U4.get 0 rfl
          have hr20 := hr2
          obtain ⟨A2, c2, rfl, q1, q2, q3, q4⟩ := hr2
          unfold maxLen at q3
          have y0 := hB2.cell (j := 0) (v := .slice A2 ws.length c2) rfl
          have z0 := hB2.frozen 0
          have r0 := (U4.blk 2 rfl).cell (j := 0) (v := .int .u8 0) rfl
          have f0 := (U4.blk 2 rfl).frozen 0
          have r1 := (U4.blk 2 rfl).cell (j := 1) (v := .int .i64 0) rfl
          have f1 := (U4.blk 2 rfl).frozen 1
          have r2 := (U4.blk 2 rfl).cell (j := 2) (v := .int .u64 0) rfl
          have f2 := (U4.blk 2 rfl).frozen 2
          have d0 := (U4.blk 1 rfl).cell (j := 0) (v := .int .u8 (K : Nat)) rfl
          have d1 := (U4.blk 1 rfl).cell (j := 1) (v := .int .i64 L) rfl
          have d2 := (U4.blk 1 rfl).cell (j := 2) (v := .int .u64 (Tn : Nat)) rfl
          have kc2 : (k : Int) ≤ (c2 : Int) := by omega
          have kl : (k : Int) ≤ (ws.length : Int) := by omega
          have hl2 := (U4.blk 2 rfl).lt
          have hl3 := hB2.lt
          have hl4 := (U4.blk 1 rfl).lt
          have n1 : ¬ w.heap.size = g := by omega
          have n2 : ¬ g = w.heap.size := by omega
          have n3 : ¬ w.heap.size = w1.heap.size := by omega
          have n4 : ¬ w1.heap.size = w.heap.size := by omega
          have n5 : ¬ g = w1.heap.size := by omega
          have n6 : ¬ w1.heap.size = g := by omega
          have HU2 := Lib.hid U4
          have HB2 := Lib.hid hB2
          clear  hr20 q1 q4 hg2 hf2 hT2 hB2 U4
          by_cases hck : c2 = k
          · have hck2 := hck
            go_wp2_with fail
            refine bodyPost_gen fun w6 hw6 => ?_
            have S := wd_step ((Upd.one (chBlk g #[.slice A2 ws.length c2, .int .i64 (failE e ce)] 159) w4 HB2.out).put 0 rfl 0 (.slice A2 (ws.length - k) 0)) (HU2.out.get 0 rfl) (ws' := []) (rd_nilK (by have := HKL.out; omega) (by unfold maxLen; omega)) (fun q hq => nomatch hq)
            have U3 := HU2.out.turn 0 rfl S
            simp only [List.eraseIdx_cons_zero, List.cons_append, List.nil_append] at U3
            have U6 := (((U3.put 2 rfl 0 (.int .u8 (K : Nat))).put 0 rfl 1 (.int .i64 L)).put 0 rfl 2 (.int .u64 (Tn : Nat))).same hw6
            simp only [List.setIfInBounds_toArray, List.set_cons_zero, List.set_cons_succ, List.eraseIdx_cons_zero, List.eraseIdx_cons_succ] at U6
            clear hw6
            have a0 := (U6.blk 0 rfl).cell (j := 0) (v := .int .u8 (K : Nat)) rfl
            have a1 := (U6.blk 0 rfl).cell (j := 1) (v := .int .i64 L) rfl
            have a2 := (U6.blk 0 rfl).cell (j := 2) (v := .int .u64 (Tn : Nat)) rfl
            refine bodyPost_ret (v := .agg #[.int .u8 (K : Nat), .int .i64 L, .int .u64 (Tn : Nat)]) ?_ rfl ⟨rfl, by rw [List.drop_of_length_le (by have := HKL.out; omega)]; exact (U6.drop 0).drop 1⟩
            simp [results, Tryz.results71, go_sem, a0, a1, a2]
          · have hck2 : ¬ k = c2 := fun h => hck h.symm
            go_wp2_with fail
            refine bodyPost_gen fun w6 hw6 => ?_
            have S := wd_step ((Upd.one (chBlk g #[.slice A2 ws.length c2, .int .i64 (failE e ce)] 159) w4 HB2.out).put 0 rfl 0 (.slice (A2.map fun x => x.add k) (ws.length - k) (c2 - k))) (HU2.out.get 0 rfl) (ws' := []) (rd_nilK (by have := HKL.out; omega) (by unfold maxLen; omega)) (fun q hq => nomatch hq)
            have U3 := HU2.out.turn 0 rfl S
            simp only [List.eraseIdx_cons_zero, List.cons_append, List.nil_append] at U3
            have U6 := (((U3.put 2 rfl 0 (.int .u8 (K : Nat))).put 0 rfl 1 (.int .i64 L)).put 0 rfl 2 (.int .u64 (Tn : Nat))).same hw6
            simp only [List.setIfInBounds_toArray, List.set_cons_zero, List.set_cons_succ, List.eraseIdx_cons_zero, List.eraseIdx_cons_succ] at U6
            clear hw6
            have a0 := (U6.blk 0 rfl).cell (j := 0) (v := .int .u8 (K : Nat)) rfl
            have a1 := (U6.blk 0 rfl).cell (j := 1) (v := .int .i64 L) rfl
            have a2 := (U6.blk 0 rfl).cell (j := 2) (v := .int .u64 (Tn : Nat)) rfl
            refine bodyPost_ret (v := .agg #[.int .u8 (K : Nat), .int .i64 L, .int .u64 (Tn : Nat)]) ?_ rfl ⟨rfl, by rw [List.drop_of_length_le (by have := HKL.out; omega)]; exact (U6.drop 0).drop 1⟩
            simp [results, Tryz.results71, go_sem, a0, a1, a2]
end Go.Proofs.YtgpojkofegajeaaGreatDoor
