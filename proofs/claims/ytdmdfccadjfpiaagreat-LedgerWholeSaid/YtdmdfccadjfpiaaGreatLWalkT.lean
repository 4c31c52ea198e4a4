/-
  LedgerWhole: the walk.
-/
import Derived.Test.YtdmdfccadjfpiaaGreatNext
import Derived.Test.YtdmdfccadjfpiaaGreatAwk22
namespace Go.Proofs.YtdmdfccadjfpiaaGreat
open Go.RowKit
set_option maxRecDepth 100000

theorem wp_append_two {P : Program} {o : Oper} {a : Act} {w : World} {K : Act → World → Prop} {Q : Exit → Act → World → Prop} (s x : Operand) (t : TypeId)
    (ho : o.op = .call { callee := .builtin .append, args := #[s, x], argTypes := #[t, t] })
    (e : TypeId) (i : TypeInfo) (z : Value) (size bytes : Nat) (ht : P.underlying t = some (.slice e)) (hi : P.info? e = some i) (hz : i.zero = some z)
    (hsize : i.size = size) (hby : i.bytes = bytes) (hzs : z.cells.size = size) (hsz : 0 < size)
    (b1 o1 n : Nat) (olds : List Value) (hs : a.eval s = .slice (some ⟨b1, o1, none⟩) n n) (hlo : olds.length = n * size) (holds : ∀ j u, olds[j]? = some u → w.cell? ⟨b1, o1 + j, none⟩ = some u)
    (b2 o2 m c : Nat) (news : List Value) (hx : a.eval x = .slice (some ⟨b2, o2, none⟩) m c) (hl : news.length = m * size) (hnews : ∀ j u, news[j]? = some u → w.cell? ⟨b2, o2 + j, none⟩ = some u)
    (h63 : n + m ≤ maxLen) (hbytes : (n + m) * bytes ≤ 140737488355328)
    (h : ∀ v' w', Below w.heap.size w w' → Rd w' size v' (n + m) (olds ++ news) → (∀ g, v'.ownBlock = some g → g = b1 ∨ w.heap.size ≤ g) → K (a.put o.dst v') w') : o.wp P a w K Q := by
  have ad : ∀ b p j : Nat, (⟨b, p, none⟩ : Addr).add j = ⟨b, p + j, none⟩ := fun b p j => by unfold Addr.add; split <;> simp_all
  have key : ∃ v' w', (Builtin.append_ #[t, t] o.type #[.slice (some ⟨b1, o1, none⟩) n n, .slice (some ⟨b2, o2, none⟩) m c]).run P w = .ok v' w' ∧ Below w.heap.size w w' ∧ Rd w' size v' (n + m) (olds ++ news) ∧ (∀ g, v'.ownBlock = some g → g = b1 ∨ w.heap.size ≤ g) := by
    rcases Nat.eq_zero_or_pos m with h0 | h0
    · subst h0
      have hne : news = [] := List.eq_nil_of_length_eq_zero (by simpa using hl)
      subst hne
      refine ⟨_, w, run_append_nothing w t t o.type e i ht hi (some ⟨b1, o1, none⟩) n n (Nat.le_refl _) _ (hsize ▸ Src.ofSlice w ht ⟨b2, o2, none⟩ 0 c [] (by simp) (by simp) (by simp)), Below.refl _ _, ?_, fun g hg => .inl (Option.some.inj hg).symm⟩
      rw [List.append_nil]
      exact ⟨_, _, rfl, hlo, Nat.le_refl _, by omega, fun _ => ⟨b1, o1, rfl, holds⟩⟩
    · obtain ⟨v', w', hrun, h2, h3⟩ := run_append_arg_grows (P := P) w t o.type e i z size bytes ht hi hz hsize hby hzs hsz ⟨b1, o1, none⟩ n n olds hlo (fun j u hu => by rw [ad]; exact holds j u hu) ⟨b2, o2, none⟩ m c news hl (fun j u hu => by rw [ad]; exact hnews j u hu) (by omega) h63 hbytes
      exact ⟨v', w', hrun, ⟨h3.os, h3.tape, h3.output, h3.size, fun q hq => h3.block q hq (by simp)⟩, rd_of_owns h2, fun g hg => .inr (owns_ge h2 g hg)⟩
  obtain ⟨v', w', hrun, h2, h3, h4⟩ := key
  unfold Oper.wp execOp
  simp only [ho, resolve, invoke, builtin, Sem.run_bind, Sem.run_pure, Result.andThen_ok, List.map_toArray, List.map_cons, List.map_nil, hs, hx, hrun]
  exact h v' w' h2 h3 h4
end Go.Proofs.YtdmdfccadjfpiaaGreat
namespace Go.Proofs.YtdmdfccadjfpiaaGreat
open Go.RowKit
set_option maxRecDepth 100000
attribute [local go_sem] FreeOrd.out

theorem gapOk (o f t : Nat) (w : World) (ho : o < 256) (hf : f < 18446744073709551616) (ht : t < 18446744073709551616) : (⟨true, 0, 0, 0, ⟨#[]⟩, .slice none 0 0, [], 0, 0, 0, 0, o, f, t⟩ : ItV).ok w :=
  ⟨by simp, by simp, by simp, show (0 : Nat) ≤ maxLen from Nat.zero_le _, ⟨none, 0, rfl, rfl, Nat.le_refl _, show 0 ≤ maxLen by unfold maxLen; omega, fun h => absurd h (Nat.lt_irrefl 0)⟩, (fun _ h => nomatch h), by simp, by simp, by simp, by simp, ho, hf, ht⟩
theorem flat_take (es : List (Nat × ItV)) (r j : Nat) (u : Value) (h : ((es.take r).flatMap en14)[j]? = some u) : (es.flatMap en14)[j]? = some u := by
  conv => lhs; rw [← List.take_append_drop r es]
  rw [List.flatMap_append, List.getElem?_append_left (by
    rcases Nat.lt_or_ge j ((es.take r).flatMap en14).length with h1 | h1
    · exact h1
    · rw [List.getElem?_eq_none h1] at h; cases h)]
  exact h
theorem flat_drop (es : List (Nat × ItV)) (r : Nat) (hr : r ≤ es.length) (j : Nat) (u : Value) (h : ((es.drop r).flatMap en14)[j]? = some u) : (es.flatMap en14)[r * 14 + j]? = some u := by
  conv => lhs; rw [← List.take_append_drop r es]
  have hl : ((es.take r).flatMap en14).length = r * 14 := by rw [flat_len en14 14 (fun _ => rfl), List.length_take]; congr 1; omega
  rw [List.flatMap_append, List.getElem?_append_right (by omega), hl, Nat.add_sub_cancel_left]
  exact h

/-- An item of small numbers, as it is handed in. -/
structure Sm where
  g : Bool
  o : Nat
  p : Nat
  ow : Nat
  sq : Nat
  mo : Nat
  ti : Nat
  ru : Nat
  la : Nat
  va : Nat
  stb : Bool
structure Sm.ok (s : Sm) : Prop where
  o : s.o < 256
  ow : s.ow < 256
  sq : s.sq < 65536
  mo : s.mo < 65536
  ti : s.ti < 65536
  la : s.la < 256
  va : s.va < 256
def sm11 (s : Sm) : List Value := [.bool s.g, .int .u8 s.o, .int .u8 s.p, .int .u8 s.ow, .int .u16 s.sq, .int .u16 s.mo, .int .u16 s.ti, .int .u8 s.ru, .int .u8 s.la, .int .u8 s.va, .bool s.stb]
theorem smallNext (g : Bool) (cl n o p ow sq mo ti ru la va : Nat) (stb : Bool) (w : World) (hn : n ≤ 1000000) (how : ow < 256) (hsq : sq < 65536) (hmo : mo < 65536) (hti : ti < 65536) (hla : la < 256) (hva : va < 256)
    (KH : ∀ o4, o4 = o % 4 → ∀ w', Below w.heap.size w w' → Calls Tryz.prog 9 #[.int .u8 (o4 : Nat), .pointer (some ⟨cl, 0, none⟩)] w' fun e w'' => e = .returned (.int .u64 (n : Nat)) ∧ Below w'.heap.size w' w'') :
    Calls Tryz.prog 8 #[.agg #[.bool g, .int .u8 o, .int .u8 p, .int .u8 ow, .int .u16 sq, .int .u16 mo, .int .u16 ti, .int .u8 ru, .int .u8 la, .int .u8 va, .bool stb], .func (Fn.func 9) #[] #[.pointer (some ⟨cl, 0, none⟩)]] w fun e w' => ∃ a : ItV, e = .returned (itV a) ∧ NextOk a n o ∧ w'.ownsRow w.heap.size 137 2 a.lv a.ps.length (pairCells a.ps) ∧ a.ok w' ∧ Below w.heap.size w w' := by
  cases g
  · exact smallNext_false cl n o p ow sq mo ti ru la va stb w hn how hsq hmo hti hla hva KH
  · exact smallNext_true cl n o p ow sq mo ti ru la va stb w hn how hsq hmo hti hla hva KH
/-- What an item has besides its labels' memory. -/
structure ItV.nb (a : ItV) : Prop where
  o : a.o < 256
  sq : a.sq < 18446744073709551616
  tm : a.tm < 18446744073709551616
  ru : a.ru.size ≤ maxLen
  pz : ∀ p ∈ a.ps, p.1.size ≤ maxLen ∧ p.2.size ≤ maxLen
  st : a.st < 256
  pr : a.pr < 256
  va : -9223372036854775808 ≤ a.va ∧ a.va ≤ 9223372036854775807
  ow : a.ow < 256
  go : a.go < 256
  gf : a.gf < 18446744073709551616
  gt : a.gt < 18446744073709551616
theorem ItV.ok.nb {a : ItV} {w : World} (h : a.ok w) : a.nb := ⟨h.o, h.sq, h.tm, h.ru, h.pz, h.st, h.pr, h.va, h.ow, h.go, h.gf, h.gt⟩
theorem ItV.nb.ok {a : ItV} {w : World} (h : a.nb) (hr : Rd w 2 a.lv a.ps.length (pairCells a.ps)) : a.ok w := ⟨h.o, h.sq, h.tm, h.ru, hr, h.pz, h.st, h.pr, h.va, h.ow, h.go, h.gf, h.gt⟩
theorem nb_spanO {a : ItV} (h : a.nb) : spanO a < 256 := by
  unfold spanO
  split
  · exact h.go
  · exact h.o
theorem labs_ok {w : World} {es : List (Nat × ItV)} (h : ∀ c ∈ es.map labRow, c.P w) (hn : ∀ x ∈ es, x.1 = 0 ∧ x.2.nb) : ∀ x ∈ es, x.1 < 18446744073709551616 ∧ x.2.ok w := by
  intro x hx
  refine ⟨by rw [(hn x hx).1]; decide, (hn x hx).2.ok ?_⟩
  have := h (labRow x) (List.mem_map.2 ⟨x, hx, rfl⟩)
  exact rd_of_owns this
theorem infoEntryW : (Tryz.prog.info? 41).map (fun i => (i.zero, i.size, i.bytes)) = some (some (.agg #[.int .u64 0, .bool false, .int .u8 0, .int .u64 0, .int .u64 0, .string ⟨#[]⟩, .slice none 0 0, .int .u8 0, .int .u8 0, .int .i64 0, .int .u8 0, .int .u8 0, .int .u64 0, .int .u64 0]), 14, 128) := by kernel_rfl
/-- What the loop has made. -/
structure Made (es : List (Nat × ItV)) : Prop where
  whole : wholeL es = true
  nb : ∀ x ∈ es, x.1 = 0 ∧ x.2.nb
  le : ∀ x ∈ es, spanF x.2 ≤ spanT x.2 ∧ spanT x.2 ≤ spanF x.2 + 2
theorem Made.snoc {es : List (Nat × ItV)} (h : Made es) {a : ItV} {n o : Nat} (ha : NextOk a n o) (hn : n = highL es (o % 4)) (hb : a.nb) : Made (es ++ [(0, a)]) := by
  have hz := chkIt_zero ha.chk
  refine ⟨wholeL_snoc.2 ⟨h.whole, ha.chk, ?_⟩, fun x hx => ?_, fun x hx => ?_⟩
  · show spanF a = highL es (spanO a) + 1
    rw [ha.org, ← hn]; exact ha.fr
  · rcases List.mem_append.1 hx with hx | hx
    · exact h.nb x hx
    · rw [List.mem_singleton.1 hx]; exact ⟨rfl, hb⟩
  · rcases List.mem_append.1 hx with hx | hx
    · exact h.le x hx
    · rw [List.mem_singleton.1 hx]
      have := ha.fr; have := ha.to
      show spanF a ≤ spanT a ∧ spanT a ≤ spanF a + 2
      omega
set_option maxHeartbeats 4000000 in
theorem lwWalk (v : Value) (ss : List Sm) (at_ what : Nat) (w : World) (hr : Rd w 11 v ss.length (ss.flatMap sm11)) (hok : ∀ s ∈ ss, s.ok) (hat : at_ < 256) (_hwh : what < 256) :
    Calls Tryz.prog 3 #[v, .int .u8 at_, .int .u8 what] w fun e w' => e = .returned (.bool true) ∧ Below w.heap.size w w' := by
  obtain ⟨A, c, rfl, _, h2, h3, h4⟩ := hr
  unfold maxLen at h3
  obtain ⟨i0, hi, hz0, hz1, hz2⟩ := info_parts infoEntryW
  obtain ⟨n, hnn⟩ : ∃ n, n = ss.length := ⟨_, rfl⟩
  rw [← hnn] at h2 h4 ⊢
  have HN := Lib.hid hnn
  have HSS := Lib.hid hok
  clear hnn hok
  go_enter Tryz.func3, Tryz.ntmps3
  go_wp2_with fail
  (with_reducible refine (awake22 _).mono ?_)
  rintro e w1 ⟨rfl, hb1⟩
  by_cases hl : 40 < n
  · have d : decide ((40 : Int) < (n : Int)) = true := by simp; omega
    go_wp2_with fail
    go_ret
    exact ⟨rfl, hb1⟩
  have d : decide ((40 : Int) < (n : Int)) = false := by simp; omega
  go_wp2_with fail
  refine wp_gen fun w2 hw2 => ?_
  obtain ⟨cl, hcl⟩ : ∃ cl, cl = w1.heap.size := ⟨_, rfl⟩
  have U2 := ((((Upd.nil [] w).grow hb1).alloc #[.slice none 0 0] 24).same hw2)
  rw [← hcl] at U2 ⊢
  have U3 := ((U2.nilRow 41 14).allNil).pick [2, 1, 0] (by decide)
  simp only [List.filterMap_cons, List.filterMap_nil, List.getElem?_cons_zero, List.getElem?_cons_succ] at U3
  clear U2 hw2 hb1 d hcl
  go_loopw [26] (fun i wr => ∃ (k : Nat) (lv : Value) (es : List (Nat × ItV)), k ≤ n ∧ i = .int .i64 k ∧ es.length = k ∧ Made es ∧ Upd [] w [chBlk cl #[lv] 24, chRow 41 14 lv es.length (es.flatMap en14), chAll (es.map labRow)] wr) (fun i _ => n - (intOf i).toNat)
  case atStart => exact ⟨0, _, [], Nat.zero_le _, rfl, rfl, ⟨rfl, (fun _ h => nomatch h), (fun _ h => nomatch h)⟩, U3⟩
  case round =>
    obtain ⟨k, lv, es, hk, rfl, hlen, hM, R1⟩ := hrel
    clear U3 w2
    have hrow := R1.row 1 rfl
    have hlab := R1.all 2 rfl
    by_cases hkn : k < n
    · obtain ⟨s, hs⟩ : ∃ s, ss[k]? = some s := ⟨_, List.getElem?_eq_getElem (by rw [← HN.out]; exact hkn)⟩
      obtain ⟨bq, oo, rfl, hat⟩ := h4 (by omega)
      have e0 := fun j hj => flat_at sm11 11 (fun _ => rfl) ss k s hs j hj
      have hsk := HSS.out s (List.mem_of_getElem? hs)
      have hb5 := R1.below
      obtain ⟨g, o, p, ow, sq, mo, ti, ru, la, va, stb⟩ := s
      obtain ⟨so1, so2, so3, so4, so5, so6, so7⟩ := hsk
      simp only at so1 so2 so3 so4 so5 so6 so7
      have x0 := hat.nth0 hb5 (k * 11) (.bool g) (e0 0 (by omega))
      have x1 := hat.nth hb5 (k * 11) 1 (.int .u8 o) (e0 1 (by omega))
      have x2 := hat.nth hb5 (k * 11) 2 (.int .u8 p) (e0 2 (by omega))
      have x3 := hat.nth hb5 (k * 11) 3 (.int .u8 ow) (e0 3 (by omega))
      have x4 := hat.nth hb5 (k * 11) 4 (.int .u16 sq) (e0 4 (by omega))
      have x5 := hat.nth hb5 (k * 11) 5 (.int .u16 mo) (e0 5 (by omega))
      have x6 := hat.nth hb5 (k * 11) 6 (.int .u16 ti) (e0 6 (by omega))
      have x7 := hat.nth hb5 (k * 11) 7 (.int .u8 ru) (e0 7 (by omega))
      have x8 := hat.nth hb5 (k * 11) 8 (.int .u8 la) (e0 8 (by omega))
      have x9 := hat.nth hb5 (k * 11) 9 (.int .u8 va) (e0 9 (by omega))
      have x10 := hat.nth hb5 (k * 11) 10 (.bool stb) (e0 10 (by omega))
      clear hs hat e0
      obtain ⟨o4, ho4⟩ : ∃ o4, o4 = o % 4 := ⟨_, rfl⟩
      have t1 : (o : Int).tmod 4 = (o4 : Int) := by rw [ho4]; rfl
      have lo4 : o4 < 4 := by omega
      clear ho4
      go_wp2_with fail
      refine calls_genP fun w3 hw3 => ?_
      have U3 := (R1.alloc #[.bool g, .int .u8 o4, .int .u8 p, .int .u8 ow, .int .u16 sq, .int .u16 mo, .int .u16 ti, .int .u8 ru, .int .u8 la, .int .u8 va, .bool stb] 27).same hw3
      clear hw3 x0 x1 x2 x3 x4 x5 x6 x7 x8 x9 x10 t1
      have hhi : highL es (o4 % 4) ≤ 1000000 := by
        have := highL_le hM.le hM.whole (o4 % 4)
        omega
      have hesl : es.length ≤ 1000000 := by omega
      obtain ⟨hv, hhv⟩ : ∃ hv, hv = highL es (o4 % 4) := ⟨_, rfl⟩
      rw [← hhv] at hhi
      have KN := smallNext g cl hv o4 p ow sq mo ti ru la va stb w3 hhi so2 so3 so4 so5 so6 so7 (fun o5 ho5 w' hb => by
        have U4 := U3.grow hb
        have := lwHigh cl lv es o5 w' ((U4.blk 1 rfl).cell rfl) (rd_of_owns (U4.row 2 rfl)) (labs_ok (U4.all 3 rfl) hM.nb) hesl
        rw [ho5] at this ⊢
        rw [hhv]
        exact this)
      (with_reducible refine KN.mono ?_)
      rintro e w4 ⟨a, he, hnx, hrowa, hoka, hb4⟩
      have U4 := (U3.call ((Upd.nil [] w3).addRow hb4 hrowa (Nat.le_refl _)))
      simp only [List.cons_append, List.nil_append] at U4
      have hM2 := hM.snoc hnx hhv hoka.nb
      clear KN U3 R1 hrow hlab hb4 hnx hoka hhv hhi hM
      obtain ⟨Al, acl, hal⟩ := owns_slice hrowa
      clear hrowa
      obtain ⟨ag, ao, asq, atm, aru, alv, aps, ast, apr, ava, aow, ago, agf, agt⟩ := a
      simp only at hal U4 hM2
      subst hal
      have he2 : e = .returned (.agg #[.bool ag, .int .u8 ao, .int .u64 asq, .int .u64 atm, .string aru, .slice Al aps.length acl, .int .u8 ast, .int .u8 apr, .int .i64 ava, .int .u8 aow, .int .u8 ago, .int .u64 agf, .int .u64 agt]) := he
      subst he2
      clear he
      obtain ⟨Ac, cc, rfl⟩ := owns_slice (U4.row 3 rfl)
      rw [hlen] at U4
      have U5 := U4.alloc #[.bool ag, .int .u8 ao, .int .u64 asq, .int .u64 atm, .string aru, .slice Al aps.length acl, .int .u8 ast, .int .u8 apr, .int .i64 ava, .int .u8 aow, .int .u8 ago, .int .u64 agf, .int .u64 agt] 36
      have c0 := (U5.blk 3 rfl).cell (j := 0) (v := .slice Ac k cc) rfl
      have y0 := (U5.blk 0 rfl).cell (j := 0) (v := .bool ag) rfl
      have y1 := (U5.blk 0 rfl).cell (j := 1) (v := .int .u8 ao) rfl
      have y2 := (U5.blk 0 rfl).cell (j := 2) (v := .int .u64 asq) rfl
      have y3 := (U5.blk 0 rfl).cell (j := 3) (v := .int .u64 atm) rfl
      have y4 := (U5.blk 0 rfl).cell (j := 4) (v := .string aru) rfl
      have y5 := (U5.blk 0 rfl).cell (j := 5) (v := .slice Al aps.length acl) rfl
      have y6 := (U5.blk 0 rfl).cell (j := 6) (v := .int .u8 ast) rfl
      have y7 := (U5.blk 0 rfl).cell (j := 7) (v := .int .u8 apr) rfl
      have y8 := (U5.blk 0 rfl).cell (j := 8) (v := .int .i64 ava) rfl
      have y9 := (U5.blk 0 rfl).cell (j := 9) (v := .int .u8 aow) rfl
      have y10 := (U5.blk 0 rfl).cell (j := 10) (v := .int .u8 ago) rfl
      have y11 := (U5.blk 0 rfl).cell (j := 11) (v := .int .u64 agf) rfl
      have y12 := (U5.blk 0 rfl).cell (j := 12) (v := .int .u64 agt) rfl
      have HM2 := Lib.hid hM2
      clear hM2
      go_wp2_with (at_builtin; refine wpl_stop fun W hW => ?_)
      refine Stopped.mk ?_
      have U6 := (U5.alloc #[.int .u64 0, .bool ag, .int .u8 ao, .int .u64 asq, .int .u64 atm, .string aru, .slice Al aps.length acl, .int .u8 ast, .int .u8 apr, .int .i64 ava, .int .u8 aow, .int .u8 ago, .int .u64 agf, .int .u64 agt] 41).same hW
      simp only [World.size_alloc] at U6
      clear hW U5 U4 c0 y0 y1 y2 y3 y4 y5 y6 y7 y8 y9 y10 y11 y12
      refine wpl_append_rd rfl (.tmp 37) (.tmp 40) 24 rfl 0 41 i0 _ 14 128 Tryz.underlying24 hi hz0 hz1 hz2 rfl (by decide) (.slice Ac k cc) k _ rfl (U6.row 5 rfl) (.slice (some ⟨w4.heap.size + 1, 0, none⟩) 1 1) 1 _ rfl (rd_one (U6.blk 0 rfl) (n := 14) rfl) (by intro u hu; simp at hu; rcases hu with rfl | rfl | rfl | rfl | rfl | rfl | rfl | rfl | rfl | rfl | rfl | rfl | rfl | rfl <;> rfl) (by unfold maxLen; omega) (by omega) (Nat.zero_le _) fun v7 w7 hown7 hgr7 hv7 => ?_
      have U7 := (U6.app 5 rfl hown7 hgr7 hv7).pick [0, 3, 5, 6] (by decide)
      simp only [List.filterMap_cons, List.filterMap_nil, List.getElem?_cons_zero, List.getElem?_cons_succ, List.eraseIdx_cons_succ, List.eraseIdx_cons_zero] at U7
      obtain ⟨A7, c7, rfl⟩ := owns_slice hown7
      clear U6 hown7 hgr7 hv7
      have c0 := (U7.blk 2 rfl).cell (j := 0) (v := .slice Ac k cc) rfl
      have cf := (U7.blk 2 rfl).frozen
      have U8 := ((U7.put 2 rfl 0 (.slice A7 (k + 1) c7)).pick [2, 3, 0, 1] (by decide)).intoAll.pick [1, 2, 0] (by decide)
      simp only [List.filterMap_cons, List.filterMap_nil, List.getElem?_cons_zero, List.getElem?_cons_succ, List.eraseIdx_cons_succ, List.eraseIdx_cons_zero, List.setIfInBounds_toArray, List.set_cons_zero] at U8
      have HU := Lib.hid U8
      clear U7 U8
      go_wp2_with fail
      refine ⟨⟨k + 1, .slice A7 (k + 1) c7, es ++ [(0, ⟨ag, ao, asq, atm, aru, .slice Al aps.length acl, aps, ast, apr, ava, aow, ago, agf, agt⟩)], by omega, by go_num, by rw [List.length_append, hlen]; rfl, HM2.out, ?_⟩, by simp [intOf]; omega⟩
      rw [List.length_append, List.flatMap_append, List.map_append, hlen]
      exact HU.out
    · have hkn2 : k = n := by omega
      subst hkn2
      clear hkn
      have hlb := labs_ok hlab hM.nb
      have hesl : es.length ≤ 1000000 := by omega
      have KW := ledWhole lv es wr (rd_of_owns hrow) hlb hesl
      rw [hM.whole] at KW
      obtain ⟨Ac, cc, rfl⟩ := owns_slice hrow
      rw [hlen] at R1 hrow KW
      have c0 := (R1.blk 0 rfl).cell (j := 0) (v := .slice Ac k cc) rfl
      go_wp2_with fail
      (with_reducible refine KW.mono ?_)
      rintro e w5 ⟨rfl, hb5⟩
      have U5 := R1.grow hb5
      clear KW R1 hb5 c0 hrow hlab hlb h4
      have c0 := (U5.blk 0 rfl).cell (j := 0) (v := .slice Ac k cc) rfl
      by_cases hn0 : k = 0
      · subst hn0
        have HB := Lib.hid U5.below
        clear U5
        go_wp2_with fail
        go_ret
        exact ⟨rfl, HB.out⟩
      have d0 : ((k : Int) == 0) = false := by simp; omega
      have d1 : (k : Int) ≠ 0 := by omega
      obtain ⟨r, hr⟩ : ∃ r, r = at_ % k := ⟨_, rfl⟩
      have t1 : (at_ : Int).tmod (k : Int) = (r : Int) := by rw [hr]; rfl
      have lr : r < k := by rw [hr]; exact Nat.mod_lt _ (by omega)
      obtain ⟨q3, hq3⟩ : ∃ q, q = what % 3 := ⟨_, rfl⟩
      have t3 : (what : Int).tmod 3 = (q3 : Int) := by rw [hq3]; rfl
      have l3 : q3 < 3 := by omega
      have ws : IntKind.i64.wrap (at_ : Int) = (at_ : Int) := by rw [IntKind.wrap_i64]; omega
      clear hr hq3
      obtain ⟨x, hx⟩ : ∃ x, es[r]? = some x := ⟨_, List.getElem?_eq_getElem (by omega)⟩
      have hxm := List.mem_of_getElem? hx
      have hlb := labs_ok (U5.all 2 rfl) hM.nb
      obtain ⟨A', c', hA', hl1, hl2, hl3, hl4⟩ := rd_of_owns (U5.row 1 rfl)
      injection hA' with hA1 hA2 hA3
      subst hA1 hA3
      obtain ⟨b, oo, rfl, hat5⟩ := hl4 (by omega)
      have e0 := fun j hj => flat_at en14 14 (fun _ => rfl) es r x hx j hj
      have hb0 := Below.refl w5.heap.size w5
      obtain ⟨x1, a⟩ := x
      have hx1 : x1 = 0 := (hM.nb _ hxm).1
      subst hx1
      have hoka := (hlb _ hxm).2
      have hspan := fun w' (hb : Below w5.heap.size w5 w') => refSpan a w' (hoka.below hb)
      obtain ⟨Al, acl, hal⟩ : ∃ A c, a.lv = .slice A a.ps.length c := by obtain ⟨A, c, e, _⟩ := hoka.rd; exact ⟨A, c, e⟩
      clear hl4 hl1
      obtain ⟨ag, ao, asq, atm, aru, alv, aps, ast, apr, ava, aow, ago, agf, agt⟩ := a
      simp only at hal
      subst hal
      obtain ⟨so, hso⟩ : ∃ so, so = spanO ⟨ag, ao, asq, atm, aru, .slice Al aps.length acl, aps, ast, apr, ava, aow, ago, agf, agt⟩ := ⟨_, rfl⟩
      obtain ⟨sf, hsf⟩ : ∃ sf, sf = spanF ⟨ag, ao, asq, atm, aru, .slice Al aps.length acl, aps, ast, apr, ava, aow, ago, agf, agt⟩ := ⟨_, rfl⟩
      obtain ⟨sto, hst⟩ : ∃ sto, sto = spanT ⟨ag, ao, asq, atm, aru, .slice Al aps.length acl, aps, ast, apr, ava, aow, ago, agf, agt⟩ := ⟨_, rfl⟩
      unfold itV at hspan
      rw [← hso, ← hsf, ← hst] at hspan
      have HSO := Lib.hid hso; have HST := Lib.hid hst
      clear hso hsf hst
      have z0 := hat5.nth0 hb0 (r * 14) (.int .u64 0) (e0 0 (by omega))
      have z1 := hat5.nth hb0 (r * 14) 1 (.bool ag) (e0 1 (by omega))
      have z2 := hat5.nth hb0 (r * 14) 2 (.int .u8 ao) (e0 2 (by omega))
      have z3 := hat5.nth hb0 (r * 14) 3 (.int .u64 asq) (e0 3 (by omega))
      have z4 := hat5.nth hb0 (r * 14) 4 (.int .u64 atm) (e0 4 (by omega))
      have z5 := hat5.nth hb0 (r * 14) 5 (.string aru) (e0 5 (by omega))
      have z6 := hat5.nth hb0 (r * 14) 6 (.slice Al aps.length acl) (e0 6 (by omega))
      have z7 := hat5.nth hb0 (r * 14) 7 (.int .u8 ast) (e0 7 (by omega))
      have z8 := hat5.nth hb0 (r * 14) 8 (.int .u8 apr) (e0 8 (by omega))
      have z9 := hat5.nth hb0 (r * 14) 9 (.int .i64 ava) (e0 9 (by omega))
      have z10 := hat5.nth hb0 (r * 14) 10 (.int .u8 aow) (e0 10 (by omega))
      have z11 := hat5.nth hb0 (r * 14) 11 (.int .u8 ago) (e0 11 (by omega))
      have z12 := hat5.nth hb0 (r * 14) 12 (.int .u64 agf) (e0 12 (by omega))
      have z13 := hat5.nth hb0 (r * 14) 13 (.int .u64 agt) (e0 13 (by omega))
      have hhi : ∀ o, highL es o ≤ 200 := fun o => by
        have := highL_le hM.le hM.whole o
        omega
      have hcl : cl ≠ b := fun h => U5.apartAt 0 1 (by decide) rfl rfl cl (chBlk_fp.2 rfl) (chRow_fp.2 (by rw [h]; rfl))
      clear hxm hlb hoka
      by_cases hq0 : q3 = 0
      · subst hq0
        have t3' : (what : Int).tmod 3 = 0 := t3
        clear t3 l3
        go_wp2_with fail
        (with_reducible refine (hspan _ hb0).mono ?_)
        rintro e w6 ⟨rfl, hb6⟩
        have U6 := U5.grow hb6
        have hat6 : RdAt w6 b oo (es.flatMap en14) := fun j u hu => by
          rw [World.cell?_of_block (hb6.block b (World.block_lt_of_cell? w5 _ (hat5 j u hu)))]
          exact hat5 j u hu
        clear hspan hb6 hat5 c0 hb0 z0 z1 z2 z3 z4 z5 z6 z7 z8 z9 z10 z11 z12 z13 U5
        have c0 := (U6.blk 0 rfl).cell (j := 0) (v := (.slice (some ⟨b, oo, none⟩) k cc)) rfl
        obtain ⟨was, hwas⟩ : ∃ was, was = highL es so := ⟨_, rfl⟩
        have KH := lawHigh (.slice (some ⟨b, oo, none⟩) k cc) es so w6 (by rw [hlen]; exact rd_of_owns (U6.row 1 rfl)) (labs_ok (U6.all 2 rfl) hM.nb) hesl
        rw [← hwas] at KH
        have HWAS := Lib.hid hwas
        clear hwas
        go_wp2_with fail
        (with_reducible refine KH.mono ?_)
        rintro e w7 ⟨rfl, hb7⟩
        have U7 := U6.grow hb7
        have hat7 : RdAt w7 b oo (es.flatMap en14) := fun j u hu => by
          rw [World.cell?_of_block (hb7.block b (World.block_lt_of_cell? w6 _ (hat6 j u hu)))]
          exact hat6 j u hu
        clear KH hb7 hat6 c0 U6
        have F : ∀ w', Below w7.heap.size w7 w' → w'.cell? ⟨cl, 0, none⟩ = some (.slice (some ⟨b, oo, none⟩) k cc) := fun w' hw => ((U7.grow hw).blk 0 rfl).cell rfl
        have s1 : r ≤ k := by omega
        have s2 : r ≤ cc := by omega
        have s3 : r + 1 ≤ k := by omega
        have s4 : r + 1 ≤ cc := by omega
        have wr1 : IntKind.i64.wrap ((r : Int) + 1) = (r : Int) + 1 := by rw [IntKind.wrap_i64]; omega
        have s5 : (r : Int) + 1 ≤ (k : Int) := by omega
        have s6 : (0 : Int) ≤ (r : Int) + 1 := by omega
        have s7 : ((r : Int) + 1).toNat = r + 1 := by omega
        obtain ⟨o2, ho2, ho3⟩ : ∃ o2, (if cc = r + 1 then some (⟨b, oo, none⟩ : Addr) else some ⟨b, oo + (r + 1) * 14, none⟩) = some ⟨b, o2, none⟩ ∧ (cc = r + 1 ∨ o2 = oo + (r + 1) * 14) := by
          by_cases h : cc = r + 1
          · exact ⟨oo, if_pos h, .inl h⟩
          · exact ⟨_, if_neg h, .inr rfl⟩
        go_wp2_with fail
        refine FreeOrd.region_free (fun w' => Below w7.heap.size w7 w') [] [8, 9] [0, 1, 2, 3, 4, 5, 6, 7] (by kernel_rfl) (by kernel_rfl) (by kernel_rfl) ((Below.refl _ _).drew) ?_
        repeat (first
          | (refine FreeOrd.RelSeq.pure_ (c := ?_) rfl rfl ?_ ?_; rotate_left; (focus (intro x w'; dsimp only; go_simp; (repeat' apply And.intro) <;> first | with_reducible rfl | assumption)); simp only [Act.put, List.setIfInBounds_toArray, List.set_cons_zero, List.set_cons_succ])
          | (refine FreeOrd.RelSeq.grow_ (c := ?_) rfl rfl ?_ ?_; rotate_left; (focus (intro x w' hw _; dsimp only; obtain c0 := F w' hw; have hbr := Below.refl w'.heap.size w'; go_simp; (repeat' apply And.intro) <;> first | with_reducible rfl | assumption)); simp only [Act.put, List.setIfInBounds_toArray, List.set_cons_zero, List.set_cons_succ]))
        refine FreeOrd.RelSeq.nil_ fun x w8 hw _ => ?_
        have U8 := U7.grow hw
        have hat8 : RdAt w8 b oo (es.flatMap en14) := fun j u hu => by
          rw [World.cell?_of_block (hw.block b (World.block_lt_of_cell? w7 _ (hat7 j u hu)))]
          exact hat7 j u hu
        clear F hw hat7 U7
        refine FreeOrd.TailSeq.cons_ rfl ?_
        refine wp_append_two (.tmp 98) (.tmp 102) 24 rfl 41 i0 _ 14 128 Tryz.underlying24 hi hz0 hz1 hz2 rfl (by decide) b oo r ((es.take r).flatMap en14) rfl (by rw [flat_len en14 14 (fun _ => rfl), List.length_take]; congr 1; omega) (fun j u hu => hat8 j u (flat_take es r j u hu)) b o2 (k - (r + 1)) (cc - (r + 1)) ((es.drop (r + 1)).flatMap en14) (by first | rfl | trace_state) (by rw [flat_len en14 14 (fun _ => rfl), List.length_drop]; congr 1; omega) (fun j u hu => by
          rcases ho3 with h3 | h3
          · have he : es.drop (r + 1) = [] := by rw [List.drop_eq_nil_iff]; omega
            rw [he] at hu
            simp at hu
          · have := hat8 _ u (flat_drop es (r + 1) (by omega) j u hu)
            rw [h3, Nat.add_assoc]; exact this) (by unfold maxLen; omega) (by omega) fun v9 w9 hb9 hrd9 hv9 => ?_
        refine ⟨rfl, ?_⟩
        simp only [FreeOrd.out, Act.put, List.setIfInBounds_toArray, List.set_cons_zero, List.set_cons_succ]
        have U9 := U8.grow hb9
        have hclt : cl < w8.heap.size := U8.lt (List.mem_cons_self) (chBlk_fp.2 rfl)
        have c0 := (U9.blk 0 rfl).cell (j := 0) (v := (.slice (some ⟨b, oo, none⟩) k cc)) rfl
        have cf := (U9.blk 0 rfl).frozen
        have hrd9' := hrd9
        obtain ⟨A9, c9, rfl, _⟩ := hrd9'
        clear hat8 hb9 U8 ho2 ho3
        refine FreeOrd.TailSeq.cons_ rfl ?_
        go_simp
        refine FreeOrd.TailSeq.nil_gen fun w10 hw10 => ?_
        have U10 := (U9.put 0 rfl 0 (.slice A9 (r + (k - (r + 1))) c9)).same hw10
        simp only [List.eraseIdx_cons_zero, List.setIfInBounds_toArray, List.set_cons_zero] at U10
        have hrd10 : Rd w10 14 (.slice A9 (r + (k - (r + 1))) c9) (r + (k - (r + 1))) ((es.take r).flatMap en14 ++ (es.drop (r + 1)).flatMap en14) := by
          rw [hw10]
          refine (chRd 14 (.slice A9 (r + (k - (r + 1))) c9) (r + (k - (r + 1))) ((es.take r).flatMap en14 ++ (es.drop (r + 1)).flatMap en14) (by decide)).loc w9 _ (fun q hq => Below.heap_setCell w9 _ _ q fun e => ?_) hrd9
          have hq2 := hv9 q (by
            have hq : q ∈ rdFp (.slice A9 (r + (k - (r + 1))) c9) (r + (k - (r + 1))) := hq
            unfold rdFp at hq
            split at hq
            · cases hq
            · simpa using hq)
          have e : q = cl := e
          rcases hq2 with h1 | h1
          · exact hcl (e.symm.trans h1)
          · omega
        have hel : (es.take r ++ es.drop (r + 1)).length = r + (k - (r + 1)) := by rw [List.length_append, List.length_take, List.length_drop]; omega
        have KW := ledWhole (.slice A9 (r + (k - (r + 1))) c9) (es.take r ++ es.drop (r + 1)) w10 (by rw [hel, List.flatMap_append]; exact hrd10) (fun y hy => labs_ok (U10.all 2 rfl) hM.nb y (by
          rcases List.mem_append.1 hy with h | h
          · exact List.mem_of_mem_take h
          · exact List.mem_of_mem_drop h)) (by omega)
        rw [wholeL_left hM.whole hx] at KW
        simp only at KW
        rw [← HSO.out, ← HST.out, ← HWAS.out] at KW
        have c0 := (U10.blk 0 rfl).cell (j := 0) (v := .slice A9 (r + (k - (r + 1))) c9) rfl
        have HU := Lib.hid U10.below
        clear U9 hw10 hrd9 hrd10 hv9 hclt cf hel U10
        by_cases hsw : sto = was
        · have ds : ((sto : Int) == (was : Int)) = true := by simp [hsw]
          rw [decide_eq_true hsw] at KW
          clear hsw
          go_wp2_with fail
          (with_reducible refine KW.mono ?_)
          rintro e w11 ⟨rfl, hb11⟩
          go_wp2_with fail
          go_ret
          exact ⟨rfl, HU.out.trans (hb11.mono HU.out.size)⟩
        · have ds : ((sto : Int) == (was : Int)) = false := by simp; omega
          rw [decide_eq_false hsw] at KW
          clear hsw
          go_wp2_with fail
          (with_reducible refine KW.mono ?_)
          rintro e w11 ⟨rfl, hb11⟩
          go_wp2_with fail
          go_ret
          exact ⟨rfl, HU.out.trans (hb11.mono HU.out.size)⟩
      by_cases hq1 : q3 = 1
      · subst hq1
        have t3' : (what : Int).tmod 3 = 1 := t3
        clear t3 l3
        have F : ∀ w', Below w5.heap.size w5 w' → w'.cell? ⟨cl, 0, none⟩ = some (.slice (some ⟨b, oo, none⟩) k cc) ∧ w'.cell? ⟨b, oo + r * 14, none⟩ = some (.int .u64 0) ∧ w'.cell? ⟨b, oo + r * 14 + 1, none⟩ = some (.bool ag) ∧ w'.cell? ⟨b, oo + r * 14 + 2, none⟩ = some (.int .u8 ao) ∧ w'.cell? ⟨b, oo + r * 14 + 3, none⟩ = some (.int .u64 asq) ∧ w'.cell? ⟨b, oo + r * 14 + 4, none⟩ = some (.int .u64 atm) ∧ w'.cell? ⟨b, oo + r * 14 + 5, none⟩ = some (.string aru) ∧ w'.cell? ⟨b, oo + r * 14 + 6, none⟩ = some (.slice Al aps.length acl) ∧ w'.cell? ⟨b, oo + r * 14 + 7, none⟩ = some (.int .u8 ast) ∧ w'.cell? ⟨b, oo + r * 14 + 8, none⟩ = some (.int .u8 apr) ∧ w'.cell? ⟨b, oo + r * 14 + 9, none⟩ = some (.int .i64 ava) ∧ w'.cell? ⟨b, oo + r * 14 + 10, none⟩ = some (.int .u8 aow) ∧ w'.cell? ⟨b, oo + r * 14 + 11, none⟩ = some (.int .u8 ago) ∧ w'.cell? ⟨b, oo + r * 14 + 12, none⟩ = some (.int .u64 agf) ∧ w'.cell? ⟨b, oo + r * 14 + 13, none⟩ = some (.int .u64 agt) := fun w' hw => ⟨((U5.grow hw).blk 0 rfl).cell rfl, hat5.nth0 hw (r * 14) (.int .u64 0) (e0 0 (by omega)), hat5.nth hw (r * 14) 1 (.bool ag) (e0 1 (by omega)), hat5.nth hw (r * 14) 2 (.int .u8 ao) (e0 2 (by omega)), hat5.nth hw (r * 14) 3 (.int .u64 asq) (e0 3 (by omega)), hat5.nth hw (r * 14) 4 (.int .u64 atm) (e0 4 (by omega)), hat5.nth hw (r * 14) 5 (.string aru) (e0 5 (by omega)), hat5.nth hw (r * 14) 6 (.slice Al aps.length acl) (e0 6 (by omega)), hat5.nth hw (r * 14) 7 (.int .u8 ast) (e0 7 (by omega)), hat5.nth hw (r * 14) 8 (.int .u8 apr) (e0 8 (by omega)), hat5.nth hw (r * 14) 9 (.int .i64 ava) (e0 9 (by omega)), hat5.nth hw (r * 14) 10 (.int .u8 aow) (e0 10 (by omega)), hat5.nth hw (r * 14) 11 (.int .u8 ago) (e0 11 (by omega)), hat5.nth hw (r * 14) 12 (.int .u64 agf) (e0 12 (by omega)), hat5.nth hw (r * 14) 13 (.int .u64 agt) (e0 13 (by omega))⟩
        have lrI : (r : Int) < (k : Int) := by omega
        go_wp2_with fail
        refine FreeOrd.region_free (fun w' => Below w5.heap.size w5 w') [5] [6, 7] [0, 1, 2, 3, 4, 5] (by kernel_rfl) (by kernel_rfl) (by kernel_rfl) ((Below.refl _ _).drew) ?_
        repeat (first
          | (refine FreeOrd.RelSeq.pure_ (c := ?_) rfl rfl ?_ ?_; rotate_left; (focus (intro x w'; dsimp only; go_simp; (repeat' apply And.intro) <;> first | with_reducible rfl | assumption)); simp only [Act.put, List.setIfInBounds_toArray, List.set_cons_zero, List.set_cons_succ])
          | (refine FreeOrd.RelSeq.grow_ (c := ?_) rfl rfl ?_ ?_; rotate_left; (focus (intro x w' hw _; dsimp only; obtain ⟨c0, z0, z1, z2, z3, z4, z5, z6, z7, z8, z9, z10, z11, z12, z13⟩ := F w' hw; have hbr := Below.refl w'.heap.size w'; go_simp; (repeat' apply And.intro) <;> first | with_reducible rfl | assumption)); simp only [Act.put, List.setIfInBounds_toArray, List.set_cons_zero, List.set_cons_succ]))
        refine FreeOrd.RelSeq.rel_ (NewSl w5.heap.size 1 #[.int .u64 0, .bool ag, .int .u8 ao, .int .u64 asq, .int .u64 atm, .string aru, .slice Al aps.length acl, .int .u8 ast, .int .u8 apr, .int .i64 ava, .int .u8 aow, .int .u8 ago, .int .u64 agf, .int .u64 agt] 41) rfl rfl NewSl.stable ?_ ?_
        focus
          intro x w' hw _; dsimp only
          have hba : Below w'.heap.size w' (w'.alloc (.cells #[.int .u64 0, .bool ag, .int .u8 ao, .int .u64 asq, .int .u64 atm, .string aru, .slice Al aps.length acl, .int .u8 ast, .int .u8 apr, .int .i64 ava, .int .u8 aow, .int .u8 ago, .int .u64 agf, .int .u64 agt] 41)) := (Below.refl _ _).alloc (Nat.le_refl _) _
          have hI := hw.trans (hba.mono hw.size)
          have hsz := hw.size
          go_simp
          (repeat' apply And.intro) <;> first | assumption | exact ⟨_, rfl, hsz, Blk.new _ _ _⟩
        simp only [Act.put, List.setIfInBounds_toArray, List.set_cons_zero, List.set_cons_succ, List.nil_append]
        refine FreeOrd.RelSeq.nil_ fun x w6 hw hf => ?_
        obtain ⟨b', e', hb', hB'⟩ := hf _ (.head _)
        have U6 := (U5.grow hw).moreBlk hB' (by have := U5.below.size; omega) (fun d hd hg => by have := U5.lt hd hg; omega)
        clear F hw hf hat5 hb0 c0 z0 z1 z2 z3 z4 z5 z6 z7 z8 z9 z10 z11 z12 z13 U5 hspan
        refine FreeOrd.TailSeq.cons_ rfl ?_
        refine wp_append_rd (.tmp 112) (.tmp 117) 24 rfl 0 41 i0 _ 14 128 Tryz.underlying24 hi hz0 hz1 hz2 rfl (by decide) (.slice (some ⟨b, oo, none⟩) k cc) k _ rfl (U6.row 2 rfl) (.slice (some ⟨b', 0, none⟩) 1 1) 1 _ (by exact e') (rd_one (U6.blk 0 rfl) (n := 14) rfl) (by intro u hu; simp at hu; rcases hu with rfl | rfl | rfl | rfl | rfl | rfl | rfl | rfl | rfl | rfl | rfl | rfl | rfl | rfl <;> rfl) (by unfold maxLen; omega) (by omega) (Nat.zero_le _) fun v7 w7 hown7 hgr7 hv7 => ?_
        refine ⟨rfl, ?_⟩
        simp only [FreeOrd.out, Act.put, List.setIfInBounds_toArray, List.set_cons_zero, List.set_cons_succ]
        have U7 := (U6.app 2 rfl hown7 hgr7 hv7).drop 1
        simp only [List.eraseIdx_cons_succ, List.eraseIdx_cons_zero] at U7
        obtain ⟨A7, c7, rfl⟩ := owns_slice hown7
        have c0 := (U7.blk 1 rfl).cell (j := 0) (v := (.slice (some ⟨b, oo, none⟩) k cc)) rfl
        have cf := (U7.blk 1 rfl).frozen
        clear U6 hown7 hgr7 hv7
        refine FreeOrd.TailSeq.cons_ rfl ?_
        go_simp
        refine FreeOrd.TailSeq.nil_gen fun w8 hw8 => ?_
        have U8 := (U7.put 1 rfl 0 (.slice A7 (k + 1) c7)).same hw8
        simp only [List.eraseIdx_cons_succ, List.eraseIdx_cons_zero, List.setIfInBounds_toArray, List.set_cons_zero] at U8
        have KW := ledWhole (.slice A7 (k + 1) c7) (es ++ [(0, ⟨ag, ao, asq, atm, aru, .slice Al aps.length acl, aps, ast, apr, ava, aow, ago, agf, agt⟩)]) w8 (by rw [List.length_append, List.flatMap_append, hlen]; exact rd_of_owns (U8.row 1 rfl)) (fun y hy => by
          rcases List.mem_append.1 hy with h | h
          · exact labs_ok (U8.all 2 rfl) hM.nb y h
          · rw [List.mem_singleton.1 h]
            exact labs_ok (U8.all 2 rfl) hM.nb _ (List.mem_of_getElem? hx)) (by rw [List.length_append, hlen]; show k + 1 ≤ _; omega)
        rw [wholeL_twice hM.whole (List.mem_of_getElem? hx)] at KW
        have c0 := (U8.blk 0 rfl).cell (j := 0) (v := .slice A7 (k + 1) c7) rfl
        have HU := Lib.hid U8.below
        clear U7 hw8 cf U8
        go_wp2_with fail
        (with_reducible refine KW.mono ?_)
        rintro e w9 ⟨rfl, hb9⟩
        go_wp2_with fail
        go_ret
        exact ⟨rfl, HU.out.trans (hb9.mono HU.out.size)⟩
      have hq2 : q3 = 2 := by omega
      subst hq2
      have t3' : (what : Int).tmod 3 = 2 := t3
      clear t3 l3
      have so256 : so < 256 := by rw [HSO.out]; exact nb_spanO (hM.nb _ (List.mem_of_getElem? hx)).2
      go_wp2_with fail
      (with_reducible refine (hspan _ hb0).mono ?_)
      rintro e w6 ⟨rfl, hb6⟩
      have U6 := U5.grow hb6
      have hat6 : RdAt w6 b oo (es.flatMap en14) := fun j u hu => by
        rw [World.cell?_of_block (hb6.block b (World.block_lt_of_cell? w5 _ (hat5 j u hu)))]
        exact hat5 j u hu
      clear hspan hb6 hat5 c0 hb0 z0 z1 z2 z3 z4 z5 z6 z7 z8 z9 z10 z11 z12 z13 U5
      have c0 := (U6.blk 0 rfl).cell (j := 0) (v := (.slice (some ⟨b, oo, none⟩) k cc)) rfl
      obtain ⟨was, hwas⟩ : ∃ was, was = highL es so := ⟨_, rfl⟩
      have hw200 : was ≤ 200 := by rw [hwas]; exact hhi so
      have KH : ∀ w', Below w6.heap.size w6 w' → Calls Tryz.prog 10 #[(.slice (some ⟨b, oo, none⟩) k cc), .int .u8 so] w' fun e w'' => e = .returned (.int .u64 (was : Nat)) ∧ Below w'.heap.size w' w'' := fun w' hw => by
        rw [hwas]
        exact lawHigh (.slice (some ⟨b, oo, none⟩) k cc) es so w' (by rw [hlen]; exact rd_of_owns ((U6.grow hw).row 1 rfl)) (labs_ok ((U6.grow hw).all 2 rfl) hM.nb) hesl
      have HWAS := Lib.hid hwas
      clear hwas hat6
      have F : ∀ w', Below w6.heap.size w6 w' → w'.cell? ⟨cl, 0, none⟩ = some (.slice (some ⟨b, oo, none⟩) k cc) := fun w' hw => ((U6.grow hw).blk 0 rfl).cell rfl
      have wr2 : IntKind.u64.wrap ((was : Int) + 2) = (was : Int) + 2 := by rw [IntKind.wrap_u64]; omega
      have wr3 : IntKind.u64.wrap ((was : Int) + 3) = (was : Int) + 3 := by rw [IntKind.wrap_u64]; omega
      go_wp2_with fail
      refine FreeOrd.region_free (fun w' => Below w6.heap.size w6 w') [12] [13, 14] [0, 1, 2, 3, 4, 5, 6, 7, 8, 9, 10, 11, 12] (by kernel_rfl) (by kernel_rfl) (by kernel_rfl) ((Below.refl _ _).drew) ?_
      repeat (first
        | (refine FreeOrd.RelSeq.pure_ (c := ?_) rfl rfl ?_ ?_; rotate_left; (focus (intro x w'; dsimp only; go_simp; (repeat' apply And.intro) <;> first | with_reducible rfl | assumption)); simp only [Act.put, List.setIfInBounds_toArray, List.set_cons_zero, List.set_cons_succ])
        | (refine FreeOrd.RelSeq.grow_ (c := ?_) rfl rfl ?_ ?_; rotate_left; (focus (intro x w' hw _; dsimp only; obtain c0 := F w' hw; have hbr := Below.refl w'.heap.size w'; go_simp; (repeat' apply And.intro) <;> first | with_reducible rfl | assumption)); simp only [Act.put, List.setIfInBounds_toArray, List.set_cons_zero, List.set_cons_succ]))
      refine FreeOrd.RelSeq.grow_ (c := .int .u64 (was : Nat)) rfl rfl ?_ ?_
      focus
        intro x w' hw _; dsimp only
        go_simp
        (with_reducible refine (KH w' hw).mono ?_)
        rintro e w'' ⟨rfl, hbk⟩
        first | exact ⟨rfl, hw.trans (hbk.mono hw.size), hbk⟩ | exact ⟨hw.trans (hbk.mono hw.size), hbk⟩
      simp only [Act.put, List.setIfInBounds_toArray, List.set_cons_zero, List.set_cons_succ]
      repeat (first
        | (refine FreeOrd.RelSeq.pure_ (c := ?_) rfl rfl ?_ ?_; rotate_left; (focus (intro x w'; dsimp only; go_simp; (repeat' apply And.intro) <;> first | with_reducible rfl | assumption)); simp only [Act.put, List.setIfInBounds_toArray, List.set_cons_zero, List.set_cons_succ])
        | (refine FreeOrd.RelSeq.grow_ (c := ?_) rfl rfl ?_ ?_; rotate_left; (focus (intro x w' hw _; dsimp only; obtain c0 := F w' hw; have hbr := Below.refl w'.heap.size w'; go_simp; (repeat' apply And.intro) <;> first | with_reducible rfl | assumption)); simp only [Act.put, List.setIfInBounds_toArray, List.set_cons_zero, List.set_cons_succ]))
      refine FreeOrd.RelSeq.grow_ (c := .int .u64 (was : Nat)) rfl rfl ?_ ?_
      focus
        intro x w' hw _; dsimp only
        go_simp
        (with_reducible refine (KH w' hw).mono ?_)
        rintro e w'' ⟨rfl, hbk⟩
        first | exact ⟨rfl, hw.trans (hbk.mono hw.size), hbk⟩ | exact ⟨hw.trans (hbk.mono hw.size), hbk⟩
      simp only [Act.put, List.setIfInBounds_toArray, List.set_cons_zero, List.set_cons_succ]
      repeat (first
        | (refine FreeOrd.RelSeq.pure_ (c := ?_) rfl rfl ?_ ?_; rotate_left; (focus (intro x w'; dsimp only; go_simp; (repeat' apply And.intro) <;> first | with_reducible rfl | assumption)); simp only [Act.put, List.setIfInBounds_toArray, List.set_cons_zero, List.set_cons_succ])
        | (refine FreeOrd.RelSeq.grow_ (c := ?_) rfl rfl ?_ ?_; rotate_left; (focus (intro x w' hw _; dsimp only; obtain c0 := F w' hw; have hbr := Below.refl w'.heap.size w'; go_simp; (repeat' apply And.intro) <;> first | with_reducible rfl | assumption)); simp only [Act.put, List.setIfInBounds_toArray, List.set_cons_zero, List.set_cons_succ]))
      refine FreeOrd.RelSeq.grow_ (c := .agg #[.bool true, .int .u8 0, .int .u64 0, .int .u64 0, .string ⟨#[]⟩, .slice none 0 0, .int .u8 0, .int .u8 0, .int .i64 0, .int .u8 0, .int .u8 so, .int .u64 ((was : Int) + 2), .int .u64 ((was : Int) + 3)]) rfl rfl ?_ ?_
      focus
        intro x w' hw _; dsimp only
        go_simp
        (with_reducible refine (itemGap so _ _ w').mono ?_)
        rintro e w'' ⟨rfl, hbk⟩
        first | exact ⟨rfl, hw.trans (hbk.mono hw.size), hbk⟩ | exact ⟨hw.trans (hbk.mono hw.size), hbk⟩
      simp only [Act.put, List.setIfInBounds_toArray, List.set_cons_zero, List.set_cons_succ]
      repeat (first
        | (refine FreeOrd.RelSeq.pure_ (c := ?_) rfl rfl ?_ ?_; rotate_left; (focus (intro x w'; dsimp only; go_simp; (repeat' apply And.intro) <;> first | with_reducible rfl | assumption)); simp only [Act.put, List.setIfInBounds_toArray, List.set_cons_zero, List.set_cons_succ])
        | (refine FreeOrd.RelSeq.grow_ (c := ?_) rfl rfl ?_ ?_; rotate_left; (focus (intro x w' hw _; dsimp only; obtain c0 := F w' hw; have hbr := Below.refl w'.heap.size w'; go_simp; (repeat' apply And.intro) <;> first | with_reducible rfl | assumption)); simp only [Act.put, List.setIfInBounds_toArray, List.set_cons_zero, List.set_cons_succ]))
      refine FreeOrd.RelSeq.rel_ (NewSl w6.heap.size 1 #[.int .u64 0, .bool true, .int .u8 0, .int .u64 0, .int .u64 0, .string ⟨#[]⟩, .slice none 0 0, .int .u8 0, .int .u8 0, .int .i64 0, .int .u8 0, .int .u8 so, .int .u64 ((was : Int) + 2), .int .u64 ((was : Int) + 3)] 41) rfl rfl NewSl.stable ?_ ?_
      focus
        intro x w' hw _; dsimp only
        have hba : Below w'.heap.size w' (w'.alloc (.cells #[.int .u64 0, .bool true, .int .u8 0, .int .u64 0, .int .u64 0, .string ⟨#[]⟩, .slice none 0 0, .int .u8 0, .int .u8 0, .int .i64 0, .int .u8 0, .int .u8 so, .int .u64 ((was : Int) + 2), .int .u64 ((was : Int) + 3)] 41)) := (Below.refl _ _).alloc (Nat.le_refl _) _
        have hI := hw.trans (hba.mono hw.size)
        have hsz := hw.size
        go_simp
        (repeat' apply And.intro) <;> first | assumption | exact ⟨_, rfl, hsz, Blk.new _ _ _⟩
      simp only [Act.put, List.setIfInBounds_toArray, List.set_cons_zero, List.set_cons_succ, List.nil_append]
      refine FreeOrd.RelSeq.nil_ fun x w6' hw hf => ?_
      obtain ⟨b', e', hb', hB'⟩ := hf _ (.head _)
      have U6' := (U6.grow hw).moreBlk hB' (by have := U6.below.size; omega) (fun d hd hg => by have := U6.lt hd hg; omega)
      clear F hw hf c0 U6 KH
      refine FreeOrd.TailSeq.cons_ rfl ?_
      refine wp_append_rd (.tmp 66) (.tmp 78) 24 rfl 0 41 i0 _ 14 128 Tryz.underlying24 hi hz0 hz1 hz2 rfl (by decide) (.slice (some ⟨b, oo, none⟩) k cc) k _ rfl (U6'.row 2 rfl) (.slice (some ⟨b', 0, none⟩) 1 1) 1 _ (by exact e') (rd_one (U6'.blk 0 rfl) (n := 14) rfl) (by intro u hu; simp at hu; rcases hu with rfl | rfl | rfl | rfl | rfl | rfl | rfl | rfl | rfl | rfl | rfl | rfl | rfl | rfl <;> rfl) (by unfold maxLen; omega) (by omega) (Nat.zero_le _) fun v7 w7 hown7 hgr7 hv7 => ?_
      refine ⟨rfl, ?_⟩
      simp only [FreeOrd.out, Act.put, List.setIfInBounds_toArray, List.set_cons_zero, List.set_cons_succ]
      have U7 := (U6'.app 2 rfl hown7 hgr7 hv7).drop 1
      simp only [List.eraseIdx_cons_succ, List.eraseIdx_cons_zero] at U7
      obtain ⟨A7, c7, rfl⟩ := owns_slice hown7
      have c0 := (U7.blk 1 rfl).cell (j := 0) (v := (.slice (some ⟨b, oo, none⟩) k cc)) rfl
      have cf := (U7.blk 1 rfl).frozen
      clear U6' hown7 hgr7 hv7
      refine FreeOrd.TailSeq.cons_ rfl ?_
      go_simp
      refine FreeOrd.TailSeq.nil_gen fun w8 hw8 => ?_
      have U8 := (U7.put 1 rfl 0 (.slice A7 (k + 1) c7)).same hw8
      simp only [List.eraseIdx_cons_succ, List.eraseIdx_cons_zero, List.setIfInBounds_toArray, List.set_cons_zero] at U8
      have KW := ledWhole (.slice A7 (k + 1) c7) (es ++ [(0, ⟨true, 0, 0, 0, ⟨#[]⟩, .slice none 0 0, [], 0, 0, 0, 0, so, was + 2, was + 3⟩)]) w8 (by rw [List.length_append, List.flatMap_append, hlen]; exact rd_of_owns (U8.row 1 rfl)) (fun y hy => by
        rcases List.mem_append.1 hy with h | h
        · exact labs_ok (U8.all 2 rfl) hM.nb y h
        · rw [List.mem_singleton.1 h]
          exact ⟨show (0 : Nat) < 18446744073709551616 by decide, gapOk _ _ _ w8 so256 (by omega) (by omega)⟩) (by rw [List.length_append, hlen]; show k + 1 ≤ _; omega)
      rw [wholeL_ahead (show highL es so + 1 < was + 2 by rw [← HWAS.out]; omega)] at KW
      have c0 := (U8.blk 0 rfl).cell (j := 0) (v := .slice A7 (k + 1) c7) rfl
      have HU := Lib.hid U8.below
      clear U7 hw8 cf U8
      go_wp2_with fail
      (with_reducible refine KW.mono ?_)
      rintro e w9 ⟨rfl, hb9⟩
      go_wp2_with fail
      go_ret
      exact ⟨rfl, HU.out.trans (hb9.mono HU.out.size)⟩
end Go.Proofs.YtdmdfccadjfpiaaGreat
