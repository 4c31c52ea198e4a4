/-
  A topology of small numbers (watchfirelaw24.Size's method Topo): of any size it makes one; its nodes' names.
-/
import Derived.Test.YtdghpjkjhlankaaNodes
import Derived.Test.YtdghpjkjhlankaaQuota
import Derived.Test.YtdghpjkjhlankaaList
import Derived.Test.YtdghpjkjhlankaaSt2
namespace Go.Proofs.Ytdghpjkjhlankaa
open Go.RowKit FreeOrd
set_option maxRecDepth 100000
attribute [local go_sem] out

structure SmC where
  v1 : Value
  v2 : Value
  l1 : List (Nat × Nat × Nat)
  l2 : List (Nat × Nat × Nat)
  q : Nat
def smc3 (s : SmC) : List Value := [s.v1, s.v2, .int .u8 s.q]
structure SizeV where
  hv : Value
  ev : Value
  qv : Value
  rv : Value
  tv : Value
  cv : Value
  hubs : List Nat
  edges : List Nat
  quotas : List Nat
  rules : List SmR
  routes : List SmN
  curbs : List SmC
  wi : Nat
  fi : Nat
  mo : Nat
  be : Nat
  dn : Nat
def sizeCells (s : SizeV) : List Value := [s.hv, s.ev, s.qv, s.rv, .int .u8 s.wi, .int .u8 s.fi, .int .u8 s.mo, .int .u8 s.be, .int .u8 s.dn, s.tv, s.cv]
structure SizeV.ok (s : SizeV) (w : World) : Prop where
  hubs : Rd w 1 s.hv s.hubs.length (u8s s.hubs) ∧ ∀ x ∈ s.hubs, x < 256
  edges : Rd w 1 s.ev s.edges.length (u8s s.edges) ∧ ∀ x ∈ s.edges, x < 256
  quotas : Rd w 1 s.qv s.quotas.length (u16s s.quotas)
  rules : Rd w 10 s.rv s.rules.length (s.rules.flatMap sm10) ∧ ∀ x ∈ s.rules, x.ok
  routes : Rd w 8 s.tv s.routes.length (s.routes.flatMap smn8) ∧ ∀ x ∈ s.routes, x.ok ∧ Rd w 3 x.v x.asks.length (smallCells x.asks)
  curbs : Rd w 3 s.cv s.curbs.length (s.curbs.flatMap smc3) ∧ ∀ x ∈ s.curbs, x.q < 256 ∧ Rd w 3 x.v1 x.l1.length (smallCells x.l1) ∧ Rd w 3 x.v2 x.l2.length (smallCells x.l2)
  small : s.hubs.length ≤ 1048576 ∧ s.edges.length ≤ 1048576
  nums : s.wi < 256 ∧ s.fi < 256 ∧ s.mo < 256 ∧ s.be < 256 ∧ s.dn < 256
def topoNames (hs es : List Nat) : List ByteArray := mainB :: ((List.range (min (1 + hs.length) 3)).map hubB ++ (List.range (min (1 + es.length) 4)).map edgeB)
theorem infoCurb : (Try.prog.info? 103).map (fun i => (i.zero, i.size, i.bytes)) = some (some (.agg #[.slice none 0 0, .slice none 0 0, .slice none 0 0]), 3, 72) := by kernel_rfl
theorem quota_lt (Q : List Nat) (i : Nat) : quotaL Q i ≤ 1000 := by
  unfold quotaL
  split <;> omega

set_option maxHeartbeats 16000000 in
theorem topoAny (s : SizeV) (w : World) (hok : s.ok w) :
    Calls Try.prog 7 #[.agg (sizeCells s).toArray] w fun e w' =>
      ∃ (A0 : Option Addr) (n0 c0 : Nat) (t1 t2 t3 t4 t5 : Int) (A1 : Option Addr) (n1 c1 : Nat) (A2 : Option Addr) (n2 c2 : Nat), e = .returned (.agg #[.slice A0 n0 c0, .int .i64 t1, .int .u64 t2, .int .u64 t3, .int .u64 t4, .int .u64 t5, .slice A1 n1 c1, .slice A2 n2 c2]) ∧ Named w' (.slice A0 n0 c0) (topoNames s.hubs s.edges) ∧ (∀ g, (Value.slice A0 n0 c0).ownBlock = some g → w.heap.size ≤ g) ∧ Below w.heap.size w w' := by
  obtain ⟨i0, hi, hz0, hz1, hz2⟩ := info_parts infoNode
  obtain ⟨j0, ji, jz0, jz1, jz2⟩ := info_parts infoRule
  obtain ⟨k0, ki, kz0, kz1, kz2⟩ := info_parts infoCurb
  obtain ⟨hv, ev, qv, rv, tv, cv, hs, es, Q, rl, nl, cl, wi, fi, mo, be, dn⟩ := s
  obtain ⟨⟨o1, o1'⟩, ⟨o2, o2'⟩, o3, ⟨o4, o4'⟩, ⟨o5, o5'⟩, ⟨o6, o6'⟩, ⟨sh, se⟩, n1, n2, n3, n4, n5⟩ := hok
  simp only at sh se n1 n2 n3 n4 n5 o1 o1' o2 o2' o3 o4 o4' o5 o5' o6 o6'
  simp only [sizeCells]
  have HQ3 := Lib.hid o3
  have HR4 := Lib.hid o4
  have HR5 := Lib.hid o5
  obtain ⟨Ah, ch, rfl, _, ph, mh, hatH⟩ := o1
  obtain ⟨Ae, ce, rfl, _, pe, me, hatE⟩ := o2
  obtain ⟨Aq, cq, rfl, _, pq, mq, _⟩ := o3
  obtain ⟨Ar, cr, rfl, _, pr, mr, _⟩ := o4
  obtain ⟨At, ct, rfl, _, pt, mt, _⟩ := o5
  obtain ⟨Ac, cc, rfl, _, pc, mc, hatC⟩ := o6
  unfold maxLen at mh me mc
  obtain ⟨nh, hnh⟩ : ∃ n, n = hs.length := ⟨_, rfl⟩
  rw [← hnh] at ph sh hatH ⊢
  have HLH := Lib.hid hnh
  clear hnh
  obtain ⟨ne, hne⟩ : ∃ n, n = es.length := ⟨_, rfl⟩
  rw [← hne] at pe se hatE ⊢
  have HLE := Lib.hid hne
  clear hne
  obtain ⟨nq, hnq⟩ : ∃ n, n = Q.length := ⟨_, rfl⟩
  rw [← hnq] at pq ⊢
  have HLQ := Lib.hid hnq
  clear hnq
  obtain ⟨nr, hnr⟩ : ∃ n, n = rl.length := ⟨_, rfl⟩
  rw [← hnr] at pr ⊢
  have HLR := Lib.hid hnr
  clear hnr
  obtain ⟨nt, hnt⟩ : ∃ n, n = nl.length := ⟨_, rfl⟩
  rw [← hnt] at pt ⊢
  have HLT := Lib.hid hnt
  clear hnt
  obtain ⟨nc, hnc⟩ : ∃ n, n = cl.length := ⟨_, rfl⟩
  rw [← hnc] at pc hatC ⊢
  have HLC := Lib.hid hnc
  clear hnc
  have HO1 := Lib.hid o1'
  have HO2 := Lib.hid o2'
  have HO4 := Lib.hid o4'
  have HO5 := Lib.hid o5'
  have HO6 := Lib.hid o6'
  clear o1' o2' o4' o5' o6' pq mq pr mr pt mt
  obtain ⟨w6, hw6⟩ : ∃ n, n = wi % 6 := ⟨_, rfl⟩
  have m_w6 : (wi : Int).tmod 6 = (w6 : Int) := by rw [hw6]; rfl
  have l_w6 : w6 < 6 := by omega
  clear hw6
  obtain ⟨f3, hf3⟩ : ∃ n, n = fi % 3 := ⟨_, rfl⟩
  have m_f3 : (fi : Int).tmod 3 = (f3 : Int) := by rw [hf3]; rfl
  have l_f3 : f3 < 3 := by omega
  clear hf3
  have q_f3 : IntKind.u64.wrap (f3 : Int) = (f3 : Int) := by rw [IntKind.wrap_u64]; omega
  obtain ⟨m8, hm8⟩ : ∃ n, n = mo % 8 := ⟨_, rfl⟩
  have m_m8 : (mo : Int).tmod 8 = (m8 : Int) := by rw [hm8]; rfl
  have l_m8 : m8 < 8 := by omega
  clear hm8
  have q_m8 : IntKind.u64.wrap (m8 : Int) = (m8 : Int) := by rw [IntKind.wrap_u64]; omega
  obtain ⟨b4, hb4⟩ : ∃ n, n = be % 4 := ⟨_, rfl⟩
  have m_b4 : (be : Int).tmod 4 = (b4 : Int) := by rw [hb4]; rfl
  have l_b4 : b4 < 4 := by omega
  clear hb4
  have q_b4 : IntKind.u64.wrap (b4 : Int) = (b4 : Int) := by rw [IntKind.wrap_u64]; omega
  obtain ⟨d12, hd12⟩ : ∃ n, n = dn % 12 := ⟨_, rfl⟩
  have m_d12 : (dn : Int).tmod 12 = (d12 : Int) := by rw [hd12]; rfl
  have l_d12 : d12 < 12 := by omega
  clear hd12
  have q_d12 : IntKind.u64.wrap (d12 : Int) = (d12 : Int) := by rw [IntKind.wrap_u64]; omega
  have q_r1 : IntKind.u64.wrap (1 + (f3 : Int)) = 1 + (f3 : Int) := by rw [IntKind.wrap_u64]; omega
  have q_r2 : IntKind.u64.wrap (1 + (f3 : Int) + (m8 : Int)) = 1 + (f3 : Int) + (m8 : Int) := by rw [IntKind.wrap_u64]; omega
  have q_r3 : IntKind.u64.wrap (1 + (b4 : Int)) = 1 + (b4 : Int) := by rw [IntKind.wrap_u64]; omega
  have q_r4 : IntKind.u64.wrap (1 + (b4 : Int) + 1) = 1 + (b4 : Int) + 1 := by rw [IntKind.wrap_u64]; omega
  have q_r5 : IntKind.u64.wrap (1 + (b4 : Int) + 1 + (d12 : Int)) = 1 + (b4 : Int) + 1 + (d12 : Int) := by rw [IntKind.wrap_u64]; omega
  go_enter Try.func7, Try.ntmps7
  go_wp2_with (at_builtin; refine wpl_stop fun W0 hW0 => ?_)
  refine Stopped.mk ?_
  have S0 := ((((Upd.nil [] w).alloc #[.slice Ah nh ch, .slice Ae ne ce, .slice Aq nq cq, .slice Ar nr cr, .int .u8 wi, .int .u8 fi, .int .u8 mo, .int .u8 be, .int .u8 dn, .slice At nt ct, .slice Ac nc cc] 40).alloc #[.slice none 0 0, .int .i64 0, .int .u64 0, .int .u64 0, .int .u64 0, .int .u64 0, .slice none 0 0, .slice none 0 0] 33).alloc #[.slice none 0 0, .int .i64 (1 + (w6 : Int)), .int .u64 (1 + (f3 : Int)), .int .u64 (1 + (f3 : Int) + (m8 : Int)), .int .u64 (1 + (b4 : Int)), .int .u64 (1 + (b4 : Int) + 1 + (d12 : Int)), .slice none 0 0, .slice none 0 0] 33).alloc #[.string mainB, .int .u8 1, .int .i64 (-1), .int .i64 0, .slice none 0 0] 85
  simp only [World.size_alloc] at S0
  have S0 := S0.same hW0
  have S0 := S0.nilRow 85 5
  obtain ⟨t1, ht1⟩ : ∃ t : Int, t = 1 + (w6 : Int) := ⟨_, rfl⟩
  obtain ⟨t2, ht2⟩ : ∃ t : Int, t = 1 + (f3 : Int) := ⟨_, rfl⟩
  obtain ⟨t3, ht3⟩ : ∃ t : Int, t = 1 + (f3 : Int) + (m8 : Int) := ⟨_, rfl⟩
  obtain ⟨t4, ht4⟩ : ∃ t : Int, t = 1 + (b4 : Int) := ⟨_, rfl⟩
  obtain ⟨t5, ht5⟩ : ∃ t : Int, t = 1 + (b4 : Int) + 1 + (d12 : Int) := ⟨_, rfl⟩
  rw [← ht1, ← ht3, ← ht2, ← ht5, ← ht4] at S0
  clear ht1 ht2 ht3 ht4 ht5 hW0 m_w6 m_f3 q_f3 m_m8 q_m8 m_b4 q_b4 m_d12 q_d12 q_r1 q_r2 q_r3 q_r4 q_r5
  refine wpl_append_rd rfl (.tmp 54) (.tmp 56) 26 rfl 0 85 i0 _ 5 64 Try.underlying26 hi hz0 hz1 hz2 rfl (by decide) (.slice none 0 0) 0 [] rfl (S0.row 0 rfl) _ 1 _ rfl (rd_one (S0.blk 1 rfl) (n := 5) rfl) (by intro u hu; simp at hu; rcases hu with rfl | rfl | rfl | rfl | rfl <;> rfl) (by unfold maxLen; omega) (by omega) (Nat.zero_le _) fun v1 w1 hown1 hg1 hv1 => ?_
  have S1 := (S0.app 0 rfl hown1 hg1 hv1).pick [2, 0, 3, 4] (by decide)
  simp only [List.eraseIdx_cons_zero, List.nil_append] at S1
  simp only [List.filterMap_cons, List.filterMap_nil, List.getElem?_cons_succ, List.getElem?_cons_zero] at S1
  obtain ⟨A1, cap1, rfl⟩ := owns_slice hown1
  clear hown1 hg1 hv1 S0
  have t0 := (S1.blk 0 rfl).cell (j := 0) (v := .slice none 0 0) rfl
  have ft := (S1.blk 0 rfl).frozen
  have s0 := (S1.blk 3 rfl).cell (j := 0) (v := .slice Ah nh ch) rfl
  obtain ⟨m, hm⟩ : ∃ m, m = min (1 + nh) 3 := ⟨_, rfl⟩
  have tm : min (1 + (nh : Int)) 3 = (m : Int) := by rw [hm]; omega
  have tm2 : min ((nh : Int) + 1) 3 = (m : Int) := by rw [hm]; omega
  have hm1 : 1 ≤ m ∧ m ≤ 3 := by omega
  have HM := Lib.hid hm; clear hm
  have S2 := (S1.put 0 rfl 0 (.slice A1 (0 + 1) cap1)).pick [1, 0, 2, 3] (by decide)
  simp only [List.setIfInBounds_toArray, List.set_cons_zero, List.eraseIdx_cons_zero] at S2
  simp only [List.filterMap_cons, List.filterMap_nil, List.getElem?_cons_succ, List.getElem?_cons_zero] at S2
  clear S1
  go_wp2_with fail
  go_loopw [5, 65] (fun h i wr => ∃ (k j : Nat) (A2 : Option Addr) (cap2 : Nat) (xs : List Value), k ≤ m ∧ i = .int .i64 k ∧ h = .int .i64 j ∧ 1 ≤ j ∧ j ≤ 3 ∧ NamesOf xs (mainB :: (List.range k).map hubB) ∧
      Upd [] w [chRow 85 5 (.slice A2 (1 + k) cap2) (1 + k) xs, chBlk (w.heap.size + 1 + 1) #[.slice A2 (1 + k) cap2, .int .i64 t1, .int .u64 t2, .int .u64 t3, .int .u64 t4, .int .u64 t5, .slice none 0 0, .slice none 0 0] 33, chBlk (w.heap.size + 1) #[.slice none 0 0, .int .i64 0, .int .u64 0, .int .u64 0, .int .u64 0, .int .u64 0, .slice none 0 0, .slice none 0 0] 33, chBlk w.heap.size #[.slice Ah nh ch, .slice Ae ne ce, .slice Aq nq cq, .slice Ar nr cr, .int .u8 wi, .int .u8 fi, .int .u8 mo, .int .u8 be, .int .u8 dn, .slice At nt ct, .slice Ac nc cc] 40] wr) (fun _ i _ => m - (intOf i).toNat)
  case atStart =>
    exact ⟨0, 1, A1, cap1, mainCells, Nat.zero_le _, rfl, rfl, by omega, by omega, ⟨rfl, fun i t h => by cases i with | zero => simpa [mainCells] using h | succ i => simp at h⟩, S2⟩
  case round =>
    obtain ⟨k, j, A2, cap2, xs, hk, rfl, rfl, hj1, hj3, hnames, hS⟩ := hrel
    clear S2 t0 ft s0
    by_cases hlt : k < m
    · have hBt := hS.blk 1 rfl
      have hBs := hS.blk 3 rfl
      have F : ∀ w', Below wr.heap.size wr w' → w'.cell? ⟨w.heap.size + 1 + 1, 0, none⟩ = some (.slice A2 (1 + k) cap2) := fun w' h => (hBt.below h hBt.lt).cell rfl
      have hQ := fun w' (h : Below wr.heap.size wr w') => quotaAny _ _ (.slice Aq nq cq) _ _ _ _ _ _ _ _ Q w.heap.size k w' (by rw [HLQ.out]; exact (HQ3.out.below hS.below).below h) (hBs.below h hBs.lt)
      have HQ := Lib.hid hQ
      have HN := Lib.hid hnames
      have t0 := hBt.cell (j := 0) (v := .slice A2 (1 + k) cap2) rfl
      have s0 := hBs.cell (j := 0) (v := .slice Ah nh ch) rfl
      have hdec := decB_size k (by omega)
      have wk : IntKind.u64.wrap (k : Int) = (k : Int) := by rw [IntKind.wrap_u64]; omega
      have hkm : k ≤ nh := by have := HM.out; omega
      have hql := quota_lt Q k
      clear hQ hnames hBt hBs
      by_cases hk0 : 0 < k
      · obtain ⟨b, of, rfl, hat⟩ := hatH (by omega)
        obtain ⟨xq, hx⟩ : ∃ xq, hs[k - 1]? = some xq := ⟨_, List.getElem?_eq_getElem (by have := HLH.out; omega)⟩
        have cx : wr.cell? ⟨b, of + (k - 1), none⟩ = some (.int .u8 (xq : Nat)) := (hat.below hS.below) _ _ (by simp [u8s, hx])
        have hxq := HO1.out xq (List.mem_of_getElem? hx)
        obtain ⟨aq, haq⟩ : ∃ a, a = xq % (k + 1) := ⟨_, rfl⟩
        have ta : (xq : Int).tmod ((k : Int) + 1) = (aq : Int) := by rw [haq]; rfl
        have laq : aq < k + 1 := by rw [haq]; exact Nat.mod_lt _ (by omega)
        clear hx hatH haq
        go_wp2_with fail
        refine region_free (fun w' => Below wr.heap.size wr w') [11] [12, 14] [0, 1, 2, 3, 4, 5, 6, 7, 8, 9, 10, 11, 13] (by kernel_rfl) (by kernel_rfl) (by kernel_rfl) (Below.refl _ _).drew ?_
        repeat (first
          | (refine RelSeq.pure_ (c := ?_) rfl rfl ?_ ?_; rotate_left; (focus (intro x w'; dsimp only; go_simp; (repeat' apply And.intro) <;> first | with_reducible rfl | assumption)); simp only [Act.put, List.setIfInBounds_toArray, List.set_cons_zero, List.set_cons_succ])
          | (refine RelSeq.grow_ (c := ?_) rfl rfl ?_ ?_; rotate_left; (focus (intro x w' hw _; dsimp only; have c0 := F w' hw; have hbr := Below.refl w'.heap.size w'; go_simp; (repeat' apply And.intro) <;> first | with_reducible rfl | assumption)); simp only [Act.put, List.setIfInBounds_toArray, List.set_cons_zero, List.set_cons_succ]))
        refine RelSeq.grow_ (c := ?_) rfl rfl ?_ ?_; rotate_left
        focus
          intro x w' hw _; dsimp only
          have hbr := Below.refl w'.heap.size w'
          go_simp
          (with_reducible refine (refItoa k w' (by omega)).mono ?_)
          rintro e w3 ⟨rfl, hb3⟩
          have hI := hw.trans (hb3.mono hw.size)
          go_simp
          (repeat' apply And.intro) <;> first | with_reducible rfl | assumption
        simp only [Act.put, List.setIfInBounds_toArray, List.set_cons_zero, List.set_cons_succ]
        repeat (first
          | (refine RelSeq.pure_ (c := ?_) rfl rfl ?_ ?_; rotate_left; (focus (intro x w'; dsimp only; go_simp; (try (split; (focus (exfalso; omega)); go_simp)); (repeat' apply And.intro) <;> first | with_reducible rfl | assumption)); simp only [Act.put, List.setIfInBounds_toArray, List.set_cons_zero, List.set_cons_succ])
          | (refine RelSeq.grow_ (c := ?_) rfl rfl ?_ ?_; rotate_left; (focus (intro x w' hw _; dsimp only; have c0 := F w' hw; have hbr := Below.refl w'.heap.size w'; go_simp; (repeat' apply And.intro) <;> first | with_reducible rfl | assumption)); simp only [Act.put, List.setIfInBounds_toArray, List.set_cons_zero, List.set_cons_succ]))
        refine RelSeq.grow_ (c := ?_) rfl rfl ?_ ?_; rotate_left
        focus
          intro x w' hw _; dsimp only
          have hbr := Below.refl w'.heap.size w'
          go_simp
          (with_reducible refine (HQ.out w' hw).mono ?_)
          rintro e w3 ⟨rfl, rfl⟩
          go_simp
          (repeat' apply And.intro) <;> first | with_reducible rfl | assumption
        simp only [Act.put, List.setIfInBounds_toArray, List.set_cons_zero, List.set_cons_succ]
        repeat (first
          | (refine RelSeq.pure_ (c := ?_) rfl rfl ?_ ?_; rotate_left; (focus (intro x w'; dsimp only; go_simp; (try (split; (focus (exfalso; omega)); go_simp)); (repeat' apply And.intro) <;> first | with_reducible rfl | assumption)); simp only [Act.put, List.setIfInBounds_toArray, List.set_cons_zero, List.set_cons_succ])
          | (refine RelSeq.grow_ (c := ?_) rfl rfl ?_ ?_; rotate_left; (focus (intro x w' hw _; dsimp only; have c0 := F w' hw; have hbr := Below.refl w'.heap.size w'; go_simp; (repeat' apply And.intro) <;> first | with_reducible rfl | assumption)); simp only [Act.put, List.setIfInBounds_toArray, List.set_cons_zero, List.set_cons_succ]))
        refine RelSeq.rel_ (NewSl wr.heap.size 1 #[.string (hubB k), .int .u8 2, .int .i64 (aq : Nat), .int .i64 (quotaL Q k : Nat), .slice none 0 0] 85) rfl rfl NewSl.stable ?_ ?_
        focus
          intro x w' hw _; dsimp only
          have hba : Below w'.heap.size w' (w'.alloc (.cells #[.string (hubB k), .int .u8 2, .int .i64 (aq : Nat), .int .i64 (quotaL Q k : Nat), .slice none 0 0] 85)) := (Below.refl _ _).alloc (Nat.le_refl _) _
          have hI := hw.trans (hba.mono hw.size)
          have hsz := hw.size
          unfold hubB at *
          go_simp
          (repeat' apply And.intro) <;> first | assumption | exact ⟨_, rfl, hsz, Blk.new _ _ _⟩
        simp only [Act.put, List.setIfInBounds_toArray, List.set_cons_zero, List.set_cons_succ, List.nil_append]
        repeat (first
          | (refine RelSeq.pure_ (c := ?_) rfl rfl ?_ ?_; rotate_left; (focus (intro x w'; dsimp only; go_simp; (try (split; (focus (exfalso; omega)); go_simp)); (repeat' apply And.intro) <;> first | with_reducible rfl | assumption)); simp only [Act.put, List.setIfInBounds_toArray, List.set_cons_zero, List.set_cons_succ])
          | (refine RelSeq.grow_ (c := ?_) rfl rfl ?_ ?_; rotate_left; (focus (intro x w' hw _; dsimp only; have c0 := F w' hw; have hbr := Below.refl w'.heap.size w'; go_simp; (repeat' apply And.intro) <;> first | with_reducible rfl | assumption)); simp only [Act.put, List.setIfInBounds_toArray, List.set_cons_zero, List.set_cons_succ]))
        refine RelSeq.nil_ fun y w3 hw hf => ?_
        obtain ⟨b57, e57, hb57, hB57⟩ := hf _ (.head _)
        clear hf F
        refine TailSeq.cons_ rfl ?_
        have S3 := hS.grow hw
        refine wp_append_rd (.tmp 81) (.tmp 91) 26 rfl 0 85 i0 _ 5 64 Try.underlying26 hi hz0 hz1 hz2 rfl (by decide) (.slice A2 (1 + k) cap2) _ _ rfl (S3.row 0 rfl) _ 1 [.string (hubB k), .int .u8 2, .int .i64 (aq : Nat), .int .i64 (quotaL Q k : Nat), .slice none 0 0] (by exact e57) (rd_one hB57 (n := 5) rfl) (by intro u hu; simp at hu; rcases hu with rfl | rfl | rfl | rfl | rfl <;> rfl) (by unfold maxLen; omega) (by omega) (Nat.zero_le _) fun v4 w4 hown4 hgrow hv4 => ⟨rfl, ?_⟩
        have S4 := S3.app 0 rfl hown4 hgrow hv4
        simp only [List.eraseIdx_cons_zero] at S4
        obtain ⟨A4, cap4, rfl⟩ := owns_slice hown4
        clear hown4 hgrow hv4 hB57 e57 hw S3 hS t0 s0
        simp only [out, Act.put, List.setIfInBounds_toArray, List.set_cons_zero, List.set_cons_succ]
        refine TailSeq.cons_ rfl ?_
        have d2 := (S4.blk 1 rfl).cell (j := 0) (v := .slice A2 (1 + k) cap2) rfl
        have f2 := (S4.blk 1 rfl).frozen 0
        go_simp
        refine TailSeq.nil_gen fun w5 hw5 => ?_
        have S5 := ((S4.put 1 rfl 0 (.slice A4 (1 + k + 1) cap4)).same hw5).pick [1, 0, 2, 3] (by decide)
        simp only [List.setIfInBounds_toArray, List.set_cons_zero, List.eraseIdx_cons_succ, List.eraseIdx_cons_zero] at S5
        simp only [List.filterMap_cons, List.filterMap_nil, List.getElem?_cons_succ, List.getElem?_cons_zero] at S5
        rw [Nat.add_assoc] at S5
        clear hw5 d2 f2 S4
        go_wp2_with fail
        go_roundw
        case rel =>
          refine ⟨k + 1, k + 1, A4, cap4, _, by omega, by go_num, by go_num, by omega, by omega, ?_, S5⟩
          rw [List.range_succ, List.map_append, ← List.cons_append]
          exact HN.out.snoc _ _ _ _ _
        case measure => simp [intOf]; omega
      · clear hatH
        go_wp2_with fail
        refine region_free (fun w' => Below wr.heap.size wr w') [11] [12, 14] [0, 1, 2, 3, 4, 5, 6, 7, 8, 9, 10, 11, 13] (by kernel_rfl) (by kernel_rfl) (by kernel_rfl) (Below.refl _ _).drew ?_
        repeat (first
          | (refine RelSeq.pure_ (c := ?_) rfl rfl ?_ ?_; rotate_left; (focus (intro x w'; dsimp only; go_simp; (repeat' apply And.intro) <;> first | with_reducible rfl | assumption)); simp only [Act.put, List.setIfInBounds_toArray, List.set_cons_zero, List.set_cons_succ])
          | (refine RelSeq.grow_ (c := ?_) rfl rfl ?_ ?_; rotate_left; (focus (intro x w' hw _; dsimp only; have c0 := F w' hw; have hbr := Below.refl w'.heap.size w'; go_simp; (repeat' apply And.intro) <;> first | with_reducible rfl | assumption)); simp only [Act.put, List.setIfInBounds_toArray, List.set_cons_zero, List.set_cons_succ]))
        refine RelSeq.grow_ (c := ?_) rfl rfl ?_ ?_; rotate_left
        focus
          intro x w' hw _; dsimp only
          have hbr := Below.refl w'.heap.size w'
          go_simp
          (with_reducible refine (refItoa k w' (by omega)).mono ?_)
          rintro e w3 ⟨rfl, hb3⟩
          have hI := hw.trans (hb3.mono hw.size)
          go_simp
          (repeat' apply And.intro) <;> first | with_reducible rfl | assumption
        simp only [Act.put, List.setIfInBounds_toArray, List.set_cons_zero, List.set_cons_succ]
        repeat (first
          | (refine RelSeq.pure_ (c := ?_) rfl rfl ?_ ?_; rotate_left; (focus (intro x w'; dsimp only; go_simp; (try (split; (focus (exfalso; omega)); go_simp)); (repeat' apply And.intro) <;> first | with_reducible rfl | assumption)); simp only [Act.put, List.setIfInBounds_toArray, List.set_cons_zero, List.set_cons_succ])
          | (refine RelSeq.grow_ (c := ?_) rfl rfl ?_ ?_; rotate_left; (focus (intro x w' hw _; dsimp only; have c0 := F w' hw; have hbr := Below.refl w'.heap.size w'; go_simp; (repeat' apply And.intro) <;> first | with_reducible rfl | assumption)); simp only [Act.put, List.setIfInBounds_toArray, List.set_cons_zero, List.set_cons_succ]))
        refine RelSeq.grow_ (c := ?_) rfl rfl ?_ ?_; rotate_left
        focus
          intro x w' hw _; dsimp only
          have hbr := Below.refl w'.heap.size w'
          go_simp
          (with_reducible refine (HQ.out w' hw).mono ?_)
          rintro e w3 ⟨rfl, rfl⟩
          go_simp
          (repeat' apply And.intro) <;> first | with_reducible rfl | assumption
        simp only [Act.put, List.setIfInBounds_toArray, List.set_cons_zero, List.set_cons_succ]
        repeat (first
          | (refine RelSeq.pure_ (c := ?_) rfl rfl ?_ ?_; rotate_left; (focus (intro x w'; dsimp only; go_simp; (try (split; (focus (exfalso; omega)); go_simp)); (repeat' apply And.intro) <;> first | with_reducible rfl | assumption)); simp only [Act.put, List.setIfInBounds_toArray, List.set_cons_zero, List.set_cons_succ])
          | (refine RelSeq.grow_ (c := ?_) rfl rfl ?_ ?_; rotate_left; (focus (intro x w' hw _; dsimp only; have c0 := F w' hw; have hbr := Below.refl w'.heap.size w'; go_simp; (repeat' apply And.intro) <;> first | with_reducible rfl | assumption)); simp only [Act.put, List.setIfInBounds_toArray, List.set_cons_zero, List.set_cons_succ]))
        refine RelSeq.rel_ (NewSl wr.heap.size 1 #[.string (hubB k), .int .u8 2, .int .i64 0, .int .i64 (quotaL Q k : Nat), .slice none 0 0] 85) rfl rfl NewSl.stable ?_ ?_
        focus
          intro x w' hw _; dsimp only
          have hba : Below w'.heap.size w' (w'.alloc (.cells #[.string (hubB k), .int .u8 2, .int .i64 0, .int .i64 (quotaL Q k : Nat), .slice none 0 0] 85)) := (Below.refl _ _).alloc (Nat.le_refl _) _
          have hI := hw.trans (hba.mono hw.size)
          have hsz := hw.size
          unfold hubB at *
          go_simp
          (repeat' apply And.intro) <;> first | assumption | exact ⟨_, rfl, hsz, Blk.new _ _ _⟩
        simp only [Act.put, List.setIfInBounds_toArray, List.set_cons_zero, List.set_cons_succ, List.nil_append]
        repeat (first
          | (refine RelSeq.pure_ (c := ?_) rfl rfl ?_ ?_; rotate_left; (focus (intro x w'; dsimp only; go_simp; (try (split; (focus (exfalso; omega)); go_simp)); (repeat' apply And.intro) <;> first | with_reducible rfl | assumption)); simp only [Act.put, List.setIfInBounds_toArray, List.set_cons_zero, List.set_cons_succ])
          | (refine RelSeq.grow_ (c := ?_) rfl rfl ?_ ?_; rotate_left; (focus (intro x w' hw _; dsimp only; have c0 := F w' hw; have hbr := Below.refl w'.heap.size w'; go_simp; (repeat' apply And.intro) <;> first | with_reducible rfl | assumption)); simp only [Act.put, List.setIfInBounds_toArray, List.set_cons_zero, List.set_cons_succ]))
        refine RelSeq.nil_ fun y w3 hw hf => ?_
        obtain ⟨b57, e57, hb57, hB57⟩ := hf _ (.head _)
        clear hf F
        refine TailSeq.cons_ rfl ?_
        have S3 := hS.grow hw
        refine wp_append_rd (.tmp 81) (.tmp 91) 26 rfl 0 85 i0 _ 5 64 Try.underlying26 hi hz0 hz1 hz2 rfl (by decide) (.slice A2 (1 + k) cap2) _ _ rfl (S3.row 0 rfl) _ 1 [.string (hubB k), .int .u8 2, .int .i64 0, .int .i64 (quotaL Q k : Nat), .slice none 0 0] (by exact e57) (rd_one hB57 (n := 5) rfl) (by intro u hu; simp at hu; rcases hu with rfl | rfl | rfl | rfl | rfl <;> rfl) (by unfold maxLen; omega) (by omega) (Nat.zero_le _) fun v4 w4 hown4 hgrow hv4 => ⟨rfl, ?_⟩
        have S4 := S3.app 0 rfl hown4 hgrow hv4
        simp only [List.eraseIdx_cons_zero] at S4
        obtain ⟨A4, cap4, rfl⟩ := owns_slice hown4
        clear hown4 hgrow hv4 hB57 e57 hw S3 hS t0 s0
        simp only [out, Act.put, List.setIfInBounds_toArray, List.set_cons_zero, List.set_cons_succ]
        refine TailSeq.cons_ rfl ?_
        have d2 := (S4.blk 1 rfl).cell (j := 0) (v := .slice A2 (1 + k) cap2) rfl
        have f2 := (S4.blk 1 rfl).frozen 0
        go_simp
        refine TailSeq.nil_gen fun w5 hw5 => ?_
        have S5 := ((S4.put 1 rfl 0 (.slice A4 (1 + k + 1) cap4)).same hw5).pick [1, 0, 2, 3] (by decide)
        simp only [List.setIfInBounds_toArray, List.set_cons_zero, List.eraseIdx_cons_succ, List.eraseIdx_cons_zero] at S5
        simp only [List.filterMap_cons, List.filterMap_nil, List.getElem?_cons_succ, List.getElem?_cons_zero] at S5
        rw [Nat.add_assoc] at S5
        clear hw5 d2 f2 S4
        go_wp2_with fail
        go_roundw
        case rel =>
          refine ⟨k + 1, k + 1, A4, cap4, _, by omega, by go_num, by go_num, by omega, by omega, ?_, S5⟩
          rw [List.range_succ, List.map_append, ← List.cons_append]
          exact HN.out.snoc _ _ _ _ _
        case measure => simp [intOf]; omega
    · obtain rfl : k = m := by omega
      have hkk : decide ((k : Int) < (k : Int)) = false := by simp
      have s3 := (hS.blk 3 rfl).cell (j := 3) (v := .slice Ar nr cr) rfl
      have hLi := fun w' (h : Below w.heap.size w w') => smallList (.slice Ar nr cr) rl w' (by rw [HLR.out]; exact HR4.out.below h) HO4.out
      have HLi := Lib.hid hLi
      have HN := Lib.hid hnames
      clear hLi hatH hnames
      go_wp2_with fail
      (with_reducible refine (HLi.out _ hS.below).mono ?_)
      rintro e w3 ⟨vl, rs, rfl, _, hown3, hgd, hb3⟩
      have hshape : ∀ r ∈ rs, ∃ A n c A' n' c', r.v1 = .slice A n c ∧ r.v2 = .slice A' n' c' := fun r hr => by
        obtain ⟨A, c, e1⟩ := owns_slice (hgd r hr).1
        obtain ⟨A', c', e2⟩ := owns_slice (hgd r hr).2
        exact ⟨A, _, c, A', _, c', e1, e2⟩
      have HSH := Lib.hid hshape
      clear hgd hshape
      have S3 := hS.addRow hb3 hown3 (Nat.le_refl _)
      obtain ⟨Al, cl', rfl⟩ := owns_slice hown3
      obtain ⟨nrs, hnrs⟩ : ∃ n, n = rs.length := ⟨_, rfl⟩
      rw [← hnrs] at S3 ⊢
      have hrsl : nrs ≤ cl' ∧ cl' ≤ 9223372036854775807 := by
        obtain ⟨_, _, he, _, h2, h3, _⟩ := rd_of_owns (S3.row 0 rfl)
        cases he
        exact ⟨h2, by unfold maxLen at h3; exact h3⟩
      have HRS := Lib.hid hnrs
      clear hS hown3 hb3 hnrs s3 HLi
      have s1 := (S3.blk 4 rfl).cell (j := 1) (v := .slice Ae ne ce) rfl
      obtain ⟨m2, hm2⟩ : ∃ m, m = min (1 + ne) 4 := ⟨_, rfl⟩
      have tq : min (1 + (ne : Int)) 4 = (m2 : Int) := by rw [hm2]; omega
      have tq2 : min ((ne : Int) + 1) 4 = (m2 : Int) := by rw [hm2]; omega
      have hm21 : 1 ≤ m2 ∧ m2 ≤ 4 := by omega
      have HM2 := Lib.hid hm2; clear hm2
      go_wp2_with fail
      go_loopw [105] (fun i wr => ∃ (q : Nat) (A3 : Option Addr) (cap3 : Nat) (xs2 : List Value), q ≤ m2 ∧ i = .int .i64 q ∧ NamesOf xs2 (mainB :: ((List.range k).map hubB ++ (List.range q).map edgeB)) ∧ Upd [] w [chRow 94 10 (.slice Al nrs cl') nrs (rs.flatMap rule10), chRow 85 5 (.slice A3 (1 + k + q) cap3) (1 + k + q) xs2, chBlk (w.heap.size + 1 + 1) #[.slice A3 (1 + k + q) cap3, .int .i64 t1, .int .u64 t2, .int .u64 t3, .int .u64 t4, .int .u64 t5, .slice none 0 0, .slice none 0 0] 33, chBlk (w.heap.size + 1) #[.slice none 0 0, .int .i64 0, .int .u64 0, .int .u64 0, .int .u64 0, .int .u64 0, .slice none 0 0, .slice none 0 0] 33, chBlk w.heap.size #[.slice Ah nh ch, .slice Ae ne ce, .slice Aq nq cq, .slice Ar nr cr, .int .u8 wi, .int .u8 fi, .int .u8 mo, .int .u8 be, .int .u8 dn, .slice At nt ct, .slice Ac nc cc] 40] wr) (fun i _ => m2 - (intOf i).toNat)
      case atStart => exact ⟨0, A2, cap2, xs, Nat.zero_le _, rfl, by simpa using HN.out, S3⟩
      case round =>
        obtain ⟨q, A3, cap3, xs2, hq, rfl, hn2, S4⟩ := hrel
        obtain ⟨wo, rfl⟩ : ∃ wo, wo = wr := ⟨_, rfl⟩
        have HN2 := Lib.hid hn2
        clear S3 hn2 s1
        by_cases hqm : q < m2
        · have hQ : ∀ w' (h : Below w.heap.size w w') (hB : Blk w' w.heap.size #[.slice Ah nh ch, .slice Ae ne ce, .slice Aq nq cq, .slice Ar nr cr, .int .u8 wi, .int .u8 fi, .int .u8 mo, .int .u8 be, .int .u8 dn, .slice At nt ct, .slice Ac nc cc] 40), Calls Try.prog 25 #[.int .i64 (3 + (q : Int)), .pointer (some ⟨w.heap.size, 0, none⟩)] w' fun e w'' => e = .returned (.int .i64 (quotaL Q (3 + q) : Nat)) ∧ w' = w'' := fun w' h hB => by
            have := quotaAny _ _ (.slice Aq nq cq) _ _ _ _ _ _ _ _ Q w.heap.size (3 + q) w' (by rw [HLQ.out]; exact HQ3.out.below h) hB
            rwa [Int.natCast_add] at this
          have HQ := Lib.hid hQ
          have s1 := (S4.blk 4 rfl).cell (j := 1) (v := .slice Ae ne ce) rfl
          have hdec := decB_size q (by omega)
          have wk : IntKind.u64.wrap (q : Int) = (q : Int) := by rw [IntKind.wrap_u64]; omega
          have hqe : q ≤ ne := by have := HM2.out; omega
          have hql := quota_lt Q (3 + q)
          clear hQ
          by_cases hq0 : 0 < q
          · obtain ⟨b, of, hAe, hat⟩ := hatE (by omega)
            rw [hAe] at s1
            have HAE := Lib.hid hAe
            obtain ⟨xq, hx⟩ : ∃ xq, es[q - 1]? = some xq := ⟨_, List.getElem?_eq_getElem (by have := HLE.out; omega)⟩
            have cx : wo.cell? ⟨b, of + (q - 1), none⟩ = some (.int .u8 (xq : Nat)) := (hat.below S4.below) _ _ (by simp [u8s, hx])
            have hxq := HO2.out xq (List.mem_of_getElem? hx)
            obtain ⟨aq, haq⟩ : ∃ a, a = xq % j := ⟨_, rfl⟩
            have ta : (xq : Int).tmod (j : Int) = (aq : Int) := by rw [haq]; rfl
            have laq : aq < 3 := by
              have : aq < j := by rw [haq]; exact Nat.mod_lt _ (by omega)
              omega
            clear hx hatE haq hAe
            go_wp2_with fail
            (with_reducible refine (refItoa q _ (by omega)).mono ?_)
            rintro e y1 ⟨rfl, hb1⟩
            have S5 := S4.grow hb1
            clear S4 hb1
            go_wp2_with fail
            (with_reducible refine (HQ.out y1 S5.below (S5.blk 4 rfl)).mono ?_)
            rintro e y2 ⟨rfl, rfl⟩
            have S6 := (S5.alloc #[.string (⟨#[101, 100, 103, 101]⟩ ++ decB q), .int .u8 3, .int .i64 (1 + (aq : Int)), .int .i64 (quotaL Q (3 + q) : Nat), .slice none 0 0] 85).nilRow 94 10
            obtain ⟨gN, hgN⟩ : ∃ g, g = y1.heap.size := ⟨_, rfl⟩
            rw [← hgN] at S6
            clear S5
            go_wp2_with fail
            rw [← hgN]
            clear hgN
            go_loopw [132] (fun i wq => ∃ (p nU : Nat) (vr : Value) (xr : List Value), p ≤ nrs ∧ i = .int .i64 p ∧ nU ≤ p ∧ nU ≤ 4 ∧ Upd [] w [chRow 94 10 vr nU xr, chBlk gN #[.string (⟨#[101, 100, 103, 101]⟩ ++ decB q), .int .u8 3, .int .i64 (1 + (aq : Int)), .int .i64 (quotaL Q (3 + q) : Nat), vr] 85, chRow 94 10 (.slice Al nrs cl') nrs (rs.flatMap rule10), chRow 85 5 (.slice A3 (1 + k + q) cap3) (1 + k + q) xs2, chBlk (w.heap.size + 1 + 1) #[.slice A3 (1 + k + q) cap3, .int .i64 t1, .int .u64 t2, .int .u64 t3, .int .u64 t4, .int .u64 t5, .slice none 0 0, .slice none 0 0] 33, chBlk (w.heap.size + 1) #[.slice none 0 0, .int .i64 0, .int .u64 0, .int .u64 0, .int .u64 0, .int .u64 0, .slice none 0 0, .slice none 0 0] 33, chBlk w.heap.size #[.slice Ah nh ch, .slice Ae ne ce, .slice Aq nq cq, .slice Ar nr cr, .int .u8 wi, .int .u8 fi, .int .u8 mo, .int .u8 be, .int .u8 dn, .slice At nt ct, .slice Ac nc cc] 40] wq) (fun i _ => nrs - (intOf i).toNat)
            case atStart => exact ⟨0, 0, _, [], Nat.zero_le _, rfl, Nat.le_refl _, by omega, S6⟩
            case round =>
              obtain ⟨p, nU, vr, xr, hp, rfl, hnr1, hnr2, S7⟩ := hrel
              clear S6
              obtain ⟨Ar', cr', rfl⟩ := owns_slice (S7.row 0 rfl)
              by_cases hpn : p < nrs
              · obtain ⟨r, hr⟩ : ∃ r, rs[p]? = some r := ⟨_, List.getElem?_eq_getElem (by rw [← HRS.out]; exact hpn)⟩
                obtain ⟨B1, b1, d1, B2, b2, d2, ev1, ev2⟩ := HSH.out r (List.mem_of_getElem? hr)
                have e0 := fun j hj => flat_at rule10 10 (fun _ => rfl) rs p r hr j hj
                obtain ⟨⟨rn, rm, rif, rk, rli, rti, rwa, rke, rpr, rwi⟩, v1', v2'⟩ := r
                simp only at ev1 ev2
                subst ev1 ev2
                have hex : ∃ b o, Al = some ⟨b, o, none⟩ ∧ RdAt wr b o (rs.flatMap rule10) := by
                  obtain ⟨_, _, he, _, _, _, h4⟩ := rd_of_owns (S7.row 2 rfl)
                  cases he
                  exact h4 (by omega)
                obtain ⟨bl, ol, rfl, hat⟩ := hex
                have hbe := Below.refl wr.heap.size wr
                have x0 := hat.nth0 hbe (p * 10) (.string rn) (e0 0 (by omega))
                have x1 := hat.nth hbe (p * 10) 1 (.string rm) (e0 1 (by omega))
                have x2 := hat.nth hbe (p * 10) 2 (.slice B1 b1 d1) (e0 2 (by omega))
                have x3 := hat.nth hbe (p * 10) 3 (.int .u8 rk) (e0 3 (by omega))
                have x4 := hat.nth hbe (p * 10) 4 (.int .i64 rli) (e0 4 (by omega))
                have x5 := hat.nth hbe (p * 10) 5 (.int .u64 rti) (e0 5 (by omega))
                have x6 := hat.nth hbe (p * 10) 6 (.int .u64 rwa) (e0 6 (by omega))
                have x7 := hat.nth hbe (p * 10) 7 (.int .u64 rke) (e0 7 (by omega))
                have x8 := hat.nth hbe (p * 10) 8 (.int .u8 rpr) (e0 8 (by omega))
                have x9 := hat.nth hbe (p * 10) 9 (.slice B2 b2 d2) (e0 9 (by omega))
                clear hat e0 hr hbe
                obtain ⟨par, hpar⟩ : ∃ n, n = (p + q) % 2 := ⟨_, rfl⟩
                have tp : ((p : Int) + (q : Int)).tmod 2 = (par : Int) := by
                  rw [hpar, ← Int.natCast_add]; rfl
                have hp2 : par < 2 := by omega
                clear hpar
                by_cases hp4 : p < 4 ∧ par = 0
                · obtain ⟨hp4a, hp4b⟩ := hp4
                  have dp4 : decide ((p : Int) < 4) = true := by simp; omega
                  have dpr : ((par : Int) == 0) = true := by simp [hp4b]
                  clear hp4b
                  have n4 := (S7.blk 1 rfl).cell (j := 4) (v := .slice Ar' nU cr') rfl
                  have hgl := (S7.blk 1 rfl).lt
                  go_wp2_with (at_builtin; refine wpl_stop fun W hW => ?_)
                  refine Stopped.mk ?_
                  have T1 := (S7.alloc #[.string rn, .string rm, .slice B1 b1 d1, .int .u8 rk, .int .i64 rli, .int .u64 rti, .int .u64 rwa, .int .u64 rke, .int .u8 rpr, .slice B2 b2 d2] 94).alloc #[.string rn, .string rm, .slice B1 b1 d1, .int .u8 rk, .int .i64 rli, .int .u64 rti, .int .u64 rwa, .int .u64 rke, .int .u8 rpr, .slice B2 b2 d2] 94
                  simp only [World.size_alloc] at T1
                  have T2 := T1.same hW
                  clear hW S7 T1 n4 x0 x1 x2 x3 x4 x5 x6 x7 x8 x9
                  refine wpl_append_rd rfl (.tmp 147) (.tmp 149) 83 rfl 0 94 j0 _ 10 128 Try.underlying83 ji jz0 jz1 jz2 rfl (by decide) _ nU _ rfl (T2.row 2 rfl) _ 1 _ rfl (rd_one (T2.blk 0 rfl) (n := 10) rfl) (by intro u hu; simp at hu; rcases hu with rfl | rfl | rfl | rfl | rfl | rfl | rfl | rfl | rfl | rfl <;> rfl) (by unfold maxLen; omega) (by omega) (Nat.zero_le _) fun v4 w4 hown4 hgr4 hv4 => ?_
                  have T3 := T2.app 2 rfl hown4 hgr4 hv4
                  simp only [List.eraseIdx_cons_succ, List.eraseIdx_cons_zero] at T3
                  obtain ⟨A4, c4, rfl⟩ := owns_slice hown4
                  clear hown4 hgr4 hv4 T2
                  have n4 := (T3.blk 3 rfl).cell (j := 4) (v := .slice Ar' nU cr') rfl
                  have f0 := (T3.blk 3 rfl).frozen
                  have T4 := (T3.put 3 rfl 4 (.slice A4 (nU + 1) c4)).pick [1, 0, 4, 5, 6, 7, 8] (by decide)
                  simp only [List.setIfInBounds_toArray, List.set_cons_succ, List.set_cons_zero, List.eraseIdx_cons_succ, List.eraseIdx_cons_zero] at T4
                  simp only [List.filterMap_cons, List.filterMap_nil, List.getElem?_cons_succ, List.getElem?_cons_zero] at T4
                  clear T3
                  go_wp2_with fail
                  go_roundw
                  case rel => exact ⟨p + 1, nU + 1, _, _, by omega, by go_num, by omega, by omega, T4⟩
                  case measure => simp [intOf]; omega
                · have S8 := S7.grow ((Below.refl wr.heap.size wr).alloc (Nat.le_refl _) (.cells #[.string rn, .string rm, .slice B1 b1 d1, .int .u8 rk, .int .i64 rli, .int .u64 rti, .int .u64 rwa, .int .u64 rke, .int .u8 rpr, .slice B2 b2 d2] 94))
                  clear S7
                  by_cases hp44 : p < 4
                  · have dp4 : decide ((p : Int) < 4) = true := by simp; omega
                    have dpr : ((par : Int) == 0) = false := by simp; omega
                    go_wp2_with fail
                    go_roundw
                    case rel => exact ⟨p + 1, nU, _, _, by omega, by go_num, by omega, by omega, S8⟩
                    case measure => simp [intOf]; omega
                  · have dp4 : decide ((p : Int) < 4) = false := by simp; omega
                    go_wp2_with fail
                    go_roundw
                    case rel => exact ⟨p + 1, nU, _, _, by omega, by go_num, by omega, by omega, S8⟩
                    case measure => simp [intOf]; omega
              · obtain rfl : p = nrs := by omega
                have hpp : decide ((p : Int) < (p : Int)) = false := by simp
                have n0 := (S7.blk 1 rfl).cell (j := 0) (v := .string (⟨#[101, 100, 103, 101]⟩ ++ decB q)) rfl
                have n1 := (S7.blk 1 rfl).cell (j := 1) (v := .int .u8 3) rfl
                have n2 := (S7.blk 1 rfl).cell (j := 2) (v := .int .i64 (1 + (aq : Int))) rfl
                have n3 := (S7.blk 1 rfl).cell (j := 3) (v := .int .i64 (quotaL Q (3 + q) : Nat)) rfl
                have n4 := (S7.blk 1 rfl).cell (j := 4) (v := .slice Ar' nU cr') rfl
                have t0 := (S7.blk 4 rfl).cell (j := 0) (v := (.slice A3 (1 + k + q) cap3)) rfl
                go_wp2_with (at_builtin; refine wpl_stop fun W hW => ?_)
                refine Stopped.mk ?_
                have T2 := (S7.alloc #[.string (⟨#[101, 100, 103, 101]⟩ ++ decB q), .int .u8 3, .int .i64 (1 + (aq : Int)), .int .i64 (quotaL Q (3 + q) : Nat), .slice Ar' nU cr'] 85).same hW
                clear hW S7 n0 n1 n2 n3 n4
                refine wpl_append_rd rfl (.tmp 154) (.tmp 156) 26 rfl 0 85 i0 _ 5 64 Try.underlying26 hi hz0 hz1 hz2 rfl (by decide) _ (1 + k + q) _ rfl (T2.row 4 rfl) _ 1 _ rfl (rd_one (T2.blk 0 rfl) (n := 5) rfl) (by intro u hu; simp at hu; rcases hu with rfl | rfl | rfl | rfl | rfl <;> rfl) (by unfold maxLen; omega) (by omega) (Nat.zero_le _) fun v4 w4 hown4 hgr4 hv4 => ?_
                have T3 := T2.app 4 rfl hown4 hgr4 hv4
                simp only [List.eraseIdx_cons_succ, List.eraseIdx_cons_zero] at T3
                obtain ⟨A4, c4, rfl⟩ := owns_slice hown4
                clear hown4 hgr4 hv4 T2 t0
                have t0 := (T3.blk 5 rfl).cell (j := 0) (v := (.slice A3 (1 + k + q) cap3)) rfl
                have f0 := (T3.blk 5 rfl).frozen
                have T4 := (T3.put 5 rfl 0 (.slice A4 (1 + k + q + 1) c4)).pick [5, 1, 0, 6, 7] (by decide)
                simp only [List.setIfInBounds_toArray, List.set_cons_zero, List.eraseIdx_cons_succ, List.eraseIdx_cons_zero] at T4
                simp only [List.filterMap_cons, List.filterMap_nil, List.getElem?_cons_succ, List.getElem?_cons_zero] at T4
                rw [Nat.add_assoc (1 + k)] at T4
                clear T3
                go_wp2_with fail
                go_roundw
                case rel =>
                  refine ⟨q + 1, A4, c4, _, by omega, by go_num, ?_, T4⟩
                  rw [List.range_succ, List.map_append, ← List.append_assoc, ← List.cons_append]
                  exact HN2.out.snoc _ _ _ _ _
                case measure => simp [intOf]; omega
          · clear hatE
            go_wp2_with fail
            (with_reducible refine (refItoa q _ (by omega)).mono ?_)
            rintro e y1 ⟨rfl, hb1⟩
            have S5 := S4.grow hb1
            clear S4 hb1
            go_wp2_with fail
            (with_reducible refine (HQ.out y1 S5.below (S5.blk 4 rfl)).mono ?_)
            rintro e y2 ⟨rfl, rfl⟩
            have S6 := (S5.alloc #[.string (⟨#[101, 100, 103, 101]⟩ ++ decB q), .int .u8 3, .int .i64 1, .int .i64 (quotaL Q (3 + q) : Nat), .slice none 0 0] 85).nilRow 94 10
            obtain ⟨gN, hgN⟩ : ∃ g, g = y1.heap.size := ⟨_, rfl⟩
            rw [← hgN] at S6
            clear S5
            go_wp2_with fail
            rw [← hgN]
            clear hgN
            go_loopw [132] (fun i wq => ∃ (p nU : Nat) (vr : Value) (xr : List Value), p ≤ nrs ∧ i = .int .i64 p ∧ nU ≤ p ∧ nU ≤ 4 ∧ Upd [] w [chRow 94 10 vr nU xr, chBlk gN #[.string (⟨#[101, 100, 103, 101]⟩ ++ decB q), .int .u8 3, .int .i64 1, .int .i64 (quotaL Q (3 + q) : Nat), vr] 85, chRow 94 10 (.slice Al nrs cl') nrs (rs.flatMap rule10), chRow 85 5 (.slice A3 (1 + k + q) cap3) (1 + k + q) xs2, chBlk (w.heap.size + 1 + 1) #[.slice A3 (1 + k + q) cap3, .int .i64 t1, .int .u64 t2, .int .u64 t3, .int .u64 t4, .int .u64 t5, .slice none 0 0, .slice none 0 0] 33, chBlk (w.heap.size + 1) #[.slice none 0 0, .int .i64 0, .int .u64 0, .int .u64 0, .int .u64 0, .int .u64 0, .slice none 0 0, .slice none 0 0] 33, chBlk w.heap.size #[.slice Ah nh ch, .slice Ae ne ce, .slice Aq nq cq, .slice Ar nr cr, .int .u8 wi, .int .u8 fi, .int .u8 mo, .int .u8 be, .int .u8 dn, .slice At nt ct, .slice Ac nc cc] 40] wq) (fun i _ => nrs - (intOf i).toNat)
            case atStart => exact ⟨0, 0, _, [], Nat.zero_le _, rfl, Nat.le_refl _, by omega, S6⟩
            case round =>
              obtain ⟨p, nU, vr, xr, hp, rfl, hnr1, hnr2, S7⟩ := hrel
              clear S6
              obtain ⟨Ar', cr', rfl⟩ := owns_slice (S7.row 0 rfl)
              by_cases hpn : p < nrs
              · obtain ⟨r, hr⟩ : ∃ r, rs[p]? = some r := ⟨_, List.getElem?_eq_getElem (by rw [← HRS.out]; exact hpn)⟩
                obtain ⟨B1, b1, d1, B2, b2, d2, ev1, ev2⟩ := HSH.out r (List.mem_of_getElem? hr)
                have e0 := fun j hj => flat_at rule10 10 (fun _ => rfl) rs p r hr j hj
                obtain ⟨⟨rn, rm, rif, rk, rli, rti, rwa, rke, rpr, rwi⟩, v1', v2'⟩ := r
                simp only at ev1 ev2
                subst ev1 ev2
                have hex : ∃ b o, Al = some ⟨b, o, none⟩ ∧ RdAt wr b o (rs.flatMap rule10) := by
                  obtain ⟨_, _, he, _, _, _, h4⟩ := rd_of_owns (S7.row 2 rfl)
                  cases he
                  exact h4 (by omega)
                obtain ⟨bl, ol, rfl, hat⟩ := hex
                have hbe := Below.refl wr.heap.size wr
                have x0 := hat.nth0 hbe (p * 10) (.string rn) (e0 0 (by omega))
                have x1 := hat.nth hbe (p * 10) 1 (.string rm) (e0 1 (by omega))
                have x2 := hat.nth hbe (p * 10) 2 (.slice B1 b1 d1) (e0 2 (by omega))
                have x3 := hat.nth hbe (p * 10) 3 (.int .u8 rk) (e0 3 (by omega))
                have x4 := hat.nth hbe (p * 10) 4 (.int .i64 rli) (e0 4 (by omega))
                have x5 := hat.nth hbe (p * 10) 5 (.int .u64 rti) (e0 5 (by omega))
                have x6 := hat.nth hbe (p * 10) 6 (.int .u64 rwa) (e0 6 (by omega))
                have x7 := hat.nth hbe (p * 10) 7 (.int .u64 rke) (e0 7 (by omega))
                have x8 := hat.nth hbe (p * 10) 8 (.int .u8 rpr) (e0 8 (by omega))
                have x9 := hat.nth hbe (p * 10) 9 (.slice B2 b2 d2) (e0 9 (by omega))
                clear hat e0 hr hbe
                obtain ⟨par, hpar⟩ : ∃ n, n = (p + q) % 2 := ⟨_, rfl⟩
                have tp : ((p : Int) + (q : Int)).tmod 2 = (par : Int) := by
                  rw [hpar, ← Int.natCast_add]; rfl
                have hp2 : par < 2 := by omega
                clear hpar
                by_cases hp4 : p < 4 ∧ par = 0
                · obtain ⟨hp4a, hp4b⟩ := hp4
                  have dp4 : decide ((p : Int) < 4) = true := by simp; omega
                  have dpr : ((par : Int) == 0) = true := by simp [hp4b]
                  clear hp4b
                  have n4 := (S7.blk 1 rfl).cell (j := 4) (v := .slice Ar' nU cr') rfl
                  have hgl := (S7.blk 1 rfl).lt
                  go_wp2_with (at_builtin; refine wpl_stop fun W hW => ?_)
                  refine Stopped.mk ?_
                  have T1 := (S7.alloc #[.string rn, .string rm, .slice B1 b1 d1, .int .u8 rk, .int .i64 rli, .int .u64 rti, .int .u64 rwa, .int .u64 rke, .int .u8 rpr, .slice B2 b2 d2] 94).alloc #[.string rn, .string rm, .slice B1 b1 d1, .int .u8 rk, .int .i64 rli, .int .u64 rti, .int .u64 rwa, .int .u64 rke, .int .u8 rpr, .slice B2 b2 d2] 94
                  simp only [World.size_alloc] at T1
                  have T2 := T1.same hW
                  clear hW S7 T1 n4 x0 x1 x2 x3 x4 x5 x6 x7 x8 x9
                  refine wpl_append_rd rfl (.tmp 147) (.tmp 149) 83 rfl 0 94 j0 _ 10 128 Try.underlying83 ji jz0 jz1 jz2 rfl (by decide) _ nU _ rfl (T2.row 2 rfl) _ 1 _ rfl (rd_one (T2.blk 0 rfl) (n := 10) rfl) (by intro u hu; simp at hu; rcases hu with rfl | rfl | rfl | rfl | rfl | rfl | rfl | rfl | rfl | rfl <;> rfl) (by unfold maxLen; omega) (by omega) (Nat.zero_le _) fun v4 w4 hown4 hgr4 hv4 => ?_
                  have T3 := T2.app 2 rfl hown4 hgr4 hv4
                  simp only [List.eraseIdx_cons_succ, List.eraseIdx_cons_zero] at T3
                  obtain ⟨A4, c4, rfl⟩ := owns_slice hown4
                  clear hown4 hgr4 hv4 T2
                  have n4 := (T3.blk 3 rfl).cell (j := 4) (v := .slice Ar' nU cr') rfl
                  have f0 := (T3.blk 3 rfl).frozen
                  have T4 := (T3.put 3 rfl 4 (.slice A4 (nU + 1) c4)).pick [1, 0, 4, 5, 6, 7, 8] (by decide)
                  simp only [List.setIfInBounds_toArray, List.set_cons_succ, List.set_cons_zero, List.eraseIdx_cons_succ, List.eraseIdx_cons_zero] at T4
                  simp only [List.filterMap_cons, List.filterMap_nil, List.getElem?_cons_succ, List.getElem?_cons_zero] at T4
                  clear T3
                  go_wp2_with fail
                  go_roundw
                  case rel => exact ⟨p + 1, nU + 1, _, _, by omega, by go_num, by omega, by omega, T4⟩
                  case measure => simp [intOf]; omega
                · have S8 := S7.grow ((Below.refl wr.heap.size wr).alloc (Nat.le_refl _) (.cells #[.string rn, .string rm, .slice B1 b1 d1, .int .u8 rk, .int .i64 rli, .int .u64 rti, .int .u64 rwa, .int .u64 rke, .int .u8 rpr, .slice B2 b2 d2] 94))
                  clear S7
                  by_cases hp44 : p < 4
                  · have dp4 : decide ((p : Int) < 4) = true := by simp; omega
                    have dpr : ((par : Int) == 0) = false := by simp; omega
                    go_wp2_with fail
                    go_roundw
                    case rel => exact ⟨p + 1, nU, _, _, by omega, by go_num, by omega, by omega, S8⟩
                    case measure => simp [intOf]; omega
                  · have dp4 : decide ((p : Int) < 4) = false := by simp; omega
                    go_wp2_with fail
                    go_roundw
                    case rel => exact ⟨p + 1, nU, _, _, by omega, by go_num, by omega, by omega, S8⟩
                    case measure => simp [intOf]; omega
              · obtain rfl : p = nrs := by omega
                have hpp : decide ((p : Int) < (p : Int)) = false := by simp
                have n0 := (S7.blk 1 rfl).cell (j := 0) (v := .string (⟨#[101, 100, 103, 101]⟩ ++ decB q)) rfl
                have n1 := (S7.blk 1 rfl).cell (j := 1) (v := .int .u8 3) rfl
                have n2 := (S7.blk 1 rfl).cell (j := 2) (v := .int .i64 1) rfl
                have n3 := (S7.blk 1 rfl).cell (j := 3) (v := .int .i64 (quotaL Q (3 + q) : Nat)) rfl
                have n4 := (S7.blk 1 rfl).cell (j := 4) (v := .slice Ar' nU cr') rfl
                have t0 := (S7.blk 4 rfl).cell (j := 0) (v := (.slice A3 (1 + k + q) cap3)) rfl
                go_wp2_with (at_builtin; refine wpl_stop fun W hW => ?_)
                refine Stopped.mk ?_
                have T2 := (S7.alloc #[.string (⟨#[101, 100, 103, 101]⟩ ++ decB q), .int .u8 3, .int .i64 1, .int .i64 (quotaL Q (3 + q) : Nat), .slice Ar' nU cr'] 85).same hW
                clear hW S7 n0 n1 n2 n3 n4
                refine wpl_append_rd rfl (.tmp 154) (.tmp 156) 26 rfl 0 85 i0 _ 5 64 Try.underlying26 hi hz0 hz1 hz2 rfl (by decide) _ (1 + k + q) _ rfl (T2.row 4 rfl) _ 1 _ rfl (rd_one (T2.blk 0 rfl) (n := 5) rfl) (by intro u hu; simp at hu; rcases hu with rfl | rfl | rfl | rfl | rfl <;> rfl) (by unfold maxLen; omega) (by omega) (Nat.zero_le _) fun v4 w4 hown4 hgr4 hv4 => ?_
                have T3 := T2.app 4 rfl hown4 hgr4 hv4
                simp only [List.eraseIdx_cons_succ, List.eraseIdx_cons_zero] at T3
                obtain ⟨A4, c4, rfl⟩ := owns_slice hown4
                clear hown4 hgr4 hv4 T2 t0
                have t0 := (T3.blk 5 rfl).cell (j := 0) (v := (.slice A3 (1 + k + q) cap3)) rfl
                have f0 := (T3.blk 5 rfl).frozen
                have T4 := (T3.put 5 rfl 0 (.slice A4 (1 + k + q + 1) c4)).pick [5, 1, 0, 6, 7] (by decide)
                simp only [List.setIfInBounds_toArray, List.set_cons_zero, List.eraseIdx_cons_succ, List.eraseIdx_cons_zero] at T4
                simp only [List.filterMap_cons, List.filterMap_nil, List.getElem?_cons_succ, List.getElem?_cons_zero] at T4
                rw [Nat.add_assoc (1 + k)] at T4
                clear T3
                go_wp2_with fail
                go_roundw
                case rel =>
                  refine ⟨q + 1, A4, c4, _, by omega, by go_num, ?_, T4⟩
                  rw [List.range_succ, List.map_append, ← List.append_assoc, ← List.cons_append]
                  exact HN2.out.snoc _ _ _ _ _
                case measure => simp [intOf]; omega
        · obtain rfl : q = m2 := by omega
          have hqq : decide ((q : Int) < (q : Int)) = false := by simp
          clear hatE
          have s9 := (S4.blk 4 rfl).cell (j := 9) (v := .slice At nt ct) rfl
          have hNo := fun w' (h : Below w.heap.size w w') => smallNodes (.slice At nt ct) nl w' (by rw [HLT.out]; exact HR5.out.below h) (fun x hx => ⟨(HO5.out x hx).1, (HO5.out x hx).2.below h⟩)
          have HNo := Lib.hid hNo
          clear hNo
          go_wp2_with fail
          (with_reducible refine (HNo.out _ S4.below).mono ?_)
          rintro e w5 ⟨vn, ns, rfl, _, _, U5⟩
          have S5 := (S4.call U5).drop 1
          simp only [List.eraseIdx_cons_succ, List.eraseIdx_cons_zero, List.cons_append, List.nil_append] at S5
          obtain ⟨An, cn, rfl⟩ := owns_slice (U5.row 0 rfl)
          clear U5 S4 HNo s9
          obtain ⟨nn, hnn⟩ : ∃ n, n = ns.length := ⟨_, rfl⟩
          rw [← hnn] at S5 ⊢
          clear hnn
          have t6 := (S5.blk 3 rfl).cell (j := 6) (v := .slice none 0 0) rfl
          have f0 := (S5.blk 3 rfl).frozen
          have s10 := (S5.blk 5 rfl).cell (j := 10) (v := .slice Ac nc cc) rfl
          have S6 := ((S5.put 3 rfl 6 (.slice An nn cn)).nilRow 103 3).pick [0, 4, 1, 5] (by decide)
          simp only [List.setIfInBounds_toArray, List.set_cons_succ, List.set_cons_zero, List.eraseIdx_cons_succ, List.eraseIdx_cons_zero] at S6
          simp only [List.filterMap_cons, List.filterMap_nil, List.getElem?_cons_succ, List.getElem?_cons_zero] at S6
          go_wp2_with fail
          go_loopw [167] (fun i wq => ∃ (p nb : Nat) (vc : Value) (xc : List Value), p ≤ nc ∧ i = .int .i64 p ∧ nb ≤ p ∧ nb ≤ 3 ∧ Upd [] w [chRow 103 3 vc nb xc, chRow 85 5 (.slice A3 (1 + k + q) cap3) (1 + k + q) xs2, chBlk (w.heap.size + 1 + 1) #[.slice A3 (1 + k + q) cap3, .int .i64 t1, .int .u64 t2, .int .u64 t3, .int .u64 t4, .int .u64 t5, .slice An nn cn, vc] 33, chBlk (w.heap.size + 1) #[.slice none 0 0, .int .i64 0, .int .u64 0, .int .u64 0, .int .u64 0, .int .u64 0, .slice none 0 0, .slice none 0 0] 33] wq) (fun i _ => nc - (intOf i).toNat)
          case atStart => exact ⟨0, 0, _, [], Nat.zero_le _, rfl, Nat.le_refl _, by omega, S6⟩
          case round =>
            obtain ⟨p, nb, vc, xc, hp, rfl, hnb1, hnb2, S7⟩ := hrel
            clear S6 t6 f0 s10 S5
            obtain ⟨Av, cv, rfl⟩ := owns_slice (S7.row 0 rfl)
            by_cases hpn : p < nc
            · obtain ⟨x, hx⟩ : ∃ x, cl[p]? = some x := ⟨_, List.getElem?_eq_getElem (by rw [← HLC.out]; exact hpn)⟩
              obtain ⟨bc, oc, rfl, hat⟩ := hatC (by omega)
              have e0 := fun j hj => flat_at smc3 3 (fun _ => rfl) cl p x hx j hj
              obtain ⟨hxq, hr1, hr2⟩ := HO6.out x (List.mem_of_getElem? hx)
              obtain ⟨x1, x2, l1, l2, xq⟩ := x
              simp only at hxq hr1 hr2
              have hc1 := fun w' (h : Below w.heap.size w w') => smallCurb x1 x2 l1 l2 xq w' (hr1.below h) (hr2.below h)
              obtain ⟨B1, d1, rfl, _⟩ := hr1
              obtain ⟨B2, d2, rfl, _⟩ := hr2
              obtain ⟨n1', hn1'⟩ : ∃ n, n = l1.length := ⟨_, rfl⟩
              obtain ⟨n2', hn2'⟩ : ∃ n, n = l2.length := ⟨_, rfl⟩
              rw [← hn1', ← hn2'] at hc1
              have hbe := S7.below
              have x0 := hat.nth0 hbe (p * 3) (.slice B1 n1' d1) (by rw [hn1']; exact e0 0 (by omega))
              have x1' := hat.nth hbe (p * 3) 1 (.slice B2 n2' d2) (by rw [hn2']; exact e0 1 (by omega))
              have x2' := hat.nth hbe (p * 3) 2 (.int .u8 xq) (e0 2 (by omega))
              have HC1 := Lib.hid hc1
              clear hat e0 hx hc1 hbe hn1' hn2' hatC
              go_wp2_with fail
              have S8 := S7.alloc #[.slice B1 n1' d1, .slice B2 n2' d2, .int .u8 xq] 98
              (with_reducible refine (HC1.out _ S8.below).mono ?_)
              rintro e y1 ⟨u1, u2, u3, rfl, g1, g2, g3, hb1⟩
              have S9 := S8.grow hb1
              obtain ⟨C1, k1, rfl⟩ := owns_slice g1
              obtain ⟨C2, k2, rfl⟩ := owns_slice g2
              obtain ⟨C3, k3, rfl⟩ := owns_slice g3
              have q1 := rd_of_owns g1
              have q2 := rd_of_owns g2
              have q3 := rd_of_owns g3
              have hE := eqTo_size xq 3
              generalize eqTo xq 3 = E at q3 hE ⊢
              generalize l1.take 2 = L1 at q1 ⊢
              generalize l2.take 2 = L2 at q2 ⊢
              obtain ⟨z1, hz1'⟩ : ∃ n, n = L1.length := ⟨_, rfl⟩
              obtain ⟨z2, hz2'⟩ : ∃ n, n = L2.length := ⟨_, rfl⟩
              obtain ⟨z3, hz3'⟩ : ∃ n, n = E.length := ⟨_, rfl⟩
              have hck := fun w' (h : Below y1.heap.size y1 w') => curbCheck (.slice C1 z1 k1) (.slice C2 z2 k2) (.slice C3 z3 k3) L1 L2 E w' (by rw [hz1']; exact q1.below h) (by rw [hz2']; exact q2.below h) (by rw [hz3']; exact q3.below h) hE
              rw [← hz1', ← hz2', ← hz3']
              have HCK := Lib.hid hck
              have hsz8 := S8.size
              have hsz9 := S9.size
              clear S8 S7 g1 g2 g3 hb1 q1 q2 q3 hE hck hz1' hz2' hz3' x0 x1' x2' HC1
              by_cases hp3 : p < 3
              · have dp3 : decide ((p : Int) < 3) = true := by simp; omega
                go_wp2_with fail
                have S10 := S9.alloc #[.slice C1 z1 k1, .slice C2 z2 k2, .slice C3 z3 k3] 103
                (with_reducible refine (HCK.out _ ((Below.refl _ _).alloc (Nat.le_refl _) _)).mono ?_)
                rintro e y2 ⟨ec, rfl, hb2⟩
                have S11 := S10.grow hb2
                clear S9 S10 hb2
                by_cases hec : ec = 0
                · have dec0 : (ec == 0) = true := by simp [hec]
                  have c0 := (S11.blk 0 rfl).cell (j := 0) (v := .slice C1 z1 k1) rfl
                  have c1 := (S11.blk 0 rfl).cell (j := 1) (v := .slice C2 z2 k2) rfl
                  have c2 := (S11.blk 0 rfl).cell (j := 2) (v := .slice C3 z3 k3) rfl
                  have t7 := (S11.blk 4 rfl).cell (j := 7) (v := .slice Av nb cv) rfl
                  clear hec
                  go_wp2_with (at_builtin; refine wpl_stop fun W hW => ?_)
                  refine Stopped.mk ?_
                  have T2 := (S11.alloc #[.slice C1 z1 k1, .slice C2 z2 k2, .slice C3 z3 k3] 103).same hW
                  clear hW S11 c0 c1 c2 t7
                  refine wpl_append_rd rfl (.tmp 182) (.tmp 184) 31 rfl 0 103 k0 _ 3 72 Try.underlying31 ki kz0 kz1 kz2 rfl (by decide) _ nb _ rfl (T2.row 3 rfl) _ 1 _ rfl (rd_one (T2.blk 0 rfl) (n := 3) rfl) (by intro u hu; simp at hu; rcases hu with rfl | rfl | rfl <;> rfl) (by unfold maxLen; omega) (by omega) (Nat.zero_le _) fun v4 w4 hown4 hgr4 hv4 => ?_
                  have T3 := T2.app 3 rfl hown4 hgr4 hv4
                  simp only [List.eraseIdx_cons_succ, List.eraseIdx_cons_zero] at T3
                  obtain ⟨A4, c4, rfl⟩ := owns_slice hown4
                  clear hown4 hgr4 hv4 T2
                  have t7 := (T3.blk 5 rfl).cell (j := 7) (v := .slice Av nb cv) rfl
                  have f0 := (T3.blk 5 rfl).frozen
                  have T4 := (T3.put 5 rfl 7 (.slice A4 (nb + 1) c4)).pick [1, 5, 0, 6] (by decide)
                  simp only [List.setIfInBounds_toArray, List.set_cons_succ, List.set_cons_zero, List.eraseIdx_cons_succ, List.eraseIdx_cons_zero] at T4
                  simp only [List.filterMap_cons, List.filterMap_nil, List.getElem?_cons_succ, List.getElem?_cons_zero] at T4
                  clear T3
                  go_wp2_with fail
                  go_roundw
                  case rel => exact ⟨p + 1, nb + 1, _, _, by omega, by go_num, by omega, by omega, T4⟩
                  case measure => simp [intOf]; omega
                · have dec0 : (ec == 0) = false := by simp [hec]
                  have T4 := S11.drop 0
                  simp only [List.eraseIdx_cons_zero] at T4
                  have T4 := T4.drop 0
                  simp only [List.eraseIdx_cons_zero] at T4
                  clear hec S11
                  go_wp2_with fail
                  go_roundw
                  case rel => exact ⟨p + 1, nb, _, _, by omega, by go_num, by omega, by omega, T4⟩
                  case measure => simp [intOf]; omega
              · have dp3 : decide ((p : Int) < 3) = false := by simp; omega
                have S10 := (S9.grow ((Below.refl y1.heap.size y1).alloc (Nat.le_refl _) (.cells #[.slice C1 z1 k1, .slice C2 z2 k2, .slice C3 z3 k3] 103))).drop 0
                simp only [List.eraseIdx_cons_zero] at S10
                clear S9
                go_wp2_with fail
                go_roundw
                case rel => exact ⟨p + 1, nb, _, _, by omega, by go_num, by omega, by omega, S10⟩
                case measure => simp [intOf]; omega
            · obtain rfl : p = nc := by omega
              have hpp : decide ((p : Int) < (p : Int)) = false := by simp
              clear hatC
              have tc0 := (S7.blk 2 rfl).cell (j := 0) (v := .slice A3 (1 + k + q) cap3) rfl
              have tc1 := (S7.blk 2 rfl).cell (j := 1) (v := .int .i64 t1) rfl
              have tc2 := (S7.blk 2 rfl).cell (j := 2) (v := .int .u64 t2) rfl
              have tc3 := (S7.blk 2 rfl).cell (j := 3) (v := .int .u64 t3) rfl
              have tc4 := (S7.blk 2 rfl).cell (j := 4) (v := .int .u64 t4) rfl
              have tc5 := (S7.blk 2 rfl).cell (j := 5) (v := .int .u64 t5) rfl
              have tc6 := (S7.blk 2 rfl).cell (j := 6) (v := .slice An nn cn) rfl
              have tc7 := (S7.blk 2 rfl).cell (j := 7) (v := .slice Av nb cv) rfl
              have rc0 := (S7.blk 3 rfl).cell (j := 0) (v := .slice none 0 0) rfl
              have rc1 := (S7.blk 3 rfl).cell (j := 1) (v := .int .i64 0) rfl
              have rc2 := (S7.blk 3 rfl).cell (j := 2) (v := .int .u64 0) rfl
              have rc3 := (S7.blk 3 rfl).cell (j := 3) (v := .int .u64 0) rfl
              have rc4 := (S7.blk 3 rfl).cell (j := 4) (v := .int .u64 0) rfl
              have rc5 := (S7.blk 3 rfl).cell (j := 5) (v := .int .u64 0) rfl
              have rc6 := (S7.blk 3 rfl).cell (j := 6) (v := .slice none 0 0) rfl
              have rc7 := (S7.blk 3 rfl).cell (j := 7) (v := .slice none 0 0) rfl
              have fr := (S7.blk 3 rfl).frozen
              go_wp2_with fail
              refine bodyPost_gen fun w10 hw10 => ?_
              have S9 := (((((((S7.put 3 rfl 0 (.slice A3 (1 + k + q) cap3)).put 0 rfl 1 (.int .i64 t1)).put 0 rfl 2 (.int .u64 t2)).put 0 rfl 3 (.int .u64 t3)).put 0 rfl 4 (.int .u64 t4)).put 0 rfl 5 (.int .u64 t5)).put 0 rfl 6 (.slice An nn cn)).put 0 rfl 7 (.slice Av nb cv)
              simp only [List.setIfInBounds_toArray, List.set_cons_succ, List.set_cons_zero, List.eraseIdx_cons_succ, List.eraseIdx_cons_zero] at S9
              have S10 := S9.same hw10
              clear hw10 S7 S9 fr tc0 tc1 tc2 tc3 tc4 tc5 tc6 tc7 rc0 rc1 rc2 rc3 rc4 rc5 rc6 rc7
              have hnm : Named w10 (.slice A3 (1 + k + q) cap3) (topoNames hs es) := by
                have e1 := HM.out
                have e2 := HM2.out
                have e3 := HLH.out
                have e4 := HLE.out
                unfold topoNames
                rw [← e3, ← e4, ← e1, ← e2]
                have hl : (mainB :: ((List.range k).map hubB ++ (List.range q).map edgeB)).length = 1 + k + q := by simp; omega
                exact ⟨_, by rw [hl]; exact rd_of_owns (S10.row 2 rfl), HN2.out.2⟩
              have z0 := (S10.blk 0 rfl).cell (j := 0) (v := .slice A3 (1 + k + q) cap3) rfl
              have z1 := (S10.blk 0 rfl).cell (j := 1) (v := .int .i64 t1) rfl
              have z2 := (S10.blk 0 rfl).cell (j := 2) (v := .int .u64 t2) rfl
              have z3 := (S10.blk 0 rfl).cell (j := 3) (v := .int .u64 t3) rfl
              have z4 := (S10.blk 0 rfl).cell (j := 4) (v := .int .u64 t4) rfl
              have z5 := (S10.blk 0 rfl).cell (j := 5) (v := .int .u64 t5) rfl
              have z6 := (S10.blk 0 rfl).cell (j := 6) (v := .slice An nn cn) rfl
              have z7 := (S10.blk 0 rfl).cell (j := 7) (v := .slice Av nb cv) rfl
              refine bodyPost_ret (v := .agg #[.slice A3 (1 + k + q) cap3, .int .i64 t1, .int .u64 t2, .int .u64 t3, .int .u64 t4, .int .u64 t5, .slice An nn cn, .slice Av nb cv]) ?_ rfl ⟨_, _, _, _, _, _, _, _, _, _, _, _, _, _, rfl, hnm, (fun g hg => by
                rcases S10.own _ (.tail _ (.tail _ (.head _))) g (chRow_fp.2 hg) with h | h
                · cases h
                · exact h), S10.below⟩
              simp [results, Try.results7, go_sem, z0, z1, z2, z3, z4, z5, z6, z7]
end Go.Proofs.Ytdghpjkjhlankaa
