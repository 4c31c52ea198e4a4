/-
  RulesBack: the walk.
-/
import Derived.Test.YtebnbbbiobaneaaGreatDoorMg41
import Derived.Test.YtebnbbbiobaneaaGreatDoorRuH
import Derived.Test.YtebnbbbiobaneaaGreatDoorRuZ
import Derived.Test.YtebnbbbiobaneaaGreatDoorRuE
import Derived.Test.YtebnbbbiobaneaaGreatDoorRuAwk
import Derived.Test.YtebnbbbiobaneaaGreatDoorRList
import Derived.Test.YtebnbbbiobaneaaGreatDoorFreeS
import Derived.RegionTactic
import Derived.BigRegion
import Derived.Deep.CutRange
import Derived.Lib.SmallJoins
namespace Go.Proofs.YtebnbbbiobaneaaGreatDoor
open Go.RowKit
set_option maxRecDepth 100000

theorem sm7_self6 (nm me : ByteArray) (ps1 ps2 : List Pr) (k lim tk fo ke pr : Int) : sm7 (decide (nm = nm)) (decide (me = me)) (sameB ps1 ps1) ((k == k) && (lim == lim) && (tk == tk)) ((fo == fo) && (ke == ke)) (pr == pr) (sameB ps2 ps2) = true := by
  unfold sm7 sameB
  simp
theorem rd_parts6 {w : World} {size : Nat} {A : Option Addr} {n c : Nat} {xs : List Value} (h : Rd w size (.slice A n c) n xs) : n ≤ c ∧ c ≤ 9223372036854775807 ∧ (0 < n → ∃ b o, A = some ⟨b, o, none⟩ ∧ RdAt w b o xs) := by
  obtain ⟨A', c', he, _, h2, h3, h4⟩ := h
  cases he
  exact ⟨h2, by unfold maxLen at h3; omega, h4⟩
def RuleV.toV (r : RuleV) : RuV := ⟨r.p.name, r.p.metric, r.v1, r.p.ifl, r.p.kind, r.p.lim, r.p.ticks, r.p.wait, r.p.keep, r.p.prio, r.v2, r.p.withl⟩
theorem dedup_sub (l : List RuleP) : ∀ p ∈ dedupL l, p ∈ l := by
  have key : ∀ (l acc : List RuleP), ∀ p ∈ l.foldl dedup acc, p ∈ acc ∨ p ∈ l := by
    intro l
    induction l with
    | nil => intro acc p hp; exact .inl hp
    | cons a t ih =>
      intro acc p hp
      rcases ih (dedup acc a) p hp with h | h
      · unfold dedup at h
        split at h
        · exact .inl h
        · rcases List.mem_append.1 h with h | h
          · exact .inl h
          · rw [List.mem_singleton.1 h]; exact .inr (.head _)
      · exact .inr (.tail _ h)
  intro p hp
  rcases key l [] p hp with h | h
  · cases h
  · exact h
theorem toV_sm {rv : List RuleV} {l : List SmR} (h : rv.map (·.p) = dedupL (l.map smP)) {r : RuleV} (hr : r ∈ rv) : ∃ s ∈ l, r.toV = smV s r.v1 r.v2 := by
  have h1 : r.p ∈ dedupL (l.map smP) := by rw [← h]; exact List.mem_map.2 ⟨r, hr, rfl⟩
  obtain ⟨s, hs, e⟩ := List.mem_map.1 (dedup_sub _ _ h1)
  refine ⟨s, hs, ?_⟩
  unfold RuleV.toV
  rw [← e]
  rfl
theorem goL_ok : ∀ (rs : List RuV) (N : List ByteArray), (∀ r ∈ rs, r.err = 0) → (rs.map (·.nm)).Nodup → (∀ r ∈ rs, r.nm ∉ N) → goL N rs = 0 := by
  intro rs
  induction rs with
  | nil => intro N _ _ _; rfl
  | cons r t ih =>
    intro N h1 h2 h3
    have h2' := List.nodup_cons.1 h2
    unfold goL
    rw [if_neg (by rw [h1 r (.head _)]; simp), if_neg (fun h => h3 r (.head _) ((hasN_iff _ _).1 h))]
    refine ih _ (fun q hq => h1 q (.tail _ hq)) h2'.2 fun q hq hm => ?_
    rcases List.mem_append.1 hm with hm | hm
    · exact h3 q (.tail _ hq) hm
    · refine h2'.1 ?_
      show r.nm ∈ _
      rw [← List.mem_singleton.1 hm]
      exact List.mem_map.2 ⟨q, hq, rfl⟩
theorem all_size (B : Nat) : ∀ rs : List RuV, (∀ r ∈ rs, r.text.size ≤ B) → (textAll rs).size ≤ rs.length * (B + 1) := by
  intro rs h
  rw [Lib.size_eq, all_list]
  induction rs with
  | nil => simp
  | cons r t ih =>
    have h1 := h r (.head _)
    have h2 := ih fun q hq => h q (.tail _ hq)
    rw [Lib.size_eq] at h1
    rw [List.flatMap_cons, List.length_append, List.length_append, List.length_singleton, List.length_cons, Nat.succ_mul]
    omega
attribute [local go_sem] FreeSl.out
set_option maxHeartbeats 16000000 in
theorem rulesBackWalk (vs : Value) (sl : List SmR) (mx : Int) (W : World) (hsl : Rd W 10 vs sl.length (sl.flatMap sm10)) (hok : ∀ q ∈ sl, q.ok) (hm : W.cell? ⟨2, 0, none⟩ = some (.int .i64 mx)) (hT : Lib.TabIs Tryz.prog W "strings.asciiSpace" .u8 Lib.asciiSpaceTab) :
    Calls Tryz.prog 6 #[vs] W fun e w' => e = .returned (.bool true) ∧ Below W.heap.size W w' := by
  have KA := awake15 mx W hm hT
  obtain ⟨As, cs, rfl, s1, s2, s3, s4⟩ := id hsl
  unfold maxLen at s3
  by_cases h20 : 20 < sl.length
  · have d1 : decide ((20 : Int) < (sl.length : Int)) = true := decide_eq_true (by omega)
    clear hm hT s4 s1
    go_enter Tryz.func6, Tryz.ntmps6
    go_wp2_with fail
    (with_reducible refine KA.mono ?_)
    rintro e w1 ⟨rfl, hb1⟩
    go_wp2_with fail
    go_ret
    exact ⟨rfl, hb1⟩
  have d1 : decide ((20 : Int) < (sl.length : Int)) = false := decide_eq_false (by omega)
  have HM := Lib.hid hm
  have HT := Lib.hid hT
  have KL := fun w' (h : Below W.heap.size W w') => smallList (.slice As sl.length cs) sl w' (hsl.below h) hok
  have htab : Tryz.prog.globalNamed "strings.asciiSpace" = some 0 := by kernel_rfl
  have HG := Lib.hid htab
  clear hm hT s4 s1 htab hsl
  go_enter Tryz.func6, Tryz.ntmps6
  go_wp2_with fail
  (with_reducible refine KA.mono ?_)
  rintro e w1 ⟨rfl, hb1⟩
  have K1 := KL w1 hb1
  clear KA KL
  go_wp2_with fail
  (with_reducible refine K1.mono ?_)
  rintro e w2 ⟨vl, rv, rfl, hrv, hol, hgv, hb2⟩
  have hB2 := hb1.trans (hb2.mono hb1.size)
  obtain ⟨rs, hrs⟩ : ∃ rs, rs = rv.map RuleV.toV := ⟨_, rfl⟩
  have hlen : rs.length = rv.length := by rw [hrs, List.length_map]
  have hcells : rv.flatMap rule10 = rs.flatMap RuV.cells := by rw [hrs, List.flatMap_map]; rfl
  have hsm : ∀ r ∈ rs, ∃ s v1 v2, s ∈ sl ∧ r = smV s v1 v2 := fun r hr => by
    rw [hrs] at hr
    obtain ⟨q, hq, rfl⟩ := List.mem_map.1 hr
    obtain ⟨s, hs, e⟩ := toV_sm hrv hq
    exact ⟨s, _, _, hs, e⟩
  have herr : ∀ r ∈ rs, r.fine := fun r hr => by obtain ⟨s, v1, v2, hs, rfl⟩ := hsm r hr; exact smV_fine s v1 v2 (hok s hs)
  have hbd : ∀ r ∈ rs, r.bd := fun r hr => by obtain ⟨s, v1, v2, hs, rfl⟩ := hsm r hr; exact smV_bd s v1 v2 (hok s hs)
  have htx : ∀ r ∈ rs, r.text.size ≤ 456 := fun r hr => by obtain ⟨s, v1, v2, hs, rfl⟩ := hsm r hr; exact smV_text s v1 v2 (hok s hs)
  have hgood : ∀ r ∈ rs, r.good w2 w1.heap.size := fun r hr => by
    rw [hrs] at hr
    obtain ⟨q, hq, rfl⟩ := List.mem_map.1 hr
    obtain ⟨s, hs, e⟩ := toV_sm hrv hq
    have b := smV_bd s q.v1 q.v2 (hok s hs)
    have g := hgv q hq
    rw [← e] at b
    have wz : ∀ p ∈ labL (s.fi % 4), p.1.size ≤ maxLen ∧ p.2.size ≤ maxLen := labL_small _
    have wz2 : ∀ p ∈ labL s.wi, p.1.size ≤ maxLen ∧ p.2.size ≤ maxLen := labL_small _
    have e1 : q.toV.ips = labL (s.fi % 4) := by rw [e]; rfl
    have e2 : q.toV.wps = labL s.wi := by rw [e]; rfl
    have e3 : q.toV.k = 1 + s.k % 5 := by rw [e]; rfl
    have e4 : q.toV.pr = s.pr % 8 := by rw [e]; rfl
    exact ⟨by have := b.nm; unfold maxLen; omega, by have := b.me; unfold maxLen; omega, by rw [e1]; exact wz, by rw [e2]; exact wz2, by rw [e3]; omega, by rw [e4]; omega, g.1, g.2⟩
  have hl5 : rs.length ≤ 5 := by
    have h := congrArg List.length hrv
    rw [List.length_map] at h
    have := dedup_len sl
    omega
  have hnd : (rs.map (·.nm)).Nodup := by
    have h := (dedup_names sl).1
    rw [← hrv, List.map_map] at h
    rw [hrs, List.map_map]
    exact h
  have hchk : chkRs rs = 0 := by
    unfold chkRs
    rw [if_neg (by omega)]
    exact goL_ok rs [] (fun r hr => (herr r hr).err) hnd (fun r hr h => by cases h)
  have hts : (textAll rs).size ≤ 65536 := by
    have h := all_size 456 rs htx
    have : rs.length * (456 + 1) ≤ 5 * (456 + 1) := Nat.mul_le_mul_right _ hl5
    omega
  obtain ⟨hpE, hpR⟩ := parse_all rs herr hts hchk
  have hta := all_asc rs fun r hr => (herr r hr).err
  rw [hcells, ← hlen] at hol
  have hRl := rd_of_owns hol
  have KT := ruTexts vl rs w2 hRl (fun r hr => (hgood r hr).ok) hbd (by omega)
  have KP := fun w' (h : Below w2.heap.size w2 w') => ruParse (textAll rs) mx w' (by unfold maxLen; omega) hta (cell_upd ((Upd.of_below hB2).grow h) (by simp) HM.out) (Joins.tab_stays HG.out HT.out (hB2.trans (h.mono hB2.size)) (Nat.le_refl _))
  rw [hpE, hpR] at KP
  obtain ⟨Al, cl, rfl⟩ := owns_slice hol
  obtain ⟨tx0, htx0⟩ : ∃ y, y = textAll rs := ⟨_, rfl⟩
  rw [← htx0] at KT KP
  have HERR := Lib.hid herr
  have HBD := Lib.hid hbd
  have HTX := Lib.hid htx
  have HGD := Lib.hid hgood
  have HRL := Lib.hid hRl
  clear K1 hb1 hb2 hrs hlen hcells hsm herr hbd htx hgood hnd hchk hts hpE hpR hta hol hRl htx0 hrv hgv s2 s3
  go_wp2_with fail
  (with_reducible refine KT.mono ?_)
  rintro e w3 ⟨rfl, hb3⟩
  have K2 := KP w3 hb3
  clear KT KP
  go_wp2_with fail
  (with_reducible refine K2.mono ?_)
  rintro e w4 ⟨vg, rg, rfl, hrg, hog, hgg, hb4⟩
  have hB4 := hb3.trans (hb4.mono hb3.size)
  have hlg : rg.length = rs.length := by have h := congrArg List.length hrg; rwa [List.length_map, List.length_map] at h
  obtain ⟨Ag, cg, rfl⟩ := owns_slice hog
  rw [hlg] at hog ⊢
  have hRg := rd_of_owns hog
  obtain ⟨hlc, hlm, hl4⟩ := rd_parts6 HRL.out
  obtain ⟨hgc, hgm, hg4⟩ := rd_parts6 hRg
  have HL4 := Lib.hid hl4
  have HG4 := Lib.hid hg4
  have HRG := Lib.hid hrg
  have HGG := Lib.hid hgg
  have HLG := Lib.hid hlg
  have hB4W := hB2.trans (hB4.mono hB2.size)
  clear K2 hrg hog hgg hlg hRg hl4 hg4 hb4 hb3
  go_wp2_with fail
  go_loopw [39] (fun a wx => ∃ i : Nat, i ≤ rs.length ∧ a = .int .i64 i ∧ Below w4.heap.size w4 wx) (fun a _ => rs.length - (intOf a).toNat)
  case atStart => exact ⟨0, Nat.zero_le _, rfl, Below.refl _ _⟩
  case round =>
    obtain ⟨i, hi, rfl, hB⟩ := hrel
    by_cases hli : i < rs.length
    · obtain ⟨bl, ol, rfl, hatl⟩ := HL4.out (by omega)
      obtain ⟨bg, og, rfl, hatg⟩ := HG4.out (by omega)
      obtain ⟨r, hr⟩ : ∃ r, rs[i]? = some r := ⟨_, List.getElem?_eq_getElem hli⟩
      obtain ⟨g, hg⟩ : ∃ g, rg[i]? = some g := ⟨_, List.getElem?_eq_getElem (by rw [HLG.out]; exact hli)⟩
      have hst : g.strip = r.strip := by
        have h1 := congrArg (fun l : List RuV => l[i]?) HRG.out
        simpa [hr, hg] using h1
      have el := fun j (u : Value) (hu : r.cells[j]? = some u) => (flat_at RuV.cells 10 cells_len rs i r hr j (by have := (List.getElem?_eq_some_iff.1 hu).1; rw [cells_len] at this; exact this)).trans hu
      have eg := fun j (u : Value) (hu : g.cells[j]? = some u) => (flat_at RuV.cells 10 cells_len rg i g hg j (by have := (List.getElem?_eq_some_iff.1 hu).1; rw [cells_len] at this; exact this)).trans hu
      have hBl0 := hB4.trans (hB.mono hB4.size)
      have g1 := (HGD.out r (List.mem_of_getElem? hr)).below hBl0
      have g2 := (HGG.out g (List.mem_of_getElem? hg)).below hB
      have fi := HERR.out r (List.mem_of_getElem? hr)
      have bd := HBD.out r (List.mem_of_getElem? hr)
      have tz := HTX.out r (List.mem_of_getElem? hr)
      have tw := text_words r fi.err
      have lw := line_words r fi
      have wz := wordsL_small r.text
      have wl := wordsL_length r.text
      rw [tw] at wz wl
      have KW := fun w' => refWords r.text w' (by omega)
      rw [tw] at KW
      have KLn := fun v w' (h : Rd w' 1 v r.words.length (wsC r.words)) (h2 : w'.cell? ⟨2, 0, none⟩ = some (.int .i64 mx)) => ruLine v r.words mx w' h (fun q hq => by have := wz q (.tail _ hq); unfold maxLen; omega) (by simp only [List.length_cons] at wl; omega) h2
      rw [lw.1] at KLn
      have hlo : ∀ iv wv, lineO r.words iv wv = { r with iv := iv, wv := wv } := fun iv wv => by rw [lineO_ok lw.1]; exact lw.2 iv wv
      obtain ⟨ww, hww⟩ : ∃ y, y = r.words := ⟨_, rfl⟩
      rw [← hww] at KW KLn hlo wl
      have hw2 : 2 ≤ ww.length := by rw [hww]; unfold RuV.words; simp
      simp only [hlo] at KLn
      clear lw tw wz hr hg hww hlo
      obtain ⟨nm, me, iv, ps1, k, lim, tk, fo, ke, pr, wv, ps2⟩ := r
      obtain ⟨nm', me', iv', ps1', k', lim', tk', fo', ke', pr', wv', ps2'⟩ := g
      simp only [RuV.strip, RuV.mk.injEq] at hst
      obtain ⟨rfl, rfl, -, rfl, rfl, rfl, rfl, rfl, rfl, rfl, -, rfl⟩ := hst
      obtain ⟨A1, q1, e1⟩ := owns_slice g1.io
      obtain ⟨A2, q2, e2⟩ := owns_slice g1.wo
      obtain ⟨A3, q3, e3⟩ := owns_slice g2.io
      obtain ⟨A4, q4, e4⟩ := owns_slice g2.wo
      dsimp only at e1 e2 e3 e4
      subst e1 e2 e3 e4
      have hk := g1.k
      have hpr := g1.pr
      dsimp only at hk hpr
      have tpr := bd.k
      have KX := fun w' (h : Below wr.heap.size wr w') => ruText nm' me' A1 q1 ps1' k' lim' tk' fo' ke' pr' A2 q2 ps2' w' bd.k bd.h0 bd.h1 bd.tk bd.fo bd.ke hpr bd.nm bd.me (rd_of_owns (g1.below h).io) bd.iz (rd_of_owns (g1.below h).wo) bd.wz
      obtain ⟨tx, htx⟩ : ∃ y, y = RuV.text ⟨nm', me', .slice A1 ps1'.length q1, ps1', k', lim', tk', fo', ke', pr', .slice A2 ps2'.length q2, ps2'⟩ := ⟨_, rfl⟩
      have KX0 := KX wr (Below.refl _ _)
      rw [← htx] at KX0 KW
      have HTXE := Lib.hid htx
      have lc0 := hatl.nth0 hBl0 (i * 10) (.string nm') (el 0 _ rfl)
      have lc1 := hatl.nth hBl0 (i * 10) 1 (.string me') (el 1 _ rfl)
      have lc2 := hatl.nth hBl0 (i * 10) 2 (.slice A1 ps1'.length q1) (el 2 _ rfl)
      have lc3 := hatl.nth hBl0 (i * 10) 3 (.int .u8 k') (el 3 _ rfl)
      have lc4 := hatl.nth hBl0 (i * 10) 4 (.int .i64 lim') (el 4 _ rfl)
      have lc5 := hatl.nth hBl0 (i * 10) 5 (.int .u64 tk') (el 5 _ rfl)
      have lc6 := hatl.nth hBl0 (i * 10) 6 (.int .u64 fo') (el 6 _ rfl)
      have lc7 := hatl.nth hBl0 (i * 10) 7 (.int .u64 ke') (el 7 _ rfl)
      have lc8 := hatl.nth hBl0 (i * 10) 8 (.int .u8 pr') (el 8 _ rfl)
      have lc9 := hatl.nth hBl0 (i * 10) 9 (.slice A2 ps2'.length q2) (el 9 _ rfl)
      have i1 : (i : Int) < (rs.length : Int) := by omega
      clear KX htx wl tz fi
      go_wp2_with fail
      (with_reducible refine KX0.mono ?_)
      rintro e w5 ⟨rfl, hb5⟩
      have K3 := KW w5
      clear KX0 KW lc0 lc1 lc2 lc3 lc4 lc5 lc6 lc7 lc8 lc9
      go_wp2_with fail
      (with_reducible refine K3.mono ?_)
      rintro e w6 ⟨vw, rfl, how, hb6⟩
      have hRw := rd_of_owns how
      obtain ⟨Aw, cw, rfl⟩ := owns_slice how
      obtain ⟨hwc, hwm, hw4⟩ := rd_parts6 hRw
      obtain ⟨bw, ow, rfl, _⟩ := hw4 (by simp)
      have hcut := Rd.cut1 (k := 1) hRw (by simp)
      rw [show (wsC (kRule :: ww)).drop 1 = wsC ww from rfl, show (kRule :: ww).length - 1 = ww.length from rfl] at hcut
      simp only [List.length_cons] at hwc
      rw [if_neg (by omega)] at hcut
      have hc1 : ¬ cw = 1 := by omega
      have hB56 := (hb5.trans (hb6.mono hb5.size))
      have hB6 := hB.trans (hB56.mono hB.size)
      have hmc := cell_upd (Upd.of_below (hB4W.trans (hB6.mono hB4W.size))) (b := 2) (by simp) HM.out
      have K4 := KLn _ w6 hcut hmc
      have d2 : (1 : Int) ≤ (ww.length : Int) + 1 := by omega
      clear K3 hRw hcut KLn how hw4
      go_wp2_with fail
      (with_reducible refine K4.mono ?_)
      rintro e w7 ⟨xi, xw, rfl, hgx, hb7⟩
      obtain ⟨A5, q5, e5⟩ := owns_slice hgx.io
      obtain ⟨A6, q6, e6⟩ := owns_slice hgx.wo
      dsimp only at e5 e6 hgx
      subst e5 e6
      simp only [RuV.agg]
      have hB7 := hB6.trans (hb7.mono hB6.size)
      have hBr7 := hB56.trans (hb7.mono hB56.size)
      clear K4 hmc hc1
      go_upto_region 13 with fail
      refine wp_gen fun V hV => ?_
      have hBv : Below w7.heap.size w7 V := by rw [hV]; exact (Below.refl _ _).alloc (Nat.le_refl _) _
      obtain ⟨bx, hbx⟩ : ∃ b, b = w7.heap.size := ⟨_, rfl⟩
      have hBx : Blk V bx #[.string nm', .string me', .slice A5 ps1'.length q5, .int .u8 k', .int .i64 lim', .int .u64 tk', .int .u64 fo', .int .u64 ke', .int .u8 pr', .slice A6 ps2'.length q6] 63 := by rw [hV, hbx]; exact Blk.new _ _ _
      rw [← hbx]
      have hBrV := hBr7.trans (hBv.mono hBr7.size)
      have hBl := hBl0.trans (hBrV.mono hBl0.size)
      have hBg := hB.trans (hBrV.mono hB.size)
      have gr := g1.below hBrV
      have gg := g2.below hBrV
      have gx := hgx.below hBv
      clear hV hbx hgx hBr7 hb5 hb6 hb7 hB56 hB6
      have FC : ∀ w', Below V.heap.size V w' → w'.cell? ⟨bl, ol + i * 10, none⟩ = some (.string nm') ∧ w'.cell? ⟨bl, ol + i * 10 + 1, none⟩ = some (.string me') ∧ w'.cell? ⟨bl, ol + i * 10 + 2, none⟩ = some (.slice A1 ps1'.length q1) ∧ w'.cell? ⟨bl, ol + i * 10 + 3, none⟩ = some (.int .u8 k') ∧ w'.cell? ⟨bl, ol + i * 10 + 4, none⟩ = some (.int .i64 lim') ∧ w'.cell? ⟨bl, ol + i * 10 + 5, none⟩ = some (.int .u64 tk') ∧ w'.cell? ⟨bl, ol + i * 10 + 6, none⟩ = some (.int .u64 fo') ∧ w'.cell? ⟨bl, ol + i * 10 + 7, none⟩ = some (.int .u64 ke') ∧ w'.cell? ⟨bl, ol + i * 10 + 8, none⟩ = some (.int .u8 pr') ∧ w'.cell? ⟨bl, ol + i * 10 + 9, none⟩ = some (.slice A2 ps2'.length q2) ∧ w'.cell? ⟨bg, og + i * 10, none⟩ = some (.string nm') ∧ w'.cell? ⟨bg, og + i * 10 + 1, none⟩ = some (.string me') ∧ w'.cell? ⟨bg, og + i * 10 + 2, none⟩ = some (.slice A3 ps1'.length q3) ∧ w'.cell? ⟨bg, og + i * 10 + 3, none⟩ = some (.int .u8 k') ∧ w'.cell? ⟨bg, og + i * 10 + 4, none⟩ = some (.int .i64 lim') ∧ w'.cell? ⟨bg, og + i * 10 + 5, none⟩ = some (.int .u64 tk') ∧ w'.cell? ⟨bg, og + i * 10 + 6, none⟩ = some (.int .u64 fo') ∧ w'.cell? ⟨bg, og + i * 10 + 7, none⟩ = some (.int .u64 ke') ∧ w'.cell? ⟨bg, og + i * 10 + 8, none⟩ = some (.int .u8 pr') ∧ w'.cell? ⟨bg, og + i * 10 + 9, none⟩ = some (.slice A4 ps2'.length q4) ∧ w'.cell? ⟨bx, 0, none⟩ = some (.string nm') ∧ w'.cell? ⟨bx, 1, none⟩ = some (.string me') ∧ w'.cell? ⟨bx, 2, none⟩ = some (.slice A5 ps1'.length q5) ∧ w'.cell? ⟨bx, 3, none⟩ = some (.int .u8 k') ∧ w'.cell? ⟨bx, 4, none⟩ = some (.int .i64 lim') ∧ w'.cell? ⟨bx, 5, none⟩ = some (.int .u64 tk') ∧ w'.cell? ⟨bx, 6, none⟩ = some (.int .u64 fo') ∧ w'.cell? ⟨bx, 7, none⟩ = some (.int .u64 ke') ∧ w'.cell? ⟨bx, 8, none⟩ = some (.int .u8 pr') ∧ w'.cell? ⟨bx, 9, none⟩ = some (.slice A6 ps2'.length q6) := fun w' h => ⟨hatl.nth0 (hBl.trans (h.mono hBl.size)) (i * 10) (.string nm') (el 0 _ rfl), hatl.nth (hBl.trans (h.mono hBl.size)) (i * 10) 1 (.string me') (el 1 _ rfl), hatl.nth (hBl.trans (h.mono hBl.size)) (i * 10) 2 (.slice A1 ps1'.length q1) (el 2 _ rfl), hatl.nth (hBl.trans (h.mono hBl.size)) (i * 10) 3 (.int .u8 k') (el 3 _ rfl), hatl.nth (hBl.trans (h.mono hBl.size)) (i * 10) 4 (.int .i64 lim') (el 4 _ rfl), hatl.nth (hBl.trans (h.mono hBl.size)) (i * 10) 5 (.int .u64 tk') (el 5 _ rfl), hatl.nth (hBl.trans (h.mono hBl.size)) (i * 10) 6 (.int .u64 fo') (el 6 _ rfl), hatl.nth (hBl.trans (h.mono hBl.size)) (i * 10) 7 (.int .u64 ke') (el 7 _ rfl), hatl.nth (hBl.trans (h.mono hBl.size)) (i * 10) 8 (.int .u8 pr') (el 8 _ rfl), hatl.nth (hBl.trans (h.mono hBl.size)) (i * 10) 9 (.slice A2 ps2'.length q2) (el 9 _ rfl), hatg.nth0 (hBg.trans (h.mono hBg.size)) (i * 10) (.string nm') (eg 0 _ rfl), hatg.nth (hBg.trans (h.mono hBg.size)) (i * 10) 1 (.string me') (eg 1 _ rfl), hatg.nth (hBg.trans (h.mono hBg.size)) (i * 10) 2 (.slice A3 ps1'.length q3) (eg 2 _ rfl), hatg.nth (hBg.trans (h.mono hBg.size)) (i * 10) 3 (.int .u8 k') (eg 3 _ rfl), hatg.nth (hBg.trans (h.mono hBg.size)) (i * 10) 4 (.int .i64 lim') (eg 4 _ rfl), hatg.nth (hBg.trans (h.mono hBg.size)) (i * 10) 5 (.int .u64 tk') (eg 5 _ rfl), hatg.nth (hBg.trans (h.mono hBg.size)) (i * 10) 6 (.int .u64 fo') (eg 6 _ rfl), hatg.nth (hBg.trans (h.mono hBg.size)) (i * 10) 7 (.int .u64 ke') (eg 7 _ rfl), hatg.nth (hBg.trans (h.mono hBg.size)) (i * 10) 8 (.int .u8 pr') (eg 8 _ rfl), hatg.nth (hBg.trans (h.mono hBg.size)) (i * 10) 9 (.slice A4 ps2'.length q4) (eg 9 _ rfl), (hBx.below h hBx.lt).cell (j := 0) (v := .string nm') rfl, (hBx.below h hBx.lt).cell (j := 1) (v := .string me') rfl, (hBx.below h hBx.lt).cell (j := 2) (v := .slice A5 ps1'.length q5) rfl, (hBx.below h hBx.lt).cell (j := 3) (v := .int .u8 k') rfl, (hBx.below h hBx.lt).cell (j := 4) (v := .int .i64 lim') rfl, (hBx.below h hBx.lt).cell (j := 5) (v := .int .u64 tk') rfl, (hBx.below h hBx.lt).cell (j := 6) (v := .int .u64 fo') rfl, (hBx.below h hBx.lt).cell (j := 7) (v := .int .u64 ke') rfl, (hBx.below h hBx.lt).cell (j := 8) (v := .int .u8 pr') rfl, (hBx.below h hBx.lt).cell (j := 9) (v := .slice A6 ps2'.length q6) rfl⟩
      have KS1 := fun w' (h : Below V.heap.size V w') => ruSame nm' me' A5 q5 ps1' k' lim' tk' fo' ke' pr' A6 q6 ps2' nm' me' A1 q1 ps1' k' lim' tk' fo' ke' pr' A2 q2 ps2' w' (rd_of_owns (gx.below h).io) (rd_of_owns (gr.below h).io) (rd_of_owns (gx.below h).wo) (rd_of_owns (gr.below h).wo)
      have KS2 := fun w' (h : Below V.heap.size V w') => ruSame nm' me' A3 q3 ps1' k' lim' tk' fo' ke' pr' A4 q4 ps2' nm' me' A1 q1 ps1' k' lim' tk' fo' ke' pr' A2 q2 ps2' w' (rd_of_owns (gg.below h).io) (rd_of_owns (gr.below h).io) (rd_of_owns (gg.below h).wo) (rd_of_owns (gr.below h).wo)
      have KQ := fun w' (h : Below V.heap.size V w') => refRuSame nm' me' A3 q3 ps1' k' lim' tk' fo' ke' pr' A4 q4 ps2' nm' me' A1 q1 ps1' k' lim' tk' fo' ke' pr' A2 q2 ps2' w' (rd_of_owns (gg.below h).io) (rd_of_owns (gr.below h).io) (rd_of_owns (gg.below h).wo) (rd_of_owns (gr.below h).wo)
      rw [sm7_self6] at KS1 KS2 KQ
      have KF1 := fun w' => law15Ref nm' me' A3 ps1'.length q3 k' lim' tk' fo' ke' pr' A4 ps2'.length q4 w' hk
      have KF2 := fun w' => law15Ref nm' me' A1 ps1'.length q1 k' lim' tk' fo' ke' pr' A2 ps2'.length q2 w' hk
      have KTg : ∀ w' (h : Below V.heap.size V w'), Calls Tryz.prog 34 #[.agg #[.string nm', .string me', .slice A3 ps1'.length q3, .int .u8 k', .int .i64 lim', .int .u64 tk', .int .u64 fo', .int .u64 ke', .int .u8 pr', .slice A4 ps2'.length q4]] w' fun e w'' => e = .returned (.string tx) ∧ Below w'.heap.size w' w'' := fun w' h => by
        rw [HTXE.out]
        exact ruText nm' me' A3 q3 ps1' k' lim' tk' fo' ke' pr' A4 q4 ps2' w' bd.k bd.h0 bd.h1 bd.tk bd.fo bd.ke hpr bd.nm bd.me (rd_of_owns (gg.below h).io) bd.iz (rd_of_owns (gg.below h).wo) bd.wz
      have KTr : ∀ w' (h : Below V.heap.size V w'), Calls Tryz.prog 41 #[.agg #[.string nm', .string me', .slice A1 ps1'.length q1, .slice A2 ps2'.length q2, .int .i64 k', .int .i64 lim', .int .u64 tk', .int .u64 fo', .int .u64 ke', .int .u8 pr']] w' fun e w'' => e = .returned (.string tx) ∧ Below w'.heap.size w' w'' := fun w' h => by
        rw [HTXE.out]
        exact refRuText nm' me' A1 q1 ps1' k' lim' tk' fo' ke' pr' A2 q2 ps2' w' bd.k bd.h0 bd.h1 bd.tk bd.fo bd.ke hpr bd.nm bd.me (rd_of_owns (gr.below h).io) bd.iz (rd_of_owns (gr.below h).wo) bd.wz
      have i2 : (i : Int) < (rg.length : Int) := by rw [HLG.out]; omega
      have hext : ∀ w' w'', Below V.heap.size V w' → Below w'.heap.size w' w'' → Below V.heap.size V w'' := fun w' w'' h h2 => h.trans (h2.mono h.size)
      refine FreeSl.region_free (fun w' => Below V.heap.size V w') [] [] (List.range 51) (by kernel_rfl) (by kernel_rfl) (by kernel_rfl) (Below.refl _ _).drew ?_
      simp only [List.range, List.range.loop]
      repeat (first
        | (refine FreeSl.RelSeq.pure_ (c := ?_) rfl rfl ?_ ?_; rotate_left; (focus (intro x w'; dsimp only; go_simp; (repeat' apply And.intro) <;> first | with_reducible rfl | assumption)); simp only [Act.put, List.setIfInBounds_toArray, List.set_cons_zero, List.set_cons_succ])
        | (refine FreeSl.RelSeq.pureG_ (c := ?_) rfl (fun _ => rfl) rfl ?_ ?_; rotate_left; (focus (intro x w'; dsimp only; go_simp; (repeat' apply And.intro) <;> first | with_reducible rfl | assumption)); simp only [Act.put, List.setIfInBounds_toArray, List.set_cons_zero, List.set_cons_succ])
        | (refine FreeSl.RelSeq.growG_ (c := ?_) rfl (fun _ => rfl) rfl ?_ ?_; rotate_left; (focus (intro x w' hw _; dsimp only; obtain ⟨c0, c1, c2, c3, c4, c5, c6, c7, c8, c9, c10, c11, c12, c13, c14, c15, c16, c17, c18, c19, c20, c21, c22, c23, c24, c25, c26, c27, c28, c29⟩ := FC w' hw; have hbr := Below.refl w'.heap.size w'; go_simp; (repeat' apply And.intro) <;> first | with_reducible rfl | assumption)); simp only [Act.put, List.setIfInBounds_toArray, List.set_cons_zero, List.set_cons_succ])
        | (refine FreeSl.RelSeq.growG_ (c := ?_) rfl (fun _ => rfl) rfl ?_ ?_; rotate_left; (focus (intro x w' hw _; dsimp only; go_simp; (with_reducible refine (KS1 w' hw).mono ?_); rintro e w2 ⟨rfl, hb2⟩; have hI := hext w' w2 hw hb2; go_simp; (repeat' apply And.intro) <;> first | with_reducible rfl | assumption)); simp only [Act.put, List.setIfInBounds_toArray, List.set_cons_zero, List.set_cons_succ])
        | (refine FreeSl.RelSeq.growG_ (c := ?_) rfl (fun _ => rfl) rfl ?_ ?_; rotate_left; (focus (intro x w' hw _; dsimp only; go_simp; (with_reducible refine (KS2 w' hw).mono ?_); rintro e w2 ⟨rfl, hb2⟩; have hI := hext w' w2 hw hb2; go_simp; (repeat' apply And.intro) <;> first | with_reducible rfl | assumption)); simp only [Act.put, List.setIfInBounds_toArray, List.set_cons_zero, List.set_cons_succ])
        | (refine FreeSl.RelSeq.growG_ (c := ?_) rfl (fun _ => rfl) rfl ?_ ?_; rotate_left; (focus (intro x w' hw _; dsimp only; go_simp; (with_reducible refine (KF1 w').mono ?_); rintro e w2 ⟨rfl, hb2⟩; have hI := hext w' w2 hw hb2; go_simp; (repeat' apply And.intro) <;> first | with_reducible rfl | assumption)); simp only [Act.put, List.setIfInBounds_toArray, List.set_cons_zero, List.set_cons_succ])
        | (refine FreeSl.RelSeq.growG_ (c := ?_) rfl (fun _ => rfl) rfl ?_ ?_; rotate_left; (focus (intro x w' hw _; dsimp only; go_simp; (with_reducible refine (KF2 w').mono ?_); rintro e w2 ⟨rfl, hb2⟩; have hI := hext w' w2 hw hb2; go_simp; (repeat' apply And.intro) <;> first | with_reducible rfl | assumption)); simp only [Act.put, List.setIfInBounds_toArray, List.set_cons_zero, List.set_cons_succ])
        | (refine FreeSl.RelSeq.growG_ (c := ?_) rfl (fun _ => rfl) rfl ?_ ?_; rotate_left; (focus (intro x w' hw _; dsimp only; go_simp; (with_reducible refine (KQ w' hw).mono ?_); rintro e w2 ⟨rfl, hb2⟩; have hI := hext w' w2 hw hb2; go_simp; (repeat' apply And.intro) <;> first | with_reducible rfl | assumption)); simp only [Act.put, List.setIfInBounds_toArray, List.set_cons_zero, List.set_cons_succ])
        | (refine FreeSl.RelSeq.growG_ (c := ?_) rfl (fun _ => rfl) rfl ?_ ?_; rotate_left; (focus (intro x w' hw _; dsimp only; go_simp; (with_reducible refine (KTg w' hw).mono ?_); rintro e w2 ⟨rfl, hb2⟩; have hI := hext w' w2 hw hb2; go_simp; (repeat' apply And.intro) <;> first | with_reducible rfl | assumption)); simp only [Act.put, List.setIfInBounds_toArray, List.set_cons_zero, List.set_cons_succ])
        | (refine FreeSl.RelSeq.growG_ (c := ?_) rfl (fun _ => rfl) rfl ?_ ?_; rotate_left; (focus (intro x w' hw _; dsimp only; go_simp; (with_reducible refine (KTr w' hw).mono ?_); rintro e w2 ⟨rfl, hb2⟩; have hI := hext w' w2 hw hb2; go_simp; (repeat' apply And.intro) <;> first | with_reducible rfl | assumption)); simp only [Act.put, List.setIfInBounds_toArray, List.set_cons_zero, List.set_cons_succ]))
      refine FreeSl.RelSeq.nil_ fun x2 w13 hw13 _ _ => ?_
      refine FreeSl.TailSeq.nil_ ?_
      have hB2 := hBg.trans (hw13.mono hBg.size)
      clear FC KS1 KS2 KQ KF1 KF2 KTg KTr hext g1 g2 gr gg gx hw13 hBx hBl hBrV hBl0 hBv hB7 bd
      go_wp2_with fail
      go_roundw
      case rel => exact ⟨i + 1, by omega, by go_num, hB2⟩
      case measure => simp [intOf]; omega
    · obtain rfl : i = rs.length := by omega
      go_wp2_with fail
      go_ret
      exact ⟨rfl, hB4W.trans (hB.mono hB4W.size)⟩
end Go.Proofs.YtebnbbbiobaneaaGreatDoor
