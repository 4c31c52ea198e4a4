/-
  A disk's names: the map's keys, sorted.
-/
import Derived.Test.YtdjdhakmigofmaaDisk3
import Derived.Test.YtdjdhakmigofmaaSrt
import Derived.Maps.RangeRun
import Derived.Sort.OwnSorted
import Derived.Sort.KeysCollected
import Derived.Deep.AppendLies
namespace Go.Proofs.Ytdjdhakmigofmaa
open Go.RowKit
set_option maxRecDepth 100000

theorem sortStrs (base : Nat) (v : Value) (ss : List (List UInt8)) (w : World) (hown : w.ownsRow base 9 1 v ss.length (ss.map encStr)) (hsz : ss.length < 4611686018427387904) :
    Calls Try.prog 42 #[v] w fun e w' => e = .returned (.tuple #[]) ∧ w'.ownsRow base 9 1 v ss.length ((ss.mergeSort leB).map encStr) ∧ w.grownBy w' v.ownBlock := by
  have hown0 := hown
  rcases hown.2 with ⟨rfl, h0⟩ | ⟨g, cap, cur, rfl, hbase, hb, h1, h2, h3, h4⟩
  · have : ss = [] := List.eq_nil_of_length_eq_zero h0
    subst this
    refine (Try.slices_Sort_string_none none 0 w).mono fun e w' ⟨he, hw⟩ => ⟨he, ?_, ?_⟩
    · rw [hw]; simpa using hown0
    · rw [hw]; exact ⟨rfl, rfl, rfl, Nat.le_refl _, fun _ _ _ => rfl⟩
  · refine (Try.slices_Sort_string g 0 cap ss w (holds_of_block hb (by simpa using h4)) (Array.getElem?_eq_some_iff.1 hb).1 hsz).mono fun e w' ⟨he, n, os, hw⟩ => ⟨he, ?_, ?_⟩
    · rw [hw]
      exact ownsRow_sorted (by simp) hbase hb h1 h2 h3
    · rw [hw]
      exact grownBy_sorted _

theorem infoStr : (Try.prog.info? 9).map (fun i => (i.zero, i.size, i.bytes)) = some (some (.string ⟨#[]⟩), 1, 16) := by kernel_rfl
def nameL (s : ByteArray) : List UInt8 := s.data.toList
theorem enc_nameL (s : ByteArray) : encStr (nameL s) = .string s := rfl
/-- All names, rising. -/
def namesF (fs : List FileV) : List (List UInt8) := (fs.map fun f => nameL f.name).mergeSort leB

def keyName : Value → List UInt8
  | .string s => nameL s
  | _ => []
def leftN (es : Array MapEntry) (r : Nat) (w : World) : Nat := match w.heap[r]? with | some (.mapIter _ _ seen _) => (leftOf es seen).size | _ => 0
theorem List.inj_on_of_nodup_map' {α β : Type} {f : α → β} : ∀ {l : List α}, (l.map f).Nodup → ∀ {x y : α}, x ∈ l → y ∈ l → f x = f y → x = y := by
  intro l
  induction l with
  | nil => intro _ x y hx; cases hx
  | cons a r ih =>
    intro h x y hx hy hf
    simp only [List.map_cons, List.nodup_cons] at h
    rcases List.mem_cons.1 hx with hx1 | hx1
    · rcases List.mem_cons.1 hy with hy1 | hy1
      · rw [hx1, hy1]
      · exact absurd (List.mem_map.2 ⟨y, hy1, by rw [← hf, hx1]⟩) h.1
    · rcases List.mem_cons.1 hy with hy1 | hy1
      · exact absurd (List.mem_map.2 ⟨x, hx1, by rw [hf, hy1]⟩) h.1
      · exact ih h.2 hx1 hy1 hf
theorem nodup_of_map {α β : Type} (f : α → β) {l : List α} (h : (l.map f).Nodup) : l.Nodup := (List.pairwise_map.1 h).imp fun h e => h (congrArg f e)
theorem setBlock_at {w : World} {r : Nat} {o o' : Obj} (h : w.heap[r]? = some o') : (ChangeMaps.setBlock w r o).heap[r]? = some o := by
  have hlt : r < w.heap.size := (Array.getElem?_eq_some_iff.1 h).1
  simp [ChangeMaps.setBlock, hlt]
theorem setBlock_ne {w : World} {r k : Nat} {o : Obj} (h : k ≠ r) : (ChangeMaps.setBlock w r o).heap[k]? = w.heap[k]? := by
  simp only [ChangeMaps.setBlock]
  rw [Array.getElem?_setIfInBounds_ne (Ne.symm h)]
theorem perm_of_left {es : Array MapEntry} {seen : Array Nat} {done : List MapEntry} (hs : seen.toList = done.map (·.born)) (hd : ∀ e ∈ done, e ∈ es.toList) (hn : (done.map (·.born)).Nodup) (hnd : (es.toList.map (·.born)).Nodup) (h0 : (leftOf es seen).size = 0) : done.Perm es.toList := by
  have n1 : done.Nodup := nodup_of_map _ hn
  have n2 : es.toList.Nodup := nodup_of_map _ hnd
  refine (List.perm_ext_iff_of_nodup n1 n2).2 fun e => ⟨hd e, fun he => ?_⟩
  have hc := all_seen es seen h0 e he
  have hm : e.born ∈ seen.toList := by simpa using hc
  rw [hs] at hm
  obtain ⟨e', he', hb⟩ := List.mem_map.1 hm
  have : e' = e := by
    have hinj := List.inj_on_of_nodup_map' hnd (hd e' he') he hb
    exact hinj
  rw [← this]; exact he'

theorem diskNamesNil (w : World) : Calls Try.prog 17 #[.pointer none] w fun e w' => e = .returned (.slice none 0 0) ∧ w' = w := by
  go_enter Try.func17, Try.ntmps17
  go_wp2_with fail
  go_ret
  exact ⟨rfl, rfl⟩

set_option maxHeartbeats 1000000 in
theorem diskNames (d m : Nat) (fs : List FileV) (w : World) (hD : DiskAt w d m fs) (hfs : fs.length ≤ 1048576) :
    Calls Try.prog 17 #[.pointer (some ⟨d, 0, none⟩)] w fun e w' => ∃ v, e = .returned v ∧ w'.ownsRow w.heap.size 9 1 v (namesF fs).length ((namesF fs).map encStr) ∧ Below w.heap.size w w' := by
  have c0 := hD.cell0
  have hstamp := hD.stamp
  obtain ⟨_, ⟨es, clock, h2, h3⟩, _⟩ := hD
  obtain ⟨es2, clock2, h5, h6⟩ := hstamp
  rw [h2] at h5
  injection h5 with h5
  injection h5 with e1 e2
  subst e1 e2
  obtain ⟨hborn, hnd, hnk⟩ := h6
  obtain ⟨i2, hi2, hz6, hz7, hz8⟩ := info_parts infoStr
  have hml : m < w.heap.size := (Array.getElem?_eq_some_iff.1 h2).1
  have hrg := run_range_map (P := Try.prog) w 74 9 84 m es clock Try.underlying74 h2
  have hlen : es.toList.length = fs.length := by have := congrArg List.length h3; simpa using this
  go_enter Try.func17, Try.ntmps17
  go_wp2_with fail
  go_loopw [3] (fun v wr => ∃ (seen : Array Nat) (done : List MapEntry), wr.heap[w.heap.size]? = some (.mapIter (some m) clock seen clock) ∧ seen.toList = done.map (·.born) ∧ (∀ e ∈ done, e ∈ es.toList) ∧ (done.map (·.born)).Nodup ∧
    wr.ownsRow (w.heap.size + 1) 9 1 v done.length ((done.map fun e => keyName e.key).map encStr) ∧ Below w.heap.size w wr) (fun _ wr => leftN es w.heap.size wr)
  case atStart => exact ⟨#[], [], heap_alloc_new w _, rfl, by simp, by simp, World.ownsRow_nil _ _ _ _, (Below.refl _ _).alloc (Nat.le_refl _) _⟩
  case round =>
    obtain ⟨seen, done, hr, hsd, hdm, hdn, hv, hB⟩ := hrel
    obtain ⟨A3, c3, rfl⟩ := owns_slice hv
    have hbm : wr.heap[m]? = some (.map es clock) := (hB.block m hml).trans h2
    have hdl : done.length ≤ es.toList.length := by
      have n1 : done.Nodup := nodup_of_map _ hdn
      exact List.Nodup.length_le_of_subset n1 hdm
    rcases run_next_at (P := Try.prog) wr 0 w.heap.size m clock clock seen es clock hr hbm hborn (Nat.le_refl _) with ⟨h0, hrun⟩ | ⟨e, hel, w1, hw1, hrun⟩
    · have hnx : ∀ ty, (Instr.next (.pointer (some ⟨w.heap.size, 0, none⟩)) false ty).run Try.prog wr = .ok (.tuple #[.bool false]) wr := fun _ => hrun
      have hperm := perm_of_left hsd hdm hdn hnd h0
      have hP2 : (done.map fun e => keyName e.key).Perm (fs.map fun f => nameL f.name) := by
        have e1 : es.toList.map (fun e => keyName e.key) = fs.map fun f => nameL f.name := by
          have := congrArg (List.map fun p : Value × Value => keyName p.1) h3
          simpa [List.map_map, Function.comp_def, kvOf, keyName] using this
        rw [← e1]
        exact hperm.map _
      have hsorted : (done.map fun e => keyName e.key).mergeSort leB = namesF fs := mergeSort_of_perm hP2
      have hnl : (namesF fs).length = done.length := by rw [← hsorted]; simp
      have HSO := Lib.hid hsorted
      have HNL := Lib.hid hnl
      have hv2 : wr.ownsRow (w.heap.size + 1) 9 1 (.slice A3 done.length c3) (done.map fun e => keyName e.key).length ((done.map fun e => keyName e.key).map encStr) := by simpa using hv
      have hS := sortStrs (w.heap.size + 1) (.slice A3 done.length c3) (done.map fun e => keyName e.key) wr hv2 (by simp; omega)
      clear hperm hP2 hsorted hnl hrun hv hr hbm h2 h3 hnd hdn hnk hborn hrg hsd hdm h0 c0
      go_wp2_with fail
      (with_reducible refine hS.mono ?_)
      rintro e w5 ⟨rfl, hown5, hgr5⟩
      have hbe5 : Below w.heap.size w w5 := hB.grown hgr5 hB.size (fun q hq => by have := (hv2.lt q hq).1; omega)
      have hown6 : w5.ownsRow w.heap.size 9 1 (.slice A3 done.length c3) (namesF fs).length ((namesF fs).map encStr) := by
        have := owns_mono hown5 (Nat.le_succ w.heap.size)
        rw [HSO.out, List.length_map] at this
        rw [HNL.out]
        exact this
      clear hS hv2 hown5 hgr5 hB
      go_wp2_with fail
      go_ret
      exact ⟨_, rfl, hown6, hbe5⟩
    · obtain ⟨hemem, hns⟩ := mem_left hel
      obtain ⟨s, hs⟩ : ∃ s, e.key = .string s := by
        have : (e.key, e.val) ∈ fs.map kvOf := by rw [← h3]; exact List.mem_map.2 ⟨e, hemem, rfl⟩
        obtain ⟨f, _, hf⟩ := List.mem_map.1 this
        exact ⟨f.name, (congrArg Prod.fst hf).symm⟩
      have hr1 : w1.heap[w.heap.size]? = some (.mapIter (some m) clock seen clock) := by rcases hw1 with rfl | rfl <;> exact hr
      have hb1 : Below w.heap.size w w1 := by rcases hw1 with rfl | rfl; exact hB; exact hB.drew
      have hg1 : wr.grownBy w1 (some w.heap.size) := by rcases hw1 with rfl | rfl <;> exact ⟨rfl, rfl, rfl, Nat.le_refl _, fun _ _ _ => rfl⟩
      obtain ⟨W2, hW2⟩ : ∃ W2, W2 = ChangeMaps.setBlock w1 w.heap.size (.mapIter (some m) clock (seen.push e.born) clock) := ⟨_, rfl⟩
      have hr2 : W2.heap[w.heap.size]? = some (.mapIter (some m) clock (seen.push e.born) clock) := by rw [hW2]; exact setBlock_at hr1
      have hg2 : w1.grownBy W2 (some w.heap.size) := by rw [hW2]; exact ⟨rfl, rfl, rfl, by simp [ChangeMaps.setBlock], fun k _ hk => setBlock_ne (fun e => hk (by rw [e]))⟩
      have hB2 : Below w.heap.size w W2 := hb1.grown hg2 hb1.size (fun q hq => by cases hq; exact Nat.le_refl _)
      have hne3 : (Value.slice A3 done.length c3).ownBlock = none ∨ (Value.slice A3 done.length c3).ownBlock ≠ some w.heap.size := .inr fun he => by have := (hv.lt _ he).1; omega
      have hv2 := (hv.kept hg1 hne3).kept hg2 hne3
      have hnx : ∀ ty, (Instr.next (.pointer (some ⟨w.heap.size, 0, none⟩)) false ty).run Try.prog wr = .ok (.tuple #[.bool true, .string s, e.val]) W2 := fun _ => by rw [← hs, hW2]; exact hrun
      have hent : (Instr.entry (.pointer (some ⟨w.heap.size, 0, none⟩))).run Try.prog W2 = .ok (.tuple #[.string s, e.val]) W2 := by
        rw [← hs]
        exact run_entry_at W2 w.heap.size m clock seen es clock e hr2 ((hB2.block m hml).trans h2) hemem hnd
      have hsh := left_shrinks es seen e hel
      have HSH := Lib.hid hsh
      have HR2 := Lib.hid hr2
      have HS := Lib.hid hs
      have HNS := Lib.hid hns
      have HSD := Lib.hid hsd
      have HDN := Lib.hid hdn
      have HRR := Lib.hid hr
      clear hrun hW2 hr1 hb1 hg1 hg2 hne3 hv hbm h2 h3 hnd hnk hborn hrg c0 hB hr2 hw1 hel hsh hs hns hsd hdn hr
      go_wp2_with (at_builtin; refine wpl_stop fun W hW => ?_)
      refine Stopped.mk ?_
      subst hW
      refine wpl_gen fun W hW => ?_
      have hBW : Blk W W2.heap.size #[.string s] 9 := by rw [hW]; exact Blk.new _ _ _
      have hbW : Below W2.heap.size W2 W := by rw [hW]; exact (Below.refl _ _).alloc (Nat.le_refl _) _
      clear hW
      have hszb := hB2.size
      have hvW := owns_below hv2 hbW
      have hwl : w.heap.size < W2.heap.size := (Array.getElem?_eq_some_iff.1 HR2.out).1
      have hrW : W.heap[w.heap.size]? = some (.mapIter (some m) clock (seen.push e.born) clock) := (hbW.block _ hwl).trans HR2.out
      have hnx1 : Rd W 1 (.slice (some ⟨W2.heap.size, 0, none⟩) 1 1) 1 [.string s] := ⟨_, _, rfl, rfl, Nat.le_refl _, by unfold maxLen; omega, fun _ => ⟨_, _, rfl, fun j u hj => by
        match j, hj with
        | 0, hj => simp at hj; subst hj; exact hBW.cell rfl
        | j + 1, hj => simp at hj⟩⟩
      refine wpl_append_rd rfl (.tmp 16) (.tmp 18) 40 rfl (w.heap.size + 1) 9 i2 _ 1 16 Try.underlying40 hi2 hz6 hz7 hz8 rfl (by decide) _ done.length _ rfl hvW _ 1 _ rfl hnx1 (by simp [Value.oneCell']) (by unfold maxLen; omega) (by omega) (Nat.le_trans hwl hbW.size) fun v5 w5 hown5 hgr5 _ => ?_
      have hne : some w.heap.size ≠ (Value.slice A3 done.length c3).ownBlock := fun he => by have := (hvW.lt _ he.symm).1; omega
      have hr5 : w5.heap[w.heap.size]? = some (.mapIter (some m) clock (seen.push e.born) clock) := (hgr5.block _ (Nat.lt_of_lt_of_le hwl hbW.size) hne).trans hrW
      have hB5 : Below w.heap.size w w5 := (hB2.trans (hbW.mono hszb)).grown hgr5 (Nat.le_trans hszb hbW.size) (fun q hq => by have := (hvW.lt q hq).1; omega)
      have hown5' : w5.ownsRow (w.heap.size + 1) 9 1 v5 (done ++ [e]).length (((done ++ [e]).map fun e => keyName e.key).map encStr) := by
        have e1 : ((done ++ [e]).map fun e => keyName e.key).map encStr = ((done.map fun e => keyName e.key).map encStr) ++ [.string s] := by
          simp [HS.out, keyName, encStr, nameL]
        rw [e1, List.length_append]
        exact hown5
      have hsd5 : (seen.push e.born).toList = (done ++ [e]).map (·.born) := by rw [List.map_append, ← HSD.out]; simp
      have hdm5 : ∀ x ∈ done ++ [e], x ∈ es.toList := by
        intro x hx
        rcases List.mem_append.1 hx with h | h
        · exact hdm x h
        · rw [List.mem_singleton] at h; rw [h]; exact hemem
      have hdn5 : ((done ++ [e]).map (·.born)).Nodup := by
        rw [List.map_append, List.nodup_append]
        refine ⟨HDN.out, by simp, fun a ha b hb hab => ?_⟩
        simp only [List.map_cons, List.map_nil, List.mem_singleton] at hb
        rw [← HSD.out] at ha
        have h1 := HNS.out
        have h2 : seen.contains e.born = true := by rw [← hb, ← hab]; simpa using ha
        rw [h1] at h2; cases h2
      have hmeas : leftN es w.heap.size w5 < leftN es w.heap.size wr := by
        unfold leftN
        rw [hr5, HRR.out]
        exact HSH.out
      have H1 := Lib.hid hr5
      have H2 := Lib.hid hsd5
      have H3 := Lib.hid hdn5
      obtain ⟨A5, c5, rfl⟩ := owns_slice hown5'
      have hdl5 : (done ++ [e]).length = done.length + 1 := by simp
      rw [hdl5] at hown5'
      clear hv2 hbW hBW hvW hrW hnx1 hgr5 hne hr5 hown5 hsd5 hdn5 hdl5 hnx hent hB2
      go_wp2_with fail
      go_roundw
      case rel => exact ⟨seen.push e.born, done ++ [e], H1.out, H2.out, hdm5, H3.out, by simpa using hown5', hB5⟩
      case measure => exact hmeas
end Go.Proofs.Ytdjdhakmigofmaa
