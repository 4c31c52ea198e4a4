/-
  A disk's names: the map's keys, sorted. Crash of a disk with one file. Nil disks; Awake of the disk's statements; the walk of DiskNone. Crash of a disk with one file, the first tear torn.
-/
import Derived.Test.YtdmdfccadjfpiaaGreatDisk3
import Derived.Test.YtdmdfccadjfpiaaGreatSrt
import Derived.Maps.RangeRun
import Derived.Sort.OwnSorted
import Derived.Sort.KeysCollected
import Derived.Deep.AppendLies
import Derived.Test.YtdmdfccadjfpiaaGreatOpen
import Derived.Lib.SlBytesConst
import Derived.Test.YtdmdfccadjfpiaaGreatDSt
import Derived.Test.YtdmdfccadjfpiaaGreatSpoiltL
namespace Go.Proofs.YtdmdfccadjfpiaaGreat
open Go.RowKit
set_option maxRecDepth 100000

theorem sortStrs (base : Nat) (v : Value) (ss : List (List UInt8)) (w : World) (hown : w.ownsRow base 9 1 v ss.length (ss.map encStr)) (hsz : ss.length < 4611686018427387904) :
    Calls Tryz.prog 82 #[v] w fun e w' => e = .returned (.tuple #[]) ∧ w'.ownsRow base 9 1 v ss.length ((ss.mergeSort leB).map encStr) ∧ w.grownBy w' v.ownBlock := by
  have hown0 := hown
  rcases hown.2 with ⟨rfl, h0⟩ | ⟨g, cap, cur, rfl, hbase, hb, h1, h2, h3, h4⟩
  · have : ss = [] := List.eq_nil_of_length_eq_zero h0
    subst this
    refine (Tryz.slices_Sort_string_none none 0 w).mono fun e w' ⟨he, hw⟩ => ⟨he, ?_, ?_⟩
    · rw [hw]; simpa using hown0
    · rw [hw]; exact ⟨rfl, rfl, rfl, Nat.le_refl _, fun _ _ _ => rfl⟩
  · refine (Tryz.slices_Sort_string g 0 cap ss w (holds_of_block hb (by simpa using h4)) (Array.getElem?_eq_some_iff.1 hb).1 hsz).mono fun e w' ⟨he, n, os, hw⟩ => ⟨he, ?_, ?_⟩
    · rw [hw]
      exact ownsRow_sorted (by simp) hbase hb h1 h2 h3
    · rw [hw]
      exact grownBy_sorted _

theorem infoStr : (Tryz.prog.info? 9).map (fun i => (i.zero, i.size, i.bytes)) = some (some (.string ⟨#[]⟩), 1, 16) := by kernel_rfl
def nameL (s : ByteArray) : List UInt8 := s.data.toList
theorem enc_nameL (s : ByteArray) : encStr (nameL s) = .string s := rfl
/-- All names, rising. -/
def namesF (fs : List FileV) : List (List UInt8) := (fs.map fun f => nameL f.name).mergeSort leB

def keyName : Value → List UInt8
  | .string s => nameL s
  | _ => []
def leftN (es : Array MapEntry) (r : Nat) (w : World) : Nat := match w.heap[r]? with | some (.mapIter _ _ seen _) => (leftOf es seen).size | _ => 0
theorem List.inj_on_of_nodup_map' {α β : Type} {f : α → β} : ∀ {l : List α}, (l.map f).Nodup → ∀ {x y : α}, x ∈ l → y ∈ l → f x = f y → x = y := by
  intro l
  induction l with
  | nil => intro _ x y hx; cases hx
  | cons a r ih =>
    intro h x y hx hy hf
    simp only [List.map_cons, List.nodup_cons] at h
    rcases List.mem_cons.1 hx with hx1 | hx1
    · rcases List.mem_cons.1 hy with hy1 | hy1
      · rw [hx1, hy1]
      · exact absurd (List.mem_map.2 ⟨y, hy1, by rw [← hf, hx1]⟩) h.1
    · rcases List.mem_cons.1 hy with hy1 | hy1
      · exact absurd (List.mem_map.2 ⟨x, hx1, by rw [hf, hy1]⟩) h.1
      · exact ih h.2 hx1 hy1 hf
theorem nodup_of_map {α β : Type} (f : α → β) {l : List α} (h : (l.map f).Nodup) : l.Nodup := (List.pairwise_map.1 h).imp fun h e => h (congrArg f e)
theorem setBlock_at {w : World} {r : Nat} {o o' : Obj} (h : w.heap[r]? = some o') : (ChangeMaps.setBlock w r o).heap[r]? = some o := by
  have hlt : r < w.heap.size := (Array.getElem?_eq_some_iff.1 h).1
  simp [ChangeMaps.setBlock, hlt]
theorem setBlock_ne {w : World} {r k : Nat} {o : Obj} (h : k ≠ r) : (ChangeMaps.setBlock w r o).heap[k]? = w.heap[k]? := by
  simp only [ChangeMaps.setBlock]
  rw [Array.getElem?_setIfInBounds_ne (Ne.symm h)]
theorem perm_of_left {es : Array MapEntry} {seen : Array Nat} {done : List MapEntry} (hs : seen.toList = done.map (·.born)) (hd : ∀ e ∈ done, e ∈ es.toList) (hn : (done.map (·.born)).Nodup) (hnd : (es.toList.map (·.born)).Nodup) (h0 : (leftOf es seen).size = 0) : done.Perm es.toList := by
  have n1 : done.Nodup := nodup_of_map _ hn
  have n2 : es.toList.Nodup := nodup_of_map _ hnd
  refine (List.perm_ext_iff_of_nodup n1 n2).2 fun e => ⟨hd e, fun he => ?_⟩
  have hc := all_seen es seen h0 e he
  have hm : e.born ∈ seen.toList := by simpa using hc
  rw [hs] at hm
  obtain ⟨e', he', hb⟩ := List.mem_map.1 hm
  have : e' = e := by
    have hinj := List.inj_on_of_nodup_map' hnd (hd e' he') he hb
    exact hinj
  rw [← this]; exact he'

theorem diskNamesNil (w : World) : Calls Tryz.prog 56 #[.pointer none] w fun e w' => e = .returned (.slice none 0 0) ∧ w' = w := by
  go_enter Tryz.func56, Tryz.ntmps56
  go_wp2_with fail
  go_ret
  exact ⟨rfl, rfl⟩

set_option maxHeartbeats 1000000 in
theorem diskNames (d m : Nat) (fs : List FileV) (w : World) (hD : DiskAt w d m fs) (hfs : fs.length ≤ 1048576) :
    Calls Tryz.prog 56 #[.pointer (some ⟨d, 0, none⟩)] w fun e w' => ∃ v, e = .returned v ∧ w'.ownsRow w.heap.size 9 1 v (namesF fs).length ((namesF fs).map encStr) ∧ Below w.heap.size w w' := by
  have c0 := hD.cell0
  have hstamp := hD.stamp
  obtain ⟨_, ⟨es, clock, h2, h3⟩, _⟩ := hD
  obtain ⟨es2, clock2, h5, h6⟩ := hstamp
  rw [h2] at h5
  injection h5 with h5
  injection h5 with e1 e2
  subst e1 e2
  obtain ⟨hborn, hnd, hnk⟩ := h6
  obtain ⟨i2, hi2, hz6, hz7, hz8⟩ := info_parts infoStr
  have hml : m < w.heap.size := (Array.getElem?_eq_some_iff.1 h2).1
  have hrg := run_range_map (P := Tryz.prog) w 117 9 124 m es clock Tryz.underlying117 h2
  have hlen : es.toList.length = fs.length := by have := congrArg List.length h3; simpa using this
  go_enter Tryz.func56, Tryz.ntmps56
  go_wp2_with fail
  go_loopw [3] (fun v wr => ∃ (seen : Array Nat) (done : List MapEntry), wr.heap[w.heap.size]? = some (.mapIter (some m) clock seen clock) ∧ seen.toList = done.map (·.born) ∧ (∀ e ∈ done, e ∈ es.toList) ∧ (done.map (·.born)).Nodup ∧
    wr.ownsRow (w.heap.size + 1) 9 1 v done.length ((done.map fun e => keyName e.key).map encStr) ∧ Below w.heap.size w wr) (fun _ wr => leftN es w.heap.size wr)
  case atStart => exact ⟨#[], [], heap_alloc_new w _, rfl, by simp, by simp, World.ownsRow_nil _ _ _ _, (Below.refl _ _).alloc (Nat.le_refl _) _⟩
  case round =>
    obtain ⟨seen, done, hr, hsd, hdm, hdn, hv, hB⟩ := hrel
    obtain ⟨A3, c3, rfl⟩ := owns_slice hv
    have hbm : wr.heap[m]? = some (.map es clock) := (hB.block m hml).trans h2
    have hdl : done.length ≤ es.toList.length := by
      have n1 : done.Nodup := nodup_of_map _ hdn
      exact List.Nodup.length_le_of_subset n1 hdm
    rcases run_next_at (P := Tryz.prog) wr 0 w.heap.size m clock clock seen es clock hr hbm hborn (Nat.le_refl _) with ⟨h0, hrun⟩ | ⟨e, hel, w1, hw1, hrun⟩
    · have hnx : ∀ ty, (Instr.next (.pointer (some ⟨w.heap.size, 0, none⟩)) false ty).run Tryz.prog wr = .ok (.tuple #[.bool false]) wr := fun _ => hrun
      have hperm := perm_of_left hsd hdm hdn hnd h0
      have hP2 : (done.map fun e => keyName e.key).Perm (fs.map fun f => nameL f.name) := by
        have e1 : es.toList.map (fun e => keyName e.key) = fs.map fun f => nameL f.name := by
          have := congrArg (List.map fun p : Value × Value => keyName p.1) h3
          simpa [List.map_map, Function.comp_def, kvOf, keyName] using this
        rw [← e1]
        exact hperm.map _
      have hsorted : (done.map fun e => keyName e.key).mergeSort leB = namesF fs := mergeSort_of_perm hP2
      have hnl : (namesF fs).length = done.length := by rw [← hsorted]; simp
      have HSO := Lib.hid hsorted
      have HNL := Lib.hid hnl
      have hv2 : wr.ownsRow (w.heap.size + 1) 9 1 (.slice A3 done.length c3) (done.map fun e => keyName e.key).length ((done.map fun e => keyName e.key).map encStr) := by simpa using hv
      have hS := sortStrs (w.heap.size + 1) (.slice A3 done.length c3) (done.map fun e => keyName e.key) wr hv2 (by simp; omega)
      clear hperm hP2 hsorted hnl hrun hv hr hbm h2 h3 hnd hdn hnk hborn hrg hsd hdm h0 c0
      go_wp2_with fail
      (with_reducible refine hS.mono ?_)
      rintro e w5 ⟨rfl, hown5, hgr5⟩
      have hbe5 : Below w.heap.size w w5 := hB.grown hgr5 hB.size (fun q hq => by have := (hv2.lt q hq).1; omega)
      have hown6 : w5.ownsRow w.heap.size 9 1 (.slice A3 done.length c3) (namesF fs).length ((namesF fs).map encStr) := by
        have := owns_mono hown5 (Nat.le_succ w.heap.size)
        rw [HSO.out, List.length_map] at this
        rw [HNL.out]
        exact this
      clear hS hv2 hown5 hgr5 hB
      go_wp2_with fail
      go_ret
      exact ⟨_, rfl, hown6, hbe5⟩
    · obtain ⟨hemem, hns⟩ := mem_left hel
      obtain ⟨s, hs⟩ : ∃ s, e.key = .string s := by
        have : (e.key, e.val) ∈ fs.map kvOf := by rw [← h3]; exact List.mem_map.2 ⟨e, hemem, rfl⟩
        obtain ⟨f, _, hf⟩ := List.mem_map.1 this
        exact ⟨f.name, (congrArg Prod.fst hf).symm⟩
      have hr1 : w1.heap[w.heap.size]? = some (.mapIter (some m) clock seen clock) := by rcases hw1 with rfl | rfl <;> exact hr
      have hb1 : Below w.heap.size w w1 := by rcases hw1 with rfl | rfl; exact hB; exact hB.drew
      have hg1 : wr.grownBy w1 (some w.heap.size) := by rcases hw1 with rfl | rfl <;> exact ⟨rfl, rfl, rfl, Nat.le_refl _, fun _ _ _ => rfl⟩
      obtain ⟨W2, hW2⟩ : ∃ W2, W2 = ChangeMaps.setBlock w1 w.heap.size (.mapIter (some m) clock (seen.push e.born) clock) := ⟨_, rfl⟩
      have hr2 : W2.heap[w.heap.size]? = some (.mapIter (some m) clock (seen.push e.born) clock) := by rw [hW2]; exact setBlock_at hr1
      have hg2 : w1.grownBy W2 (some w.heap.size) := by rw [hW2]; exact ⟨rfl, rfl, rfl, by simp [ChangeMaps.setBlock], fun k _ hk => setBlock_ne (fun e => hk (by rw [e]))⟩
      have hB2 : Below w.heap.size w W2 := hb1.grown hg2 hb1.size (fun q hq => by cases hq; exact Nat.le_refl _)
      have hne3 : (Value.slice A3 done.length c3).ownBlock = none ∨ (Value.slice A3 done.length c3).ownBlock ≠ some w.heap.size := .inr fun he => by have := (hv.lt _ he).1; omega
      have hv2 := (hv.kept hg1 hne3).kept hg2 hne3
      have hnx : ∀ ty, (Instr.next (.pointer (some ⟨w.heap.size, 0, none⟩)) false ty).run Tryz.prog wr = .ok (.tuple #[.bool true, .string s, e.val]) W2 := fun _ => by rw [← hs, hW2]; exact hrun
      have hent : (Instr.entry (.pointer (some ⟨w.heap.size, 0, none⟩))).run Tryz.prog W2 = .ok (.tuple #[.string s, e.val]) W2 := by
        rw [← hs]
        exact run_entry_at W2 w.heap.size m clock seen es clock e hr2 ((hB2.block m hml).trans h2) hemem hnd
      have hsh := left_shrinks es seen e hel
      have HSH := Lib.hid hsh
      have HR2 := Lib.hid hr2
      have HS := Lib.hid hs
      have HNS := Lib.hid hns
      have HSD := Lib.hid hsd
      have HDN := Lib.hid hdn
      have HRR := Lib.hid hr
      clear hrun hW2 hr1 hb1 hg1 hg2 hne3 hv hbm h2 h3 hnd hnk hborn hrg c0 hB hr2 hw1 hel hsh hs hns hsd hdn hr
      go_wp2_with (at_builtin; refine wpl_stop fun W hW => ?_)
      refine Stopped.mk ?_
      subst hW
      refine wpl_gen fun W hW => ?_
      have hBW : Blk W W2.heap.size #[.string s] 9 := by rw [hW]; exact Blk.new _ _ _
      have hbW : Below W2.heap.size W2 W := by rw [hW]; exact (Below.refl _ _).alloc (Nat.le_refl _) _
      clear hW
      have hszb := hB2.size
      have hvW := owns_below hv2 hbW
      have hwl : w.heap.size < W2.heap.size := (Array.getElem?_eq_some_iff.1 HR2.out).1
      have hrW : W.heap[w.heap.size]? = some (.mapIter (some m) clock (seen.push e.born) clock) := (hbW.block _ hwl).trans HR2.out
      have hnx1 : Rd W 1 (.slice (some ⟨W2.heap.size, 0, none⟩) 1 1) 1 [.string s] := ⟨_, _, rfl, rfl, Nat.le_refl _, by unfold maxLen; omega, fun _ => ⟨_, _, rfl, fun j u hj => by
        match j, hj with
        | 0, hj => simp at hj; subst hj; exact hBW.cell rfl
        | j + 1, hj => simp at hj⟩⟩
      refine wpl_append_rd rfl (.tmp 16) (.tmp 18) 131 rfl (w.heap.size + 1) 9 i2 _ 1 16 Tryz.underlying131 hi2 hz6 hz7 hz8 rfl (by decide) _ done.length _ rfl hvW _ 1 _ rfl hnx1 (by simp [Value.oneCell']) (by unfold maxLen; omega) (by omega) (Nat.le_trans hwl hbW.size) fun v5 w5 hown5 hgr5 _ => ?_
      have hne : some w.heap.size ≠ (Value.slice A3 done.length c3).ownBlock := fun he => by have := (hvW.lt _ he.symm).1; omega
      have hr5 : w5.heap[w.heap.size]? = some (.mapIter (some m) clock (seen.push e.born) clock) := (hgr5.block _ (Nat.lt_of_lt_of_le hwl hbW.size) hne).trans hrW
      have hB5 : Below w.heap.size w w5 := (hB2.trans (hbW.mono hszb)).grown hgr5 (Nat.le_trans hszb hbW.size) (fun q hq => by have := (hvW.lt q hq).1; omega)
      have hown5' : w5.ownsRow (w.heap.size + 1) 9 1 v5 (done ++ [e]).length (((done ++ [e]).map fun e => keyName e.key).map encStr) := by
        have e1 : ((done ++ [e]).map fun e => keyName e.key).map encStr = ((done.map fun e => keyName e.key).map encStr) ++ [.string s] := by
          simp [HS.out, keyName, encStr, nameL]
        rw [e1, List.length_append]
        exact hown5
      have hsd5 : (seen.push e.born).toList = (done ++ [e]).map (·.born) := by rw [List.map_append, ← HSD.out]; simp
      have hdm5 : ∀ x ∈ done ++ [e], x ∈ es.toList := by
        intro x hx
        rcases List.mem_append.1 hx with h | h
        · exact hdm x h
        · rw [List.mem_singleton] at h; rw [h]; exact hemem
      have hdn5 : ((done ++ [e]).map (·.born)).Nodup := by
        rw [List.map_append, List.nodup_append]
        refine ⟨HDN.out, by simp, fun a ha b hb hab => ?_⟩
        simp only [List.map_cons, List.map_nil, List.mem_singleton] at hb
        rw [← HSD.out] at ha
        have h1 := HNS.out
        have h2 : seen.contains e.born = true := by rw [← hb, ← hab]; simpa using ha
        rw [h1] at h2; cases h2
      have hmeas : leftN es w.heap.size w5 < leftN es w.heap.size wr := by
        unfold leftN
        rw [hr5, HRR.out]
        exact HSH.out
      have H1 := Lib.hid hr5
      have H2 := Lib.hid hsd5
      have H3 := Lib.hid hdn5
      obtain ⟨A5, c5, rfl⟩ := owns_slice hown5'
      have hdl5 : (done ++ [e]).length = done.length + 1 := by simp
      rw [hdl5] at hown5'
      clear hv2 hbW hBW hvW hrW hnx1 hgr5 hne hr5 hown5 hsd5 hdn5 hdl5 hnx hent hB2
      go_wp2_with fail
      go_roundw
      case rel => exact ⟨seen.push e.born, done ++ [e], H1.out, H2.out, hdm5, H3.out, by simpa using hown5', hB5⟩
      case measure => exact hmeas
end Go.Proofs.YtdmdfccadjfpiaaGreat
namespace Go.Proofs.YtdmdfccadjfpiaaGreat
open Go.RowKit FreeNew
set_option maxRecDepth 100000
attribute [local go_sem] out

/-- What a tear leaves of a file's bytes. -/
def tornB (bytes : List UInt8) (sy keep bit : Nat) : List UInt8 :=
  if 0 < min keep (bytes.length - sy) ∧ bit < 8 then
    (bytes.take (sy + min keep (bytes.length - sy))).set (sy + min keep (bytes.length - sy) - 1) (UInt8.ofNat (((bytes.getD (sy + min keep (bytes.length - sy) - 1) 0).toNat) ^^^ 2 ^ bit))
  else bytes.take (sy + min keep (bytes.length - sy))
def tearCells (ts : List (Nat × Nat)) : List Value := ts.flatMap fun t => [.int .u16 t.1, .int .u16 t.2]
theorem tearCells_len (ts : List (Nat × Nat)) : (tearCells ts).length = ts.length * 2 := by
  induction ts with
  | nil => rfl
  | cons t r ih =>
    have : tearCells (t :: r) = [.int .u16 t.1, .int .u16 t.2] ++ tearCells r := rfl
    rw [this, List.length_append, ih]
    simp only [List.length_cons, List.length_nil]
    omega
theorem namesF_one (f : FileV) : namesF [f] = [nameL f.name] := by simp [namesF]
theorem diskCrashNil (v : Value) (w : World) : Calls Tryz.prog 27 #[.pointer none, v] w fun e w' => e = .returned (.tuple #[]) ∧ w' = w := by
  go_enter Tryz.func27, Tryz.ntmps27
  go_wp2_with fail
  (with_reducible refine (diskNamesNil _).mono ?_)
  rintro e w1 ⟨rfl, rfl⟩
  go_wp2_with fail
  go_loopw [13] (fun i wr => i = .int .i64 0 ∧ wr = w1) (fun _ _ => 0)
  case atStart => exact ⟨rfl, rfl⟩
  case round =>
    obtain ⟨rfl, rfl⟩ := hrel
    go_wp2_with fail
    go_end0
    exact ⟨rfl, rfl⟩

set_option maxHeartbeats 4000000 in
theorem diskCrashOne (d m : Nat) (f : FileV) (v : Value) (ts : List (Nat × Nat)) (w : World) (hD : DiskAt w d m [f]) (hv : Rd w 2 v ts.length (tearCells ts)) (hts : ts = []) :
    Calls Tryz.prog 27 #[.pointer (some ⟨d, 0, none⟩), v] w fun e w' => e = .returned (.tuple #[]) ∧
      (∃ v', DiskAt w' d m [⟨f.name, v', tornB f.bytes f.synced ((ts.getD 0 (0, 0)).1) ((ts.getD 0 (0, 0)).2), (tornB f.bytes f.synced ((ts.getD 0 (0, 0)).1) ((ts.getD 0 (0, 0)).2)).length⟩]) ∧ Mod [d, m] w w' := by
  have hN := diskNames d m [f] w hD (by show 1 ≤ 1048576; decide)
  rw [namesF_one] at hN
  obtain ⟨At, ct, rfl, t1, t2, t3, t4⟩ := hv
  unfold maxLen at t3
  obtain ⟨nT, hnT⟩ : ∃ nT, nT = ts.length := ⟨_, rfl⟩
  rw [← hnT] at t2 t4 ⊢
  have HNT := Lib.hid hnT
  clear hnT
  obtain ⟨hr0, hsy, hfl⟩ := hD.good f (.head _)
  go_enter Tryz.func27, Tryz.ntmps27
  go_wp2_with fail
  (with_reducible refine hN.mono ?_)
  rintro e w1 ⟨vn, rfl, hvn, hb1⟩
  obtain ⟨gn, cn, hgn, hgb, hgl⟩ := hvn.form (by show 0 < 1; decide)
  subst hgn
  have cn0 : w1.cell? ⟨gn, 0, none⟩ = some (.string f.name) := by
    obtain ⟨_, _, he, _, _, _, h4⟩ := rd_of_owns hvn
    cases he
    obtain ⟨_, _, he, h4⟩ := h4 (by show 0 < 1; decide)
    cases he
    exact h4 0 _ rfl
  have hD1 := hD.below hb1
  have hDlt := hD.lt
  have hgm : gn ∉ [d, m] := fun h => by have := hDlt gn h; omega
  have el : ([nameL f.name] : List (List UInt8)).length = 1 := rfl
  rw [el]
  obtain ⟨R, hR⟩ : ∃ R, R = tornB f.bytes f.synced ((ts.getD 0 (0, 0)).1) ((ts.getD 0 (0, 0)).2) := ⟨_, rfl⟩
  have HR := Lib.hid hR
  clear hN hvn hR el
  go_wp2_with fail
  go_loopw [13] (fun i wr => (i = .int .i64 0 ∧ wr = w1) ∨ (i = .int .i64 1 ∧ (∃ v', DiskAt wr d m [⟨f.name, v', R, R.length⟩]) ∧ Mod [d, m] w1 wr)) (fun i _ => 1 - (intOf i).toNat)
  case atStart => exact .inl ⟨rfl, rfl⟩
  case round =>
    rcases hrel with ⟨rfl, rfl⟩ | ⟨rfl, hv', hM⟩
    · have hD1' := hD1
      obtain ⟨⟨ca, cb, hblk⟩, ⟨es, c, h2, h3⟩, hg⟩ := hD1
      have hl := look_no h2 h3 f.name
      have hlf : lookF [f] f.name = .agg #[f.val, .int .i64 f.synced] := by simp [lookF, findF]
      rw [hlf] at hl
      have c0 := hD1'.cell0
      obtain ⟨hr1, _, _⟩ := hD1'.good f (.head _)
      have hr10 := hr1
      obtain ⟨Af, cf, hfv, hv1, hv2, hv3, _⟩ := hr1
      unfold maxLen at hv3
      rw [hfv] at hl hr10
      have HFV := Lib.hid hfv
      clear hlf hfv hv1 h2 h3 hg hblk
      by_cases ht0 : ts = []
      · subst ht0
        have hnT0 : nT = 0 := HNT.out
        have hl1 : decide (0 < nT) = false := by rw [hnT0]; rfl
        have hl2 : decide ((0 : Int) < (nT : Int)) = false := by rw [hnT0]; rfl
        clear hnT0
        have e0 : min (0 : Int) ((f.bytes.length : Int) - f.synced) = 0 := by omega
        go_wp2_with fail
        obtain ⟨W, hW⟩ : ∃ W, W = ((wr.alloc (Obj.cells #[Value.slice Af f.bytes.length cf, Value.int IntKind.i64 ↑f.synced] 124)).alloc (Obj.cells #[Value.int IntKind.u16 0, Value.int IntKind.u16 0] 68)) := ⟨_, rfl⟩
        rw [← hW]
        have hbW : Below wr.heap.size wr W := by rw [hW]; exact ((Below.refl _ _).alloc (Nat.le_refl _) _).alloc (Nat.le_trans (Nat.le_succ _) (Nat.le_of_eq (by rw [World.size_alloc]))) _
        have hBW : Blk W wr.heap.size #[.slice Af f.bytes.length cf, .int .i64 f.synced] 124 := by
          rw [hW]
          exact (Blk.new _ _ _).below ((Below.refl _ _).alloc (Nat.le_refl _) _) (Blk.new _ _ _).lt
        have hDW := hD1'.below hbW
        have hp := (hr10.below hbW).pre hsy
        rw [u8L_pre] at hp
        have hln : (f.bytes.take f.synced).length = f.synced := by simp; omega
        have hp2 : Rd W 1 (.slice Af f.synced cf) (f.bytes.take f.synced).length (u8L (f.bytes.take f.synced)) := by rw [hln]; exact hp
        have hC := clone8 _ _ W hp2 (by rw [hln]; omega)
        rw [hln] at hC
        clear hp hp2 hW
        (with_reducible refine hC.mono ?_)
        rintro e w9 ⟨v9, rfl, hv9, hb9⟩
        have hr9 := rd_of_owns hv9
        obtain ⟨A9, c9', rfl⟩ := owns_slice hv9
        have hB9 := hBW.below hb9 hBW.lt
        have hD9 := hDW.below hb9
        clear hv9 hC
        have cD := hD9.cell0
        have hD9' := hD9
        obtain ⟨⟨ca9, cb9, hblk9⟩, ⟨es9, c9, h29, h39⟩, hg9⟩ := hD9
        obtain ⟨es', clock', hup, he'⟩ := upd_run h29 h39 hD9'.stamp ⟨f.name, .slice A9 f.synced c9', f.bytes.take f.synced, f.synced⟩
        simp only at hup
        have hmd := setMap_mod w9 m (.map es' clock')
        have hat := setMap_at (o := .map es' clock') h29
        have hMb : Mod [d, m] wr w9 := Mod.of_below (hbW.trans (hb9.mono hbW.size))
        clear h29 h39 hg9 hBW hDW hbW hb9 hB9
        go_wp2_with fail
        generalize setMap w9 m (.map es' clock') = w4 at hmd hat ⊢
        have hdm := hD9'.ne
        have hblk4 := hmd.blk hblk9 (by simpa using hdm)
        have hM34 : Mod [d, m] w9 w4 := hmd.mono (by simp)
        have hR3 : Rd w9 1 (.slice A9 f.synced c9') (f.bytes.take f.synced).length (u8L (f.bytes.take f.synced)) := by rw [hln]; exact hr9
        have hD4 := hD9'.put (g := ⟨f.name, .slice A9 f.synced c9', f.bytes.take f.synced, f.synced⟩) hM34 ⟨_, _, hblk4⟩ ⟨_, _, hat, he'⟩ ⟨hD9'.rd hM34 hR3, by show f.synced ≤ (f.bytes.take f.synced).length; rw [hln]; exact Nat.le_refl _, by show (f.bytes.take f.synced).length ≤ _; rw [hln]; omega⟩
        have hM4 := hMb.trans hM34
        have hRe : R = f.bytes.take f.synced := by
          rw [HR.out]
          simp [tornB]
        have hD5 : ∃ v', DiskAt w4 d m [⟨f.name, v', R, R.length⟩] := by
          refine ⟨.slice A9 f.synced c9', ?_⟩
          rw [hRe, hln]
          have hpf : putF [f] ⟨f.name, .slice A9 f.synced c9', f.bytes.take f.synced, f.synced⟩ = [⟨f.name, .slice A9 f.synced c9', f.bytes.take f.synced, f.synced⟩] := by simp [putF]
          rw [hpf] at hD4
          exact hD4
        clear hup hblk9 hmd hblk4 hat hM34 hD9' hln hR3 hr9 hD4 e0 hRe
        go_roundw
        case rel => exact .inr ⟨rfl, hD5, hM4⟩
        case measure => decide
      · exact absurd hts ht0
    · go_wp2_with fail
      go_end0
      exact ⟨rfl, by rw [← HR.out]; exact hv', (Mod.of_below hb1).trans hM⟩
end Go.Proofs.YtdmdfccadjfpiaaGreat
namespace Go.Proofs.YtdmdfccadjfpiaaGreat
open Go.RowKit FreeNew
set_option maxRecDepth 100000
attribute [local go_sem] out

theorem diskAppendNil (s : ByteArray) (v : Value) (w : World) : Calls Tryz.prog 18 #[.pointer none, .string s, v] w fun e w' => e = .returned (.int .i64 1) ∧ w' = w := by
  go_enter Tryz.func18, Tryz.ntmps18
  go_wp2_with fail
  go_ret
  exact ⟨rfl, rfl⟩
theorem diskSyncNil (s : ByteArray) (w : World) : Calls Tryz.prog 72 #[.pointer none, .string s] w fun e w' => e = .returned (.int .i64 1) ∧ w' = w := by
  go_enter Tryz.func72, Tryz.ntmps72
  go_wp2_with fail
  go_ret
  exact ⟨rfl, rfl⟩
theorem diskCutNil (s : ByteArray) (n : Int) (w : World) : Calls Tryz.prog 71 #[.pointer none, .string s, .int .i64 n] w fun e w' => e = .returned (.int .i64 1) ∧ w' = w := by
  go_enter Tryz.func71, Tryz.ntmps71
  go_wp2_with fail
  go_ret
  exact ⟨rfl, rfl⟩
theorem diskLooseNil (s : ByteArray) (w : World) : Calls Tryz.prog 78 #[.pointer none, .string s] w fun e w' => e = .returned (.int .i64 0) ∧ w' = w := by
  go_enter Tryz.func78, Tryz.ntmps78
  go_wp2_with fail
  (with_reducible refine (diskHasNil _ _).mono ?_)
  rintro e w1 ⟨rfl, rfl⟩
  go_wp2_with fail
  go_ret
  exact ⟨rfl, rfl⟩
theorem diskSyncNone (d m : Nat) (fs : List FileV) (s : ByteArray) (w : World) (hD : DiskAt w d m fs) (hf : findF fs s = none) :
    Calls Tryz.prog 72 #[.pointer (some ⟨d, 0, none⟩), .string s] w fun e w' => e = .returned (.int .i64 14) ∧ Below w.heap.size w w' := by
  have hH := diskHas d m fs s w hD
  rw [hf] at hH
  go_enter Tryz.func72, Tryz.ntmps72
  go_wp2_with fail
  (with_reducible refine hH.mono ?_)
  rintro e w1 ⟨rfl, hb1⟩
  go_wp2_with fail
  go_ret
  exact ⟨rfl, hb1⟩
theorem wordB_bang (y : ByteArray) : wordB (y ++ ⟨#[33]⟩) 16 true = false := by
  have h : (y ++ ⟨#[33]⟩ : ByteArray).data.toList.all (fun c => okB true c.toNat) = false := by
    rw [List.all_eq_false]
    refine ⟨33, ?_, by decide⟩
    simp [ByteArray.data_append]
  simp only [wordB, h, Bool.and_false]
theorem convSame (w : World) (C : Array Value) (n c : Nat) : (convert 58 58 (.slice (some ⟨w.heap.size, 0, none⟩) n c)).run Tryz.prog (w.alloc (.cells C 5)) = .ok (.slice (some ⟨w.heap.size, 0, none⟩) n c) (w.alloc (.cells C 5 (C.size, C.size + 1))) :=
  Lib.run_convert_bytes_const w 58 5 C n c Tryz.underlying58 Tryz.underlying5
theorem cell_marked (w : World) (C : Array Value) (e : TypeId) (f : Nat × Nat) (j : Nat) (u : Value) (h : C[j]? = some u) : (w.alloc (.cells C e f)).cell? ⟨w.heap.size, j, none⟩ = some u := by
  have hh : (w.alloc (.cells C e f)).heap[w.heap.size]? = some (.cells C e f) := by
    show (w.heap.push (.cells C e f))[w.heap.size]? = _
    exact Array.getElem?_push_size
  rw [Lib.cell_of_heap hh]
  exact h
theorem rdNil2 (w : World) : Rd w 2 (.slice none 0 0) ([] : List (Nat × Nat)).length (tearCells []) := ⟨_, _, rfl, rfl, Nat.le_refl _, Nat.zero_le _, fun h => absurd h (by decide)⟩

end Go.Proofs.YtdmdfccadjfpiaaGreat
namespace Go.Proofs.YtdmdfccadjfpiaaGreat
open Go.RowKit FreeNew
set_option maxRecDepth 100000
attribute [local go_sem] out

set_option maxHeartbeats 4000000 in
theorem diskCrashTorn (d m : Nat) (f : FileV) (v : Value) (t : Nat × Nat) (r : List (Nat × Nat)) (w : World) (hD : DiskAt w d m [f]) (hv : Rd w 2 v (t :: r).length (tearCells (t :: r))) (ht1 : t.1 < 65536) (ht2 : t.2 < 65536) :
    Calls Tryz.prog 27 #[.pointer (some ⟨d, 0, none⟩), v] w fun e w' => e = .returned (.tuple #[]) ∧
      (∃ v', (∀ x ∈ rdFp v' (tornB f.bytes f.synced t.1 t.2).length, w.heap.size ≤ x) ∧ DiskAt w' d m [⟨f.name, v', tornB f.bytes f.synced t.1 t.2, (tornB f.bytes f.synced t.1 t.2).length⟩]) ∧ Mod [d, m] w w' := by
  have hN := diskNames d m [f] w hD (by show 1 ≤ 1048576; decide)
  rw [namesF_one] at hN
  obtain ⟨At, ct, rfl, t1, t2, t3, t4⟩ := hv
  unfold maxLen at t3
  obtain ⟨nT, hnT⟩ : ∃ nT, nT = (t :: r).length := ⟨_, rfl⟩
  rw [← hnT] at t2 t4 ⊢
  have HNT := Lib.hid hnT
  clear hnT
  obtain ⟨hr0, hsy, hfl⟩ := hD.good f (.head _)
  go_enter Tryz.func27, Tryz.ntmps27
  go_wp2_with fail
  (with_reducible refine hN.mono ?_)
  rintro e w1 ⟨vn, rfl, hvn, hb1⟩
  obtain ⟨gn, cn, hgn, hgb, hgl⟩ := hvn.form (by show 0 < 1; decide)
  subst hgn
  have cn0 : w1.cell? ⟨gn, 0, none⟩ = some (.string f.name) := by
    obtain ⟨_, _, he, _, _, _, h4⟩ := rd_of_owns hvn
    cases he
    obtain ⟨_, _, he, h4⟩ := h4 (by show 0 < 1; decide)
    cases he
    exact h4 0 _ rfl
  have hD1 := hD.below hb1
  have hDlt := hD.lt
  have hgm : gn ∉ [d, m] := fun h => by have := hDlt gn h; omega
  have el : ([nameL f.name] : List (List UInt8)).length = 1 := rfl
  rw [el]
  obtain ⟨R, hR⟩ : ∃ R, R = tornB f.bytes f.synced t.1 t.2 := ⟨_, rfl⟩
  have HR := Lib.hid hR
  clear hN hvn hR el
  go_wp2_with fail
  go_loopw [13] (fun i wr => (i = .int .i64 0 ∧ wr = w1) ∨ (i = .int .i64 1 ∧ (∃ v', (∀ x ∈ rdFp v' R.length, w.heap.size ≤ x) ∧ DiskAt wr d m [⟨f.name, v', R, R.length⟩]) ∧ Mod [d, m] w1 wr)) (fun i _ => 1 - (intOf i).toNat)
  case atStart => exact .inl ⟨rfl, rfl⟩
  case round =>
    rcases hrel with ⟨rfl, rfl⟩ | ⟨rfl, hv', hM⟩
    · have hD1' := hD1
      obtain ⟨⟨ca, cb, hblk⟩, ⟨es, c, h2, h3⟩, hg⟩ := hD1
      have hl := look_no h2 h3 f.name
      have hlf : lookF [f] f.name = .agg #[f.val, .int .i64 f.synced] := by simp [lookF, findF]
      rw [hlf] at hl
      have c0 := hD1'.cell0
      obtain ⟨hr1, _, _⟩ := hD1'.good f (.head _)
      have hr10 := hr1
      obtain ⟨Af, cf, hfv, hv1, hv2, hv3, _⟩ := hr1
      unfold maxLen at hv3
      rw [hfv] at hl hr10
      have HFV := Lib.hid hfv
      clear hlf hfv hv1 h2 h3 hg hblk
      have hl1 : 0 < nT := by rw [HNT.out]; simp
      obtain ⟨bt, ot, rfl, hat⟩ := t4 hl1
      have ct0 : wr.cell? ⟨bt, ot, none⟩ = some (.int .u16 t.1) := cell_later hb1 (hat 0 _ rfl)
      have ct1 : wr.cell? ⟨bt, ot + 1, none⟩ = some (.int .u16 t.2) := cell_later hb1 (hat 1 _ rfl)
      obtain ⟨K, hK⟩ : ∃ K, K = min t.1 (f.bytes.length - f.synced) := ⟨_, rfl⟩
      have e0 : min (t.1 : Int) ((f.bytes.length : Int) - f.synced) = (K : Int) := by omega
      obtain ⟨N, hN⟩ : ∃ N, N = f.synced + K := ⟨_, rfl⟩
      have hK2 : N ≤ f.bytes.length := by omega
      have eN : (f.synced : Int) + (K : Int) = (N : Int) := by omega
      have HKd := Lib.hid hK
      have HN := Lib.hid hN
      have hbX : Below wr.heap.size wr ((wr.alloc (Obj.cells #[Value.slice Af f.bytes.length cf, Value.int IntKind.i64 ↑f.synced] 124)).alloc (Obj.cells #[Value.int IntKind.u16 0, Value.int IntKind.u16 0] 68)) := ((Below.refl _ _).alloc (Nat.le_refl _) _).alloc (Nat.le_trans (Nat.le_succ _) (Nat.le_of_eq (by rw [World.size_alloc]))) _
      have cX0 := cell_later hbX ct0
      have cX1 := cell_later hbX ct1
      clear hK hN hat t4 hbX
      go_wp2_with fail
      obtain ⟨W, hW⟩ : ∃ W, W = ((wr.alloc (Obj.cells #[Value.slice Af f.bytes.length cf, Value.int IntKind.i64 ↑f.synced] 124)).alloc (Obj.cells #[Value.int IntKind.u16 t.1, Value.int IntKind.u16 t.2] 68)) := ⟨_, rfl⟩
      rw [← hW]
      have hbW : Below wr.heap.size wr W := by rw [hW]; exact ((Below.refl _ _).alloc (Nat.le_refl _) _).alloc (Nat.le_trans (Nat.le_succ _) (Nat.le_of_eq (by rw [World.size_alloc]))) _
      have hTW : Blk W (wr.heap.size + 1) #[.int .u16 t.1, .int .u16 t.2] 68 := by
        rw [hW]
        have := Blk.new (wr.alloc (Obj.cells #[Value.slice Af f.bytes.length cf, Value.int IntKind.i64 ↑f.synced] 124)) #[.int .u16 t.1, .int .u16 t.2] 68
        rw [World.size_alloc] at this
        exact this
      have hDW := hD1'.below hbW
      have hp := (hr10.below hbW).pre hK2
      rw [u8L_pre] at hp
      have hLN : (f.bytes.take N).length = N := by simp; omega
      have hp2 : Rd W 1 (.slice Af N cf) (f.bytes.take N).length (u8L (f.bytes.take N)) := by rw [hLN]; exact hp
      have hC := clone8 _ _ W hp2 (by rw [hLN]; omega)
      rw [hLN] at hC
      clear hp hp2 hW cX0 cX1 ct0 ct1
      (with_reducible refine hC.mono ?_)
      rintro e wz ⟨v9, rfl, hv9, hb9⟩
      have hfr9 : ∀ x ∈ rdFp v9 R.length, w.heap.size ≤ x := fresh_val fun q hq => Nat.le_trans (Nat.le_trans hb1.size hbW.size) (owns_ge hv9 q hq)
      have hTz := hTW.below hb9 hTW.lt
      have cT1 : wz.cell? ⟨wr.heap.size + 1, 1, none⟩ = some (.int .u16 t.2) := hTz.cell rfl
      clear hC
      by_cases hK0 : K = 0
      · obtain ⟨A9, c9', rfl⟩ := owns_slice hv9
        have hDz := hDW.below hb9
        have hMz : Mod [d, m] wr wz := Mod.of_below (hbW.trans (hb9.mono hbW.size))
        have hrz : Rd wz 1 (.slice A9 N c9') (f.bytes.take N).length (u8L (f.bytes.take N)) := by rw [hLN]; exact rd_of_owns hv9
        have hRe : R = f.bytes.take N := by
          rw [HR.out]; unfold tornB; rw [← HKd.out, if_neg (by omega), HN.out]
        have k1 : decide ((0 : Int) < (K : Int)) = false := by rw [hK0]; rfl
        have k2 : decide (0 < K) = false := by rw [hK0]; rfl
        clear hK0 hv9 hb9 hTz hTW hDW e0 hbW
        have cD := hDz.cell0
        have hDz' := hDz
        obtain ⟨⟨ca9, cb9, hblk9⟩, ⟨es9, c9, h29, h39⟩, hg9⟩ := hDz
        obtain ⟨es', clock', hup, he'⟩ := upd_run h29 h39 hDz'.stamp ⟨f.name, .slice A9 N c9', f.bytes.take N, N⟩
        simp only at hup
        have hmd := setMap_mod wz m (.map es' clock')
        have hat := setMap_at (o := .map es' clock') h29
        clear h29 h39 hg9
        go_wp2_with fail
        generalize setMap wz m (.map es' clock') = w4 at hmd hat ⊢
        have hdm := hDz'.ne
        have hblk4 := hmd.blk hblk9 (by simpa using hdm)
        have hM34 : Mod [d, m] wz w4 := hmd.mono (by simp)
        have hD4 := hDz'.put (g := ⟨f.name, .slice A9 N c9', f.bytes.take N, N⟩) hM34 ⟨_, _, hblk4⟩ ⟨_, _, hat, he'⟩ ⟨hDz'.rd hM34 hrz, by show N ≤ (f.bytes.take N).length; rw [hLN]; exact Nat.le_refl _, by show (f.bytes.take N).length ≤ _; rw [hLN]; omega⟩
        have hM4 := hMz.trans hM34
        have hD5 : ∃ v', (∀ x ∈ rdFp v' R.length, w.heap.size ≤ x) ∧ DiskAt w4 d m [⟨f.name, v', R, R.length⟩] := by
          refine ⟨.slice A9 N c9', hfr9, ?_⟩
          rw [hRe, hLN]
          have hpf : putF [f] ⟨f.name, .slice A9 N c9', f.bytes.take N, N⟩ = [⟨f.name, .slice A9 N c9', f.bytes.take N, N⟩] := by simp [putF]
          rw [hpf] at hD4
          exact hD4
        clear hup hblk9 hmd hblk4 hat hM34 hDz' hrz hD4 hRe
        go_roundw
        case rel => exact .inr ⟨rfl, hD5, hM4⟩
        case measure => decide
      by_cases hb8 : t.2 < 8
      · have hN0 : 0 < N := by have := HN.out; omega
        obtain ⟨g, cap, hgv, hgb, hglt⟩ := hv9.form hN0
        subst hgv
        obtain ⟨i9, hi9⟩ : ∃ i9, N = i9 + 1 := ⟨N - 1, by omega⟩
        have ei : (N : Int) - 1 = (i9 : Int) := by omega
        have li : (i9 : Int) < (N : Int) := by omega
        have hiN : i9 < N := by omega
        have wk : IntKind.i64.wrap (i9 : Int) = (i9 : Int) := by
          have h9 : i9 < 2097152 := by omega
          simp [IntKind.wrap, IntKind.signed, IntKind.bits]
          omega
        have li0 : (0 : Int) ≤ (i9 : Int) := by omega
        obtain ⟨x, hx⟩ : ∃ x, (f.bytes.take N)[i9]? = some x := ⟨_, List.getElem?_eq_getElem (by rw [hLN]; omega)⟩
        have cg : wz.cell? ⟨g, i9, none⟩ = some (.int .u8 x.toNat) := by
          rw [hv9.cellAt i9 (by omega)]
          show (u8L (f.bytes.take N))[i9]? = _
          rw [u8L, List.getElem?_map, hx]; rfl
        have fg := hv9.frozenAt i9
        have F : ∀ w', Below wz.heap.size wz w' → w'.cell? ⟨g, i9, none⟩ = some (.int .u8 x.toNat) ∧ w'.cell? ⟨wr.heap.size + 1, 1, none⟩ = some (.int .u16 t.2) := fun w' h => ⟨cell_later h cg, cell_later h cT1⟩
        have hx8 := x.toNat_lt
        obtain ⟨p2, hp2⟩ : ∃ p2, p2 = 2 ^ t.2 := ⟨_, rfl⟩
        have lp2 : p2 < 256 := by rw [hp2]; calc 2 ^ t.2 ≤ 2 ^ 7 := Nat.pow_le_pow_right (by decide) (by omega)
                                     _ < 256 := by decide
        have ep : IntKind.u8.wrap ((2 : Int) ^ t.2) = (p2 : Int) := by
          have q : ((2 : Int) ^ t.2) = (p2 : Int) := by rw [hp2]; simp
          rw [q]
          simp [IntKind.wrap, IntKind.signed, IntKind.bits]
          omega
        obtain ⟨y, hy⟩ : ∃ y, y = x.toNat ^^^ p2 := ⟨_, rfl⟩
        have ly : y < 256 := by rw [hy]; exact Nat.xor_lt_two_pow (n := 8) (by omega) (by omega)
        have ey : bits .xor .u8 (x.toNat : Int) (p2 : Int) = (y : Int) := by rw [hy]; exact u8_xor_nat x.toNat p2 (by omega) (by omega)
        have k1 : 0 < K := by omega
        have k2 : decide ((t.2 : Int) < 8) = true := by simp; omega
        have HX := Lib.hid hx
        have HY := Lib.hid hy
        have HP := Lib.hid hp2
        have HI := Lib.hid hi9
        clear hx hy hp2 hi9 e0 hTW
        go_wp2_with fail
        refine region_free (fun w' => Below wz.heap.size wz w') [] [11] [0, 1, 2, 3, 4, 5, 6, 7, 8, 9, 10] (by kernel_rfl) (by kernel_rfl) (by kernel_rfl) (Below.refl _ _).drew ?_
        repeat (first
          | (refine RelSeq.pure_ (c := ?_) rfl rfl ?_ ?_; rotate_left; (focus (intro x w'; dsimp only; go_simp; (repeat' apply And.intro) <;> first | with_reducible rfl | assumption)); simp only [Act.put, List.setIfInBounds_toArray, List.set_cons_zero, List.set_cons_succ])
          | (refine RelSeq.skip_ rfl (fun _ => rfl) ?_; simp only [Act.put, List.setIfInBounds_toArray, List.set_cons_zero, List.set_cons_succ])
          | (refine RelSeq.pureG_ (c := ?_) rfl (fun _ => rfl) rfl ?_ ?_; rotate_left; (focus (intro x w'; dsimp only; go_simp; (repeat' apply And.intro) <;> first | with_reducible rfl | assumption)); simp only [Act.put, List.setIfInBounds_toArray, List.set_cons_zero, List.set_cons_succ])
          | (refine RelSeq.grow_ (c := ?_) rfl rfl ?_ ?_; rotate_left; (focus (intro x w' hw _; dsimp only; obtain ⟨d0, d1⟩ := F w' hw; have hbr := Below.refl w'.heap.size w'; go_simp; (repeat' apply And.intro) <;> first | with_reducible rfl | assumption)); simp only [Act.put, List.setIfInBounds_toArray, List.set_cons_zero, List.set_cons_succ])
          | (refine RelSeq.growG_ (c := ?_) rfl (fun _ => rfl) rfl ?_ ?_; rotate_left; (focus (intro x w' hw _; dsimp only; obtain ⟨d0, d1⟩ := F w' hw; have hbr := Below.refl w'.heap.size w'; go_simp; (repeat' apply And.intro) <;> first | with_reducible rfl | assumption)); simp only [Act.put, List.setIfInBounds_toArray, List.set_cons_zero, List.set_cons_succ]))
        refine RelSeq.nil_ fun x_ w3 hw3 hfa _ => ?_
        have hv3 := (Mod.of_below (S := []) hw3).owns hv9 (by simp)
        have c3 := (F w3 hw3).1
        have f3 := hv3.frozenAt i9
        clear F hfa fg cg
        refine TailSeq.cons_ rfl ?_
        go_simp
        refine TailSeq.nil_ ?_
        obtain ⟨wY, hwY⟩ : ∃ wY, wY = w3.setCell ⟨g, i9, none⟩ (.int .u8 y) := ⟨_, rfl⟩
        rw [← hwY]
        obtain ⟨L, hL⟩ : ∃ L : List UInt8, L = (f.bytes.take N).set i9 (UInt8.ofNat y) := ⟨_, rfl⟩
        have hvY : wY.ownsRow W.heap.size 5 1 (.slice (some ⟨g, 0, none⟩) N cap) N (u8L L) := by
          have h := (hv3.stored i9 (.int .u8 y)).1
          have e : (u8L (f.bytes.take N)).set i9 (.int .u8 y) = u8L L := by
            rw [hL]
            unfold u8L
            rw [List.map_set]
            have : (UInt8.ofNat y).toNat = y := by rw [UInt8.toNat_ofNat', Nat.mod_eq_of_lt ly]
            rw [this]
          rw [e] at h
          rw [hwY]
          exact h
        have hB3 : Below W.heap.size W w3 := hb9.trans (hw3.mono hb9.size)
        have hBY : Below W.heap.size W wY := by rw [hwY]; exact hB3.grown (grown_set g i9 _) hB3.size (fun q hq => by cases hq; exact hgb)
        have hLN : L.length = N := by rw [hL, List.length_set]; exact hLN
        have hDz := hDW.below hBY
        have hMz : Mod [d, m] wr wY := Mod.of_below (hbW.trans (hBY.mono hbW.size))
        have hrz : Rd wY 1 (.slice (some ⟨g, 0, none⟩) N cap) L.length (u8L L) := by rw [hLN]; exact rd_of_owns hvY
        have hRe : R = L := by
          have hx := HX.out
          rw [List.getElem?_take, if_pos hiN] at hx
          rw [HR.out]; unfold tornB; rw [← HKd.out, if_pos ⟨k1, hb8⟩, ← HN.out, HI.out, Nat.add_sub_cancel, ← HI.out, List.getD_eq_getElem?_getD, hx, hL, HY.out, HP.out]; rfl
        clear hvY hB3 hBY hwY hL hv9 hb9 hTz hDW hbW hv3 c3 f3 hw3 cT1 hgb hglt ey ep ly lp2 hx8 ei li li0 wk hb8 hK0
        have cD := hDz.cell0
        have hDz' := hDz
        obtain ⟨⟨ca9, cb9, hblk9⟩, ⟨es9, c9, h29, h39⟩, hg9⟩ := hDz
        obtain ⟨es', clock', hup, he'⟩ := upd_run h29 h39 hDz'.stamp ⟨f.name, .slice (some ⟨g, 0, none⟩) N cap, L, N⟩
        simp only at hup
        have hmd := setMap_mod wY m (.map es' clock')
        have hat := setMap_at (o := .map es' clock') h29
        clear h29 h39 hg9
        go_wp2_with fail
        generalize setMap wY m (.map es' clock') = w4 at hmd hat ⊢
        have hdm := hDz'.ne
        have hblk4 := hmd.blk hblk9 (by simpa using hdm)
        have hM34 : Mod [d, m] wY w4 := hmd.mono (by simp)
        have hD4 := hDz'.put (g := ⟨f.name, .slice (some ⟨g, 0, none⟩) N cap, L, N⟩) hM34 ⟨_, _, hblk4⟩ ⟨_, _, hat, he'⟩ ⟨hDz'.rd hM34 hrz, by show N ≤ (L).length; rw [hLN]; exact Nat.le_refl _, by show (L).length ≤ _; rw [hLN]; omega⟩
        have hM4 := hMz.trans hM34
        have hD5 : ∃ v', (∀ x ∈ rdFp v' R.length, w.heap.size ≤ x) ∧ DiskAt w4 d m [⟨f.name, v', R, R.length⟩] := by
          refine ⟨.slice (some ⟨g, 0, none⟩) N cap, hfr9, ?_⟩
          rw [hRe, hLN]
          have hpf : putF [f] ⟨f.name, .slice (some ⟨g, 0, none⟩) N cap, L, N⟩ = [⟨f.name, .slice (some ⟨g, 0, none⟩) N cap, L, N⟩] := by simp [putF]
          rw [hpf] at hD4
          exact hD4
        clear hup hblk9 hmd hblk4 hat hM34 hDz' hrz hD4 hRe
        go_roundw
        case rel => exact .inr ⟨rfl, hD5, hM4⟩
        case measure => decide

      · obtain ⟨A9, c9', rfl⟩ := owns_slice hv9
        have hDz := hDW.below hb9
        have hMz : Mod [d, m] wr wz := Mod.of_below (hbW.trans (hb9.mono hbW.size))
        have hrz : Rd wz 1 (.slice A9 N c9') (f.bytes.take N).length (u8L (f.bytes.take N)) := by rw [hLN]; exact rd_of_owns hv9
        have hRe : R = f.bytes.take N := by
          rw [HR.out]; unfold tornB; rw [← HKd.out, if_neg (by omega), HN.out]
        have k1 : 0 < K := by omega
        have k2 : decide ((t.2 : Int) < 8) = false := by simp; omega
        clear hK0 hb8 hv9 hb9 hTz hTW hDW e0 hbW
        have cD := hDz.cell0
        have hDz' := hDz
        obtain ⟨⟨ca9, cb9, hblk9⟩, ⟨es9, c9, h29, h39⟩, hg9⟩ := hDz
        obtain ⟨es', clock', hup, he'⟩ := upd_run h29 h39 hDz'.stamp ⟨f.name, .slice A9 N c9', f.bytes.take N, N⟩
        simp only at hup
        have hmd := setMap_mod wz m (.map es' clock')
        have hat := setMap_at (o := .map es' clock') h29
        clear h29 h39 hg9
        go_wp2_with fail
        generalize setMap wz m (.map es' clock') = w4 at hmd hat ⊢
        have hdm := hDz'.ne
        have hblk4 := hmd.blk hblk9 (by simpa using hdm)
        have hM34 : Mod [d, m] wz w4 := hmd.mono (by simp)
        have hD4 := hDz'.put (g := ⟨f.name, .slice A9 N c9', f.bytes.take N, N⟩) hM34 ⟨_, _, hblk4⟩ ⟨_, _, hat, he'⟩ ⟨hDz'.rd hM34 hrz, by show N ≤ (f.bytes.take N).length; rw [hLN]; exact Nat.le_refl _, by show (f.bytes.take N).length ≤ _; rw [hLN]; omega⟩
        have hM4 := hMz.trans hM34
        have hD5 : ∃ v', (∀ x ∈ rdFp v' R.length, w.heap.size ≤ x) ∧ DiskAt w4 d m [⟨f.name, v', R, R.length⟩] := by
          refine ⟨.slice A9 N c9', hfr9, ?_⟩
          rw [hRe, hLN]
          have hpf : putF [f] ⟨f.name, .slice A9 N c9', f.bytes.take N, N⟩ = [⟨f.name, .slice A9 N c9', f.bytes.take N, N⟩] := by simp [putF]
          rw [hpf] at hD4
          exact hD4
        clear hup hblk9 hmd hblk4 hat hM34 hDz' hrz hD4 hRe
        go_roundw
        case rel => exact .inr ⟨rfl, hD5, hM4⟩
        case measure => decide
    · go_wp2_with fail
      go_end0
      exact ⟨rfl, by rw [← HR.out]; exact hv', (Mod.of_below hb1).trans hM⟩
end Go.Proofs.YtdmdfccadjfpiaaGreat
