/-
  The quota of a node (the closure in watchfirelaw24.Size.Topo).
-/
import Derived.Test.YtdghpjkjhlankaaTopo
import Derived.Test.YtdghpjkjhlankaaBut
import Derived.IntWalk
namespace Go.Proofs.Ytdghpjkjhlankaa
open Go.RowKit
set_option maxRecDepth 100000

def u16s (l : List Nat) : List Value := l.map fun n => .int .u16 (n : Nat)
def quotaL (Q : List Nat) (i : Nat) : Nat := match Q[i]? with
  | some n => 100 + n % 600
  | none => 1000
theorem quotaAny (s0 s1 v s3 s4 s5 s6 s7 s8 s9 s10 : Value) (Q : List Nat) (b : Nat) (i : Nat) (w : World) (hr : Rd w 1 v Q.length (u16s Q)) (hB : Blk w b #[s0, s1, v, s3, s4, s5, s6, s7, s8, s9, s10] 40) :
    Calls Try.prog 25 #[.int .i64 i, .pointer (some ⟨b, 0, none⟩)] w fun e w' => e = .returned (.int .i64 (quotaL Q i : Nat)) ∧ w = w' := by
  obtain ⟨A, c, rfl, h1, h2, h3, h4⟩ := hr
  unfold maxLen at h3
  have c2 := hB.cell (j := 2) (v := .slice A Q.length c) rfl
  by_cases hlt : i < Q.length
  · obtain ⟨n, hn⟩ : ∃ n, Q[i]? = some n := ⟨_, List.getElem?_eq_getElem hlt⟩
    obtain ⟨g, o, rfl, hat⟩ := h4 (by omega)
    have c0 : w.cell? ⟨g, o + i, none⟩ = some (.int .u16 (n : Nat)) := hat i _ (by unfold u16s; rw [List.getElem?_map, hn]; rfl)
    have hq : quotaL Q i = 100 + n % 600 := by unfold quotaL; rw [hn]
    rw [hq]
    obtain ⟨m, hm⟩ : ∃ m, m = n % 600 := ⟨_, rfl⟩
    have t1 : (n : Int).tmod 600 = (m : Int) := by rw [hm]; rfl
    have w1 : IntKind.i64.wrap (m : Int) = (m : Int) := IntWalk.i64_in _ (by omega)
    have w2 : IntKind.i64.wrap (100 + (m : Int)) = 100 + (m : Int) := IntWalk.i64_in _ (by omega)
    rw [← hm]
    have hmlt : m < 600 := by omega
    clear hq hm hn hat h4 h1 hB
    go_enter Try.func25, Try.ntmps25
    go_wp2_with fail
    go_ret
    exact ⟨rfl, rfl⟩
  · have hq : quotaL Q i = 1000 := by unfold quotaL; rw [List.getElem?_eq_none (by omega)]
    rw [hq]
    clear hq hB
    go_enter Try.func25, Try.ntmps25
    go_wp2_with fail
    go_ret
    exact ⟨rfl, rfl⟩
end Go.Proofs.Ytdghpjkjhlankaa
