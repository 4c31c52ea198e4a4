/-
  copy of a slice that can be read, over a whole block of the call's own.
-/
import Derived.Test.YtdmdfccadjfpiaaGreatApp
import Derived.Laws.CopyOwn
import Derived.Deep.OwnRows
namespace Go.Proofs.YtdmdfccadjfpiaaGreat
open Go.RowKit
set_option maxRecDepth 100000

theorem wpl_stop_copy {P : Program} {ops : Array Oper} {rest : List Oper} {o : Oper} {a : Act} {w : World} {Q : Exit → Act → World → Prop} {d s : Operand} {dT sT : TypeId}
    (_ho : o.op = .call { callee := .builtin .copy, args := #[d, s], argTypes := #[dT, sT] }) (h : ∀ w', w' = w → Stopped (wpList P ops Q (o :: rest) a w')) : wpList P ops Q (o :: rest) a w := h w rfl
theorem wpl_copy_rd {P : Program} {w : World} {ops : Array Oper} {rest : List Oper} {o : Oper} {a : Act} {Q : Exit → Act → World → Prop} (hgd : o.guard = none) (d s : Operand) (dT sT : TypeId)
    (ho : o.op = .call { callee := .builtin .copy, args := #[d, s], argTypes := #[dT, sT] }) (e : TypeId) (hu : P.underlying dT = some (.slice e)) (hsz : (P.info? e).map (·.size) = some 1)
    (g n : Nat) (hd : a.eval d = .slice (some ⟨g, 0, none⟩) n n) (cur : Array Value) (t : TypeId) (hB : Blk w g cur t) (hcur : cur.size = n)
    (xv : Value) (news : List Value) (hs : a.eval s = xv) (hr : Rd w 1 xv n news) (h1 : ∀ u ∈ news, u.oneCell' = true)
    (h : ∀ w', Blk w' g news.toArray t → Below g w w' → wpList P ops Q rest (a.put o.dst (.int .i64 n)) w') : wpList P ops Q (o :: rest) a w := by
  obtain ⟨A, c, rfl, hl, h2, h3, h4⟩ := hr
  have hcl : cur.toList.length = n := by simpa using hcur
  refine wpList_copy_splice hgd d s dT sT ho e hu hsz (some ⟨g, 0, none⟩) A n n n c hd hs g 0 cur.toList t hB news (by simpa using hl) (fun hp => ⟨rfl, ?_⟩) (by omega) h1 g w (Below.refl _ _) (Nat.le_refl _) ?_
  · obtain ⟨b, o', hA, hat⟩ := h4 (by omega)
    refine ⟨_, hA, fun j v hj => ?_⟩
    have : (⟨b, o', none⟩ : Addr).add j = ⟨b, o' + j, none⟩ := by unfold Addr.add; split <;> simp_all
    rw [this]
    exact hat j v hj
  · intro w' hg' hb
    have hg' := hg'.out
    have e1 : splice cur.toList 0 news = news := by
      unfold splice
      rw [List.take_zero, List.nil_append, List.drop_eq_nil_of_le (by omega), List.append_nil]
    rw [e1] at hg'
    have e2 : goInt (news.length : Int) = .int .i64 n := by
      have : news.length = n := by omega
      rw [this]; unfold maxLen at h3
      rfl
    rw [e2]
    exact h w' hg' hb
end Go.Proofs.YtdmdfccadjfpiaaGreat
