/-
  What the law ViewItems says: texts put together; items without their labels' memory; small items as they are handed in.
-/
import Derived.Test.YtdghpjkjhlankaaSmall4
import Derived.Test.YtdghpjkjhlankaaLedger
namespace Go.Proofs.Ytdghpjkjhlankaa
open Go.RowKit
set_option maxRecDepth 100000

structure ItV.fit (a : ItV) : Prop where
  o : a.o < 256
  sq : a.sq < 18446744073709551616
  tm : a.tm < 18446744073709551616
  ru : a.ru.size ≤ 1048576
  pz : (textL a.ps).length ≤ 100000000
  st : a.st < 256
  pr : a.pr < 256
  va : -9223372036854775808 ≤ a.va ∧ a.va ≤ 9223372036854775807
  go : a.go < 256
  gf : a.gf < 18446744073709551616
  gt : a.gt < 18446744073709551616
theorem ItV.fit.ok {a : ItV} {w : World} (h : a.fit) (hr : Rd w 2 a.lv a.ps.length (pairCells a.ps)) : a.ok w := ⟨h.o, h.sq, h.tm, h.ru, hr, h.pz, h.st, h.pr, h.va, h.go, h.gf, h.gt⟩
theorem ItV.ok.fit {a : ItV} {w : World} (h : a.ok w) : a.fit := ⟨h.o, h.sq, h.tm, h.ru, h.pz, h.st, h.pr, h.va, h.go, h.gf, h.gt⟩
structure Sm11 where
  gap : Bool
  o : Nat
  p : Nat
  ow : Nat
  sq : Nat
  mo : Nat
  ti : Nat
  ru : Nat
  la : Nat
  va : Nat
  stb : Bool
def sm11 (s : Sm11) : List Value := [.bool s.gap, .int .u8 s.o, .int .u8 s.p, .int .u8 s.ow, .int .u16 s.sq, .int .u16 s.mo, .int .u16 s.ti, .int .u8 s.ru, .int .u8 s.la, .int .u8 s.va, .bool s.stb]
structure Sm11.ok (s : Sm11) : Prop where
  o : s.o < 256
  p : s.p < 256
  ow : s.ow < 256
  sq : s.sq < 65536
  mo : s.mo < 65536
  ti : s.ti < 65536
  ru : s.ru < 256
  la : s.la < 256
  va : s.va < 256
theorem smallItem (s : Sm11) (w : World) (h : s.ok) :
    Calls Try.prog 19 #[.agg #[.bool s.gap, .int .u8 s.o, .int .u8 s.p, .int .u8 s.ow, .int .u16 s.sq, .int .u16 s.mo, .int .u16 s.ti, .int .u8 s.ru, .int .u8 s.la, .int .u8 s.va, .bool s.stb]] w fun e w' => ∃ (a : ItV) (Al : Option Addr) (cl : Nat), e = .returned (.agg #[.bool a.gap, .int .u8 a.o, .int .u64 a.sq, .int .u64 a.tm, .string a.ru, .slice Al a.ps.length cl, .int .u8 a.st, .int .u8 a.pr, .int .i64 a.va, .int .u8 a.ow, .int .u8 a.go, .int .u64 a.gf, .int .u64 a.gt]) ∧ a.lv = .slice Al a.ps.length cl ∧ w'.ownsRow w.heap.size 81 2 (.slice Al a.ps.length cl) a.ps.length (pairCells a.ps) ∧ a.fit ∧ Below w.heap.size w w' := by
  obtain ⟨gap, o, p, ow, sq, mo, ti, ru, la, va, stb⟩ := s
  obtain ⟨h1, h2, h3, h4, h5, h6, h7, h8, h9⟩ := h
  cases gap
  · refine (smallItem_event o p ow sq mo ti ru la va stb w h1 h2 h3 h4 h6 h7 h8 h9).mono ?_
    rintro e w' ⟨a, rfl, hr, hok, hb⟩
    obtain ⟨A, c, e⟩ := owns_slice hr
    refine ⟨a, A, c, by rw [e], e, by rwa [e] at hr, hok.fit, hb⟩
  · refine (smallItem_gap o p ow sq mo ti ru la va stb w h1 h4 h5).mono ?_
    rintro e w' ⟨o32, f, t, l1, l2, l3, rfl, hb⟩
    refine ⟨⟨true, 0, 0, 0, ⟨#[]⟩, .slice none 0 0, [], 0, 0, 0, 0, o32, f, t⟩, none, 0, rfl, rfl, World.ownsRow_nil w' w.heap.size _ _, ⟨(by decide : 0 < 256), (by decide : 0 < 18446744073709551616), (by decide : 0 < 18446744073709551616), (by decide : (⟨#[]⟩ : ByteArray).size ≤ 1048576), (by decide : (textL []).length ≤ 100000000), (by decide : 0 < 256), (by decide : 0 < 256), (by decide : (-9223372036854775808 : Int) ≤ 0 ∧ (0 : Int) ≤ 9223372036854775807), by dsimp only; omega, by dsimp only; omega, by dsimp only; omega⟩, hb⟩
theorem gap_text (names : List ByteArray) (o f t : Nat) : originB names o ++ ⟨#[32]⟩ ++ decB f ++ (⟨#[32, 116, 111, 32]⟩ ++ decB t ++ ⟨#[32, 101, 118, 105, 99, 116, 101, 100]⟩) = gapB names o f t := by
  unfold gapB
  simp only [ByteArray.append_assoc]
theorem event_text (names : List ByteArray) (o sq tm : Nat) (ru : ByteArray) (ps : List (ByteArray × ByteArray)) (st : Int) (pr : Nat) (va : Int) :
    originB names o ++ ⟨#[32]⟩ ++ decB sq ++ (⟨#[32, 97, 116, 32]⟩ ++ decB tm ++ ⟨#[32]⟩ ++ ru ++ ⟨#[123]⟩ ++ ⟨(textL ps).toArray⟩ ++ ⟨#[125, 32]⟩ ++ stateB st ++ ⟨#[32, 112, 114, 105, 111, 32]⟩ ++ decB pr ++ ⟨#[32, 118, 97, 108, 117, 101, 32]⟩ ++ sdecB va) = eventB names o sq tm ru ps st pr va := by
  unfold eventB
  simp only [ByteArray.append_assoc]
theorem owns_blkN {w : World} {g base n size : Nat} {cs : Array Value} {e : TypeId} (h : Blk w g cs e) (hb : base ≤ g) (hm : n ≤ maxLen) (hs : cs.size = n * size) : w.ownsRow base e size (.slice (some ⟨g, 0, none⟩) n n) n cs.toList :=
  ⟨by simpa using hs, .inr ⟨g, n, cs, rfl, hb, h, Nat.le_refl _, hm, hs, by rw [← hs, ← Array.length_toList, List.take_length]⟩⟩
theorem infoEntry : (Try.prog.info? 68).map (fun i => (i.zero, i.size, i.bytes)) = some (some (.agg #[.int .u64 0, .bool false, .int .u8 0, .int .u64 0, .int .u64 0, .string ⟨#[]⟩, .slice none 0 0, .int .u8 0, .int .u8 0, .int .i64 0, .int .u8 0, .int .u8 0, .int .u64 0, .int .u64 0]), 14, 128) := by kernel_rfl
end Go.Proofs.Ytdghpjkjhlankaa
