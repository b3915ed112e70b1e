/- strconv.FormatInt at base 10, strconv.Itoa, stringslite.Index at one byte, strconv.ParseInt at base 10: the shelf's contracts in the print's form. Their conditions: the listed variables as they were laid. -/
import Derived.Test.YtnndaackjgnhhaaDoorShelf
import Derived.Test.YtnndaackjgnhhaaDoorGlob
import Derived.Test.YtnndaackjgnhhaaDoorWw
import Derived.Lib.AppendIntMem
import Derived.Lib.AtoiErrMem
namespace Go.Proofs.YtnndaackjgnhhaaDoor
open Go Go.RowKit Flat Go.Proofs.YtnndaackjgnhhaaDoorW.PrintWords
set_option linter.unusedVariables false
theorem tab10 {w : World} {l : List Nat} (hG : Glob l w) (hs : l.contains 5 = true) : Lib.TabIs Tryd.prog w "internal/strconv.uint64pow10" .u64 Lib.pow10Tab := by
  obtain ⟨t, h⟩ := hG.v5 hs
  unfold Lib.TabIs World.var?
  rw [show Tryd.prog.globalNamed "internal/strconv.uint64pow10" = some 5 from by kernel_rfl, Option.bind_some, h]
  exact congrArg some (by kernel_rfl)
def strconv_FormatInt.f (a0 a1 : Int) : Option ByteArray := if a1 = 10 ∧ -9223372036854775808 ≤ a0 ∧ a0 ≤ 9223372036854775807 then some ⟨(Lib.itoa a0).toArray⟩ else none
theorem strconv_FormatInt.calls (a0 a1 : Int) (r : ByteArray) (w : World) (hG : Glob [5] w) (h : strconv_FormatInt.f a0 a1 = some r) :
    Calls Tryd.prog 43 #[.int .i64 a0, .int .i64 a1] w fun e w' => e = .returned (.string r) ∧ Below w.heap.size w w' := by
  unfold strconv_FormatInt.f at h
  split at h
  · rename_i hc
    obtain ⟨rfl, h0, h1⟩ := hc
    cases h
    refine (Tryd.strconv_FormatInt_10 a0 h0 h1 w (tab10 hG rfl)).mono ?_
    rintro e w' ⟨rfl, k, os, rfl⟩
    exact ⟨rfl, Lib.below_grow _ _ (Nat.le_refl _) _ _⟩
  · cases h
def strconv_Itoa.f (a0 : Int) : Option ByteArray := if -9223372036854775808 ≤ a0 ∧ a0 ≤ 9223372036854775807 then some ⟨(Lib.itoa a0).toArray⟩ else none
theorem strconv_Itoa.calls (a0 : Int) (r : ByteArray) (w : World) (hG : Glob [5] w) (h : strconv_Itoa.f a0 = some r) :
    Calls Tryd.prog 44 #[.int .i64 a0] w fun e w' => e = .returned (.string r) ∧ Below w.heap.size w w' := by
  unfold strconv_Itoa.f at h
  split at h
  · rename_i hc
    obtain ⟨h0, h1⟩ := hc
    cases h
    refine (Tryd.strconv_Itoa a0 h0 h1 w (tab10 hG rfl)).mono ?_
    rintro e w' ⟨rfl, k, os, rfl⟩
    exact ⟨rfl, Lib.below_grow _ _ (Nat.le_refl _) _ _⟩
  · cases h
def stringslite_Index.f (a0 a1 : ByteArray) : Option Int := match a1.data.toList with | [c] => some (Lib.indexByte a0.data.toList c) | _ => none
theorem stringslite_Index.calls (a0 a1 : ByteArray) (r : Int) (w : World) (h : stringslite_Index.f a0 a1 = some r) :
    Calls Tryd.prog 64 #[.string a0, .string a1] w fun e w' => e = .returned (.int .i64 r) ∧ Drawn0 w w' := by
  unfold stringslite_Index.f at h
  split at h
  · rename_i c hc
    cases h
    obtain rfl : a1 = ⟨#[c]⟩ := by
      obtain ⟨⟨l⟩⟩ := a1
      simp only at hc
      subst hc
      rfl
    refine (Tryd.stringslite_Index_one a0 c w).mono ?_
    rintro e w' ⟨rfl, rfl⟩
    exact ⟨rfl, Drawn0.refl _⟩
  · cases h
/-- strconv.ParseInt(s, 10, 64): what it tells; the test of its error. -/
def parsed (s : ByteArray) : Int × Bool := match Lib.parseIntB 64 s.data.toList with | .ok v => (v, true) | .range => (Lib.intSat 64 s.data.toList, false) | _ => (0, false)
theorem parse_calls (s : ByteArray) (hs : s.size ≤ 281474976710656) (w : World) (hG : Glob [3, 4] w) :
    Calls Tryd.prog 41 #[.string s, .int .i64 10, .int .i64 64] w fun e w' => ∃ ev, e = .returned (.tuple #[.int .i64 (parsed s).1, ev]) ∧ (((parsed s).2 = true ∧ ev = .nilIface) ∨ ((parsed s).2 = false ∧ ∃ te pe, ev = .iface te pe)) ∧ Below w.heap.size w w' := by
  obtain ⟨e3, h3, k3⟩ := (hG.v3 rfl).read
  obtain ⟨e4, h4, k4⟩ := (hG.v4 rfl).read
  unfold parsed
  cases h : Lib.parseIntB 64 s.data.toList
  · rename_i v
    refine (Any.strconv_ParseInt_10_at64_ok Tryd.laysC174 s (by omega) v h w).mono ?_
    rintro e w' ⟨rfl, hw⟩
    refine ⟨_, rfl, Or.inl ⟨rfl, rfl⟩, ?_⟩
    rcases hw with rfl | ⟨t, rfl⟩
    · exact Below.refl _ _
    · exact Lib.bytesWorld_below _ _ _
  · refine (Any.strconv_ParseInt_10_at64_syntax Tryd.laysC174 s hs h e3 w h3 k3).mono ?_
    rintro e w' ⟨n, rfl, _, _, hb⟩
    exact ⟨_, rfl, Or.inr ⟨rfl, _, _, rfl⟩, hb⟩
  · refine (Any.strconv_ParseInt_10_at64_range Tryd.laysC174 s hs h e4 w h4 k4).mono ?_
    rintro e w' ⟨n, rfl, _, _, hb⟩
    exact ⟨_, rfl, Or.inr ⟨rfl, _, _, rfl⟩, hb⟩
end Go.Proofs.YtnndaackjgnhhaaDoor
