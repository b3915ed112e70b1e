/-
  NARROWER THAN 'FOR EVERY INPUT', by the rows' own cells (each row's printed sentence says how): FracMakes: laid · FracScales: laid · FracBack: laid · FracReckons: laid · FracPowers: laid · FracTexts: laid · FracBothWays: laid.
  DERIVED. THE GIVEN ROWS OF THIS SEAT. 7 by the template 'for every input the law returns true; each argument reads behind the call as it read before'; 0 by the template 'total and deterministic' (their statements: YtnndaackjgnhhaaDoorTotals.lean).
  GIVEN WITH THE SEED: the statements are not yours to turn. If you find one false, say at which input.
  Laid BY PROGRAM, IN A SANDBOX (cutbox-rows.mjs): the forced cells as the released guide's own fill.sh prints them over the translation affefa845877be96… (all of the seat's roots in one cut). By AI agents, Wed Nov 11 2026. No macro, syntax, notation, axiom, sorry.
-/
import Derived.Test.YtnndaackjgnhhaaDoorChecked
import GoSem.Claim
import GoSem.ClaimJoined
import GoSem.ClaimMapViews
import Derived.JoinedTies
import Derived.KernelRfl
namespace Go.Proofs.YtnndaackjgnhhaaDoor
/- THE CELL 'sum', in the pinned program and in every row, IS THE sha256 OF THE DUMP (.gsa) THAT YtnndaackjgnhhaaDoorProg.lean LOADS. Nothing in Lean hashes anything: it is a label: what it is worth is what the hold of that sum in a sandbox is worth. -/
noncomputable def Tryd.pinned : Pinned := { name := "ytnndaackjgnhhaadoor", sum := "affefa845877be964207c191e00162f8d894a5b28ca4e495216f6a48b774eec7", checked := Tryd.checked }
namespace Rows
def none {H : Type} : Left H := { results := [], args := [] }

/- WHAT THE LISTED PACKAGE-LEVEL VARIABLES READ AS WHEN THE CALL BEGINS. Each datum BY PROGRAM (the guide's laid-datum.mjs) off the statement by which the dump's own 'gosem.cut.vars' lays the variable. In a bare row this is a premise. The card (YtnndaackjgnhhaaDoorCards.lean) ties it to the program's text. -/
def laid_drachm_frac_tens {H : Type} : DataW H := .agg [.lit (.int .i64 2), .lit (.int .i64 5)]
def laid_drachm_frac_one {H : Type} : DataW H := .agg [.lit (.int .i64 1), .lit (.int .i64 1), .lit (.int .i64 0)]
def laid_math_bits_deBruijn32tab {H : Type} : DataW H := .agg [.lit (.int .u8 0), .lit (.int .u8 1), .lit (.int .u8 28), .lit (.int .u8 2), .lit (.int .u8 29), .lit (.int .u8 14), .lit (.int .u8 24), .lit (.int .u8 3), .lit (.int .u8 30), .lit (.int .u8 22), .lit (.int .u8 20), .lit (.int .u8 15), .lit (.int .u8 25), .lit (.int .u8 17), .lit (.int .u8 4), .lit (.int .u8 8), .lit (.int .u8 31), .lit (.int .u8 27), .lit (.int .u8 13), .lit (.int .u8 23), .lit (.int .u8 21), .lit (.int .u8 19), .lit (.int .u8 16), .lit (.int .u8 7), .lit (.int .u8 26), .lit (.int .u8 12), .lit (.int .u8 18), .lit (.int .u8 6), .lit (.int .u8 11), .lit (.int .u8 5), .lit (.int .u8 10), .lit (.int .u8 9)]
def laid_math_bits_deBruijn64tab {H : Type} : DataW H := .agg [.lit (.int .u8 0), .lit (.int .u8 1), .lit (.int .u8 56), .lit (.int .u8 2), .lit (.int .u8 57), .lit (.int .u8 49), .lit (.int .u8 28), .lit (.int .u8 3), .lit (.int .u8 61), .lit (.int .u8 58), .lit (.int .u8 42), .lit (.int .u8 50), .lit (.int .u8 38), .lit (.int .u8 29), .lit (.int .u8 17), .lit (.int .u8 4), .lit (.int .u8 62), .lit (.int .u8 47), .lit (.int .u8 59), .lit (.int .u8 36), .lit (.int .u8 45), .lit (.int .u8 43), .lit (.int .u8 51), .lit (.int .u8 22), .lit (.int .u8 53), .lit (.int .u8 39), .lit (.int .u8 33), .lit (.int .u8 30), .lit (.int .u8 24), .lit (.int .u8 18), .lit (.int .u8 12), .lit (.int .u8 5), .lit (.int .u8 63), .lit (.int .u8 55), .lit (.int .u8 48), .lit (.int .u8 27), .lit (.int .u8 60), .lit (.int .u8 41), .lit (.int .u8 37), .lit (.int .u8 16), .lit (.int .u8 46), .lit (.int .u8 35), .lit (.int .u8 44), .lit (.int .u8 21), .lit (.int .u8 52), .lit (.int .u8 32), .lit (.int .u8 23), .lit (.int .u8 11), .lit (.int .u8 54), .lit (.int .u8 26), .lit (.int .u8 40), .lit (.int .u8 15), .lit (.int .u8 34), .lit (.int .u8 20), .lit (.int .u8 31), .lit (.int .u8 10), .lit (.int .u8 25), .lit (.int .u8 14), .lit (.int .u8 19), .lit (.int .u8 9), .lit (.int .u8 13), .lit (.int .u8 8), .lit (.int .u8 7), .lit (.int .u8 6)]
def laid_internal_strconv_uint64pow10 {H : Type} : DataW H := .agg [.lit (.int .u64 1), .lit (.int .u64 10), .lit (.int .u64 100), .lit (.int .u64 1000), .lit (.int .u64 10000), .lit (.int .u64 100000), .lit (.int .u64 1000000), .lit (.int .u64 10000000), .lit (.int .u64 100000000), .lit (.int .u64 1000000000), .lit (.int .u64 10000000000), .lit (.int .u64 100000000000), .lit (.int .u64 1000000000000), .lit (.int .u64 10000000000000), .lit (.int .u64 100000000000000), .lit (.int .u64 1000000000000000), .lit (.int .u64 10000000000000000), .lit (.int .u64 100000000000000000), .lit (.int .u64 1000000000000000000), .lit (.int .u64 10000000000000000000)]
def laid_strconv_ErrRange {H : Type} : DataW H := .iface "*errors.errorString" (.ptr (.agg [.lit (.string [118, 97, 108, 117, 101, 32, 111, 117, 116, 32, 111, 102, 32, 114, 97, 110, 103, 101])]))
def laid_strconv_ErrSyntax {H : Type} : DataW H := .iface "*errors.errorString" (.ptr (.agg [.lit (.string [105, 110, 118, 97, 108, 105, 100, 32, 115, 121, 110, 116, 97, 120])]))

/-- 'drachmlaw02.FracMakes': WHATEVER THE INPUT: true; the input reads as it did. -/
def fracMakesSpec : ChangeSpec := { name := "fracMakes", fn := fun _ => fun
  | [d1, d2] => { results := [.lit (.bool true)], args := [d1, d2] }
  | _ => none }
def fracMakesRow : OpenClaim := { program := "ytnndaackjgnhhaadoor", sum := "affefa845877be964207c191e00162f8d894a5b28ca4e495216f6a48b774eec7", func := "drachm/drachmlaw02.FracMakes", spec := "fracMakes", unfollowed := true, recurses := true, named := ["drachm/frac.tens"], apart := false, laid := [("drachm/frac.tens", laid_drachm_frac_tens)] }
def FracMakesSaid : Prop := fracMakesRow.holds Tryd.pinned (OpenSpec.ofChange fracMakesSpec)

/-- ITS FALSE NEIGHBOUR: 'it returns false'. Refute it at one input. -/
def fracMakesWrong : ChangeSpec := { name := "fracMakes", fn := fun _ => fun
  | [d1, d2] => { results := [.lit (.bool false)], args := [d1, d2] }
  | _ => none }
def FracMakesWrongFalsely : Prop := fracMakesRow.holds Tryd.pinned (OpenSpec.ofChange fracMakesWrong)

/-- 'drachmlaw02.FracScales': WHATEVER THE INPUT: true; the input reads as it did. -/
def fracScalesSpec : ChangeSpec := { name := "fracScales", fn := fun _ => fun
  | [d1, d2, d3] => { results := [.lit (.bool true)], args := [d1, d2, d3] }
  | _ => none }
def fracScalesRow : OpenClaim := { program := "ytnndaackjgnhhaadoor", sum := "affefa845877be964207c191e00162f8d894a5b28ca4e495216f6a48b774eec7", func := "drachm/drachmlaw02.FracScales", spec := "fracScales", unfollowed := true, recurses := true, named := ["drachm/frac.tens"], apart := false, laid := [("drachm/frac.tens", laid_drachm_frac_tens)] }
def FracScalesSaid : Prop := fracScalesRow.holds Tryd.pinned (OpenSpec.ofChange fracScalesSpec)

/-- ITS FALSE NEIGHBOUR: 'it returns false'. Refute it at one input. -/
def fracScalesWrong : ChangeSpec := { name := "fracScales", fn := fun _ => fun
  | [d1, d2, d3] => { results := [.lit (.bool false)], args := [d1, d2, d3] }
  | _ => none }
def FracScalesWrongFalsely : Prop := fracScalesRow.holds Tryd.pinned (OpenSpec.ofChange fracScalesWrong)

/-- 'drachmlaw02.FracBack': WHATEVER THE INPUT: true; the input reads as it did. -/
def fracBackSpec : ChangeSpec := { name := "fracBack", fn := fun _ => fun
  | [d] => { results := [.lit (.bool true)], args := [d] }
  | _ => none }
def fracBackRow : OpenClaim := { program := "ytnndaackjgnhhaadoor", sum := "affefa845877be964207c191e00162f8d894a5b28ca4e495216f6a48b774eec7", func := "drachm/drachmlaw02.FracBack", spec := "fracBack", unfollowed := true, recurses := true, named := ["drachm/frac.tens"], apart := false, laid := [("drachm/frac.tens", laid_drachm_frac_tens)] }
def FracBackSaid : Prop := fracBackRow.holds Tryd.pinned (OpenSpec.ofChange fracBackSpec)

/-- ITS FALSE NEIGHBOUR: 'it returns false'. Refute it at one input. -/
def fracBackWrong : ChangeSpec := { name := "fracBack", fn := fun _ => fun
  | [d] => { results := [.lit (.bool false)], args := [d] }
  | _ => none }
def FracBackWrongFalsely : Prop := fracBackRow.holds Tryd.pinned (OpenSpec.ofChange fracBackWrong)

/-- 'drachmlaw02.FracReckons': WHATEVER THE INPUT: true; the input reads as it did. -/
def fracReckonsSpec : ChangeSpec := { name := "fracReckons", fn := fun _ => fun
  | [d1, d2, d3] => { results := [.lit (.bool true)], args := [d1, d2, d3] }
  | _ => none }
def fracReckonsRow : OpenClaim := { program := "ytnndaackjgnhhaadoor", sum := "affefa845877be964207c191e00162f8d894a5b28ca4e495216f6a48b774eec7", func := "drachm/drachmlaw02.FracReckons", spec := "fracReckons", unfollowed := true, recurses := true, named := ["drachm/frac.tens", "drachm/frac.one"], apart := false, laid := [("drachm/frac.one", laid_drachm_frac_one), ("drachm/frac.tens", laid_drachm_frac_tens)] }
def FracReckonsSaid : Prop := fracReckonsRow.holds Tryd.pinned (OpenSpec.ofChange fracReckonsSpec)

/-- ITS FALSE NEIGHBOUR: 'it returns false'. Refute it at one input. -/
def fracReckonsWrong : ChangeSpec := { name := "fracReckons", fn := fun _ => fun
  | [d1, d2, d3] => { results := [.lit (.bool false)], args := [d1, d2, d3] }
  | _ => none }
def FracReckonsWrongFalsely : Prop := fracReckonsRow.holds Tryd.pinned (OpenSpec.ofChange fracReckonsWrong)

/-- 'drachmlaw02.FracPowers': WHATEVER THE INPUT: true; the input reads as it did. -/
def fracPowersSpec : ChangeSpec := { name := "fracPowers", fn := fun _ => fun
  | [d1, d2] => { results := [.lit (.bool true)], args := [d1, d2] }
  | _ => none }
def fracPowersRow : OpenClaim := { program := "ytnndaackjgnhhaadoor", sum := "affefa845877be964207c191e00162f8d894a5b28ca4e495216f6a48b774eec7", func := "drachm/drachmlaw02.FracPowers", spec := "fracPowers", unfollowed := true, recurses := true, named := ["drachm/frac.tens", "drachm/frac.one"], apart := false, laid := [("drachm/frac.one", laid_drachm_frac_one), ("drachm/frac.tens", laid_drachm_frac_tens)] }
def FracPowersSaid : Prop := fracPowersRow.holds Tryd.pinned (OpenSpec.ofChange fracPowersSpec)

/-- ITS FALSE NEIGHBOUR: 'it returns false'. Refute it at one input. -/
def fracPowersWrong : ChangeSpec := { name := "fracPowers", fn := fun _ => fun
  | [d1, d2] => { results := [.lit (.bool false)], args := [d1, d2] }
  | _ => none }
def FracPowersWrongFalsely : Prop := fracPowersRow.holds Tryd.pinned (OpenSpec.ofChange fracPowersWrong)

/-- 'drachmlaw02.FracTexts': WHATEVER THE INPUT: true; the input reads as it did. -/
def fracTextsSpec : ChangeSpec := { name := "fracTexts", fn := fun _ => fun
  | [d1, d2, d3] => { results := [.lit (.bool true)], args := [d1, d2, d3] }
  | _ => none }
def fracTextsRow : OpenClaim := { program := "ytnndaackjgnhhaadoor", sum := "affefa845877be964207c191e00162f8d894a5b28ca4e495216f6a48b774eec7", func := "drachm/drachmlaw02.FracTexts", spec := "fracTexts", inPlace := ["internal/bytealg.IndexByteString", "internal/bytealg.IndexString"], unfollowed := true, recurses := true, named := ["drachm/frac.tens", "internal/bytealg.MaxLen", "strconv.ErrSyntax", "strconv.ErrRange", "internal/strconv.uint64pow10", "math/bits.deBruijn32tab", "math/bits.deBruijn64tab"], apart := false, laid := [("math/bits.deBruijn32tab", laid_math_bits_deBruijn32tab), ("math/bits.deBruijn64tab", laid_math_bits_deBruijn64tab), ("internal/strconv.uint64pow10", laid_internal_strconv_uint64pow10), ("strconv.ErrRange", laid_strconv_ErrRange), ("strconv.ErrSyntax", laid_strconv_ErrSyntax), ("drachm/frac.tens", laid_drachm_frac_tens)] }
def FracTextsSaid : Prop := fracTextsRow.holds Tryd.pinned (OpenSpec.ofChange fracTextsSpec)

/-- ITS FALSE NEIGHBOUR: 'it returns false'. Refute it at one input. -/
def fracTextsWrong : ChangeSpec := { name := "fracTexts", fn := fun _ => fun
  | [d1, d2, d3] => { results := [.lit (.bool false)], args := [d1, d2, d3] }
  | _ => none }
def FracTextsWrongFalsely : Prop := fracTextsRow.holds Tryd.pinned (OpenSpec.ofChange fracTextsWrong)

/-- 'drachmlaw02.FracBothWays': WHATEVER THE INPUT: true; the input reads as it did. -/
def fracBothWaysSpec : ChangeSpec := { name := "fracBothWays", fn := fun _ => fun
  | [d1, d2, d3] => { results := [.lit (.bool true)], args := [d1, d2, d3] }
  | _ => none }
def fracBothWaysRow : OpenClaim := { program := "ytnndaackjgnhhaadoor", sum := "affefa845877be964207c191e00162f8d894a5b28ca4e495216f6a48b774eec7", func := "drachm/drachmlaw02.FracBothWays", spec := "fracBothWays", inPlace := ["internal/bytealg.IndexByteString", "internal/bytealg.IndexString"], unfollowed := true, recurses := true, named := ["drachm/frac.tens", "internal/strconv.uint64pow10", "math/bits.deBruijn32tab", "math/bits.deBruijn64tab", "internal/bytealg.MaxLen", "strconv.ErrSyntax", "strconv.ErrRange"], apart := false, laid := [("math/bits.deBruijn32tab", laid_math_bits_deBruijn32tab), ("math/bits.deBruijn64tab", laid_math_bits_deBruijn64tab), ("internal/strconv.uint64pow10", laid_internal_strconv_uint64pow10), ("strconv.ErrRange", laid_strconv_ErrRange), ("strconv.ErrSyntax", laid_strconv_ErrSyntax), ("drachm/frac.tens", laid_drachm_frac_tens)] }
def FracBothWaysSaid : Prop := fracBothWaysRow.holds Tryd.pinned (OpenSpec.ofChange fracBothWaysSpec)

/-- ITS FALSE NEIGHBOUR: 'it returns false'. Refute it at one input. -/
def fracBothWaysWrong : ChangeSpec := { name := "fracBothWays", fn := fun _ => fun
  | [d1, d2, d3] => { results := [.lit (.bool false)], args := [d1, d2, d3] }
  | _ => none }
def FracBothWaysWrongFalsely : Prop := fracBothWaysRow.holds Tryd.pinned (OpenSpec.ofChange fracBothWaysWrong)

/- THE SECOND FORM. 'bulk': how many values and letters a reading holds, each counted each time it is reached (what is shared counts as often as it is met; a slice's spare places count too). A statement '..UptoSaid' is the law's where the arguments, and the package variables that the reading takes, are together of bulk at most 1048576: NARROWER than '..Said'. Prove '..Said' where nothing that the law and all that it calls make is longer than what came in: it says more and counts as full. Else prove '..UptoSaid'. A law counts once. -/
mutual
def uptoBulk {H : Type} : DataW H → Nat
  | .lit (.string bytes) => bytes.length + 1
  | .lit _ => 1
  | .nil => 1
  | .ptr d => uptoBulk d + 1
  | .slice elems spare => uptoBulkAll elems + uptoBulkAll spare + 1
  | .agg parts => uptoBulkAll parts + 1
  | .iface _ d => uptoBulk d + 1
  | .map entries => uptoBulkEntries entries + 1
  | .held _ => 1
def uptoBulkAll {H : Type} : List (DataW H) → Nat
  | [] => 0
  | d :: r => uptoBulk d + uptoBulkAll r
def uptoBulkEntries {H : Type} : List (Lit × DataW H) → Nat
  | [] => 0
  | x :: r => uptoBulkEntry x + uptoBulkEntries r
def uptoBulkEntry {H : Type} : Lit × DataW H → Nat
  | (.string bytes, d) => bytes.length + uptoBulk d + 1
  | (_, d) => uptoBulk d + 1
 end
def uptoSmall : (H : Type) → List (DataW H) → Bool := fun _ ds => decide (uptoBulkAll ds ≤ 1048576)
def OpenSpec.upto (s : _root_.Go.ChangeSpec) : _root_.Go.OpenSpec := { _root_.Go.OpenSpec.ofChange s with cond := some uptoSmall }

/-- 'drachmlaw02.FracMakes', WHERE WHAT IT READS IS OF BULK AT MOST 1048576: true; the input reads as it did. -/
def fracMakesUptoRow : OpenClaim := { program := "ytnndaackjgnhhaadoor", sum := "affefa845877be964207c191e00162f8d894a5b28ca4e495216f6a48b774eec7", func := "drachm/drachmlaw02.FracMakes", spec := "fracMakes", unfollowed := true, recurses := true, named := ["drachm/frac.tens"], apart := false, laid := [("drachm/frac.tens", laid_drachm_frac_tens)], narrowed := true }
def FracMakesUptoSaid : Prop := fracMakesUptoRow.holds Tryd.pinned (OpenSpec.upto fracMakesSpec)

/-- 'drachmlaw02.FracScales', WHERE WHAT IT READS IS OF BULK AT MOST 1048576: true; the input reads as it did. -/
def fracScalesUptoRow : OpenClaim := { program := "ytnndaackjgnhhaadoor", sum := "affefa845877be964207c191e00162f8d894a5b28ca4e495216f6a48b774eec7", func := "drachm/drachmlaw02.FracScales", spec := "fracScales", unfollowed := true, recurses := true, named := ["drachm/frac.tens"], apart := false, laid := [("drachm/frac.tens", laid_drachm_frac_tens)], narrowed := true }
def FracScalesUptoSaid : Prop := fracScalesUptoRow.holds Tryd.pinned (OpenSpec.upto fracScalesSpec)

/-- 'drachmlaw02.FracBack', WHERE WHAT IT READS IS OF BULK AT MOST 1048576: true; the input reads as it did. -/
def fracBackUptoRow : OpenClaim := { program := "ytnndaackjgnhhaadoor", sum := "affefa845877be964207c191e00162f8d894a5b28ca4e495216f6a48b774eec7", func := "drachm/drachmlaw02.FracBack", spec := "fracBack", unfollowed := true, recurses := true, named := ["drachm/frac.tens"], apart := false, laid := [("drachm/frac.tens", laid_drachm_frac_tens)], narrowed := true }
def FracBackUptoSaid : Prop := fracBackUptoRow.holds Tryd.pinned (OpenSpec.upto fracBackSpec)

/-- 'drachmlaw02.FracReckons', WHERE WHAT IT READS IS OF BULK AT MOST 1048576: true; the input reads as it did. -/
def fracReckonsUptoRow : OpenClaim := { program := "ytnndaackjgnhhaadoor", sum := "affefa845877be964207c191e00162f8d894a5b28ca4e495216f6a48b774eec7", func := "drachm/drachmlaw02.FracReckons", spec := "fracReckons", unfollowed := true, recurses := true, named := ["drachm/frac.tens", "drachm/frac.one"], apart := false, laid := [("drachm/frac.one", laid_drachm_frac_one), ("drachm/frac.tens", laid_drachm_frac_tens)], narrowed := true }
def FracReckonsUptoSaid : Prop := fracReckonsUptoRow.holds Tryd.pinned (OpenSpec.upto fracReckonsSpec)

/-- 'drachmlaw02.FracPowers', WHERE WHAT IT READS IS OF BULK AT MOST 1048576: true; the input reads as it did. -/
def fracPowersUptoRow : OpenClaim := { program := "ytnndaackjgnhhaadoor", sum := "affefa845877be964207c191e00162f8d894a5b28ca4e495216f6a48b774eec7", func := "drachm/drachmlaw02.FracPowers", spec := "fracPowers", unfollowed := true, recurses := true, named := ["drachm/frac.tens", "drachm/frac.one"], apart := false, laid := [("drachm/frac.one", laid_drachm_frac_one), ("drachm/frac.tens", laid_drachm_frac_tens)], narrowed := true }
def FracPowersUptoSaid : Prop := fracPowersUptoRow.holds Tryd.pinned (OpenSpec.upto fracPowersSpec)

/-- 'drachmlaw02.FracTexts', WHERE WHAT IT READS IS OF BULK AT MOST 1048576: true; the input reads as it did. -/
def fracTextsUptoRow : OpenClaim := { program := "ytnndaackjgnhhaadoor", sum := "affefa845877be964207c191e00162f8d894a5b28ca4e495216f6a48b774eec7", func := "drachm/drachmlaw02.FracTexts", spec := "fracTexts", inPlace := ["internal/bytealg.IndexByteString", "internal/bytealg.IndexString"], unfollowed := true, recurses := true, named := ["drachm/frac.tens", "internal/bytealg.MaxLen", "strconv.ErrSyntax", "strconv.ErrRange", "internal/strconv.uint64pow10", "math/bits.deBruijn32tab", "math/bits.deBruijn64tab"], apart := false, laid := [("math/bits.deBruijn32tab", laid_math_bits_deBruijn32tab), ("math/bits.deBruijn64tab", laid_math_bits_deBruijn64tab), ("internal/strconv.uint64pow10", laid_internal_strconv_uint64pow10), ("strconv.ErrRange", laid_strconv_ErrRange), ("strconv.ErrSyntax", laid_strconv_ErrSyntax), ("drachm/frac.tens", laid_drachm_frac_tens)], narrowed := true }
def FracTextsUptoSaid : Prop := fracTextsUptoRow.holds Tryd.pinned (OpenSpec.upto fracTextsSpec)

/-- 'drachmlaw02.FracBothWays', WHERE WHAT IT READS IS OF BULK AT MOST 1048576: true; the input reads as it did. -/
def fracBothWaysUptoRow : OpenClaim := { program := "ytnndaackjgnhhaadoor", sum := "affefa845877be964207c191e00162f8d894a5b28ca4e495216f6a48b774eec7", func := "drachm/drachmlaw02.FracBothWays", spec := "fracBothWays", inPlace := ["internal/bytealg.IndexByteString", "internal/bytealg.IndexString"], unfollowed := true, recurses := true, named := ["drachm/frac.tens", "internal/strconv.uint64pow10", "math/bits.deBruijn32tab", "math/bits.deBruijn64tab", "internal/bytealg.MaxLen", "strconv.ErrSyntax", "strconv.ErrRange"], apart := false, laid := [("math/bits.deBruijn32tab", laid_math_bits_deBruijn32tab), ("math/bits.deBruijn64tab", laid_math_bits_deBruijn64tab), ("internal/strconv.uint64pow10", laid_internal_strconv_uint64pow10), ("strconv.ErrRange", laid_strconv_ErrRange), ("strconv.ErrSyntax", laid_strconv_ErrSyntax), ("drachm/frac.tens", laid_drachm_frac_tens)], narrowed := true }
def FracBothWaysUptoSaid : Prop := fracBothWaysUptoRow.holds Tryd.pinned (OpenSpec.upto fracBothWaysSpec)

end Rows
end Go.Proofs.YtnndaackjgnhhaaDoor
