/-
  NARROWER THAN 'FOR EVERY INPUT', by the rows' own cells (each row's printed sentence says how): WorthTexts: laid · WorthChains: laid · WorthBack: laid · WorthPowers: laid · WorthTells: laid · WorthSpecial: laid.
  DERIVED. THE GIVEN ROWS OF THIS SEAT. 6 by the template 'for every input the law returns true; each argument reads behind the call as it read before'; 0 by the template 'total and deterministic' (their statements: YthfibffgmoblaaaDoorTotals.lean).
  GIVEN WITH THE SEED: the statements are not yours to turn. If you find one false, say at which input.
  Laid BY PROGRAM, IN A SANDBOX (cutbox-rows.mjs): the forced cells as the released guide's own fill.sh prints them over the translation 79dcfdfb9fbee112… (all of the seat's roots in one cut). By AI agents, Wed Nov 11 2026. No macro, syntax, notation, axiom, sorry.
-/
import Derived.Test.YthfibffgmoblaaaDoorChecked
import GoSem.Claim
import GoSem.ClaimJoined
import GoSem.ClaimMapViews
import Derived.JoinedTies
import Derived.KernelRfl
namespace Go.Proofs.YthfibffgmoblaaaDoor
/- THE CELL 'sum', in the pinned program and in every row, IS THE sha256 OF THE DUMP (.gsa) THAT YthfibffgmoblaaaDoorProg.lean LOADS. Nothing in Lean hashes anything: it is a label: what it is worth is what the hold of that sum in a sandbox is worth. -/
noncomputable def Tryd.pinned : Pinned := { name := "ythfibffgmoblaaadoor", sum := "79dcfdfb9fbee112cdf81bed1ab8ea01ade32a3a4706e451adf547dd156d88cb", checked := Tryd.checked }
namespace Rows
def none {H : Type} : Left H := { results := [], args := [] }

/- WHAT THE LISTED PACKAGE-LEVEL VARIABLES READ AS WHEN THE CALL BEGINS. Each datum BY PROGRAM (the guide's laid-datum.mjs) off the statement by which the dump's own 'gosem.cut.vars' lays the variable. In a bare row this is a premise. The card (YthfibffgmoblaaaDoorCards.lean) ties it to the program's text. -/
def laid_math_bits_deBruijn32tab {H : Type} : DataW H := .agg [.lit (.int .u8 0), .lit (.int .u8 1), .lit (.int .u8 28), .lit (.int .u8 2), .lit (.int .u8 29), .lit (.int .u8 14), .lit (.int .u8 24), .lit (.int .u8 3), .lit (.int .u8 30), .lit (.int .u8 22), .lit (.int .u8 20), .lit (.int .u8 15), .lit (.int .u8 25), .lit (.int .u8 17), .lit (.int .u8 4), .lit (.int .u8 8), .lit (.int .u8 31), .lit (.int .u8 27), .lit (.int .u8 13), .lit (.int .u8 23), .lit (.int .u8 21), .lit (.int .u8 19), .lit (.int .u8 16), .lit (.int .u8 7), .lit (.int .u8 26), .lit (.int .u8 12), .lit (.int .u8 18), .lit (.int .u8 6), .lit (.int .u8 11), .lit (.int .u8 5), .lit (.int .u8 10), .lit (.int .u8 9)]
def laid_math_bits_deBruijn64tab {H : Type} : DataW H := .agg [.lit (.int .u8 0), .lit (.int .u8 1), .lit (.int .u8 56), .lit (.int .u8 2), .lit (.int .u8 57), .lit (.int .u8 49), .lit (.int .u8 28), .lit (.int .u8 3), .lit (.int .u8 61), .lit (.int .u8 58), .lit (.int .u8 42), .lit (.int .u8 50), .lit (.int .u8 38), .lit (.int .u8 29), .lit (.int .u8 17), .lit (.int .u8 4), .lit (.int .u8 62), .lit (.int .u8 47), .lit (.int .u8 59), .lit (.int .u8 36), .lit (.int .u8 45), .lit (.int .u8 43), .lit (.int .u8 51), .lit (.int .u8 22), .lit (.int .u8 53), .lit (.int .u8 39), .lit (.int .u8 33), .lit (.int .u8 30), .lit (.int .u8 24), .lit (.int .u8 18), .lit (.int .u8 12), .lit (.int .u8 5), .lit (.int .u8 63), .lit (.int .u8 55), .lit (.int .u8 48), .lit (.int .u8 27), .lit (.int .u8 60), .lit (.int .u8 41), .lit (.int .u8 37), .lit (.int .u8 16), .lit (.int .u8 46), .lit (.int .u8 35), .lit (.int .u8 44), .lit (.int .u8 21), .lit (.int .u8 52), .lit (.int .u8 32), .lit (.int .u8 23), .lit (.int .u8 11), .lit (.int .u8 54), .lit (.int .u8 26), .lit (.int .u8 40), .lit (.int .u8 15), .lit (.int .u8 34), .lit (.int .u8 20), .lit (.int .u8 31), .lit (.int .u8 10), .lit (.int .u8 25), .lit (.int .u8 14), .lit (.int .u8 19), .lit (.int .u8 9), .lit (.int .u8 13), .lit (.int .u8 8), .lit (.int .u8 7), .lit (.int .u8 6)]
def laid_internal_strconv_uint64pow10 {H : Type} : DataW H := .agg [.lit (.int .u64 1), .lit (.int .u64 10), .lit (.int .u64 100), .lit (.int .u64 1000), .lit (.int .u64 10000), .lit (.int .u64 100000), .lit (.int .u64 1000000), .lit (.int .u64 10000000), .lit (.int .u64 100000000), .lit (.int .u64 1000000000), .lit (.int .u64 10000000000), .lit (.int .u64 100000000000), .lit (.int .u64 1000000000000), .lit (.int .u64 10000000000000), .lit (.int .u64 100000000000000), .lit (.int .u64 1000000000000000), .lit (.int .u64 10000000000000000), .lit (.int .u64 100000000000000000), .lit (.int .u64 1000000000000000000), .lit (.int .u64 10000000000000000000)]
def laid_drachm_frac_tens {H : Type} : DataW H := .agg [.lit (.int .i64 2), .lit (.int .i64 5)]
def laid_drachm_frac_one {H : Type} : DataW H := .agg [.lit (.int .i64 1), .lit (.int .i64 1), .lit (.int .i64 0)]

/-- 'drachmlaw04.WorthTexts': WHATEVER THE INPUT: true; the input reads as it did. -/
def worthTextsSpec : ChangeSpec := { name := "worthTexts", fn := fun _ => fun
  | [d] => { results := [.lit (.bool true)], args := [d] }
  | _ => none }
def worthTextsRow : OpenClaim := { program := "ythfibffgmoblaaadoor", sum := "79dcfdfb9fbee112cdf81bed1ab8ea01ade32a3a4706e451adf547dd156d88cb", func := "drachm/drachmlaw04.WorthTexts", spec := "worthTexts", inPlace := ["internal/abi.NoEscape"], unfollowed := true, recurses := true, named := ["drachm/frac.tens", "internal/strconv.uint64pow10", "math/bits.deBruijn32tab", "math/bits.deBruijn64tab"], apart := false, laid := [("math/bits.deBruijn32tab", laid_math_bits_deBruijn32tab), ("math/bits.deBruijn64tab", laid_math_bits_deBruijn64tab), ("internal/strconv.uint64pow10", laid_internal_strconv_uint64pow10), ("drachm/frac.tens", laid_drachm_frac_tens)] }
def WorthTextsSaid : Prop := worthTextsRow.holds Tryd.pinned (OpenSpec.ofChange worthTextsSpec)

/-- ITS FALSE NEIGHBOUR: 'it returns false'. Refute it at one input. -/
def worthTextsWrong : ChangeSpec := { name := "worthTexts", fn := fun _ => fun
  | [d] => { results := [.lit (.bool false)], args := [d] }
  | _ => none }
def WorthTextsWrongFalsely : Prop := worthTextsRow.holds Tryd.pinned (OpenSpec.ofChange worthTextsWrong)

/-- 'drachmlaw04.WorthChains': WHATEVER THE INPUT: true; the input reads as it did. -/
def worthChainsSpec : ChangeSpec := { name := "worthChains", fn := fun _ => fun
  | [d] => { results := [.lit (.bool true)], args := [d] }
  | _ => none }
def worthChainsRow : OpenClaim := { program := "ythfibffgmoblaaadoor", sum := "79dcfdfb9fbee112cdf81bed1ab8ea01ade32a3a4706e451adf547dd156d88cb", func := "drachm/drachmlaw04.WorthChains", spec := "worthChains", inPlace := ["internal/abi.NoEscape"], unfollowed := true, recurses := true, named := ["drachm/frac.tens", "internal/strconv.uint64pow10", "math/bits.deBruijn32tab", "math/bits.deBruijn64tab"], apart := false, laid := [("math/bits.deBruijn32tab", laid_math_bits_deBruijn32tab), ("math/bits.deBruijn64tab", laid_math_bits_deBruijn64tab), ("internal/strconv.uint64pow10", laid_internal_strconv_uint64pow10), ("drachm/frac.tens", laid_drachm_frac_tens)] }
def WorthChainsSaid : Prop := worthChainsRow.holds Tryd.pinned (OpenSpec.ofChange worthChainsSpec)

/-- ITS FALSE NEIGHBOUR: 'it returns false'. Refute it at one input. -/
def worthChainsWrong : ChangeSpec := { name := "worthChains", fn := fun _ => fun
  | [d] => { results := [.lit (.bool false)], args := [d] }
  | _ => none }
def WorthChainsWrongFalsely : Prop := worthChainsRow.holds Tryd.pinned (OpenSpec.ofChange worthChainsWrong)

/-- 'drachmlaw04.WorthBack': WHATEVER THE INPUT: true; the input reads as it did. -/
def worthBackSpec : ChangeSpec := { name := "worthBack", fn := fun _ => fun
  | [d] => { results := [.lit (.bool true)], args := [d] }
  | _ => none }
def worthBackRow : OpenClaim := { program := "ythfibffgmoblaaadoor", sum := "79dcfdfb9fbee112cdf81bed1ab8ea01ade32a3a4706e451adf547dd156d88cb", func := "drachm/drachmlaw04.WorthBack", spec := "worthBack", inPlace := ["internal/abi.NoEscape"], unfollowed := true, recurses := true, named := ["drachm/frac.tens", "internal/strconv.uint64pow10", "math/bits.deBruijn32tab", "math/bits.deBruijn64tab"], apart := false, laid := [("math/bits.deBruijn32tab", laid_math_bits_deBruijn32tab), ("math/bits.deBruijn64tab", laid_math_bits_deBruijn64tab), ("internal/strconv.uint64pow10", laid_internal_strconv_uint64pow10), ("drachm/frac.tens", laid_drachm_frac_tens)] }
def WorthBackSaid : Prop := worthBackRow.holds Tryd.pinned (OpenSpec.ofChange worthBackSpec)

/-- ITS FALSE NEIGHBOUR: 'it returns false'. Refute it at one input. -/
def worthBackWrong : ChangeSpec := { name := "worthBack", fn := fun _ => fun
  | [d] => { results := [.lit (.bool false)], args := [d] }
  | _ => none }
def WorthBackWrongFalsely : Prop := worthBackRow.holds Tryd.pinned (OpenSpec.ofChange worthBackWrong)

/-- 'drachmlaw04.WorthPowers': WHATEVER THE INPUT: true; the input reads as it did. -/
def worthPowersSpec : ChangeSpec := { name := "worthPowers", fn := fun _ => fun
  | [d1, d2, d3] => { results := [.lit (.bool true)], args := [d1, d2, d3] }
  | _ => none }
def worthPowersRow : OpenClaim := { program := "ythfibffgmoblaaadoor", sum := "79dcfdfb9fbee112cdf81bed1ab8ea01ade32a3a4706e451adf547dd156d88cb", func := "drachm/drachmlaw04.WorthPowers", spec := "worthPowers", inPlace := ["internal/abi.NoEscape"], unfollowed := true, recurses := true, named := ["drachm/frac.tens", "internal/strconv.uint64pow10", "math/bits.deBruijn32tab", "math/bits.deBruijn64tab", "drachm/frac.one"], apart := false, laid := [("math/bits.deBruijn32tab", laid_math_bits_deBruijn32tab), ("math/bits.deBruijn64tab", laid_math_bits_deBruijn64tab), ("internal/strconv.uint64pow10", laid_internal_strconv_uint64pow10), ("drachm/frac.one", laid_drachm_frac_one), ("drachm/frac.tens", laid_drachm_frac_tens)] }
def WorthPowersSaid : Prop := worthPowersRow.holds Tryd.pinned (OpenSpec.ofChange worthPowersSpec)

/-- ITS FALSE NEIGHBOUR: 'it returns false'. Refute it at one input. -/
def worthPowersWrong : ChangeSpec := { name := "worthPowers", fn := fun _ => fun
  | [d1, d2, d3] => { results := [.lit (.bool false)], args := [d1, d2, d3] }
  | _ => none }
def WorthPowersWrongFalsely : Prop := worthPowersRow.holds Tryd.pinned (OpenSpec.ofChange worthPowersWrong)

/-- 'drachmlaw04.WorthTells': WHATEVER THE INPUT: true; the input reads as it did. -/
def worthTellsSpec : ChangeSpec := { name := "worthTells", fn := fun _ => fun
  | [d1, d2, d3] => { results := [.lit (.bool true)], args := [d1, d2, d3] }
  | _ => none }
def worthTellsRow : OpenClaim := { program := "ythfibffgmoblaaadoor", sum := "79dcfdfb9fbee112cdf81bed1ab8ea01ade32a3a4706e451adf547dd156d88cb", func := "drachm/drachmlaw04.WorthTells", spec := "worthTells", inPlace := ["internal/abi.NoEscape"], unfollowed := true, recurses := true, named := ["drachm/frac.tens", "internal/strconv.uint64pow10", "math/bits.deBruijn32tab", "math/bits.deBruijn64tab", "drachm/frac.one"], apart := false, laid := [("math/bits.deBruijn32tab", laid_math_bits_deBruijn32tab), ("math/bits.deBruijn64tab", laid_math_bits_deBruijn64tab), ("internal/strconv.uint64pow10", laid_internal_strconv_uint64pow10), ("drachm/frac.one", laid_drachm_frac_one), ("drachm/frac.tens", laid_drachm_frac_tens)] }
def WorthTellsSaid : Prop := worthTellsRow.holds Tryd.pinned (OpenSpec.ofChange worthTellsSpec)

/-- ITS FALSE NEIGHBOUR: 'it returns false'. Refute it at one input. -/
def worthTellsWrong : ChangeSpec := { name := "worthTells", fn := fun _ => fun
  | [d1, d2, d3] => { results := [.lit (.bool false)], args := [d1, d2, d3] }
  | _ => none }
def WorthTellsWrongFalsely : Prop := worthTellsRow.holds Tryd.pinned (OpenSpec.ofChange worthTellsWrong)

/-- 'drachmlaw04.WorthSpecial': WHATEVER THE INPUT: true; the input reads as it did. -/
def worthSpecialSpec : ChangeSpec := { name := "worthSpecial", fn := fun _ => fun
  | [d1, d2, d3] => { results := [.lit (.bool true)], args := [d1, d2, d3] }
  | _ => none }
def worthSpecialRow : OpenClaim := { program := "ythfibffgmoblaaadoor", sum := "79dcfdfb9fbee112cdf81bed1ab8ea01ade32a3a4706e451adf547dd156d88cb", func := "drachm/drachmlaw04.WorthSpecial", spec := "worthSpecial", inPlace := ["internal/abi.NoEscape"], unfollowed := true, recurses := true, named := ["drachm/frac.tens", "internal/strconv.uint64pow10", "math/bits.deBruijn32tab", "math/bits.deBruijn64tab", "drachm/frac.one"], apart := false, laid := [("math/bits.deBruijn32tab", laid_math_bits_deBruijn32tab), ("math/bits.deBruijn64tab", laid_math_bits_deBruijn64tab), ("internal/strconv.uint64pow10", laid_internal_strconv_uint64pow10), ("drachm/frac.one", laid_drachm_frac_one), ("drachm/frac.tens", laid_drachm_frac_tens)] }
def WorthSpecialSaid : Prop := worthSpecialRow.holds Tryd.pinned (OpenSpec.ofChange worthSpecialSpec)

/-- ITS FALSE NEIGHBOUR: 'it returns false'. Refute it at one input. -/
def worthSpecialWrong : ChangeSpec := { name := "worthSpecial", fn := fun _ => fun
  | [d1, d2, d3] => { results := [.lit (.bool false)], args := [d1, d2, d3] }
  | _ => none }
def WorthSpecialWrongFalsely : Prop := worthSpecialRow.holds Tryd.pinned (OpenSpec.ofChange worthSpecialWrong)

/- THE SECOND FORM. 'bulk': how many values and letters a reading holds, each counted each time it is reached (what is shared counts as often as it is met; a slice's spare places count too). A statement '..UptoSaid' is the law's where the arguments, and the package variables that the reading takes, are together of bulk at most 1048576: NARROWER than '..Said'. Prove '..Said' where nothing that the law and all that it calls make is longer than what came in: it says more and counts as full. Else prove '..UptoSaid'. A law counts once. -/
mutual
def uptoBulk {H : Type} : DataW H → Nat
  | .lit (.string bytes) => bytes.length + 1
  | .lit _ => 1
  | .nil => 1
  | .ptr d => uptoBulk d + 1
  | .slice elems spare => uptoBulkAll elems + uptoBulkAll spare + 1
  | .agg parts => uptoBulkAll parts + 1
  | .iface _ d => uptoBulk d + 1
  | .map entries => uptoBulkEntries entries + 1
  | .held _ => 1
def uptoBulkAll {H : Type} : List (DataW H) → Nat
  | [] => 0
  | d :: r => uptoBulk d + uptoBulkAll r
def uptoBulkEntries {H : Type} : List (Lit × DataW H) → Nat
  | [] => 0
  | x :: r => uptoBulkEntry x + uptoBulkEntries r
def uptoBulkEntry {H : Type} : Lit × DataW H → Nat
  | (.string bytes, d) => bytes.length + uptoBulk d + 1
  | (_, d) => uptoBulk d + 1
 end
def uptoSmall : (H : Type) → List (DataW H) → Bool := fun _ ds => decide (uptoBulkAll ds ≤ 1048576)
def OpenSpec.upto (s : _root_.Go.ChangeSpec) : _root_.Go.OpenSpec := { _root_.Go.OpenSpec.ofChange s with cond := some uptoSmall }

/-- 'drachmlaw04.WorthTexts', WHERE WHAT IT READS IS OF BULK AT MOST 1048576: true; the input reads as it did. -/
def worthTextsUptoRow : OpenClaim := { program := "ythfibffgmoblaaadoor", sum := "79dcfdfb9fbee112cdf81bed1ab8ea01ade32a3a4706e451adf547dd156d88cb", func := "drachm/drachmlaw04.WorthTexts", spec := "worthTexts", inPlace := ["internal/abi.NoEscape"], unfollowed := true, recurses := true, named := ["drachm/frac.tens", "internal/strconv.uint64pow10", "math/bits.deBruijn32tab", "math/bits.deBruijn64tab"], apart := false, laid := [("math/bits.deBruijn32tab", laid_math_bits_deBruijn32tab), ("math/bits.deBruijn64tab", laid_math_bits_deBruijn64tab), ("internal/strconv.uint64pow10", laid_internal_strconv_uint64pow10), ("drachm/frac.tens", laid_drachm_frac_tens)], narrowed := true }
def WorthTextsUptoSaid : Prop := worthTextsUptoRow.holds Tryd.pinned (OpenSpec.upto worthTextsSpec)

/-- 'drachmlaw04.WorthChains', WHERE WHAT IT READS IS OF BULK AT MOST 1048576: true; the input reads as it did. -/
def worthChainsUptoRow : OpenClaim := { program := "ythfibffgmoblaaadoor", sum := "79dcfdfb9fbee112cdf81bed1ab8ea01ade32a3a4706e451adf547dd156d88cb", func := "drachm/drachmlaw04.WorthChains", spec := "worthChains", inPlace := ["internal/abi.NoEscape"], unfollowed := true, recurses := true, named := ["drachm/frac.tens", "internal/strconv.uint64pow10", "math/bits.deBruijn32tab", "math/bits.deBruijn64tab"], apart := false, laid := [("math/bits.deBruijn32tab", laid_math_bits_deBruijn32tab), ("math/bits.deBruijn64tab", laid_math_bits_deBruijn64tab), ("internal/strconv.uint64pow10", laid_internal_strconv_uint64pow10), ("drachm/frac.tens", laid_drachm_frac_tens)], narrowed := true }
def WorthChainsUptoSaid : Prop := worthChainsUptoRow.holds Tryd.pinned (OpenSpec.upto worthChainsSpec)

/-- 'drachmlaw04.WorthBack', WHERE WHAT IT READS IS OF BULK AT MOST 1048576: true; the input reads as it did. -/
def worthBackUptoRow : OpenClaim := { program := "ythfibffgmoblaaadoor", sum := "79dcfdfb9fbee112cdf81bed1ab8ea01ade32a3a4706e451adf547dd156d88cb", func := "drachm/drachmlaw04.WorthBack", spec := "worthBack", inPlace := ["internal/abi.NoEscape"], unfollowed := true, recurses := true, named := ["drachm/frac.tens", "internal/strconv.uint64pow10", "math/bits.deBruijn32tab", "math/bits.deBruijn64tab"], apart := false, laid := [("math/bits.deBruijn32tab", laid_math_bits_deBruijn32tab), ("math/bits.deBruijn64tab", laid_math_bits_deBruijn64tab), ("internal/strconv.uint64pow10", laid_internal_strconv_uint64pow10), ("drachm/frac.tens", laid_drachm_frac_tens)], narrowed := true }
def WorthBackUptoSaid : Prop := worthBackUptoRow.holds Tryd.pinned (OpenSpec.upto worthBackSpec)

/-- 'drachmlaw04.WorthPowers', WHERE WHAT IT READS IS OF BULK AT MOST 1048576: true; the input reads as it did. -/
def worthPowersUptoRow : OpenClaim := { program := "ythfibffgmoblaaadoor", sum := "79dcfdfb9fbee112cdf81bed1ab8ea01ade32a3a4706e451adf547dd156d88cb", func := "drachm/drachmlaw04.WorthPowers", spec := "worthPowers", inPlace := ["internal/abi.NoEscape"], unfollowed := true, recurses := true, named := ["drachm/frac.tens", "internal/strconv.uint64pow10", "math/bits.deBruijn32tab", "math/bits.deBruijn64tab", "drachm/frac.one"], apart := false, laid := [("math/bits.deBruijn32tab", laid_math_bits_deBruijn32tab), ("math/bits.deBruijn64tab", laid_math_bits_deBruijn64tab), ("internal/strconv.uint64pow10", laid_internal_strconv_uint64pow10), ("drachm/frac.one", laid_drachm_frac_one), ("drachm/frac.tens", laid_drachm_frac_tens)], narrowed := true }
def WorthPowersUptoSaid : Prop := worthPowersUptoRow.holds Tryd.pinned (OpenSpec.upto worthPowersSpec)

/-- 'drachmlaw04.WorthTells', WHERE WHAT IT READS IS OF BULK AT MOST 1048576: true; the input reads as it did. -/
def worthTellsUptoRow : OpenClaim := { program := "ythfibffgmoblaaadoor", sum := "79dcfdfb9fbee112cdf81bed1ab8ea01ade32a3a4706e451adf547dd156d88cb", func := "drachm/drachmlaw04.WorthTells", spec := "worthTells", inPlace := ["internal/abi.NoEscape"], unfollowed := true, recurses := true, named := ["drachm/frac.tens", "internal/strconv.uint64pow10", "math/bits.deBruijn32tab", "math/bits.deBruijn64tab", "drachm/frac.one"], apart := false, laid := [("math/bits.deBruijn32tab", laid_math_bits_deBruijn32tab), ("math/bits.deBruijn64tab", laid_math_bits_deBruijn64tab), ("internal/strconv.uint64pow10", laid_internal_strconv_uint64pow10), ("drachm/frac.one", laid_drachm_frac_one), ("drachm/frac.tens", laid_drachm_frac_tens)], narrowed := true }
def WorthTellsUptoSaid : Prop := worthTellsUptoRow.holds Tryd.pinned (OpenSpec.upto worthTellsSpec)

/-- 'drachmlaw04.WorthSpecial', WHERE WHAT IT READS IS OF BULK AT MOST 1048576: true; the input reads as it did. -/
def worthSpecialUptoRow : OpenClaim := { program := "ythfibffgmoblaaadoor", sum := "79dcfdfb9fbee112cdf81bed1ab8ea01ade32a3a4706e451adf547dd156d88cb", func := "drachm/drachmlaw04.WorthSpecial", spec := "worthSpecial", inPlace := ["internal/abi.NoEscape"], unfollowed := true, recurses := true, named := ["drachm/frac.tens", "internal/strconv.uint64pow10", "math/bits.deBruijn32tab", "math/bits.deBruijn64tab", "drachm/frac.one"], apart := false, laid := [("math/bits.deBruijn32tab", laid_math_bits_deBruijn32tab), ("math/bits.deBruijn64tab", laid_math_bits_deBruijn64tab), ("internal/strconv.uint64pow10", laid_internal_strconv_uint64pow10), ("drachm/frac.one", laid_drachm_frac_one), ("drachm/frac.tens", laid_drachm_frac_tens)], narrowed := true }
def WorthSpecialUptoSaid : Prop := worthSpecialUptoRow.holds Tryd.pinned (OpenSpec.upto worthSpecialSpec)

end Rows
end Go.Proofs.YthfibffgmoblaaaDoor
