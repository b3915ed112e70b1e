/-
  No cell of these rows narrows 'for every input' (looked for: loops, veiled, ifaces, maps, wideKeys, modest, calm, conditions, laid).
  DERIVED. THE GIVEN ROWS OF THIS SEAT. 7 by the template 'for every input the law returns true; each argument reads behind the call as it read before'; 0 by the template 'total and deterministic' (their statements: YtbfajaeghiodnaaTotals.lean).
  GIVEN WITH THE SEED: the statements are not yours to turn. If you find one false, say at which input.
  Laid BY PROGRAM, IN A SANDBOX (cutbox-rows.mjs): the forced cells as the released guide's own fill.sh prints them over the translation 813f10bd3748a4c5… (all of the seat's roots in one cut). By AI agents, Wed Nov 11 2026. No macro, syntax, notation, axiom, sorry.
-/
import Derived.Test.YtbfajaeghiodnaaChecked
import GoSem.Claim
import GoSem.ClaimJoined
import GoSem.ClaimMapViews
import Derived.JoinedTies
import Derived.KernelRfl
namespace Go.Proofs.Ytbfajaeghiodnaa
/- THE CELL 'sum', in the pinned program and in every row, IS THE sha256 OF THE DUMP (.gsa) THAT YtbfajaeghiodnaaProg.lean LOADS. Nothing in Lean hashes anything: it is a label: what it is worth is what the hold of that sum in a sandbox is worth. -/
noncomputable def Try.pinned : Pinned := { name := "ytbfajaeghiodnaa", sum := "813f10bd3748a4c56b2086472f207a559869268914901773df60e2633d16aed3", checked := Try.checked }
namespace Rows
def none {H : Type} : Left H := { results := [], args := [] }

/-- 'drachmlaw01.WholeTells': WHATEVER THE INPUT: true; the input reads as it did. -/
def wholeTellsSpec : ChangeSpec := { name := "wholeTells", fn := fun _ => fun
  | [d1, d2, d3] => { results := [.lit (.bool true)], args := [d1, d2, d3] }
  | _ => none }
def wholeTellsRow : OpenClaim := { program := "ytbfajaeghiodnaa", sum := "813f10bd3748a4c56b2086472f207a559869268914901773df60e2633d16aed3", func := "drachm/drachmlaw01.WholeTells", spec := "wholeTells", apart := false }
def WholeTellsSaid : Prop := wholeTellsRow.holds Try.pinned (OpenSpec.ofChange wholeTellsSpec)

/-- ITS FALSE NEIGHBOUR: 'it returns false'. Refute it at one input. -/
def wholeTellsWrong : ChangeSpec := { name := "wholeTells", fn := fun _ => fun
  | [d1, d2, d3] => { results := [.lit (.bool false)], args := [d1, d2, d3] }
  | _ => none }
def WholeTellsWrongFalsely : Prop := wholeTellsRow.holds Try.pinned (OpenSpec.ofChange wholeTellsWrong)

/-- 'drachmlaw01.WholeSums': WHATEVER THE INPUT: true; the input reads as it did. -/
def wholeSumsSpec : ChangeSpec := { name := "wholeSums", fn := fun _ => fun
  | [d1, d2] => { results := [.lit (.bool true)], args := [d1, d2] }
  | _ => none }
def wholeSumsRow : OpenClaim := { program := "ytbfajaeghiodnaa", sum := "813f10bd3748a4c56b2086472f207a559869268914901773df60e2633d16aed3", func := "drachm/drachmlaw01.WholeSums", spec := "wholeSums", apart := false }
def WholeSumsSaid : Prop := wholeSumsRow.holds Try.pinned (OpenSpec.ofChange wholeSumsSpec)

/-- ITS FALSE NEIGHBOUR: 'it returns false'. Refute it at one input. -/
def wholeSumsWrong : ChangeSpec := { name := "wholeSums", fn := fun _ => fun
  | [d1, d2] => { results := [.lit (.bool false)], args := [d1, d2] }
  | _ => none }
def WholeSumsWrongFalsely : Prop := wholeSumsRow.holds Try.pinned (OpenSpec.ofChange wholeSumsWrong)

/-- 'drachmlaw01.WholeProducts': WHATEVER THE INPUT: true; the input reads as it did. -/
def wholeProductsSpec : ChangeSpec := { name := "wholeProducts", fn := fun _ => fun
  | [d1, d2] => { results := [.lit (.bool true)], args := [d1, d2] }
  | _ => none }
def wholeProductsRow : OpenClaim := { program := "ytbfajaeghiodnaa", sum := "813f10bd3748a4c56b2086472f207a559869268914901773df60e2633d16aed3", func := "drachm/drachmlaw01.WholeProducts", spec := "wholeProducts", apart := false }
def WholeProductsSaid : Prop := wholeProductsRow.holds Try.pinned (OpenSpec.ofChange wholeProductsSpec)

/-- ITS FALSE NEIGHBOUR: 'it returns false'. Refute it at one input. -/
def wholeProductsWrong : ChangeSpec := { name := "wholeProducts", fn := fun _ => fun
  | [d1, d2] => { results := [.lit (.bool false)], args := [d1, d2] }
  | _ => none }
def WholeProductsWrongFalsely : Prop := wholeProductsRow.holds Try.pinned (OpenSpec.ofChange wholeProductsWrong)

/-- 'drachmlaw01.WholeDivides': WHATEVER THE INPUT: true; the input reads as it did. -/
def wholeDividesSpec : ChangeSpec := { name := "wholeDivides", fn := fun _ => fun
  | [d1, d2] => { results := [.lit (.bool true)], args := [d1, d2] }
  | _ => none }
def wholeDividesRow : OpenClaim := { program := "ytbfajaeghiodnaa", sum := "813f10bd3748a4c56b2086472f207a559869268914901773df60e2633d16aed3", func := "drachm/drachmlaw01.WholeDivides", spec := "wholeDivides", apart := false }
def WholeDividesSaid : Prop := wholeDividesRow.holds Try.pinned (OpenSpec.ofChange wholeDividesSpec)

/-- ITS FALSE NEIGHBOUR: 'it returns false'. Refute it at one input. -/
def wholeDividesWrong : ChangeSpec := { name := "wholeDivides", fn := fun _ => fun
  | [d1, d2] => { results := [.lit (.bool false)], args := [d1, d2] }
  | _ => none }
def WholeDividesWrongFalsely : Prop := wholeDividesRow.holds Try.pinned (OpenSpec.ofChange wholeDividesWrong)

/-- 'drachmlaw01.WholeSplits': WHATEVER THE INPUT: true; the input reads as it did. -/
def wholeSplitsSpec : ChangeSpec := { name := "wholeSplits", fn := fun _ => fun
  | [d1, d2] => { results := [.lit (.bool true)], args := [d1, d2] }
  | _ => none }
def wholeSplitsRow : OpenClaim := { program := "ytbfajaeghiodnaa", sum := "813f10bd3748a4c56b2086472f207a559869268914901773df60e2633d16aed3", func := "drachm/drachmlaw01.WholeSplits", spec := "wholeSplits", apart := false }
def WholeSplitsSaid : Prop := wholeSplitsRow.holds Try.pinned (OpenSpec.ofChange wholeSplitsSpec)

/-- ITS FALSE NEIGHBOUR: 'it returns false'. Refute it at one input. -/
def wholeSplitsWrong : ChangeSpec := { name := "wholeSplits", fn := fun _ => fun
  | [d1, d2] => { results := [.lit (.bool false)], args := [d1, d2] }
  | _ => none }
def WholeSplitsWrongFalsely : Prop := wholeSplitsRow.holds Try.pinned (OpenSpec.ofChange wholeSplitsWrong)

/-- 'drachmlaw01.WholeScales': WHATEVER THE INPUT: true; the input reads as it did. -/
def wholeScalesSpec : ChangeSpec := { name := "wholeScales", fn := fun _ => fun
  | [d1, d2, d3] => { results := [.lit (.bool true)], args := [d1, d2, d3] }
  | _ => none }
def wholeScalesRow : OpenClaim := { program := "ytbfajaeghiodnaa", sum := "813f10bd3748a4c56b2086472f207a559869268914901773df60e2633d16aed3", func := "drachm/drachmlaw01.WholeScales", spec := "wholeScales", apart := false }
def WholeScalesSaid : Prop := wholeScalesRow.holds Try.pinned (OpenSpec.ofChange wholeScalesSpec)

/-- ITS FALSE NEIGHBOUR: 'it returns false'. Refute it at one input. -/
def wholeScalesWrong : ChangeSpec := { name := "wholeScales", fn := fun _ => fun
  | [d1, d2, d3] => { results := [.lit (.bool false)], args := [d1, d2, d3] }
  | _ => none }
def WholeScalesWrongFalsely : Prop := wholeScalesRow.holds Try.pinned (OpenSpec.ofChange wholeScalesWrong)

/-- 'drachmlaw01.WholeParts': WHATEVER THE INPUT: true; the input reads as it did. -/
def wholePartsSpec : ChangeSpec := { name := "wholeParts", fn := fun _ => fun
  | [d1, d2] => { results := [.lit (.bool true)], args := [d1, d2] }
  | _ => none }
def wholePartsRow : OpenClaim := { program := "ytbfajaeghiodnaa", sum := "813f10bd3748a4c56b2086472f207a559869268914901773df60e2633d16aed3", func := "drachm/drachmlaw01.WholeParts", spec := "wholeParts", unfollowed := true, recurses := true, apart := false }
def WholePartsSaid : Prop := wholePartsRow.holds Try.pinned (OpenSpec.ofChange wholePartsSpec)

/-- ITS FALSE NEIGHBOUR: 'it returns false'. Refute it at one input. -/
def wholePartsWrong : ChangeSpec := { name := "wholeParts", fn := fun _ => fun
  | [d1, d2] => { results := [.lit (.bool false)], args := [d1, d2] }
  | _ => none }
def WholePartsWrongFalsely : Prop := wholePartsRow.holds Try.pinned (OpenSpec.ofChange wholePartsWrong)

/- THE SECOND FORM. 'bulk': how many values and letters a reading holds, each counted each time it is reached (what is shared counts as often as it is met; a slice's spare places count too). A statement '..UptoSaid' is the law's where the arguments, and the package variables that the reading takes, are together of bulk at most 1048576: NARROWER than '..Said'. Prove '..Said' where nothing that the law and all that it calls make is longer than what came in: it says more and counts as full. Else prove '..UptoSaid'. A law counts once. -/
mutual
def uptoBulk {H : Type} : DataW H → Nat
  | .lit (.string bytes) => bytes.length + 1
  | .lit _ => 1
  | .nil => 1
  | .ptr d => uptoBulk d + 1
  | .slice elems spare => uptoBulkAll elems + uptoBulkAll spare + 1
  | .agg parts => uptoBulkAll parts + 1
  | .iface _ d => uptoBulk d + 1
  | .map entries => uptoBulkEntries entries + 1
  | .held _ => 1
def uptoBulkAll {H : Type} : List (DataW H) → Nat
  | [] => 0
  | d :: r => uptoBulk d + uptoBulkAll r
def uptoBulkEntries {H : Type} : List (Lit × DataW H) → Nat
  | [] => 0
  | x :: r => uptoBulkEntry x + uptoBulkEntries r
def uptoBulkEntry {H : Type} : Lit × DataW H → Nat
  | (.string bytes, d) => bytes.length + uptoBulk d + 1
  | (_, d) => uptoBulk d + 1
 end
def uptoSmall : (H : Type) → List (DataW H) → Bool := fun _ ds => decide (uptoBulkAll ds ≤ 1048576)
def OpenSpec.upto (s : _root_.Go.ChangeSpec) : _root_.Go.OpenSpec := { _root_.Go.OpenSpec.ofChange s with cond := some uptoSmall }

/-- 'drachmlaw01.WholeTells', WHERE WHAT IT READS IS OF BULK AT MOST 1048576: true; the input reads as it did. -/
def wholeTellsUptoRow : OpenClaim := { program := "ytbfajaeghiodnaa", sum := "813f10bd3748a4c56b2086472f207a559869268914901773df60e2633d16aed3", func := "drachm/drachmlaw01.WholeTells", spec := "wholeTells", apart := false, narrowed := true }
def WholeTellsUptoSaid : Prop := wholeTellsUptoRow.holds Try.pinned (OpenSpec.upto wholeTellsSpec)

/-- 'drachmlaw01.WholeSums', WHERE WHAT IT READS IS OF BULK AT MOST 1048576: true; the input reads as it did. -/
def wholeSumsUptoRow : OpenClaim := { program := "ytbfajaeghiodnaa", sum := "813f10bd3748a4c56b2086472f207a559869268914901773df60e2633d16aed3", func := "drachm/drachmlaw01.WholeSums", spec := "wholeSums", apart := false, narrowed := true }
def WholeSumsUptoSaid : Prop := wholeSumsUptoRow.holds Try.pinned (OpenSpec.upto wholeSumsSpec)

/-- 'drachmlaw01.WholeProducts', WHERE WHAT IT READS IS OF BULK AT MOST 1048576: true; the input reads as it did. -/
def wholeProductsUptoRow : OpenClaim := { program := "ytbfajaeghiodnaa", sum := "813f10bd3748a4c56b2086472f207a559869268914901773df60e2633d16aed3", func := "drachm/drachmlaw01.WholeProducts", spec := "wholeProducts", apart := false, narrowed := true }
def WholeProductsUptoSaid : Prop := wholeProductsUptoRow.holds Try.pinned (OpenSpec.upto wholeProductsSpec)

/-- 'drachmlaw01.WholeDivides', WHERE WHAT IT READS IS OF BULK AT MOST 1048576: true; the input reads as it did. -/
def wholeDividesUptoRow : OpenClaim := { program := "ytbfajaeghiodnaa", sum := "813f10bd3748a4c56b2086472f207a559869268914901773df60e2633d16aed3", func := "drachm/drachmlaw01.WholeDivides", spec := "wholeDivides", apart := false, narrowed := true }
def WholeDividesUptoSaid : Prop := wholeDividesUptoRow.holds Try.pinned (OpenSpec.upto wholeDividesSpec)

/-- 'drachmlaw01.WholeSplits', WHERE WHAT IT READS IS OF BULK AT MOST 1048576: true; the input reads as it did. -/
def wholeSplitsUptoRow : OpenClaim := { program := "ytbfajaeghiodnaa", sum := "813f10bd3748a4c56b2086472f207a559869268914901773df60e2633d16aed3", func := "drachm/drachmlaw01.WholeSplits", spec := "wholeSplits", apart := false, narrowed := true }
def WholeSplitsUptoSaid : Prop := wholeSplitsUptoRow.holds Try.pinned (OpenSpec.upto wholeSplitsSpec)

/-- 'drachmlaw01.WholeScales', WHERE WHAT IT READS IS OF BULK AT MOST 1048576: true; the input reads as it did. -/
def wholeScalesUptoRow : OpenClaim := { program := "ytbfajaeghiodnaa", sum := "813f10bd3748a4c56b2086472f207a559869268914901773df60e2633d16aed3", func := "drachm/drachmlaw01.WholeScales", spec := "wholeScales", apart := false, narrowed := true }
def WholeScalesUptoSaid : Prop := wholeScalesUptoRow.holds Try.pinned (OpenSpec.upto wholeScalesSpec)

/-- 'drachmlaw01.WholeParts', WHERE WHAT IT READS IS OF BULK AT MOST 1048576: true; the input reads as it did. -/
def wholePartsUptoRow : OpenClaim := { program := "ytbfajaeghiodnaa", sum := "813f10bd3748a4c56b2086472f207a559869268914901773df60e2633d16aed3", func := "drachm/drachmlaw01.WholeParts", spec := "wholeParts", unfollowed := true, recurses := true, apart := false, narrowed := true }
def WholePartsUptoSaid : Prop := wholePartsUptoRow.holds Try.pinned (OpenSpec.upto wholePartsSpec)

end Rows
end Go.Proofs.Ytbfajaeghiodnaa
