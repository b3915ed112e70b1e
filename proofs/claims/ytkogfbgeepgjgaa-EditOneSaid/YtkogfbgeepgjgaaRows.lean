/-
  No cell of these rows narrows 'for every input' (looked for: loops, veiled, ifaces, maps, wideKeys, modest, calm, conditions, laid).
  DERIVED. THE GIVEN ROWS OF THIS SEAT. 6 by the template 'for every input the law returns true; each argument reads behind the call as it read before'; 0 by the template 'total and deterministic' (their statements: YtkogfbgeepgjgaaTotals.lean).
  GIVEN WITH THE SEED: the statements are not yours to turn. If you find one false, say at which input.
  Laid BY PROGRAM, IN A SANDBOX (cutbox-rows.mjs): the forced cells as the released guide's own fill.sh prints them over the translation fcce0886b254a679… (all of the seat's roots in one cut). By AI agents, Wed Nov 11 2026. No macro, syntax, notation, axiom, sorry.
-/
import Derived.Test.YtkogfbgeepgjgaaChecked
import GoSem.Claim
import GoSem.ClaimJoined
import GoSem.ClaimMapViews
import Derived.JoinedTies
import Derived.KernelRfl
namespace Go.Proofs.Ytkogfbgeepgjgaa
/- THE CELL 'sum', in the pinned program and in every row, IS THE sha256 OF THE DUMP (.gsa) THAT YtkogfbgeepgjgaaProg.lean LOADS. Nothing in Lean hashes anything: it is a label: what it is worth is what the hold of that sum in a sandbox is worth. -/
noncomputable def Try.pinned : Pinned := { name := "ytkogfbgeepgjgaa", sum := "fcce0886b254a679f226982e275604ebf60969eee4ca2a58638cf05708305907", checked := Try.checked }
namespace Rows
def none {H : Type} : Left H := { results := [], args := [] }

/-- 'drachmlaw16.EditAny': WHATEVER THE INPUT: true; the input reads as it did. -/
def editAnySpec : ChangeSpec := { name := "editAny", fn := fun _ => fun
  | [d1, d2, d3] => { results := [.lit (.bool true)], args := [d1, d2, d3] }
  | _ => none }
def editAnyRow : OpenClaim := { program := "ytkogfbgeepgjgaa", sum := "fcce0886b254a679f226982e275604ebf60969eee4ca2a58638cf05708305907", func := "drachm/drachmlaw16.EditAny", spec := "editAny", unfollowed := true, recurses := true, apart := false }
def EditAnySaid : Prop := editAnyRow.holds Try.pinned (OpenSpec.ofChange editAnySpec)

/-- ITS FALSE NEIGHBOUR: 'it returns false'. Refute it at one input. -/
def editAnyWrong : ChangeSpec := { name := "editAny", fn := fun _ => fun
  | [d1, d2, d3] => { results := [.lit (.bool false)], args := [d1, d2, d3] }
  | _ => none }
def EditAnyWrongFalsely : Prop := editAnyRow.holds Try.pinned (OpenSpec.ofChange editAnyWrong)

/-- 'drachmlaw16.EditMetric': WHATEVER THE INPUT: true; the input reads as it did. -/
def editMetricSpec : ChangeSpec := { name := "editMetric", fn := fun _ => fun
  | [d1, d2, d3] => { results := [.lit (.bool true)], args := [d1, d2, d3] }
  | _ => none }
def editMetricRow : OpenClaim := { program := "ytkogfbgeepgjgaa", sum := "fcce0886b254a679f226982e275604ebf60969eee4ca2a58638cf05708305907", func := "drachm/drachmlaw16.EditMetric", spec := "editMetric", unfollowed := true, recurses := true, apart := false }
def EditMetricSaid : Prop := editMetricRow.holds Try.pinned (OpenSpec.ofChange editMetricSpec)

/-- ITS FALSE NEIGHBOUR: 'it returns false'. Refute it at one input. -/
def editMetricWrong : ChangeSpec := { name := "editMetric", fn := fun _ => fun
  | [d1, d2, d3] => { results := [.lit (.bool false)], args := [d1, d2, d3] }
  | _ => none }
def EditMetricWrongFalsely : Prop := editMetricRow.holds Try.pinned (OpenSpec.ofChange editMetricWrong)

/-- 'drachmlaw16.EditOne': WHATEVER THE INPUT: true; the input reads as it did. -/
def editOneSpec : ChangeSpec := { name := "editOne", fn := fun _ => fun
  | [d1, d2, d3] => { results := [.lit (.bool true)], args := [d1, d2, d3] }
  | _ => none }
def editOneRow : OpenClaim := { program := "ytkogfbgeepgjgaa", sum := "fcce0886b254a679f226982e275604ebf60969eee4ca2a58638cf05708305907", func := "drachm/drachmlaw16.EditOne", spec := "editOne", unfollowed := true, recurses := true, apart := false }
def EditOneSaid : Prop := editOneRow.holds Try.pinned (OpenSpec.ofChange editOneSpec)

/-- ITS FALSE NEIGHBOUR: 'it returns false'. Refute it at one input. -/
def editOneWrong : ChangeSpec := { name := "editOne", fn := fun _ => fun
  | [d1, d2, d3] => { results := [.lit (.bool false)], args := [d1, d2, d3] }
  | _ => none }
def EditOneWrongFalsely : Prop := editOneRow.holds Try.pinned (OpenSpec.ofChange editOneWrong)

/-- 'drachmlaw16.EditRows': WHATEVER THE INPUT: true; the input reads as it did. -/
def editRowsSpec : ChangeSpec := { name := "editRows", fn := fun _ => fun
  | [d1, d2] => { results := [.lit (.bool true)], args := [d1, d2] }
  | _ => none }
def editRowsRow : OpenClaim := { program := "ytkogfbgeepgjgaa", sum := "fcce0886b254a679f226982e275604ebf60969eee4ca2a58638cf05708305907", func := "drachm/drachmlaw16.EditRows", spec := "editRows", unfollowed := true, recurses := true, apart := false }
def EditRowsSaid : Prop := editRowsRow.holds Try.pinned (OpenSpec.ofChange editRowsSpec)

/-- ITS FALSE NEIGHBOUR: 'it returns false'. Refute it at one input. -/
def editRowsWrong : ChangeSpec := { name := "editRows", fn := fun _ => fun
  | [d1, d2] => { results := [.lit (.bool false)], args := [d1, d2] }
  | _ => none }
def EditRowsWrongFalsely : Prop := editRowsRow.holds Try.pinned (OpenSpec.ofChange editRowsWrong)

/-- 'drachmlaw16.EditLeast': WHATEVER THE INPUT: true; the input reads as it did. -/
def editLeastSpec : ChangeSpec := { name := "editLeast", fn := fun _ => fun
  | [d1, d2] => { results := [.lit (.bool true)], args := [d1, d2] }
  | _ => none }
def editLeastRow : OpenClaim := { program := "ytkogfbgeepgjgaa", sum := "fcce0886b254a679f226982e275604ebf60969eee4ca2a58638cf05708305907", func := "drachm/drachmlaw16.EditLeast", spec := "editLeast", unfollowed := true, recurses := true, apart := false }
def EditLeastSaid : Prop := editLeastRow.holds Try.pinned (OpenSpec.ofChange editLeastSpec)

/-- ITS FALSE NEIGHBOUR: 'it returns false'. Refute it at one input. -/
def editLeastWrong : ChangeSpec := { name := "editLeast", fn := fun _ => fun
  | [d1, d2] => { results := [.lit (.bool false)], args := [d1, d2] }
  | _ => none }
def EditLeastWrongFalsely : Prop := editLeastRow.holds Try.pinned (OpenSpec.ofChange editLeastWrong)

/-- 'drachmlaw16.EditTells': WHATEVER THE INPUT: true; the input reads as it did. -/
def editTellsSpec : ChangeSpec := { name := "editTells", fn := fun _ => fun
  | [d1, d2, d3] => { results := [.lit (.bool true)], args := [d1, d2, d3] }
  | _ => none }
def editTellsRow : OpenClaim := { program := "ytkogfbgeepgjgaa", sum := "fcce0886b254a679f226982e275604ebf60969eee4ca2a58638cf05708305907", func := "drachm/drachmlaw16.EditTells", spec := "editTells", unfollowed := true, recurses := true, apart := false }
def EditTellsSaid : Prop := editTellsRow.holds Try.pinned (OpenSpec.ofChange editTellsSpec)

/-- ITS FALSE NEIGHBOUR: 'it returns false'. Refute it at one input. -/
def editTellsWrong : ChangeSpec := { name := "editTells", fn := fun _ => fun
  | [d1, d2, d3] => { results := [.lit (.bool false)], args := [d1, d2, d3] }
  | _ => none }
def EditTellsWrongFalsely : Prop := editTellsRow.holds Try.pinned (OpenSpec.ofChange editTellsWrong)

/- THE SECOND FORM. 'bulk': how many values and letters a reading holds, each counted each time it is reached (what is shared counts as often as it is met; a slice's spare places count too). A statement '..UptoSaid' is the law's where the arguments, and the package variables that the reading takes, are together of bulk at most 1048576: NARROWER than '..Said'. Prove '..Said' where nothing that the law and all that it calls make is longer than what came in: it says more and counts as full. Else prove '..UptoSaid'. A law counts once. -/
mutual
def uptoBulk {H : Type} : DataW H → Nat
  | .lit (.string bytes) => bytes.length + 1
  | .lit _ => 1
  | .nil => 1
  | .ptr d => uptoBulk d + 1
  | .slice elems spare => uptoBulkAll elems + uptoBulkAll spare + 1
  | .agg parts => uptoBulkAll parts + 1
  | .iface _ d => uptoBulk d + 1
  | .map entries => uptoBulkEntries entries + 1
  | .held _ => 1
def uptoBulkAll {H : Type} : List (DataW H) → Nat
  | [] => 0
  | d :: r => uptoBulk d + uptoBulkAll r
def uptoBulkEntries {H : Type} : List (Lit × DataW H) → Nat
  | [] => 0
  | x :: r => uptoBulkEntry x + uptoBulkEntries r
def uptoBulkEntry {H : Type} : Lit × DataW H → Nat
  | (.string bytes, d) => bytes.length + uptoBulk d + 1
  | (_, d) => uptoBulk d + 1
 end
def uptoSmall : (H : Type) → List (DataW H) → Bool := fun _ ds => decide (uptoBulkAll ds ≤ 1048576)
def OpenSpec.upto (s : _root_.Go.ChangeSpec) : _root_.Go.OpenSpec := { _root_.Go.OpenSpec.ofChange s with cond := some uptoSmall }

/-- 'drachmlaw16.EditAny', WHERE WHAT IT READS IS OF BULK AT MOST 1048576: true; the input reads as it did. -/
def editAnyUptoRow : OpenClaim := { program := "ytkogfbgeepgjgaa", sum := "fcce0886b254a679f226982e275604ebf60969eee4ca2a58638cf05708305907", func := "drachm/drachmlaw16.EditAny", spec := "editAny", unfollowed := true, recurses := true, apart := false, narrowed := true }
def EditAnyUptoSaid : Prop := editAnyUptoRow.holds Try.pinned (OpenSpec.upto editAnySpec)

/-- 'drachmlaw16.EditMetric', WHERE WHAT IT READS IS OF BULK AT MOST 1048576: true; the input reads as it did. -/
def editMetricUptoRow : OpenClaim := { program := "ytkogfbgeepgjgaa", sum := "fcce0886b254a679f226982e275604ebf60969eee4ca2a58638cf05708305907", func := "drachm/drachmlaw16.EditMetric", spec := "editMetric", unfollowed := true, recurses := true, apart := false, narrowed := true }
def EditMetricUptoSaid : Prop := editMetricUptoRow.holds Try.pinned (OpenSpec.upto editMetricSpec)

/-- 'drachmlaw16.EditOne', WHERE WHAT IT READS IS OF BULK AT MOST 1048576: true; the input reads as it did. -/
def editOneUptoRow : OpenClaim := { program := "ytkogfbgeepgjgaa", sum := "fcce0886b254a679f226982e275604ebf60969eee4ca2a58638cf05708305907", func := "drachm/drachmlaw16.EditOne", spec := "editOne", unfollowed := true, recurses := true, apart := false, narrowed := true }
def EditOneUptoSaid : Prop := editOneUptoRow.holds Try.pinned (OpenSpec.upto editOneSpec)

/-- 'drachmlaw16.EditRows', WHERE WHAT IT READS IS OF BULK AT MOST 1048576: true; the input reads as it did. -/
def editRowsUptoRow : OpenClaim := { program := "ytkogfbgeepgjgaa", sum := "fcce0886b254a679f226982e275604ebf60969eee4ca2a58638cf05708305907", func := "drachm/drachmlaw16.EditRows", spec := "editRows", unfollowed := true, recurses := true, apart := false, narrowed := true }
def EditRowsUptoSaid : Prop := editRowsUptoRow.holds Try.pinned (OpenSpec.upto editRowsSpec)

/-- 'drachmlaw16.EditLeast', WHERE WHAT IT READS IS OF BULK AT MOST 1048576: true; the input reads as it did. -/
def editLeastUptoRow : OpenClaim := { program := "ytkogfbgeepgjgaa", sum := "fcce0886b254a679f226982e275604ebf60969eee4ca2a58638cf05708305907", func := "drachm/drachmlaw16.EditLeast", spec := "editLeast", unfollowed := true, recurses := true, apart := false, narrowed := true }
def EditLeastUptoSaid : Prop := editLeastUptoRow.holds Try.pinned (OpenSpec.upto editLeastSpec)

/-- 'drachmlaw16.EditTells', WHERE WHAT IT READS IS OF BULK AT MOST 1048576: true; the input reads as it did. -/
def editTellsUptoRow : OpenClaim := { program := "ytkogfbgeepgjgaa", sum := "fcce0886b254a679f226982e275604ebf60969eee4ca2a58638cf05708305907", func := "drachm/drachmlaw16.EditTells", spec := "editTells", unfollowed := true, recurses := true, apart := false, narrowed := true }
def EditTellsUptoSaid : Prop := editTellsUptoRow.holds Try.pinned (OpenSpec.upto editTellsSpec)

end Rows
end Go.Proofs.Ytkogfbgeepgjgaa
