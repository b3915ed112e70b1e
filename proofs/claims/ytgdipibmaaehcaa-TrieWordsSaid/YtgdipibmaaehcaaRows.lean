/-
  No cell of these rows narrows 'for every input' (looked for: loops, veiled, ifaces, maps, wideKeys, modest, calm, conditions, laid).
  DERIVED. THE GIVEN ROWS OF THIS SEAT. 6 by the template 'for every input the law returns true; each argument reads behind the call as it read before'; 0 by the template 'total and deterministic' (their statements: YtgdipibmaaehcaaTotals.lean).
  GIVEN WITH THE SEED: the statements are not yours to turn. If you find one false, say at which input.
  Laid BY PROGRAM, IN A SANDBOX (cutbox-rows.mjs): the forced cells as the released guide's own fill.sh prints them over the translation c91f442fd1874b35… (all of the seat's roots in one cut). By AI agents, Wed Nov 11 2026. No macro, syntax, notation, axiom, sorry.
-/
import Derived.Test.YtgdipibmaaehcaaChecked
import GoSem.Claim
import GoSem.ClaimJoined
import GoSem.ClaimMapViews
import Derived.JoinedTies
import Derived.KernelRfl
namespace Go.Proofs.Ytgdipibmaaehcaa
/- THE CELL 'sum', in the pinned program and in every row, IS THE sha256 OF THE DUMP (.gsa) THAT YtgdipibmaaehcaaProg.lean LOADS. Nothing in Lean hashes anything: it is a label: what it is worth is what the hold of that sum in a sandbox is worth. -/
noncomputable def Try.pinned : Pinned := { name := "ytgdipibmaaehcaa", sum := "c91f442fd1874b356fa0557135f116e529afd7edfce16f953a0079d68f79f0c4", checked := Try.checked }
namespace Rows
def none {H : Type} : Left H := { results := [], args := [] }

/-- 'drachmlaw17.TrieFinds': WHATEVER THE INPUT: true; the input reads as it did. -/
def trieFindsSpec : ChangeSpec := { name := "trieFinds", fn := fun _ => fun
  | [d1, d2, d3] => { results := [.lit (.bool true)], args := [d1, d2, d3] }
  | _ => none }
def trieFindsRow : OpenClaim := { program := "ytgdipibmaaehcaa", sum := "c91f442fd1874b356fa0557135f116e529afd7edfce16f953a0079d68f79f0c4", func := "drachm/drachmlaw17.TrieFinds", spec := "trieFinds", apart := false }
def TrieFindsSaid : Prop := trieFindsRow.holds Try.pinned (OpenSpec.ofChange trieFindsSpec)

/-- ITS FALSE NEIGHBOUR: 'it returns false'. Refute it at one input. -/
def trieFindsWrong : ChangeSpec := { name := "trieFinds", fn := fun _ => fun
  | [d1, d2, d3] => { results := [.lit (.bool false)], args := [d1, d2, d3] }
  | _ => none }
def TrieFindsWrongFalsely : Prop := trieFindsRow.holds Try.pinned (OpenSpec.ofChange trieFindsWrong)

/-- 'drachmlaw17.TrieGoes': WHATEVER THE INPUT: true; the input reads as it did. -/
def trieGoesSpec : ChangeSpec := { name := "trieGoes", fn := fun _ => fun
  | [d1, d2] => { results := [.lit (.bool true)], args := [d1, d2] }
  | _ => none }
def trieGoesRow : OpenClaim := { program := "ytgdipibmaaehcaa", sum := "c91f442fd1874b356fa0557135f116e529afd7edfce16f953a0079d68f79f0c4", func := "drachm/drachmlaw17.TrieGoes", spec := "trieGoes", apart := false }
def TrieGoesSaid : Prop := trieGoesRow.holds Try.pinned (OpenSpec.ofChange trieGoesSpec)

/-- ITS FALSE NEIGHBOUR: 'it returns false'. Refute it at one input. -/
def trieGoesWrong : ChangeSpec := { name := "trieGoes", fn := fun _ => fun
  | [d1, d2] => { results := [.lit (.bool false)], args := [d1, d2] }
  | _ => none }
def TrieGoesWrongFalsely : Prop := trieGoesRow.holds Try.pinned (OpenSpec.ofChange trieGoesWrong)

/-- 'drachmlaw17.TrieTurned': WHATEVER THE INPUT: true; the input reads as it did. -/
def trieTurnedSpec : ChangeSpec := { name := "trieTurned", fn := fun _ => fun
  | [d1, d2] => { results := [.lit (.bool true)], args := [d1, d2] }
  | _ => none }
def trieTurnedRow : OpenClaim := { program := "ytgdipibmaaehcaa", sum := "c91f442fd1874b356fa0557135f116e529afd7edfce16f953a0079d68f79f0c4", func := "drachm/drachmlaw17.TrieTurned", spec := "trieTurned", apart := false }
def TrieTurnedSaid : Prop := trieTurnedRow.holds Try.pinned (OpenSpec.ofChange trieTurnedSpec)

/-- ITS FALSE NEIGHBOUR: 'it returns false'. Refute it at one input. -/
def trieTurnedWrong : ChangeSpec := { name := "trieTurned", fn := fun _ => fun
  | [d1, d2] => { results := [.lit (.bool false)], args := [d1, d2] }
  | _ => none }
def TrieTurnedWrongFalsely : Prop := trieTurnedRow.holds Try.pinned (OpenSpec.ofChange trieTurnedWrong)

/-- 'drachmlaw17.TrieChildren': WHATEVER THE INPUT: true; the input reads as it did. -/
def trieChildrenSpec : ChangeSpec := { name := "trieChildren", fn := fun _ => fun
  | [d] => { results := [.lit (.bool true)], args := [d] }
  | _ => none }
def trieChildrenRow : OpenClaim := { program := "ytgdipibmaaehcaa", sum := "c91f442fd1874b356fa0557135f116e529afd7edfce16f953a0079d68f79f0c4", func := "drachm/drachmlaw17.TrieChildren", spec := "trieChildren", unfollowed := true, recurses := true, apart := false }
def TrieChildrenSaid : Prop := trieChildrenRow.holds Try.pinned (OpenSpec.ofChange trieChildrenSpec)

/-- ITS FALSE NEIGHBOUR: 'it returns false'. Refute it at one input. -/
def trieChildrenWrong : ChangeSpec := { name := "trieChildren", fn := fun _ => fun
  | [d] => { results := [.lit (.bool false)], args := [d] }
  | _ => none }
def TrieChildrenWrongFalsely : Prop := trieChildrenRow.holds Try.pinned (OpenSpec.ofChange trieChildrenWrong)

/-- 'drachmlaw17.TrieWords': WHATEVER THE INPUT: true; the input reads as it did. -/
def trieWordsSpec : ChangeSpec := { name := "trieWords", fn := fun _ => fun
  | [d1, d2] => { results := [.lit (.bool true)], args := [d1, d2] }
  | _ => none }
def trieWordsRow : OpenClaim := { program := "ytgdipibmaaehcaa", sum := "c91f442fd1874b356fa0557135f116e529afd7edfce16f953a0079d68f79f0c4", func := "drachm/drachmlaw17.TrieWords", spec := "trieWords", unfollowed := true, recurses := true, apart := false }
def TrieWordsSaid : Prop := trieWordsRow.holds Try.pinned (OpenSpec.ofChange trieWordsSpec)

/-- ITS FALSE NEIGHBOUR: 'it returns false'. Refute it at one input. -/
def trieWordsWrong : ChangeSpec := { name := "trieWords", fn := fun _ => fun
  | [d1, d2] => { results := [.lit (.bool false)], args := [d1, d2] }
  | _ => none }
def TrieWordsWrongFalsely : Prop := trieWordsRow.holds Try.pinned (OpenSpec.ofChange trieWordsWrong)

/-- 'drachmlaw17.TrieNil': WHATEVER THE INPUT: true; the input reads as it did. -/
def trieNilSpec : ChangeSpec := { name := "trieNil", fn := fun _ => fun
  | [d1, d2] => { results := [.lit (.bool true)], args := [d1, d2] }
  | _ => none }
def trieNilRow : OpenClaim := { program := "ytgdipibmaaehcaa", sum := "c91f442fd1874b356fa0557135f116e529afd7edfce16f953a0079d68f79f0c4", func := "drachm/drachmlaw17.TrieNil", spec := "trieNil", unfollowed := true, recurses := true, apart := false }
def TrieNilSaid : Prop := trieNilRow.holds Try.pinned (OpenSpec.ofChange trieNilSpec)

/-- ITS FALSE NEIGHBOUR: 'it returns false'. Refute it at one input. -/
def trieNilWrong : ChangeSpec := { name := "trieNil", fn := fun _ => fun
  | [d1, d2] => { results := [.lit (.bool false)], args := [d1, d2] }
  | _ => none }
def TrieNilWrongFalsely : Prop := trieNilRow.holds Try.pinned (OpenSpec.ofChange trieNilWrong)

/- THE SECOND FORM. 'bulk': how many values and letters a reading holds, each counted each time it is reached (what is shared counts as often as it is met; a slice's spare places count too). A statement '..UptoSaid' is the law's where the arguments, and the package variables that the reading takes, are together of bulk at most 1048576: NARROWER than '..Said'. Prove '..Said' where nothing that the law and all that it calls make is longer than what came in: it says more and counts as full. Else prove '..UptoSaid'. A law counts once. -/
mutual
def uptoBulk {H : Type} : DataW H → Nat
  | .lit (.string bytes) => bytes.length + 1
  | .lit _ => 1
  | .nil => 1
  | .ptr d => uptoBulk d + 1
  | .slice elems spare => uptoBulkAll elems + uptoBulkAll spare + 1
  | .agg parts => uptoBulkAll parts + 1
  | .iface _ d => uptoBulk d + 1
  | .map entries => uptoBulkEntries entries + 1
  | .held _ => 1
def uptoBulkAll {H : Type} : List (DataW H) → Nat
  | [] => 0
  | d :: r => uptoBulk d + uptoBulkAll r
def uptoBulkEntries {H : Type} : List (Lit × DataW H) → Nat
  | [] => 0
  | x :: r => uptoBulkEntry x + uptoBulkEntries r
def uptoBulkEntry {H : Type} : Lit × DataW H → Nat
  | (.string bytes, d) => bytes.length + uptoBulk d + 1
  | (_, d) => uptoBulk d + 1
 end
def uptoSmall : (H : Type) → List (DataW H) → Bool := fun _ ds => decide (uptoBulkAll ds ≤ 1048576)
def OpenSpec.upto (s : _root_.Go.ChangeSpec) : _root_.Go.OpenSpec := { _root_.Go.OpenSpec.ofChange s with cond := some uptoSmall }

/-- 'drachmlaw17.TrieFinds', WHERE WHAT IT READS IS OF BULK AT MOST 1048576: true; the input reads as it did. -/
def trieFindsUptoRow : OpenClaim := { program := "ytgdipibmaaehcaa", sum := "c91f442fd1874b356fa0557135f116e529afd7edfce16f953a0079d68f79f0c4", func := "drachm/drachmlaw17.TrieFinds", spec := "trieFinds", apart := false, narrowed := true }
def TrieFindsUptoSaid : Prop := trieFindsUptoRow.holds Try.pinned (OpenSpec.upto trieFindsSpec)

/-- 'drachmlaw17.TrieGoes', WHERE WHAT IT READS IS OF BULK AT MOST 1048576: true; the input reads as it did. -/
def trieGoesUptoRow : OpenClaim := { program := "ytgdipibmaaehcaa", sum := "c91f442fd1874b356fa0557135f116e529afd7edfce16f953a0079d68f79f0c4", func := "drachm/drachmlaw17.TrieGoes", spec := "trieGoes", apart := false, narrowed := true }
def TrieGoesUptoSaid : Prop := trieGoesUptoRow.holds Try.pinned (OpenSpec.upto trieGoesSpec)

/-- 'drachmlaw17.TrieTurned', WHERE WHAT IT READS IS OF BULK AT MOST 1048576: true; the input reads as it did. -/
def trieTurnedUptoRow : OpenClaim := { program := "ytgdipibmaaehcaa", sum := "c91f442fd1874b356fa0557135f116e529afd7edfce16f953a0079d68f79f0c4", func := "drachm/drachmlaw17.TrieTurned", spec := "trieTurned", apart := false, narrowed := true }
def TrieTurnedUptoSaid : Prop := trieTurnedUptoRow.holds Try.pinned (OpenSpec.upto trieTurnedSpec)

/-- 'drachmlaw17.TrieChildren', WHERE WHAT IT READS IS OF BULK AT MOST 1048576: true; the input reads as it did. -/
def trieChildrenUptoRow : OpenClaim := { program := "ytgdipibmaaehcaa", sum := "c91f442fd1874b356fa0557135f116e529afd7edfce16f953a0079d68f79f0c4", func := "drachm/drachmlaw17.TrieChildren", spec := "trieChildren", unfollowed := true, recurses := true, apart := false, narrowed := true }
def TrieChildrenUptoSaid : Prop := trieChildrenUptoRow.holds Try.pinned (OpenSpec.upto trieChildrenSpec)

/-- 'drachmlaw17.TrieWords', WHERE WHAT IT READS IS OF BULK AT MOST 1048576: true; the input reads as it did. -/
def trieWordsUptoRow : OpenClaim := { program := "ytgdipibmaaehcaa", sum := "c91f442fd1874b356fa0557135f116e529afd7edfce16f953a0079d68f79f0c4", func := "drachm/drachmlaw17.TrieWords", spec := "trieWords", unfollowed := true, recurses := true, apart := false, narrowed := true }
def TrieWordsUptoSaid : Prop := trieWordsUptoRow.holds Try.pinned (OpenSpec.upto trieWordsSpec)

/-- 'drachmlaw17.TrieNil', WHERE WHAT IT READS IS OF BULK AT MOST 1048576: true; the input reads as it did. -/
def trieNilUptoRow : OpenClaim := { program := "ytgdipibmaaehcaa", sum := "c91f442fd1874b356fa0557135f116e529afd7edfce16f953a0079d68f79f0c4", func := "drachm/drachmlaw17.TrieNil", spec := "trieNil", unfollowed := true, recurses := true, apart := false, narrowed := true }
def TrieNilUptoSaid : Prop := trieNilUptoRow.holds Try.pinned (OpenSpec.upto trieNilSpec)

end Rows
end Go.Proofs.Ytgdipibmaaehcaa
