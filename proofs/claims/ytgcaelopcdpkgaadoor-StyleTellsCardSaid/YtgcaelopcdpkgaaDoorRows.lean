/-
  NARROWER THAN 'FOR EVERY INPUT', by the rows' own cells (each row's printed sentence says how): StyleApart: laid · StyleRaises: laid · StyleTells: laid · StylePlain: laid.
  DERIVED. THE GIVEN ROWS OF THIS SEAT. 4 by the template 'for every input the law returns true; each argument reads behind the call as it read before'; 0 by the template 'total and deterministic' (their statements: YtgcaelopcdpkgaaDoorTotals.lean).
  GIVEN WITH THE SEED: the statements are not yours to turn. If you find one false, say at which input.
  Laid BY PROGRAM, IN A SANDBOX (cutbox-rows.mjs): the forced cells as the released guide's own fill.sh prints them over the translation 982b8f60314c5e46… (all of the seat's roots in one cut). By AI agents, Wed Nov 11 2026. No macro, syntax, notation, axiom, sorry.
-/
import Derived.Test.YtgcaelopcdpkgaaDoorChecked
import GoSem.Claim
import GoSem.ClaimJoined
import GoSem.ClaimMapViews
import Derived.JoinedTies
import Derived.KernelRfl
namespace Go.Proofs.YtgcaelopcdpkgaaDoor
/- THE CELL 'sum', in the pinned program and in every row, IS THE sha256 OF THE DUMP (.gsa) THAT YtgcaelopcdpkgaaDoorProg.lean LOADS. Nothing in Lean hashes anything: it is a label: what it is worth is what the hold of that sum in a sandbox is worth. -/
noncomputable def Tryd.pinned : Pinned := { name := "ytgcaelopcdpkgaadoor", sum := "982b8f60314c5e46a85d67bfba77c4a3c159ff90e980d5c827597be472d05af7", checked := Tryd.checked }
namespace Rows
def none {H : Type} : Left H := { results := [], args := [] }

/- WHAT THE LISTED PACKAGE-LEVEL VARIABLES READ AS WHEN THE CALL BEGINS. Each datum BY PROGRAM (the guide's laid-datum.mjs) off the statement by which the dump's own 'gosem.cut.vars' lays the variable. In a bare row this is a premise. The card (YtgcaelopcdpkgaaDoorCards.lean) ties it to the program's text. -/
def laid_drachm_style_styles {H : Type} : DataW H := .agg [.agg [.lit (.bool false), .lit (.int .u8 46), .lit (.int .u8 47), .lit (.int .u8 0), .lit (.int .u8 123), .lit (.int .u8 125)], .agg [.lit (.bool true), .lit (.int .u8 46), .lit (.int .u8 47), .lit (.int .u8 0), .lit (.int .u8 123), .lit (.int .u8 125)], .agg [.lit (.bool false), .lit (.int .u8 42), .lit (.int .u8 47), .lit (.int .u8 94), .lit (.int .u8 60), .lit (.int .u8 62)], .agg [.lit (.bool true), .lit (.int .u8 46), .lit (.int .u8 47), .lit (.int .u8 0), .lit (.int .u8 0), .lit (.int .u8 0)], .agg [.lit (.bool false), .lit (.int .u8 46), .lit (.int .u8 47), .lit (.int .u8 94), .lit (.int .u8 0), .lit (.int .u8 0)]]

/-- 'drachmlaw07.StyleApart': WHATEVER THE INPUT: true; the input reads as it did. -/
def styleApartSpec : ChangeSpec := { name := "styleApart", fn := fun _ => fun
  | [d] => { results := [.lit (.bool true)], args := [d] }
  | _ => none }
def styleApartRow : OpenClaim := { program := "ytgcaelopcdpkgaadoor", sum := "982b8f60314c5e46a85d67bfba77c4a3c159ff90e980d5c827597be472d05af7", func := "drachm/drachmlaw07.StyleApart", spec := "styleApart", inPlace := ["internal/bytealg.IndexByteString"], unfollowed := true, recurses := true, named := ["drachm/style.styles"], apart := false, laid := [("drachm/style.styles", laid_drachm_style_styles)] }
def StyleApartSaid : Prop := styleApartRow.holds Tryd.pinned (OpenSpec.ofChange styleApartSpec)

/-- ITS FALSE NEIGHBOUR: 'it returns false'. Refute it at one input. -/
def styleApartWrong : ChangeSpec := { name := "styleApart", fn := fun _ => fun
  | [d] => { results := [.lit (.bool false)], args := [d] }
  | _ => none }
def StyleApartWrongFalsely : Prop := styleApartRow.holds Tryd.pinned (OpenSpec.ofChange styleApartWrong)

/-- 'drachmlaw07.StyleRaises': WHATEVER THE INPUT: true; the input reads as it did. -/
def styleRaisesSpec : ChangeSpec := { name := "styleRaises", fn := fun _ => fun
  | [d1, d2] => { results := [.lit (.bool true)], args := [d1, d2] }
  | _ => none }
def styleRaisesRow : OpenClaim := { program := "ytgcaelopcdpkgaadoor", sum := "982b8f60314c5e46a85d67bfba77c4a3c159ff90e980d5c827597be472d05af7", func := "drachm/drachmlaw07.StyleRaises", spec := "styleRaises", inPlace := ["internal/bytealg.IndexByteString"], unfollowed := true, recurses := true, named := ["drachm/style.styles"], apart := false, laid := [("drachm/style.styles", laid_drachm_style_styles)] }
def StyleRaisesSaid : Prop := styleRaisesRow.holds Tryd.pinned (OpenSpec.ofChange styleRaisesSpec)

/-- ITS FALSE NEIGHBOUR: 'it returns false'. Refute it at one input. -/
def styleRaisesWrong : ChangeSpec := { name := "styleRaises", fn := fun _ => fun
  | [d1, d2] => { results := [.lit (.bool false)], args := [d1, d2] }
  | _ => none }
def StyleRaisesWrongFalsely : Prop := styleRaisesRow.holds Tryd.pinned (OpenSpec.ofChange styleRaisesWrong)

/-- 'drachmlaw07.StyleTells': WHATEVER THE INPUT: true; the input reads as it did. -/
def styleTellsSpec : ChangeSpec := { name := "styleTells", fn := fun _ => fun
  | [d1, d2, d3] => { results := [.lit (.bool true)], args := [d1, d2, d3] }
  | _ => none }
def styleTellsRow : OpenClaim := { program := "ytgcaelopcdpkgaadoor", sum := "982b8f60314c5e46a85d67bfba77c4a3c159ff90e980d5c827597be472d05af7", func := "drachm/drachmlaw07.StyleTells", spec := "styleTells", inPlace := ["internal/bytealg.IndexByteString"], unfollowed := true, recurses := true, named := ["drachm/style.styles"], apart := false, laid := [("drachm/style.styles", laid_drachm_style_styles)] }
def StyleTellsSaid : Prop := styleTellsRow.holds Tryd.pinned (OpenSpec.ofChange styleTellsSpec)

/-- ITS FALSE NEIGHBOUR: 'it returns false'. Refute it at one input. -/
def styleTellsWrong : ChangeSpec := { name := "styleTells", fn := fun _ => fun
  | [d1, d2, d3] => { results := [.lit (.bool false)], args := [d1, d2, d3] }
  | _ => none }
def StyleTellsWrongFalsely : Prop := styleTellsRow.holds Tryd.pinned (OpenSpec.ofChange styleTellsWrong)

/-- 'drachmlaw07.StylePlain': WHATEVER THE INPUT: true; the input reads as it did. -/
def stylePlainSpec : ChangeSpec := { name := "stylePlain", fn := fun _ => fun
  | [d1, d2, d3] => { results := [.lit (.bool true)], args := [d1, d2, d3] }
  | _ => none }
def stylePlainRow : OpenClaim := { program := "ytgcaelopcdpkgaadoor", sum := "982b8f60314c5e46a85d67bfba77c4a3c159ff90e980d5c827597be472d05af7", func := "drachm/drachmlaw07.StylePlain", spec := "stylePlain", inPlace := ["internal/bytealg.IndexByteString"], unfollowed := true, recurses := true, named := ["drachm/style.styles"], apart := false, laid := [("drachm/style.styles", laid_drachm_style_styles)] }
def StylePlainSaid : Prop := stylePlainRow.holds Tryd.pinned (OpenSpec.ofChange stylePlainSpec)

/-- ITS FALSE NEIGHBOUR: 'it returns false'. Refute it at one input. -/
def stylePlainWrong : ChangeSpec := { name := "stylePlain", fn := fun _ => fun
  | [d1, d2, d3] => { results := [.lit (.bool false)], args := [d1, d2, d3] }
  | _ => none }
def StylePlainWrongFalsely : Prop := stylePlainRow.holds Tryd.pinned (OpenSpec.ofChange stylePlainWrong)

/- THE SECOND FORM. 'bulk': how many values and letters a reading holds, each counted each time it is reached (what is shared counts as often as it is met; a slice's spare places count too). A statement '..UptoSaid' is the law's where the arguments, and the package variables that the reading takes, are together of bulk at most 1048576: NARROWER than '..Said'. Prove '..Said' where nothing that the law and all that it calls make is longer than what came in: it says more and counts as full. Else prove '..UptoSaid'. A law counts once. -/
mutual
def uptoBulk {H : Type} : DataW H → Nat
  | .lit (.string bytes) => bytes.length + 1
  | .lit _ => 1
  | .nil => 1
  | .ptr d => uptoBulk d + 1
  | .slice elems spare => uptoBulkAll elems + uptoBulkAll spare + 1
  | .agg parts => uptoBulkAll parts + 1
  | .iface _ d => uptoBulk d + 1
  | .map entries => uptoBulkEntries entries + 1
  | .held _ => 1
def uptoBulkAll {H : Type} : List (DataW H) → Nat
  | [] => 0
  | d :: r => uptoBulk d + uptoBulkAll r
def uptoBulkEntries {H : Type} : List (Lit × DataW H) → Nat
  | [] => 0
  | x :: r => uptoBulkEntry x + uptoBulkEntries r
def uptoBulkEntry {H : Type} : Lit × DataW H → Nat
  | (.string bytes, d) => bytes.length + uptoBulk d + 1
  | (_, d) => uptoBulk d + 1
 end
def uptoSmall : (H : Type) → List (DataW H) → Bool := fun _ ds => decide (uptoBulkAll ds ≤ 1048576)
def OpenSpec.upto (s : _root_.Go.ChangeSpec) : _root_.Go.OpenSpec := { _root_.Go.OpenSpec.ofChange s with cond := some uptoSmall }

/-- 'drachmlaw07.StyleApart', WHERE WHAT IT READS IS OF BULK AT MOST 1048576: true; the input reads as it did. -/
def styleApartUptoRow : OpenClaim := { program := "ytgcaelopcdpkgaadoor", sum := "982b8f60314c5e46a85d67bfba77c4a3c159ff90e980d5c827597be472d05af7", func := "drachm/drachmlaw07.StyleApart", spec := "styleApart", inPlace := ["internal/bytealg.IndexByteString"], unfollowed := true, recurses := true, named := ["drachm/style.styles"], apart := false, laid := [("drachm/style.styles", laid_drachm_style_styles)], narrowed := true }
def StyleApartUptoSaid : Prop := styleApartUptoRow.holds Tryd.pinned (OpenSpec.upto styleApartSpec)

/-- 'drachmlaw07.StyleRaises', WHERE WHAT IT READS IS OF BULK AT MOST 1048576: true; the input reads as it did. -/
def styleRaisesUptoRow : OpenClaim := { program := "ytgcaelopcdpkgaadoor", sum := "982b8f60314c5e46a85d67bfba77c4a3c159ff90e980d5c827597be472d05af7", func := "drachm/drachmlaw07.StyleRaises", spec := "styleRaises", inPlace := ["internal/bytealg.IndexByteString"], unfollowed := true, recurses := true, named := ["drachm/style.styles"], apart := false, laid := [("drachm/style.styles", laid_drachm_style_styles)], narrowed := true }
def StyleRaisesUptoSaid : Prop := styleRaisesUptoRow.holds Tryd.pinned (OpenSpec.upto styleRaisesSpec)

/-- 'drachmlaw07.StyleTells', WHERE WHAT IT READS IS OF BULK AT MOST 1048576: true; the input reads as it did. -/
def styleTellsUptoRow : OpenClaim := { program := "ytgcaelopcdpkgaadoor", sum := "982b8f60314c5e46a85d67bfba77c4a3c159ff90e980d5c827597be472d05af7", func := "drachm/drachmlaw07.StyleTells", spec := "styleTells", inPlace := ["internal/bytealg.IndexByteString"], unfollowed := true, recurses := true, named := ["drachm/style.styles"], apart := false, laid := [("drachm/style.styles", laid_drachm_style_styles)], narrowed := true }
def StyleTellsUptoSaid : Prop := styleTellsUptoRow.holds Tryd.pinned (OpenSpec.upto styleTellsSpec)

/-- 'drachmlaw07.StylePlain', WHERE WHAT IT READS IS OF BULK AT MOST 1048576: true; the input reads as it did. -/
def stylePlainUptoRow : OpenClaim := { program := "ytgcaelopcdpkgaadoor", sum := "982b8f60314c5e46a85d67bfba77c4a3c159ff90e980d5c827597be472d05af7", func := "drachm/drachmlaw07.StylePlain", spec := "stylePlain", inPlace := ["internal/bytealg.IndexByteString"], unfollowed := true, recurses := true, named := ["drachm/style.styles"], apart := false, laid := [("drachm/style.styles", laid_drachm_style_styles)], narrowed := true }
def StylePlainUptoSaid : Prop := stylePlainUptoRow.holds Tryd.pinned (OpenSpec.upto stylePlainSpec)

end Rows
end Go.Proofs.YtgcaelopcdpkgaaDoor
