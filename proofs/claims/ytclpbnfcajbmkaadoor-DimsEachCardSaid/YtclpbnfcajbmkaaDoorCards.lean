/-
  DERIVED. GIVEN WITH THE SEED: THE CARDS: each row of YtclpbnfcajbmkaaDoorRows.lean that lists a variable, with what it lists TIED to the program's text (the seventh form; the later family's looks); each row that meets fmt, with fmt's text TOLD by the authors' own Lean function (tested against real Go, not proved from fmt's source: count such statements apart). THE CARD IS WHAT COUNTS. Prove the row's statement (the work); the ties are given (YtclpbnfcajbmkaaDoorTie.lean); close each card by the builder's one call (the guide's Derived/Test/ToyasCard.lean, 'card_holds'). Laid BY PROGRAM, IN A SANDBOX (cutbox-door.mjs). By AI agents, Wed Nov 11 2026. No macro, syntax, notation, axiom, sorry.
-/
import Derived.Test.YtclpbnfcajbmkaaDoorRows
import GoSem.ClaimSeven
namespace Go.Proofs.YtclpbnfcajbmkaaDoor
namespace Rows

/-- THE TIED CARD OF 'drachmlaw03.DimsTexts'. -/
def dimsTextsCard : Claim7 := { stood := { row := dimsTextsRow, standIns := [], harness := (true, "23c92cdf29297457dcf1cba448e489c859430e333177afab056e08ceec72111b"), looks := true }, kinds := [], alts := [], laidByText := true, laidKinds := [.data, .data, .data, .sentinel, .sentinel], laidTests := true, laidLooks := .later }
def DimsTextsCardSaid : Prop := Claim7.holds Tryd.pinned (.plain (OpenSpec.ofChange dimsTextsSpec)) dimsTextsCard

/-- THE TIED CARD OF 'drachmlaw03.DimsEach'. -/
def dimsEachCard : Claim7 := { stood := { row := dimsEachRow, standIns := [], harness := (true, "23c92cdf29297457dcf1cba448e489c859430e333177afab056e08ceec72111b"), looks := true }, kinds := [], alts := [], laidByText := true, laidKinds := [.data, .data, .data, .sentinel, .sentinel], laidTests := true, laidLooks := .later }
def DimsEachCardSaid : Prop := Claim7.holds Tryd.pinned (.plain (OpenSpec.ofChange dimsEachSpec)) dimsEachCard

/-- THE TIED CARD OF 'drachmlaw03.DimsTimes'. -/
def dimsTimesCard : Claim7 := { stood := { row := dimsTimesRow, standIns := [], harness := (true, "23c92cdf29297457dcf1cba448e489c859430e333177afab056e08ceec72111b"), looks := true }, kinds := [], alts := [], laidByText := true, laidKinds := [.data, .data, .data, .sentinel, .sentinel], laidTests := true, laidLooks := .later }
def DimsTimesCardSaid : Prop := Claim7.holds Tryd.pinned (.plain (OpenSpec.ofChange dimsTimesSpec)) dimsTimesCard

/-- THE TIED CARD OF 'drachmlaw03.DimsTells'. -/
def dimsTellsCard : Claim7 := { stood := { row := dimsTellsRow, standIns := [], harness := (true, "23c92cdf29297457dcf1cba448e489c859430e333177afab056e08ceec72111b"), looks := true }, kinds := [], alts := [], laidByText := true, laidKinds := [.data, .data, .data, .sentinel, .sentinel], laidTests := true, laidLooks := .later }
def DimsTellsCardSaid : Prop := Claim7.holds Tryd.pinned (.plain (OpenSpec.ofChange dimsTellsSpec)) dimsTellsCard

/-- THE TIED CARD OF 'drachmlaw03.DimsBack'. -/
def dimsBackCard : Claim7 := { stood := { row := dimsBackRow, standIns := [], harness := (true, "23c92cdf29297457dcf1cba448e489c859430e333177afab056e08ceec72111b"), looks := true }, kinds := [], alts := [], laidByText := true, laidKinds := [.data, .data, .data, .sentinel, .sentinel], laidTests := true, laidLooks := .later }
def DimsBackCardSaid : Prop := Claim7.holds Tryd.pinned (.plain (OpenSpec.ofChange dimsBackSpec)) dimsBackCard

/-- THE TIED CARD OF 'drachmlaw03.DimsEnds'. -/
def dimsEndsCard : Claim7 := { stood := { row := dimsEndsRow, standIns := [], harness := (true, "23c92cdf29297457dcf1cba448e489c859430e333177afab056e08ceec72111b"), looks := true }, kinds := [], alts := [], laidByText := true, laidKinds := [.data, .data, .data, .sentinel, .sentinel], laidTests := true, laidLooks := .later }
def DimsEndsCardSaid : Prop := Claim7.holds Tryd.pinned (.plain (OpenSpec.ofChange dimsEndsSpec)) dimsEndsCard

/-- THE SECOND FORM's CARD OF 'drachmlaw03.DimsTexts'. -/
def dimsTextsUptoCard : Claim7 := { stood := { row := dimsTextsUptoRow, standIns := [], harness := (true, "23c92cdf29297457dcf1cba448e489c859430e333177afab056e08ceec72111b"), looks := true }, kinds := [], alts := [], laidByText := true, laidKinds := [.data, .data, .data, .sentinel, .sentinel], laidTests := true, laidLooks := .later }
def DimsTextsUptoCardSaid : Prop := Claim7.holds Tryd.pinned (.plain (OpenSpec.upto dimsTextsSpec)) dimsTextsUptoCard

/-- THE SECOND FORM's CARD OF 'drachmlaw03.DimsEach'. -/
def dimsEachUptoCard : Claim7 := { stood := { row := dimsEachUptoRow, standIns := [], harness := (true, "23c92cdf29297457dcf1cba448e489c859430e333177afab056e08ceec72111b"), looks := true }, kinds := [], alts := [], laidByText := true, laidKinds := [.data, .data, .data, .sentinel, .sentinel], laidTests := true, laidLooks := .later }
def DimsEachUptoCardSaid : Prop := Claim7.holds Tryd.pinned (.plain (OpenSpec.upto dimsEachSpec)) dimsEachUptoCard

/-- THE SECOND FORM's CARD OF 'drachmlaw03.DimsTimes'. -/
def dimsTimesUptoCard : Claim7 := { stood := { row := dimsTimesUptoRow, standIns := [], harness := (true, "23c92cdf29297457dcf1cba448e489c859430e333177afab056e08ceec72111b"), looks := true }, kinds := [], alts := [], laidByText := true, laidKinds := [.data, .data, .data, .sentinel, .sentinel], laidTests := true, laidLooks := .later }
def DimsTimesUptoCardSaid : Prop := Claim7.holds Tryd.pinned (.plain (OpenSpec.upto dimsTimesSpec)) dimsTimesUptoCard

/-- THE SECOND FORM's CARD OF 'drachmlaw03.DimsTells'. -/
def dimsTellsUptoCard : Claim7 := { stood := { row := dimsTellsUptoRow, standIns := [], harness := (true, "23c92cdf29297457dcf1cba448e489c859430e333177afab056e08ceec72111b"), looks := true }, kinds := [], alts := [], laidByText := true, laidKinds := [.data, .data, .data, .sentinel, .sentinel], laidTests := true, laidLooks := .later }
def DimsTellsUptoCardSaid : Prop := Claim7.holds Tryd.pinned (.plain (OpenSpec.upto dimsTellsSpec)) dimsTellsUptoCard

/-- THE SECOND FORM's CARD OF 'drachmlaw03.DimsBack'. -/
def dimsBackUptoCard : Claim7 := { stood := { row := dimsBackUptoRow, standIns := [], harness := (true, "23c92cdf29297457dcf1cba448e489c859430e333177afab056e08ceec72111b"), looks := true }, kinds := [], alts := [], laidByText := true, laidKinds := [.data, .data, .data, .sentinel, .sentinel], laidTests := true, laidLooks := .later }
def DimsBackUptoCardSaid : Prop := Claim7.holds Tryd.pinned (.plain (OpenSpec.upto dimsBackSpec)) dimsBackUptoCard

/-- THE SECOND FORM's CARD OF 'drachmlaw03.DimsEnds'. -/
def dimsEndsUptoCard : Claim7 := { stood := { row := dimsEndsUptoRow, standIns := [], harness := (true, "23c92cdf29297457dcf1cba448e489c859430e333177afab056e08ceec72111b"), looks := true }, kinds := [], alts := [], laidByText := true, laidKinds := [.data, .data, .data, .sentinel, .sentinel], laidTests := true, laidLooks := .later }
def DimsEndsUptoCardSaid : Prop := Claim7.holds Tryd.pinned (.plain (OpenSpec.upto dimsEndsSpec)) dimsEndsUptoCard
end Rows
end Go.Proofs.YtclpbnfcajbmkaaDoor
