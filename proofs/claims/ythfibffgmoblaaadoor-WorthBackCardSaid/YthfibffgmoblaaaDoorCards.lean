/-
  DERIVED. GIVEN WITH THE SEED: THE CARDS: each row of YthfibffgmoblaaaDoorRows.lean that lists a variable, with what it lists TIED to the program's text (the seventh form; the later family's looks); each row that meets fmt, with fmt's text TOLD by the authors' own Lean function (tested against real Go, not proved from fmt's source: count such statements apart). THE CARD IS WHAT COUNTS. Prove the row's statement (the work); the ties are given (YthfibffgmoblaaaDoorTie.lean); close each card by the builder's one call (the guide's Derived/Test/ToyasCard.lean, 'card_holds'). Laid BY PROGRAM, IN A SANDBOX (cutbox-door.mjs). By AI agents, Wed Nov 11 2026. No macro, syntax, notation, axiom, sorry.
-/
import Derived.Test.YthfibffgmoblaaaDoorRows
import GoSem.ClaimSeven
namespace Go.Proofs.YthfibffgmoblaaaDoor
namespace Rows

/-- THE TIED CARD OF 'drachmlaw04.WorthTexts'. -/
def worthTextsCard : Claim7 := { stood := { row := worthTextsRow, standIns := [], harness := (true, "58d989ae2167686759acbeddccef83b2e7d027d3687cd70d6bd020f041c75151"), looks := false }, kinds := [], alts := [], laidByText := true, laidKinds := [.data, .data, .data, .data], laidTests := true, laidLooks := .later }
def WorthTextsCardSaid : Prop := Claim7.holds Tryd.pinned (.plain (OpenSpec.ofChange worthTextsSpec)) worthTextsCard

/-- THE TIED CARD OF 'drachmlaw04.WorthChains'. -/
def worthChainsCard : Claim7 := { stood := { row := worthChainsRow, standIns := [], harness := (true, "58d989ae2167686759acbeddccef83b2e7d027d3687cd70d6bd020f041c75151"), looks := false }, kinds := [], alts := [], laidByText := true, laidKinds := [.data, .data, .data, .data], laidTests := true, laidLooks := .later }
def WorthChainsCardSaid : Prop := Claim7.holds Tryd.pinned (.plain (OpenSpec.ofChange worthChainsSpec)) worthChainsCard

/-- THE TIED CARD OF 'drachmlaw04.WorthBack'. -/
def worthBackCard : Claim7 := { stood := { row := worthBackRow, standIns := [], harness := (true, "58d989ae2167686759acbeddccef83b2e7d027d3687cd70d6bd020f041c75151"), looks := false }, kinds := [], alts := [], laidByText := true, laidKinds := [.data, .data, .data, .data], laidTests := true, laidLooks := .later }
def WorthBackCardSaid : Prop := Claim7.holds Tryd.pinned (.plain (OpenSpec.ofChange worthBackSpec)) worthBackCard

/-- THE TIED CARD OF 'drachmlaw04.WorthPowers'. -/
def worthPowersCard : Claim7 := { stood := { row := worthPowersRow, standIns := [], harness := (true, "58d989ae2167686759acbeddccef83b2e7d027d3687cd70d6bd020f041c75151"), looks := false }, kinds := [], alts := [], laidByText := true, laidKinds := [.data, .data, .data, .data, .data], laidTests := true, laidLooks := .later }
def WorthPowersCardSaid : Prop := Claim7.holds Tryd.pinned (.plain (OpenSpec.ofChange worthPowersSpec)) worthPowersCard

/-- THE TIED CARD OF 'drachmlaw04.WorthTells'. -/
def worthTellsCard : Claim7 := { stood := { row := worthTellsRow, standIns := [], harness := (true, "58d989ae2167686759acbeddccef83b2e7d027d3687cd70d6bd020f041c75151"), looks := false }, kinds := [], alts := [], laidByText := true, laidKinds := [.data, .data, .data, .data, .data], laidTests := true, laidLooks := .later }
def WorthTellsCardSaid : Prop := Claim7.holds Tryd.pinned (.plain (OpenSpec.ofChange worthTellsSpec)) worthTellsCard

/-- THE TIED CARD OF 'drachmlaw04.WorthSpecial'. -/
def worthSpecialCard : Claim7 := { stood := { row := worthSpecialRow, standIns := [], harness := (true, "58d989ae2167686759acbeddccef83b2e7d027d3687cd70d6bd020f041c75151"), looks := false }, kinds := [], alts := [], laidByText := true, laidKinds := [.data, .data, .data, .data, .data], laidTests := true, laidLooks := .later }
def WorthSpecialCardSaid : Prop := Claim7.holds Tryd.pinned (.plain (OpenSpec.ofChange worthSpecialSpec)) worthSpecialCard

/-- THE SECOND FORM's CARD OF 'drachmlaw04.WorthTexts'. -/
def worthTextsUptoCard : Claim7 := { stood := { row := worthTextsUptoRow, standIns := [], harness := (true, "58d989ae2167686759acbeddccef83b2e7d027d3687cd70d6bd020f041c75151"), looks := false }, kinds := [], alts := [], laidByText := true, laidKinds := [.data, .data, .data, .data], laidTests := true, laidLooks := .later }
def WorthTextsUptoCardSaid : Prop := Claim7.holds Tryd.pinned (.plain (OpenSpec.upto worthTextsSpec)) worthTextsUptoCard

/-- THE SECOND FORM's CARD OF 'drachmlaw04.WorthChains'. -/
def worthChainsUptoCard : Claim7 := { stood := { row := worthChainsUptoRow, standIns := [], harness := (true, "58d989ae2167686759acbeddccef83b2e7d027d3687cd70d6bd020f041c75151"), looks := false }, kinds := [], alts := [], laidByText := true, laidKinds := [.data, .data, .data, .data], laidTests := true, laidLooks := .later }
def WorthChainsUptoCardSaid : Prop := Claim7.holds Tryd.pinned (.plain (OpenSpec.upto worthChainsSpec)) worthChainsUptoCard

/-- THE SECOND FORM's CARD OF 'drachmlaw04.WorthBack'. -/
def worthBackUptoCard : Claim7 := { stood := { row := worthBackUptoRow, standIns := [], harness := (true, "58d989ae2167686759acbeddccef83b2e7d027d3687cd70d6bd020f041c75151"), looks := false }, kinds := [], alts := [], laidByText := true, laidKinds := [.data, .data, .data, .data], laidTests := true, laidLooks := .later }
def WorthBackUptoCardSaid : Prop := Claim7.holds Tryd.pinned (.plain (OpenSpec.upto worthBackSpec)) worthBackUptoCard

/-- THE SECOND FORM's CARD OF 'drachmlaw04.WorthPowers'. -/
def worthPowersUptoCard : Claim7 := { stood := { row := worthPowersUptoRow, standIns := [], harness := (true, "58d989ae2167686759acbeddccef83b2e7d027d3687cd70d6bd020f041c75151"), looks := false }, kinds := [], alts := [], laidByText := true, laidKinds := [.data, .data, .data, .data, .data], laidTests := true, laidLooks := .later }
def WorthPowersUptoCardSaid : Prop := Claim7.holds Tryd.pinned (.plain (OpenSpec.upto worthPowersSpec)) worthPowersUptoCard

/-- THE SECOND FORM's CARD OF 'drachmlaw04.WorthTells'. -/
def worthTellsUptoCard : Claim7 := { stood := { row := worthTellsUptoRow, standIns := [], harness := (true, "58d989ae2167686759acbeddccef83b2e7d027d3687cd70d6bd020f041c75151"), looks := false }, kinds := [], alts := [], laidByText := true, laidKinds := [.data, .data, .data, .data, .data], laidTests := true, laidLooks := .later }
def WorthTellsUptoCardSaid : Prop := Claim7.holds Tryd.pinned (.plain (OpenSpec.upto worthTellsSpec)) worthTellsUptoCard

/-- THE SECOND FORM's CARD OF 'drachmlaw04.WorthSpecial'. -/
def worthSpecialUptoCard : Claim7 := { stood := { row := worthSpecialUptoRow, standIns := [], harness := (true, "58d989ae2167686759acbeddccef83b2e7d027d3687cd70d6bd020f041c75151"), looks := false }, kinds := [], alts := [], laidByText := true, laidKinds := [.data, .data, .data, .data, .data], laidTests := true, laidLooks := .later }
def WorthSpecialUptoCardSaid : Prop := Claim7.holds Tryd.pinned (.plain (OpenSpec.upto worthSpecialSpec)) worthSpecialUptoCard
end Rows
end Go.Proofs.YthfibffgmoblaaaDoor
