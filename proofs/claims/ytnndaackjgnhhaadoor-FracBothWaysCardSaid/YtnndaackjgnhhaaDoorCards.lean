/-
  DERIVED. GIVEN WITH THE SEED: THE CARDS: each row of YtnndaackjgnhhaaDoorRows.lean that lists a variable, with what it lists TIED to the program's text (the seventh form; the later family's looks); each row that meets fmt, with fmt's text TOLD by the authors' own Lean function (tested against real Go, not proved from fmt's source: count such statements apart). THE CARD IS WHAT COUNTS. Prove the row's statement (the work); the ties are given (YtnndaackjgnhhaaDoorTie.lean); close each card by the builder's one call (the guide's Derived/Test/ToyasCard.lean, 'card_holds'). Laid BY PROGRAM, IN A SANDBOX (cutbox-door.mjs). By AI agents, Wed Nov 11 2026. No macro, syntax, notation, axiom, sorry.
-/
import Derived.Test.YtnndaackjgnhhaaDoorRows
import GoSem.ClaimSeven
namespace Go.Proofs.YtnndaackjgnhhaaDoor
namespace Rows

/-- THE TIED CARD OF 'drachmlaw02.FracMakes'. -/
def fracMakesCard : Claim7 := { stood := { row := fracMakesRow, standIns := [], harness := (true, "e068394789310cc8d1ef26a587d51c518c2f73cf6d4db713a609e54d2409730b"), looks := true }, kinds := [], alts := [], laidByText := true, laidKinds := [.data], laidTests := true, laidLooks := .later }
def FracMakesCardSaid : Prop := Claim7.holds Tryd.pinned (.plain (OpenSpec.ofChange fracMakesSpec)) fracMakesCard

/-- THE TIED CARD OF 'drachmlaw02.FracScales'. -/
def fracScalesCard : Claim7 := { stood := { row := fracScalesRow, standIns := [], harness := (true, "e068394789310cc8d1ef26a587d51c518c2f73cf6d4db713a609e54d2409730b"), looks := true }, kinds := [], alts := [], laidByText := true, laidKinds := [.data], laidTests := true, laidLooks := .later }
def FracScalesCardSaid : Prop := Claim7.holds Tryd.pinned (.plain (OpenSpec.ofChange fracScalesSpec)) fracScalesCard

/-- THE TIED CARD OF 'drachmlaw02.FracBack'. -/
def fracBackCard : Claim7 := { stood := { row := fracBackRow, standIns := [], harness := (true, "e068394789310cc8d1ef26a587d51c518c2f73cf6d4db713a609e54d2409730b"), looks := true }, kinds := [], alts := [], laidByText := true, laidKinds := [.data], laidTests := true, laidLooks := .later }
def FracBackCardSaid : Prop := Claim7.holds Tryd.pinned (.plain (OpenSpec.ofChange fracBackSpec)) fracBackCard

/-- THE TIED CARD OF 'drachmlaw02.FracReckons'. -/
def fracReckonsCard : Claim7 := { stood := { row := fracReckonsRow, standIns := [], harness := (true, "e068394789310cc8d1ef26a587d51c518c2f73cf6d4db713a609e54d2409730b"), looks := true }, kinds := [], alts := [], laidByText := true, laidKinds := [.data, .data], laidTests := true, laidLooks := .later }
def FracReckonsCardSaid : Prop := Claim7.holds Tryd.pinned (.plain (OpenSpec.ofChange fracReckonsSpec)) fracReckonsCard

/-- THE TIED CARD OF 'drachmlaw02.FracPowers'. -/
def fracPowersCard : Claim7 := { stood := { row := fracPowersRow, standIns := [], harness := (true, "e068394789310cc8d1ef26a587d51c518c2f73cf6d4db713a609e54d2409730b"), looks := true }, kinds := [], alts := [], laidByText := true, laidKinds := [.data, .data], laidTests := true, laidLooks := .later }
def FracPowersCardSaid : Prop := Claim7.holds Tryd.pinned (.plain (OpenSpec.ofChange fracPowersSpec)) fracPowersCard

/-- THE TIED CARD OF 'drachmlaw02.FracTexts'. -/
def fracTextsCard : Claim7 := { stood := { row := fracTextsRow, standIns := [], harness := (true, "e068394789310cc8d1ef26a587d51c518c2f73cf6d4db713a609e54d2409730b"), looks := true }, kinds := [], alts := [], laidByText := true, laidKinds := [.data, .data, .data, .sentinel, .sentinel, .data], laidTests := true, laidLooks := .later }
def FracTextsCardSaid : Prop := Claim7.holds Tryd.pinned (.plain (OpenSpec.ofChange fracTextsSpec)) fracTextsCard

/-- THE TIED CARD OF 'drachmlaw02.FracBothWays'. -/
def fracBothWaysCard : Claim7 := { stood := { row := fracBothWaysRow, standIns := [], harness := (true, "e068394789310cc8d1ef26a587d51c518c2f73cf6d4db713a609e54d2409730b"), looks := true }, kinds := [], alts := [], laidByText := true, laidKinds := [.data, .data, .data, .sentinel, .sentinel, .data], laidTests := true, laidLooks := .later }
def FracBothWaysCardSaid : Prop := Claim7.holds Tryd.pinned (.plain (OpenSpec.ofChange fracBothWaysSpec)) fracBothWaysCard

/-- THE SECOND FORM's CARD OF 'drachmlaw02.FracMakes'. -/
def fracMakesUptoCard : Claim7 := { stood := { row := fracMakesUptoRow, standIns := [], harness := (true, "e068394789310cc8d1ef26a587d51c518c2f73cf6d4db713a609e54d2409730b"), looks := true }, kinds := [], alts := [], laidByText := true, laidKinds := [.data], laidTests := true, laidLooks := .later }
def FracMakesUptoCardSaid : Prop := Claim7.holds Tryd.pinned (.plain (OpenSpec.upto fracMakesSpec)) fracMakesUptoCard

/-- THE SECOND FORM's CARD OF 'drachmlaw02.FracScales'. -/
def fracScalesUptoCard : Claim7 := { stood := { row := fracScalesUptoRow, standIns := [], harness := (true, "e068394789310cc8d1ef26a587d51c518c2f73cf6d4db713a609e54d2409730b"), looks := true }, kinds := [], alts := [], laidByText := true, laidKinds := [.data], laidTests := true, laidLooks := .later }
def FracScalesUptoCardSaid : Prop := Claim7.holds Tryd.pinned (.plain (OpenSpec.upto fracScalesSpec)) fracScalesUptoCard

/-- THE SECOND FORM's CARD OF 'drachmlaw02.FracBack'. -/
def fracBackUptoCard : Claim7 := { stood := { row := fracBackUptoRow, standIns := [], harness := (true, "e068394789310cc8d1ef26a587d51c518c2f73cf6d4db713a609e54d2409730b"), looks := true }, kinds := [], alts := [], laidByText := true, laidKinds := [.data], laidTests := true, laidLooks := .later }
def FracBackUptoCardSaid : Prop := Claim7.holds Tryd.pinned (.plain (OpenSpec.upto fracBackSpec)) fracBackUptoCard

/-- THE SECOND FORM's CARD OF 'drachmlaw02.FracReckons'. -/
def fracReckonsUptoCard : Claim7 := { stood := { row := fracReckonsUptoRow, standIns := [], harness := (true, "e068394789310cc8d1ef26a587d51c518c2f73cf6d4db713a609e54d2409730b"), looks := true }, kinds := [], alts := [], laidByText := true, laidKinds := [.data, .data], laidTests := true, laidLooks := .later }
def FracReckonsUptoCardSaid : Prop := Claim7.holds Tryd.pinned (.plain (OpenSpec.upto fracReckonsSpec)) fracReckonsUptoCard

/-- THE SECOND FORM's CARD OF 'drachmlaw02.FracPowers'. -/
def fracPowersUptoCard : Claim7 := { stood := { row := fracPowersUptoRow, standIns := [], harness := (true, "e068394789310cc8d1ef26a587d51c518c2f73cf6d4db713a609e54d2409730b"), looks := true }, kinds := [], alts := [], laidByText := true, laidKinds := [.data, .data], laidTests := true, laidLooks := .later }
def FracPowersUptoCardSaid : Prop := Claim7.holds Tryd.pinned (.plain (OpenSpec.upto fracPowersSpec)) fracPowersUptoCard

/-- THE SECOND FORM's CARD OF 'drachmlaw02.FracTexts'. -/
def fracTextsUptoCard : Claim7 := { stood := { row := fracTextsUptoRow, standIns := [], harness := (true, "e068394789310cc8d1ef26a587d51c518c2f73cf6d4db713a609e54d2409730b"), looks := true }, kinds := [], alts := [], laidByText := true, laidKinds := [.data, .data, .data, .sentinel, .sentinel, .data], laidTests := true, laidLooks := .later }
def FracTextsUptoCardSaid : Prop := Claim7.holds Tryd.pinned (.plain (OpenSpec.upto fracTextsSpec)) fracTextsUptoCard

/-- THE SECOND FORM's CARD OF 'drachmlaw02.FracBothWays'. -/
def fracBothWaysUptoCard : Claim7 := { stood := { row := fracBothWaysUptoRow, standIns := [], harness := (true, "e068394789310cc8d1ef26a587d51c518c2f73cf6d4db713a609e54d2409730b"), looks := true }, kinds := [], alts := [], laidByText := true, laidKinds := [.data, .data, .data, .sentinel, .sentinel, .data], laidTests := true, laidLooks := .later }
def FracBothWaysUptoCardSaid : Prop := Claim7.holds Tryd.pinned (.plain (OpenSpec.upto fracBothWaysSpec)) fracBothWaysUptoCard
end Rows
end Go.Proofs.YtnndaackjgnhhaaDoor
