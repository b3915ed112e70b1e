/-
  DERIVED. GIVEN WITH THE SEED: THE CARDS: each row of YtgcaelopcdpkgaaDoorRows.lean that lists a variable, with what it lists TIED to the program's text (the seventh form; the later family's looks); each row that meets fmt, with fmt's text TOLD by the authors' own Lean function (tested against real Go, not proved from fmt's source: count such statements apart). THE CARD IS WHAT COUNTS. Prove the row's statement (the work); the ties are given (YtgcaelopcdpkgaaDoorTie.lean); close each card by the builder's one call (the guide's Derived/Test/ToyasCard.lean, 'card_holds'). Laid BY PROGRAM, IN A SANDBOX (cutbox-door.mjs). By AI agents, Wed Nov 11 2026. No macro, syntax, notation, axiom, sorry.
-/
import Derived.Test.YtgcaelopcdpkgaaDoorRows
import GoSem.ClaimSeven
namespace Go.Proofs.YtgcaelopcdpkgaaDoor
namespace Rows

/-- THE TIED CARD OF 'drachmlaw07.StyleApart'. -/
def styleApartCard : Claim7 := { stood := { row := styleApartRow, standIns := [], harness := (true, "ac0c8caf9d5ec8c3671eb33e846a4ea3dd9f4e4e79dcfe6f65bb76623e445bb2"), looks := false }, kinds := [], alts := [], laidByText := true, laidKinds := [.data], laidTests := true, laidLooks := .later }
def StyleApartCardSaid : Prop := Claim7.holds Tryd.pinned (.plain (OpenSpec.ofChange styleApartSpec)) styleApartCard

/-- THE TIED CARD OF 'drachmlaw07.StyleRaises'. -/
def styleRaisesCard : Claim7 := { stood := { row := styleRaisesRow, standIns := [], harness := (true, "ac0c8caf9d5ec8c3671eb33e846a4ea3dd9f4e4e79dcfe6f65bb76623e445bb2"), looks := false }, kinds := [], alts := [], laidByText := true, laidKinds := [.data], laidTests := true, laidLooks := .later }
def StyleRaisesCardSaid : Prop := Claim7.holds Tryd.pinned (.plain (OpenSpec.ofChange styleRaisesSpec)) styleRaisesCard

/-- THE TIED CARD OF 'drachmlaw07.StyleTells'. -/
def styleTellsCard : Claim7 := { stood := { row := styleTellsRow, standIns := [], harness := (true, "ac0c8caf9d5ec8c3671eb33e846a4ea3dd9f4e4e79dcfe6f65bb76623e445bb2"), looks := false }, kinds := [], alts := [], laidByText := true, laidKinds := [.data], laidTests := true, laidLooks := .later }
def StyleTellsCardSaid : Prop := Claim7.holds Tryd.pinned (.plain (OpenSpec.ofChange styleTellsSpec)) styleTellsCard

/-- THE TIED CARD OF 'drachmlaw07.StylePlain'. -/
def stylePlainCard : Claim7 := { stood := { row := stylePlainRow, standIns := [], harness := (true, "ac0c8caf9d5ec8c3671eb33e846a4ea3dd9f4e4e79dcfe6f65bb76623e445bb2"), looks := false }, kinds := [], alts := [], laidByText := true, laidKinds := [.data], laidTests := true, laidLooks := .later }
def StylePlainCardSaid : Prop := Claim7.holds Tryd.pinned (.plain (OpenSpec.ofChange stylePlainSpec)) stylePlainCard

/-- THE SECOND FORM's CARD OF 'drachmlaw07.StyleApart'. -/
def styleApartUptoCard : Claim7 := { stood := { row := styleApartUptoRow, standIns := [], harness := (true, "ac0c8caf9d5ec8c3671eb33e846a4ea3dd9f4e4e79dcfe6f65bb76623e445bb2"), looks := false }, kinds := [], alts := [], laidByText := true, laidKinds := [.data], laidTests := true, laidLooks := .later }
def StyleApartUptoCardSaid : Prop := Claim7.holds Tryd.pinned (.plain (OpenSpec.upto styleApartSpec)) styleApartUptoCard

/-- THE SECOND FORM's CARD OF 'drachmlaw07.StyleRaises'. -/
def styleRaisesUptoCard : Claim7 := { stood := { row := styleRaisesUptoRow, standIns := [], harness := (true, "ac0c8caf9d5ec8c3671eb33e846a4ea3dd9f4e4e79dcfe6f65bb76623e445bb2"), looks := false }, kinds := [], alts := [], laidByText := true, laidKinds := [.data], laidTests := true, laidLooks := .later }
def StyleRaisesUptoCardSaid : Prop := Claim7.holds Tryd.pinned (.plain (OpenSpec.upto styleRaisesSpec)) styleRaisesUptoCard

/-- THE SECOND FORM's CARD OF 'drachmlaw07.StyleTells'. -/
def styleTellsUptoCard : Claim7 := { stood := { row := styleTellsUptoRow, standIns := [], harness := (true, "ac0c8caf9d5ec8c3671eb33e846a4ea3dd9f4e4e79dcfe6f65bb76623e445bb2"), looks := false }, kinds := [], alts := [], laidByText := true, laidKinds := [.data], laidTests := true, laidLooks := .later }
def StyleTellsUptoCardSaid : Prop := Claim7.holds Tryd.pinned (.plain (OpenSpec.upto styleTellsSpec)) styleTellsUptoCard

/-- THE SECOND FORM's CARD OF 'drachmlaw07.StylePlain'. -/
def stylePlainUptoCard : Claim7 := { stood := { row := stylePlainUptoRow, standIns := [], harness := (true, "ac0c8caf9d5ec8c3671eb33e846a4ea3dd9f4e4e79dcfe6f65bb76623e445bb2"), looks := false }, kinds := [], alts := [], laidByText := true, laidKinds := [.data], laidTests := true, laidLooks := .later }
def StylePlainUptoCardSaid : Prop := Claim7.holds Tryd.pinned (.plain (OpenSpec.upto stylePlainSpec)) stylePlainUptoCard
end Rows
end Go.Proofs.YtgcaelopcdpkgaaDoor
