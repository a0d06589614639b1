/-
  DERIVED. GIVEN WITH THE SEED: THE CARDS: each row of YtaloadadecoogaaDoorRows.lean that lists a variable, with what it lists TIED to the program's text (the seventh form; the later family's looks); each row that meets fmt, with fmt's text TOLD by the authors' own Lean function (tested against real Go, not proved from fmt's source: count such statements apart). THE CARD IS WHAT COUNTS. Prove the row's statement (the work); the ties are given (YtaloadadecoogaaDoorTie.lean); close each card by the builder's one call (the guide's Derived/Test/ToyasCard.lean, 'card_holds'). Laid BY PROGRAM, IN A SANDBOX (cutbox-door.mjs). By AI agents, Wed Nov 11 2026. No macro, syntax, notation, axiom, sorry.
-/
import Derived.Test.YtaloadadecoogaaDoorRows
import GoSem.ClaimSeven
namespace Go.Proofs.YtaloadadecoogaaDoor
namespace Rows

/-- THE TIED CARD OF 'innkeeperlaw06.MoneyMatchesReference'. -/
def moneyMatchesReferenceCard : Claim7 := { stood := { row := moneyMatchesReferenceRow, standIns := [], harness := (true, "ae9b5e946ebc3e62dc2f49efaa1df328cd72f7c20d564dcf7ccef0b556de4fce"), looks := false }, kinds := [], alts := [], laidByText := true, laidKinds := [.data, .data, .data], laidTests := true, laidLooks := .later }
def MoneyMatchesReferenceCardSaid : Prop := Claim7.holds Tryd.pinned (.plain (OpenSpec.ofChange moneyMatchesReferenceSpec)) moneyMatchesReferenceCard

/-- THE TIED CARD OF 'innkeeperlaw06.MoneyNearest'. -/
def moneyNearestCard : Claim7 := { stood := { row := moneyNearestRow, standIns := [], harness := (true, "ae9b5e946ebc3e62dc2f49efaa1df328cd72f7c20d564dcf7ccef0b556de4fce"), looks := false }, kinds := [], alts := [], laidByText := true, laidKinds := [.data, .data, .data], laidTests := true, laidLooks := .later }
def MoneyNearestCardSaid : Prop := Claim7.holds Tryd.pinned (.plain (OpenSpec.ofChange moneyNearestSpec)) moneyNearestCard

/-- THE TIED CARD OF 'innkeeperlaw06.MoneyOrder'. -/
def moneyOrderCard : Claim7 := { stood := { row := moneyOrderRow, standIns := [], harness := (true, "ae9b5e946ebc3e62dc2f49efaa1df328cd72f7c20d564dcf7ccef0b556de4fce"), looks := false }, kinds := [], alts := [], laidByText := true, laidKinds := [.data, .data, .data], laidTests := true, laidLooks := .later }
def MoneyOrderCardSaid : Prop := Claim7.holds Tryd.pinned (.plain (OpenSpec.ofChange moneyOrderSpec)) moneyOrderCard

/-- THE TIED CARD OF 'innkeeperlaw06.MoneyShares'. -/
def moneySharesCard : Claim7 := { stood := { row := moneySharesRow, standIns := [], harness := (true, "ae9b5e946ebc3e62dc2f49efaa1df328cd72f7c20d564dcf7ccef0b556de4fce"), looks := false }, kinds := [], alts := [], laidByText := true, laidKinds := [.data, .data, .data], laidTests := true, laidLooks := .later }
def MoneySharesCardSaid : Prop := Claim7.holds Tryd.pinned (.plain (OpenSpec.ofChange moneySharesSpec)) moneySharesCard

/-- THE TIED CARD OF 'innkeeperlaw06.MoneyEqual'. -/
def moneyEqualCard : Claim7 := { stood := { row := moneyEqualRow, standIns := [], harness := (true, "ae9b5e946ebc3e62dc2f49efaa1df328cd72f7c20d564dcf7ccef0b556de4fce"), looks := false }, kinds := [], alts := [], laidByText := true, laidKinds := [.data, .data, .data], laidTests := true, laidLooks := .later }
def MoneyEqualCardSaid : Prop := Claim7.holds Tryd.pinned (.plain (OpenSpec.ofChange moneyEqualSpec)) moneyEqualCard

/-- THE TIED CARD OF 'innkeeperlaw06.MoneyTexts'. -/
def moneyTextsCard : Claim7 := { stood := { row := moneyTextsRow, standIns := [], harness := (true, "ae9b5e946ebc3e62dc2f49efaa1df328cd72f7c20d564dcf7ccef0b556de4fce"), looks := false }, kinds := [], alts := [], laidByText := true, laidKinds := [.data, .data, .data], laidTests := true, laidLooks := .later }
def MoneyTextsCardSaid : Prop := Claim7.holds Tryd.pinned (.plain (OpenSpec.ofChange moneyTextsSpec)) moneyTextsCard

/-- THE SECOND FORM's CARD OF 'innkeeperlaw06.MoneyMatchesReference'. -/
def moneyMatchesReferenceUptoCard : Claim7 := { stood := { row := moneyMatchesReferenceUptoRow, standIns := [], harness := (true, "ae9b5e946ebc3e62dc2f49efaa1df328cd72f7c20d564dcf7ccef0b556de4fce"), looks := false }, kinds := [], alts := [], laidByText := true, laidKinds := [.data, .data, .data], laidTests := true, laidLooks := .later }
def MoneyMatchesReferenceUptoCardSaid : Prop := Claim7.holds Tryd.pinned (.plain (OpenSpec.upto moneyMatchesReferenceSpec)) moneyMatchesReferenceUptoCard

/-- THE SECOND FORM's CARD OF 'innkeeperlaw06.MoneyNearest'. -/
def moneyNearestUptoCard : Claim7 := { stood := { row := moneyNearestUptoRow, standIns := [], harness := (true, "ae9b5e946ebc3e62dc2f49efaa1df328cd72f7c20d564dcf7ccef0b556de4fce"), looks := false }, kinds := [], alts := [], laidByText := true, laidKinds := [.data, .data, .data], laidTests := true, laidLooks := .later }
def MoneyNearestUptoCardSaid : Prop := Claim7.holds Tryd.pinned (.plain (OpenSpec.upto moneyNearestSpec)) moneyNearestUptoCard

/-- THE SECOND FORM's CARD OF 'innkeeperlaw06.MoneyOrder'. -/
def moneyOrderUptoCard : Claim7 := { stood := { row := moneyOrderUptoRow, standIns := [], harness := (true, "ae9b5e946ebc3e62dc2f49efaa1df328cd72f7c20d564dcf7ccef0b556de4fce"), looks := false }, kinds := [], alts := [], laidByText := true, laidKinds := [.data, .data, .data], laidTests := true, laidLooks := .later }
def MoneyOrderUptoCardSaid : Prop := Claim7.holds Tryd.pinned (.plain (OpenSpec.upto moneyOrderSpec)) moneyOrderUptoCard

/-- THE SECOND FORM's CARD OF 'innkeeperlaw06.MoneyShares'. -/
def moneySharesUptoCard : Claim7 := { stood := { row := moneySharesUptoRow, standIns := [], harness := (true, "ae9b5e946ebc3e62dc2f49efaa1df328cd72f7c20d564dcf7ccef0b556de4fce"), looks := false }, kinds := [], alts := [], laidByText := true, laidKinds := [.data, .data, .data], laidTests := true, laidLooks := .later }
def MoneySharesUptoCardSaid : Prop := Claim7.holds Tryd.pinned (.plain (OpenSpec.upto moneySharesSpec)) moneySharesUptoCard

/-- THE SECOND FORM's CARD OF 'innkeeperlaw06.MoneyEqual'. -/
def moneyEqualUptoCard : Claim7 := { stood := { row := moneyEqualUptoRow, standIns := [], harness := (true, "ae9b5e946ebc3e62dc2f49efaa1df328cd72f7c20d564dcf7ccef0b556de4fce"), looks := false }, kinds := [], alts := [], laidByText := true, laidKinds := [.data, .data, .data], laidTests := true, laidLooks := .later }
def MoneyEqualUptoCardSaid : Prop := Claim7.holds Tryd.pinned (.plain (OpenSpec.upto moneyEqualSpec)) moneyEqualUptoCard

/-- THE SECOND FORM's CARD OF 'innkeeperlaw06.MoneyTexts'. -/
def moneyTextsUptoCard : Claim7 := { stood := { row := moneyTextsUptoRow, standIns := [], harness := (true, "ae9b5e946ebc3e62dc2f49efaa1df328cd72f7c20d564dcf7ccef0b556de4fce"), looks := false }, kinds := [], alts := [], laidByText := true, laidKinds := [.data, .data, .data], laidTests := true, laidLooks := .later }
def MoneyTextsUptoCardSaid : Prop := Claim7.holds Tryd.pinned (.plain (OpenSpec.upto moneyTextsSpec)) moneyTextsUptoCard
end Rows
end Go.Proofs.YtaloadadecoogaaDoor
