/-
  DERIVED. GIVEN WITH THE SEED: THE CARDS: each row of YtclgncaghiinhaaGreatDoorRows.lean that lists a variable, with what it lists TIED to the program's text (the seventh form; the later family's looks); each row that meets fmt, with fmt's text TOLD by the authors' own Lean function (tested against real Go, not proved from fmt's source: count such statements apart). THE CARD IS WHAT COUNTS. Prove the row's statement (the work); the ties are given (YtclgncaghiinhaaGreatDoorTie.lean); close each card by the builder's one call (the guide's Derived/Test/ToyasCard.lean, 'card_holds'). Laid BY PROGRAM, IN A SANDBOX (cutbox-door.mjs). By AI agents, Wed Nov 11 2026. No macro, syntax, notation, axiom, sorry.
-/
import Derived.Test.YtclgncaghiinhaaGreatDoorRows
import GoSem.ClaimSeven
namespace Go.Proofs.YtclgncaghiinhaaGreatDoor
namespace Rows

/-- THE TIED CARD OF 'innkeeperlaw38.DoorsMatchesReference'. -/
def doorsMatchesReferenceCard : Claim7 := { stood := { row := doorsMatchesReferenceRow, standIns := [], harness := (true, "54dd4f427a40b6f2aab1778b054fc105d2b53dfcae6d16314e3fba414ac4226a"), looks := false }, kinds := [], alts := [], laidByText := true, laidKinds := [.data, .data, .data], laidTests := true, laidLooks := .later }
def DoorsMatchesReferenceCardSaid : Prop := Claim7.holds Tryz.pinned (.plain (OpenSpec.ofChange doorsMatchesReferenceSpec)) doorsMatchesReferenceCard

/-- THE TIED CARD OF 'innkeeperlaw38.DoorsExactly'. -/
def doorsExactlyCard : Claim7 := { stood := { row := doorsExactlyRow, standIns := [], harness := (true, "54dd4f427a40b6f2aab1778b054fc105d2b53dfcae6d16314e3fba414ac4226a"), looks := false }, kinds := [], alts := [], laidByText := true, laidKinds := [.data, .data, .data], laidTests := true, laidLooks := .later }
def DoorsExactlyCardSaid : Prop := Claim7.holds Tryz.pinned (.plain (OpenSpec.ofChange doorsExactlySpec)) doorsExactlyCard

/-- THE TIED CARD OF 'innkeeperlaw38.DoorsApart'. -/
def doorsApartCard : Claim7 := { stood := { row := doorsApartRow, standIns := [], harness := (true, "54dd4f427a40b6f2aab1778b054fc105d2b53dfcae6d16314e3fba414ac4226a"), looks := false }, kinds := [], alts := [], laidByText := true, laidKinds := [.data, .data, .data], laidTests := true, laidLooks := .later }
def DoorsApartCardSaid : Prop := Claim7.holds Tryz.pinned (.plain (OpenSpec.ofChange doorsApartSpec)) doorsApartCard

/-- THE TIED CARD OF 'innkeeperlaw38.DoorsLost'. -/
def doorsLostCard : Claim7 := { stood := { row := doorsLostRow, standIns := [], harness := (true, "54dd4f427a40b6f2aab1778b054fc105d2b53dfcae6d16314e3fba414ac4226a"), looks := false }, kinds := [], alts := [], laidByText := true, laidKinds := [.data, .data, .data], laidTests := true, laidLooks := .later }
def DoorsLostCardSaid : Prop := Claim7.holds Tryz.pinned (.plain (OpenSpec.ofChange doorsLostSpec)) doorsLostCard

/-- THE SECOND FORM's CARD OF 'innkeeperlaw38.DoorsMatchesReference'. -/
def doorsMatchesReferenceUptoCard : Claim7 := { stood := { row := doorsMatchesReferenceUptoRow, standIns := [], harness := (true, "54dd4f427a40b6f2aab1778b054fc105d2b53dfcae6d16314e3fba414ac4226a"), looks := false }, kinds := [], alts := [], laidByText := true, laidKinds := [.data, .data, .data], laidTests := true, laidLooks := .later }
def DoorsMatchesReferenceUptoCardSaid : Prop := Claim7.holds Tryz.pinned (.plain (OpenSpec.upto doorsMatchesReferenceSpec)) doorsMatchesReferenceUptoCard

/-- THE SECOND FORM's CARD OF 'innkeeperlaw38.DoorsExactly'. -/
def doorsExactlyUptoCard : Claim7 := { stood := { row := doorsExactlyUptoRow, standIns := [], harness := (true, "54dd4f427a40b6f2aab1778b054fc105d2b53dfcae6d16314e3fba414ac4226a"), looks := false }, kinds := [], alts := [], laidByText := true, laidKinds := [.data, .data, .data], laidTests := true, laidLooks := .later }
def DoorsExactlyUptoCardSaid : Prop := Claim7.holds Tryz.pinned (.plain (OpenSpec.upto doorsExactlySpec)) doorsExactlyUptoCard

/-- THE SECOND FORM's CARD OF 'innkeeperlaw38.DoorsApart'. -/
def doorsApartUptoCard : Claim7 := { stood := { row := doorsApartUptoRow, standIns := [], harness := (true, "54dd4f427a40b6f2aab1778b054fc105d2b53dfcae6d16314e3fba414ac4226a"), looks := false }, kinds := [], alts := [], laidByText := true, laidKinds := [.data, .data, .data], laidTests := true, laidLooks := .later }
def DoorsApartUptoCardSaid : Prop := Claim7.holds Tryz.pinned (.plain (OpenSpec.upto doorsApartSpec)) doorsApartUptoCard

/-- THE SECOND FORM's CARD OF 'innkeeperlaw38.DoorsLost'. -/
def doorsLostUptoCard : Claim7 := { stood := { row := doorsLostUptoRow, standIns := [], harness := (true, "54dd4f427a40b6f2aab1778b054fc105d2b53dfcae6d16314e3fba414ac4226a"), looks := false }, kinds := [], alts := [], laidByText := true, laidKinds := [.data, .data, .data], laidTests := true, laidLooks := .later }
def DoorsLostUptoCardSaid : Prop := Claim7.holds Tryz.pinned (.plain (OpenSpec.upto doorsLostSpec)) doorsLostUptoCard
end Rows
end Go.Proofs.YtclgncaghiinhaaGreatDoor
