/-
  DERIVED. GIVEN WITH THE SEED: THE CARDS: each row of YtclgncaghiinhaaDoorRows.lean that lists a variable, with what it lists TIED to the program's text (the seventh form; the later family's looks); each row that meets fmt, with fmt's text TOLD by the authors' own Lean function (tested against real Go, not proved from fmt's source: count such statements apart). THE CARD IS WHAT COUNTS. Prove the row's statement (the work); the ties are given (YtclgncaghiinhaaDoorTie.lean); close each card by the builder's one call (the guide's Derived/Test/ToyasCard.lean, 'card_holds'). Laid BY PROGRAM, IN A SANDBOX (cutbox-door.mjs). By AI agents, Wed Nov 11 2026. No macro, syntax, notation, axiom, sorry.
-/
import Derived.Test.YtclgncaghiinhaaDoorRows
import GoSem.ClaimSeven
namespace Go.Proofs.YtclgncaghiinhaaDoor
namespace Rows

/-- THE TIED CARD OF 'innkeeperlaw38.DoorsNewest'. -/
def doorsNewestCard : Claim7 := { stood := { row := doorsNewestRow, standIns := [], harness := (true, "5ffc1dd4814c96ba58fb10adf28b8244f902ba4fcc51a59a6dcb47339c1e7a1f"), looks := false }, kinds := [], alts := [], laidByText := true, laidKinds := [.data, .data, .data], laidTests := true, laidLooks := .later }
def DoorsNewestCardSaid : Prop := Claim7.holds Tryd.pinned (.plain (OpenSpec.ofChange doorsNewestSpec)) doorsNewestCard

/-- THE TIED CARD OF 'innkeeperlaw38.DoorsPower'. -/
def doorsPowerCard : Claim7 := { stood := { row := doorsPowerRow, standIns := [], harness := (true, "5ffc1dd4814c96ba58fb10adf28b8244f902ba4fcc51a59a6dcb47339c1e7a1f"), looks := false }, kinds := [], alts := [], laidByText := true, laidKinds := [.data, .data, .data], laidTests := true, laidLooks := .later }
def DoorsPowerCardSaid : Prop := Claim7.holds Tryd.pinned (.plain (OpenSpec.ofChange doorsPowerSpec)) doorsPowerCard

/-- THE SECOND FORM's CARD OF 'innkeeperlaw38.DoorsNewest'. -/
def doorsNewestUptoCard : Claim7 := { stood := { row := doorsNewestUptoRow, standIns := [], harness := (true, "5ffc1dd4814c96ba58fb10adf28b8244f902ba4fcc51a59a6dcb47339c1e7a1f"), looks := false }, kinds := [], alts := [], laidByText := true, laidKinds := [.data, .data, .data], laidTests := true, laidLooks := .later }
def DoorsNewestUptoCardSaid : Prop := Claim7.holds Tryd.pinned (.plain (OpenSpec.upto doorsNewestSpec)) doorsNewestUptoCard

/-- THE SECOND FORM's CARD OF 'innkeeperlaw38.DoorsPower'. -/
def doorsPowerUptoCard : Claim7 := { stood := { row := doorsPowerUptoRow, standIns := [], harness := (true, "5ffc1dd4814c96ba58fb10adf28b8244f902ba4fcc51a59a6dcb47339c1e7a1f"), looks := false }, kinds := [], alts := [], laidByText := true, laidKinds := [.data, .data, .data], laidTests := true, laidLooks := .later }
def DoorsPowerUptoCardSaid : Prop := Claim7.holds Tryd.pinned (.plain (OpenSpec.upto doorsPowerSpec)) doorsPowerUptoCard
end Rows
end Go.Proofs.YtclgncaghiinhaaDoor
