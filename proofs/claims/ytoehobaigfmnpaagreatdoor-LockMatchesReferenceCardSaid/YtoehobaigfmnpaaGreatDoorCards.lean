/-
  DERIVED. GIVEN WITH THE SEED: THE CARDS: each row of YtoehobaigfmnpaaGreatDoorRows.lean that lists a variable, with what it lists TIED to the program's text (the seventh form; the later family's looks); each row that meets fmt, with fmt's text TOLD by the authors' own Lean function (tested against real Go, not proved from fmt's source: count such statements apart). THE CARD IS WHAT COUNTS. Prove the row's statement (the work); the ties are given (YtoehobaigfmnpaaGreatDoorTie.lean); close each card by the builder's one call (the guide's Derived/Test/ToyasCard.lean, 'card_holds'). Laid BY PROGRAM, IN A SANDBOX (cutbox-door.mjs). By AI agents, Wed Nov 11 2026. No macro, syntax, notation, axiom, sorry.
-/
import Derived.Test.YtoehobaigfmnpaaGreatDoorRows
import GoSem.ClaimSeven
namespace Go.Proofs.YtoehobaigfmnpaaGreatDoor
namespace Rows

/-- THE TIED CARD OF 'innkeeperlaw37.LockMatchesReference'. -/
def lockMatchesReferenceCard : Claim7 := { stood := { row := lockMatchesReferenceRow, standIns := [], harness := (true, "9f01bf424aa441459315edada7087f75946b04a115eae5d0163d7107f84f6617"), looks := false }, kinds := [], alts := [], laidByText := true, laidKinds := [.data, .data, .data], laidTests := true, laidLooks := .later }
def LockMatchesReferenceCardSaid : Prop := Claim7.holds Tryz.pinned (.plain (OpenSpec.ofChange lockMatchesReferenceSpec)) lockMatchesReferenceCard

/-- THE TIED CARD OF 'innkeeperlaw37.LockOpens'. -/
def lockOpensCard : Claim7 := { stood := { row := lockOpensRow, standIns := [], harness := (true, "9f01bf424aa441459315edada7087f75946b04a115eae5d0163d7107f84f6617"), looks := false }, kinds := [], alts := [], laidByText := true, laidKinds := [.data, .data, .data], laidTests := true, laidLooks := .later }
def LockOpensCardSaid : Prop := Claim7.holds Tryz.pinned (.plain (OpenSpec.ofChange lockOpensSpec)) lockOpensCard

/-- THE TIED CARD OF 'innkeeperlaw37.LockNewest'. -/
def lockNewestCard : Claim7 := { stood := { row := lockNewestRow, standIns := [], harness := (true, "9f01bf424aa441459315edada7087f75946b04a115eae5d0163d7107f84f6617"), looks := false }, kinds := [], alts := [], laidByText := true, laidKinds := [.data, .data, .data], laidTests := true, laidLooks := .later }
def LockNewestCardSaid : Prop := Claim7.holds Tryz.pinned (.plain (OpenSpec.ofChange lockNewestSpec)) lockNewestCard

/-- THE SECOND FORM's CARD OF 'innkeeperlaw37.LockMatchesReference'. -/
def lockMatchesReferenceUptoCard : Claim7 := { stood := { row := lockMatchesReferenceUptoRow, standIns := [], harness := (true, "9f01bf424aa441459315edada7087f75946b04a115eae5d0163d7107f84f6617"), looks := false }, kinds := [], alts := [], laidByText := true, laidKinds := [.data, .data, .data], laidTests := true, laidLooks := .later }
def LockMatchesReferenceUptoCardSaid : Prop := Claim7.holds Tryz.pinned (.plain (OpenSpec.upto lockMatchesReferenceSpec)) lockMatchesReferenceUptoCard

/-- THE SECOND FORM's CARD OF 'innkeeperlaw37.LockOpens'. -/
def lockOpensUptoCard : Claim7 := { stood := { row := lockOpensUptoRow, standIns := [], harness := (true, "9f01bf424aa441459315edada7087f75946b04a115eae5d0163d7107f84f6617"), looks := false }, kinds := [], alts := [], laidByText := true, laidKinds := [.data, .data, .data], laidTests := true, laidLooks := .later }
def LockOpensUptoCardSaid : Prop := Claim7.holds Tryz.pinned (.plain (OpenSpec.upto lockOpensSpec)) lockOpensUptoCard

/-- THE SECOND FORM's CARD OF 'innkeeperlaw37.LockNewest'. -/
def lockNewestUptoCard : Claim7 := { stood := { row := lockNewestUptoRow, standIns := [], harness := (true, "9f01bf424aa441459315edada7087f75946b04a115eae5d0163d7107f84f6617"), looks := false }, kinds := [], alts := [], laidByText := true, laidKinds := [.data, .data, .data], laidTests := true, laidLooks := .later }
def LockNewestUptoCardSaid : Prop := Claim7.holds Tryz.pinned (.plain (OpenSpec.upto lockNewestSpec)) lockNewestUptoCard
end Rows
end Go.Proofs.YtoehobaigfmnpaaGreatDoor
