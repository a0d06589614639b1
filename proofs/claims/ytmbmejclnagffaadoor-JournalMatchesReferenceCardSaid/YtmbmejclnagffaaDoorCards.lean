/-
  DERIVED. GIVEN WITH THE SEED: THE CARDS: each row of YtmbmejclnagffaaDoorRows.lean that lists a variable, with what it lists TIED to the program's text (the seventh form; the later family's looks); each row that meets fmt, with fmt's text TOLD by the authors' own Lean function (tested against real Go, not proved from fmt's source: count such statements apart). THE CARD IS WHAT COUNTS. Prove the row's statement (the work); the ties are given (YtmbmejclnagffaaDoorTie.lean); close each card by the builder's one call (the guide's Derived/Test/ToyasCard.lean, 'card_holds'). Laid BY PROGRAM, IN A SANDBOX (cutbox-door.mjs). By AI agents, Wed Nov 11 2026. No macro, syntax, notation, axiom, sorry.
-/
import Derived.Test.YtmbmejclnagffaaDoorRows
import GoSem.ClaimSeven
namespace Go.Proofs.YtmbmejclnagffaaDoor
namespace Rows

/-- THE TIED CARD OF 'innkeeperlaw39.JournalAppends'. -/
def journalAppendsCard : Claim7 := { stood := { row := journalAppendsRow, standIns := [], harness := (true, "005a0fbeab5bede412302a522e0d3a1374d4613b907e5fc34ec7171dede597a1"), looks := false }, kinds := [], alts := [], laidByText := true, laidKinds := [.data, .data, .data, .data], laidTests := true, laidLooks := .later }
def JournalAppendsCardSaid : Prop := Claim7.holds Tryd.pinned (.plain (OpenSpec.ofChange journalAppendsSpec)) journalAppendsCard

/-- THE TIED CARD OF 'innkeeperlaw39.JournalLast'. -/
def journalLastCard : Claim7 := { stood := { row := journalLastRow, standIns := [], harness := (true, "005a0fbeab5bede412302a522e0d3a1374d4613b907e5fc34ec7171dede597a1"), looks := false }, kinds := [], alts := [], laidByText := true, laidKinds := [.data, .data, .data, .data], laidTests := true, laidLooks := .later }
def JournalLastCardSaid : Prop := Claim7.holds Tryd.pinned (.plain (OpenSpec.ofChange journalLastSpec)) journalLastCard

/-- THE TIED CARD OF 'innkeeperlaw39.JournalInts'. -/
def journalIntsCard : Claim7 := { stood := { row := journalIntsRow, standIns := [], harness := (true, "005a0fbeab5bede412302a522e0d3a1374d4613b907e5fc34ec7171dede597a1"), looks := false }, kinds := [], alts := [], laidByText := true, laidKinds := [.data, .data, .data, .data], laidTests := true, laidLooks := .later }
def JournalIntsCardSaid : Prop := Claim7.holds Tryd.pinned (.plain (OpenSpec.ofChange journalIntsSpec)) journalIntsCard

/-- THE TIED CARD OF 'innkeeperlaw39.JournalMatchesReference'. -/
def journalMatchesReferenceCard : Claim7 := { stood := { row := journalMatchesReferenceRow, standIns := [], harness := (true, "005a0fbeab5bede412302a522e0d3a1374d4613b907e5fc34ec7171dede597a1"), looks := false }, kinds := [], alts := [], laidByText := true, laidKinds := [.data, .data, .data, .data], laidTests := true, laidLooks := .later }
def JournalMatchesReferenceCardSaid : Prop := Claim7.holds Tryd.pinned (.plain (OpenSpec.ofChange journalMatchesReferenceSpec)) journalMatchesReferenceCard

/-- THE TIED CARD OF 'innkeeperlaw39.JournalBeginnings'. -/
def journalBeginningsCard : Claim7 := { stood := { row := journalBeginningsRow, standIns := [], harness := (true, "005a0fbeab5bede412302a522e0d3a1374d4613b907e5fc34ec7171dede597a1"), looks := false }, kinds := [], alts := [], laidByText := true, laidKinds := [.data, .data, .data, .data], laidTests := true, laidLooks := .later }
def JournalBeginningsCardSaid : Prop := Claim7.holds Tryd.pinned (.plain (OpenSpec.ofChange journalBeginningsSpec)) journalBeginningsCard

/-- THE TIED CARD OF 'innkeeperlaw39.JournalForks'. -/
def journalForksCard : Claim7 := { stood := { row := journalForksRow, standIns := [], harness := (true, "005a0fbeab5bede412302a522e0d3a1374d4613b907e5fc34ec7171dede597a1"), looks := false }, kinds := [], alts := [], laidByText := true, laidKinds := [.data, .data, .data, .data], laidTests := true, laidLooks := .later }
def JournalForksCardSaid : Prop := Claim7.holds Tryd.pinned (.plain (OpenSpec.ofChange journalForksSpec)) journalForksCard

/-- THE SECOND FORM's CARD OF 'innkeeperlaw39.JournalAppends'. -/
def journalAppendsUptoCard : Claim7 := { stood := { row := journalAppendsUptoRow, standIns := [], harness := (true, "005a0fbeab5bede412302a522e0d3a1374d4613b907e5fc34ec7171dede597a1"), looks := false }, kinds := [], alts := [], laidByText := true, laidKinds := [.data, .data, .data, .data], laidTests := true, laidLooks := .later }
def JournalAppendsUptoCardSaid : Prop := Claim7.holds Tryd.pinned (.plain (OpenSpec.upto journalAppendsSpec)) journalAppendsUptoCard

/-- THE SECOND FORM's CARD OF 'innkeeperlaw39.JournalLast'. -/
def journalLastUptoCard : Claim7 := { stood := { row := journalLastUptoRow, standIns := [], harness := (true, "005a0fbeab5bede412302a522e0d3a1374d4613b907e5fc34ec7171dede597a1"), looks := false }, kinds := [], alts := [], laidByText := true, laidKinds := [.data, .data, .data, .data], laidTests := true, laidLooks := .later }
def JournalLastUptoCardSaid : Prop := Claim7.holds Tryd.pinned (.plain (OpenSpec.upto journalLastSpec)) journalLastUptoCard

/-- THE SECOND FORM's CARD OF 'innkeeperlaw39.JournalInts'. -/
def journalIntsUptoCard : Claim7 := { stood := { row := journalIntsUptoRow, standIns := [], harness := (true, "005a0fbeab5bede412302a522e0d3a1374d4613b907e5fc34ec7171dede597a1"), looks := false }, kinds := [], alts := [], laidByText := true, laidKinds := [.data, .data, .data, .data], laidTests := true, laidLooks := .later }
def JournalIntsUptoCardSaid : Prop := Claim7.holds Tryd.pinned (.plain (OpenSpec.upto journalIntsSpec)) journalIntsUptoCard

/-- THE SECOND FORM's CARD OF 'innkeeperlaw39.JournalMatchesReference'. -/
def journalMatchesReferenceUptoCard : Claim7 := { stood := { row := journalMatchesReferenceUptoRow, standIns := [], harness := (true, "005a0fbeab5bede412302a522e0d3a1374d4613b907e5fc34ec7171dede597a1"), looks := false }, kinds := [], alts := [], laidByText := true, laidKinds := [.data, .data, .data, .data], laidTests := true, laidLooks := .later }
def JournalMatchesReferenceUptoCardSaid : Prop := Claim7.holds Tryd.pinned (.plain (OpenSpec.upto journalMatchesReferenceSpec)) journalMatchesReferenceUptoCard

/-- THE SECOND FORM's CARD OF 'innkeeperlaw39.JournalBeginnings'. -/
def journalBeginningsUptoCard : Claim7 := { stood := { row := journalBeginningsUptoRow, standIns := [], harness := (true, "005a0fbeab5bede412302a522e0d3a1374d4613b907e5fc34ec7171dede597a1"), looks := false }, kinds := [], alts := [], laidByText := true, laidKinds := [.data, .data, .data, .data], laidTests := true, laidLooks := .later }
def JournalBeginningsUptoCardSaid : Prop := Claim7.holds Tryd.pinned (.plain (OpenSpec.upto journalBeginningsSpec)) journalBeginningsUptoCard

/-- THE SECOND FORM's CARD OF 'innkeeperlaw39.JournalForks'. -/
def journalForksUptoCard : Claim7 := { stood := { row := journalForksUptoRow, standIns := [], harness := (true, "005a0fbeab5bede412302a522e0d3a1374d4613b907e5fc34ec7171dede597a1"), looks := false }, kinds := [], alts := [], laidByText := true, laidKinds := [.data, .data, .data, .data], laidTests := true, laidLooks := .later }
def JournalForksUptoCardSaid : Prop := Claim7.holds Tryd.pinned (.plain (OpenSpec.upto journalForksSpec)) journalForksUptoCard
end Rows
end Go.Proofs.YtmbmejclnagffaaDoor
