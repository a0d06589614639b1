/-
  DERIVED. GIVEN WITH THE SEED: THE CARDS: each row of YtncfilbpgomncaaDoorRows.lean that lists a variable, with what it lists TIED to the program's text (the seventh form; the later family's looks); each row that meets fmt, with fmt's text TOLD by the authors' own Lean function (tested against real Go, not proved from fmt's source: count such statements apart). THE CARD IS WHAT COUNTS. Prove the row's statement (the work); the ties are given (YtncfilbpgomncaaDoorTie.lean); close each card by the builder's one call (the guide's Derived/Test/ToyasCard.lean, 'card_holds'). Laid BY PROGRAM, IN A SANDBOX (cutbox-door.mjs). By AI agents, Wed Nov 11 2026. No macro, syntax, notation, axiom, sorry.
-/
import Derived.Test.YtncfilbpgomncaaDoorRows
import GoSem.ClaimSeven
namespace Go.Proofs.YtncfilbpgomncaaDoor
namespace Rows

/-- THE TIED CARD OF 'innkeeperlaw05.SignMatchesReference'. -/
def signMatchesReferenceCard : Claim7 := { stood := { row := signMatchesReferenceRow, standIns := [], harness := (true, "2eda9083c86cb899797bbe15d93731f9b890e36a7c899b5fd5b2ae18a18691e1"), looks := false }, kinds := [], alts := [], laidByText := true, laidKinds := [.data, .data, .data], laidTests := true, laidLooks := .later }
def SignMatchesReferenceCardSaid : Prop := Claim7.holds Tryd.pinned (.plain (OpenSpec.ofChange signMatchesReferenceSpec)) signMatchesReferenceCard

/-- THE TIED CARD OF 'innkeeperlaw05.SignGroup'. -/
def signGroupCard : Claim7 := { stood := { row := signGroupRow, standIns := [], harness := (true, "2eda9083c86cb899797bbe15d93731f9b890e36a7c899b5fd5b2ae18a18691e1"), looks := false }, kinds := [], alts := [], laidByText := true, laidKinds := [.data, .data, .data], laidTests := true, laidLooks := .later }
def SignGroupCardSaid : Prop := Claim7.holds Tryd.pinned (.plain (OpenSpec.ofChange signGroupSpec)) signGroupCard

/-- THE TIED CARD OF 'innkeeperlaw05.SignRight'. -/
def signRightCard : Claim7 := { stood := { row := signRightRow, standIns := [], harness := (true, "2eda9083c86cb899797bbe15d93731f9b890e36a7c899b5fd5b2ae18a18691e1"), looks := false }, kinds := [], alts := [], laidByText := true, laidKinds := [.data, .data, .data], laidTests := true, laidLooks := .later }
def SignRightCardSaid : Prop := Claim7.holds Tryd.pinned (.plain (OpenSpec.ofChange signRightSpec)) signRightCard

/-- THE TIED CARD OF 'innkeeperlaw05.SignChallenges'. -/
def signChallengesCard : Claim7 := { stood := { row := signChallengesRow, standIns := [], harness := (true, "2eda9083c86cb899797bbe15d93731f9b890e36a7c899b5fd5b2ae18a18691e1"), looks := false }, kinds := [], alts := [], laidByText := true, laidKinds := [.data, .data, .data], laidTests := true, laidLooks := .later }
def SignChallengesCardSaid : Prop := Claim7.holds Tryd.pinned (.plain (OpenSpec.ofChange signChallengesSpec)) signChallengesCard

/-- THE TIED CARD OF 'innkeeperlaw05.SignOnce'. -/
def signOnceCard : Claim7 := { stood := { row := signOnceRow, standIns := [], harness := (true, "2eda9083c86cb899797bbe15d93731f9b890e36a7c899b5fd5b2ae18a18691e1"), looks := false }, kinds := [], alts := [], laidByText := true, laidKinds := [.data, .data, .data], laidTests := true, laidLooks := .later }
def SignOnceCardSaid : Prop := Claim7.holds Tryd.pinned (.plain (OpenSpec.ofChange signOnceSpec)) signOnceCard

/-- THE TIED CARD OF 'innkeeperlaw05.SignSecrets'. -/
def signSecretsCard : Claim7 := { stood := { row := signSecretsRow, standIns := [], harness := (true, "2eda9083c86cb899797bbe15d93731f9b890e36a7c899b5fd5b2ae18a18691e1"), looks := false }, kinds := [], alts := [], laidByText := true, laidKinds := [.data, .data, .data], laidTests := true, laidLooks := .later }
def SignSecretsCardSaid : Prop := Claim7.holds Tryd.pinned (.plain (OpenSpec.ofChange signSecretsSpec)) signSecretsCard

/-- THE TIED CARD OF 'innkeeperlaw36.SlotMatchesReference'. -/
def slotMatchesReferenceCard : Claim7 := { stood := { row := slotMatchesReferenceRow, standIns := [], harness := (true, "2eda9083c86cb899797bbe15d93731f9b890e36a7c899b5fd5b2ae18a18691e1"), looks := false }, kinds := [], alts := [], laidByText := true, laidKinds := [.data, .data, .data], laidTests := true, laidLooks := .later }
def SlotMatchesReferenceCardSaid : Prop := Claim7.holds Tryd.pinned (.plain (OpenSpec.ofChange slotMatchesReferenceSpec)) slotMatchesReferenceCard

/-- THE TIED CARD OF 'innkeeperlaw36.SlotStays'. -/
def slotStaysCard : Claim7 := { stood := { row := slotStaysRow, standIns := [], harness := (true, "2eda9083c86cb899797bbe15d93731f9b890e36a7c899b5fd5b2ae18a18691e1"), looks := false }, kinds := [], alts := [], laidByText := true, laidKinds := [.data, .data, .data], laidTests := true, laidLooks := .later }
def SlotStaysCardSaid : Prop := Claim7.holds Tryd.pinned (.plain (OpenSpec.ofChange slotStaysSpec)) slotStaysCard

/-- THE TIED CARD OF 'innkeeperlaw36.SlotLosses'. -/
def slotLossesCard : Claim7 := { stood := { row := slotLossesRow, standIns := [], harness := (true, "2eda9083c86cb899797bbe15d93731f9b890e36a7c899b5fd5b2ae18a18691e1"), looks := false }, kinds := [], alts := [], laidByText := true, laidKinds := [.data, .data, .data], laidTests := true, laidLooks := .later }
def SlotLossesCardSaid : Prop := Claim7.holds Tryd.pinned (.plain (OpenSpec.ofChange slotLossesSpec)) slotLossesCard

/-- THE TIED CARD OF 'innkeeperlaw36.SlotOthers'. -/
def slotOthersCard : Claim7 := { stood := { row := slotOthersRow, standIns := [], harness := (true, "2eda9083c86cb899797bbe15d93731f9b890e36a7c899b5fd5b2ae18a18691e1"), looks := false }, kinds := [], alts := [], laidByText := true, laidKinds := [.data, .data, .data], laidTests := true, laidLooks := .later }
def SlotOthersCardSaid : Prop := Claim7.holds Tryd.pinned (.plain (OpenSpec.ofChange slotOthersSpec)) slotOthersCard

/-- THE TIED CARD OF 'innkeeperlaw36.SlotMade'. -/
def slotMadeCard : Claim7 := { stood := { row := slotMadeRow, standIns := [], harness := (true, "2eda9083c86cb899797bbe15d93731f9b890e36a7c899b5fd5b2ae18a18691e1"), looks := false }, kinds := [], alts := [], laidByText := true, laidKinds := [.data, .data, .data], laidTests := true, laidLooks := .later }
def SlotMadeCardSaid : Prop := Claim7.holds Tryd.pinned (.plain (OpenSpec.ofChange slotMadeSpec)) slotMadeCard

/-- THE SECOND FORM's CARD OF 'innkeeperlaw05.SignMatchesReference'. -/
def signMatchesReferenceUptoCard : Claim7 := { stood := { row := signMatchesReferenceUptoRow, standIns := [], harness := (true, "2eda9083c86cb899797bbe15d93731f9b890e36a7c899b5fd5b2ae18a18691e1"), looks := false }, kinds := [], alts := [], laidByText := true, laidKinds := [.data, .data, .data], laidTests := true, laidLooks := .later }
def SignMatchesReferenceUptoCardSaid : Prop := Claim7.holds Tryd.pinned (.plain (OpenSpec.upto signMatchesReferenceSpec)) signMatchesReferenceUptoCard

/-- THE SECOND FORM's CARD OF 'innkeeperlaw05.SignGroup'. -/
def signGroupUptoCard : Claim7 := { stood := { row := signGroupUptoRow, standIns := [], harness := (true, "2eda9083c86cb899797bbe15d93731f9b890e36a7c899b5fd5b2ae18a18691e1"), looks := false }, kinds := [], alts := [], laidByText := true, laidKinds := [.data, .data, .data], laidTests := true, laidLooks := .later }
def SignGroupUptoCardSaid : Prop := Claim7.holds Tryd.pinned (.plain (OpenSpec.upto signGroupSpec)) signGroupUptoCard

/-- THE SECOND FORM's CARD OF 'innkeeperlaw05.SignRight'. -/
def signRightUptoCard : Claim7 := { stood := { row := signRightUptoRow, standIns := [], harness := (true, "2eda9083c86cb899797bbe15d93731f9b890e36a7c899b5fd5b2ae18a18691e1"), looks := false }, kinds := [], alts := [], laidByText := true, laidKinds := [.data, .data, .data], laidTests := true, laidLooks := .later }
def SignRightUptoCardSaid : Prop := Claim7.holds Tryd.pinned (.plain (OpenSpec.upto signRightSpec)) signRightUptoCard

/-- THE SECOND FORM's CARD OF 'innkeeperlaw05.SignChallenges'. -/
def signChallengesUptoCard : Claim7 := { stood := { row := signChallengesUptoRow, standIns := [], harness := (true, "2eda9083c86cb899797bbe15d93731f9b890e36a7c899b5fd5b2ae18a18691e1"), looks := false }, kinds := [], alts := [], laidByText := true, laidKinds := [.data, .data, .data], laidTests := true, laidLooks := .later }
def SignChallengesUptoCardSaid : Prop := Claim7.holds Tryd.pinned (.plain (OpenSpec.upto signChallengesSpec)) signChallengesUptoCard

/-- THE SECOND FORM's CARD OF 'innkeeperlaw05.SignOnce'. -/
def signOnceUptoCard : Claim7 := { stood := { row := signOnceUptoRow, standIns := [], harness := (true, "2eda9083c86cb899797bbe15d93731f9b890e36a7c899b5fd5b2ae18a18691e1"), looks := false }, kinds := [], alts := [], laidByText := true, laidKinds := [.data, .data, .data], laidTests := true, laidLooks := .later }
def SignOnceUptoCardSaid : Prop := Claim7.holds Tryd.pinned (.plain (OpenSpec.upto signOnceSpec)) signOnceUptoCard

/-- THE SECOND FORM's CARD OF 'innkeeperlaw05.SignSecrets'. -/
def signSecretsUptoCard : Claim7 := { stood := { row := signSecretsUptoRow, standIns := [], harness := (true, "2eda9083c86cb899797bbe15d93731f9b890e36a7c899b5fd5b2ae18a18691e1"), looks := false }, kinds := [], alts := [], laidByText := true, laidKinds := [.data, .data, .data], laidTests := true, laidLooks := .later }
def SignSecretsUptoCardSaid : Prop := Claim7.holds Tryd.pinned (.plain (OpenSpec.upto signSecretsSpec)) signSecretsUptoCard

/-- THE SECOND FORM's CARD OF 'innkeeperlaw36.SlotMatchesReference'. -/
def slotMatchesReferenceUptoCard : Claim7 := { stood := { row := slotMatchesReferenceUptoRow, standIns := [], harness := (true, "2eda9083c86cb899797bbe15d93731f9b890e36a7c899b5fd5b2ae18a18691e1"), looks := false }, kinds := [], alts := [], laidByText := true, laidKinds := [.data, .data, .data], laidTests := true, laidLooks := .later }
def SlotMatchesReferenceUptoCardSaid : Prop := Claim7.holds Tryd.pinned (.plain (OpenSpec.upto slotMatchesReferenceSpec)) slotMatchesReferenceUptoCard

/-- THE SECOND FORM's CARD OF 'innkeeperlaw36.SlotStays'. -/
def slotStaysUptoCard : Claim7 := { stood := { row := slotStaysUptoRow, standIns := [], harness := (true, "2eda9083c86cb899797bbe15d93731f9b890e36a7c899b5fd5b2ae18a18691e1"), looks := false }, kinds := [], alts := [], laidByText := true, laidKinds := [.data, .data, .data], laidTests := true, laidLooks := .later }
def SlotStaysUptoCardSaid : Prop := Claim7.holds Tryd.pinned (.plain (OpenSpec.upto slotStaysSpec)) slotStaysUptoCard

/-- THE SECOND FORM's CARD OF 'innkeeperlaw36.SlotLosses'. -/
def slotLossesUptoCard : Claim7 := { stood := { row := slotLossesUptoRow, standIns := [], harness := (true, "2eda9083c86cb899797bbe15d93731f9b890e36a7c899b5fd5b2ae18a18691e1"), looks := false }, kinds := [], alts := [], laidByText := true, laidKinds := [.data, .data, .data], laidTests := true, laidLooks := .later }
def SlotLossesUptoCardSaid : Prop := Claim7.holds Tryd.pinned (.plain (OpenSpec.upto slotLossesSpec)) slotLossesUptoCard

/-- THE SECOND FORM's CARD OF 'innkeeperlaw36.SlotOthers'. -/
def slotOthersUptoCard : Claim7 := { stood := { row := slotOthersUptoRow, standIns := [], harness := (true, "2eda9083c86cb899797bbe15d93731f9b890e36a7c899b5fd5b2ae18a18691e1"), looks := false }, kinds := [], alts := [], laidByText := true, laidKinds := [.data, .data, .data], laidTests := true, laidLooks := .later }
def SlotOthersUptoCardSaid : Prop := Claim7.holds Tryd.pinned (.plain (OpenSpec.upto slotOthersSpec)) slotOthersUptoCard

/-- THE SECOND FORM's CARD OF 'innkeeperlaw36.SlotMade'. -/
def slotMadeUptoCard : Claim7 := { stood := { row := slotMadeUptoRow, standIns := [], harness := (true, "2eda9083c86cb899797bbe15d93731f9b890e36a7c899b5fd5b2ae18a18691e1"), looks := false }, kinds := [], alts := [], laidByText := true, laidKinds := [.data, .data, .data], laidTests := true, laidLooks := .later }
def SlotMadeUptoCardSaid : Prop := Claim7.holds Tryd.pinned (.plain (OpenSpec.upto slotMadeSpec)) slotMadeUptoCard
end Rows
end Go.Proofs.YtncfilbpgomncaaDoor
