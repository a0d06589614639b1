/-
  DERIVED. GIVEN WITH THE SEED: THE CARDS: each row of YtoehobaigfmnpaaDoorRows.lean that lists a variable, with what it lists TIED to the program's text (the seventh form; the later family's looks); each row that meets fmt, with fmt's text TOLD by the authors' own Lean function (tested against real Go, not proved from fmt's source: count such statements apart). THE CARD IS WHAT COUNTS. Prove the row's statement (the work); the ties are given (YtoehobaigfmnpaaDoorTie.lean); close each card by the builder's one call (the guide's Derived/Test/ToyasCard.lean, 'card_holds'). Laid BY PROGRAM, IN A SANDBOX (cutbox-door.mjs). By AI agents, Wed Nov 11 2026. No macro, syntax, notation, axiom, sorry.
-/
import Derived.Test.YtoehobaigfmnpaaDoorRows
import GoSem.ClaimSeven
namespace Go.Proofs.YtoehobaigfmnpaaDoor
namespace Rows

/-- THE TIED CARD OF 'innkeeperlaw35.CardNewest'. -/
def cardNewestCard : Claim7 := { stood := { row := cardNewestRow, standIns := [], harness := (true, "c5f4ea40b73083b519158711bd070e514f12e7bcba30d8054d17fcf88c2f9717"), looks := false }, kinds := [], alts := [], laidByText := true, laidKinds := [.data, .data, .data], laidTests := true, laidLooks := .later }
def CardNewestCardSaid : Prop := Claim7.holds Tryd.pinned (.plain (OpenSpec.ofChange cardNewestSpec)) cardNewestCard

/-- THE TIED CARD OF 'innkeeperlaw35.CardFurther'. -/
def cardFurtherCard : Claim7 := { stood := { row := cardFurtherRow, standIns := [], harness := (true, "c5f4ea40b73083b519158711bd070e514f12e7bcba30d8054d17fcf88c2f9717"), looks := false }, kinds := [], alts := [], laidByText := true, laidKinds := [.data, .data, .data], laidTests := true, laidLooks := .later }
def CardFurtherCardSaid : Prop := Claim7.holds Tryd.pinned (.plain (OpenSpec.ofChange cardFurtherSpec)) cardFurtherCard

/-- THE TIED CARD OF 'innkeeperlaw35.CardLists'. -/
def cardListsCard : Claim7 := { stood := { row := cardListsRow, standIns := [], harness := (true, "c5f4ea40b73083b519158711bd070e514f12e7bcba30d8054d17fcf88c2f9717"), looks := false }, kinds := [], alts := [], laidByText := true, laidKinds := [.data, .data, .data], laidTests := true, laidLooks := .later }
def CardListsCardSaid : Prop := Claim7.holds Tryd.pinned (.plain (OpenSpec.ofChange cardListsSpec)) cardListsCard

/-- THE TIED CARD OF 'innkeeperlaw35.CardMade'. -/
def cardMadeCard : Claim7 := { stood := { row := cardMadeRow, standIns := [], harness := (true, "c5f4ea40b73083b519158711bd070e514f12e7bcba30d8054d17fcf88c2f9717"), looks := false }, kinds := [], alts := [], laidByText := true, laidKinds := [.data, .data, .data], laidTests := true, laidLooks := .later }
def CardMadeCardSaid : Prop := Claim7.holds Tryd.pinned (.plain (OpenSpec.ofChange cardMadeSpec)) cardMadeCard

/-- THE TIED CARD OF 'innkeeperlaw35.CardChanged'. -/
def cardChangedCard : Claim7 := { stood := { row := cardChangedRow, standIns := [], harness := (true, "c5f4ea40b73083b519158711bd070e514f12e7bcba30d8054d17fcf88c2f9717"), looks := false }, kinds := [], alts := [], laidByText := true, laidKinds := [.data, .data, .data], laidTests := true, laidLooks := .later }
def CardChangedCardSaid : Prop := Claim7.holds Tryd.pinned (.plain (OpenSpec.ofChange cardChangedSpec)) cardChangedCard

/-- THE TIED CARD OF 'innkeeperlaw37.LockPower'. -/
def lockPowerCard : Claim7 := { stood := { row := lockPowerRow, standIns := [], harness := (true, "c5f4ea40b73083b519158711bd070e514f12e7bcba30d8054d17fcf88c2f9717"), looks := false }, kinds := [], alts := [], laidByText := true, laidKinds := [.data, .data, .data], laidTests := true, laidLooks := .later }
def LockPowerCardSaid : Prop := Claim7.holds Tryd.pinned (.plain (OpenSpec.ofChange lockPowerSpec)) lockPowerCard

/-- THE TIED CARD OF 'innkeeperlaw37.LockRevokes'. -/
def lockRevokesCard : Claim7 := { stood := { row := lockRevokesRow, standIns := [], harness := (true, "c5f4ea40b73083b519158711bd070e514f12e7bcba30d8054d17fcf88c2f9717"), looks := false }, kinds := [], alts := [], laidByText := true, laidKinds := [.data, .data, .data], laidTests := true, laidLooks := .later }
def LockRevokesCardSaid : Prop := Claim7.holds Tryd.pinned (.plain (OpenSpec.ofChange lockRevokesSpec)) lockRevokesCard

/-- THE TIED CARD OF 'innkeeperlaw37.LockCourse'. -/
def lockCourseCard : Claim7 := { stood := { row := lockCourseRow, standIns := [], harness := (true, "c5f4ea40b73083b519158711bd070e514f12e7bcba30d8054d17fcf88c2f9717"), looks := false }, kinds := [], alts := [], laidByText := true, laidKinds := [.data, .data, .data], laidTests := true, laidLooks := .later }
def LockCourseCardSaid : Prop := Claim7.holds Tryd.pinned (.plain (OpenSpec.ofChange lockCourseSpec)) lockCourseCard

/-- THE SECOND FORM's CARD OF 'innkeeperlaw35.CardNewest'. -/
def cardNewestUptoCard : Claim7 := { stood := { row := cardNewestUptoRow, standIns := [], harness := (true, "c5f4ea40b73083b519158711bd070e514f12e7bcba30d8054d17fcf88c2f9717"), looks := false }, kinds := [], alts := [], laidByText := true, laidKinds := [.data, .data, .data], laidTests := true, laidLooks := .later }
def CardNewestUptoCardSaid : Prop := Claim7.holds Tryd.pinned (.plain (OpenSpec.upto cardNewestSpec)) cardNewestUptoCard

/-- THE SECOND FORM's CARD OF 'innkeeperlaw35.CardFurther'. -/
def cardFurtherUptoCard : Claim7 := { stood := { row := cardFurtherUptoRow, standIns := [], harness := (true, "c5f4ea40b73083b519158711bd070e514f12e7bcba30d8054d17fcf88c2f9717"), looks := false }, kinds := [], alts := [], laidByText := true, laidKinds := [.data, .data, .data], laidTests := true, laidLooks := .later }
def CardFurtherUptoCardSaid : Prop := Claim7.holds Tryd.pinned (.plain (OpenSpec.upto cardFurtherSpec)) cardFurtherUptoCard

/-- THE SECOND FORM's CARD OF 'innkeeperlaw35.CardLists'. -/
def cardListsUptoCard : Claim7 := { stood := { row := cardListsUptoRow, standIns := [], harness := (true, "c5f4ea40b73083b519158711bd070e514f12e7bcba30d8054d17fcf88c2f9717"), looks := false }, kinds := [], alts := [], laidByText := true, laidKinds := [.data, .data, .data], laidTests := true, laidLooks := .later }
def CardListsUptoCardSaid : Prop := Claim7.holds Tryd.pinned (.plain (OpenSpec.upto cardListsSpec)) cardListsUptoCard

/-- THE SECOND FORM's CARD OF 'innkeeperlaw35.CardMade'. -/
def cardMadeUptoCard : Claim7 := { stood := { row := cardMadeUptoRow, standIns := [], harness := (true, "c5f4ea40b73083b519158711bd070e514f12e7bcba30d8054d17fcf88c2f9717"), looks := false }, kinds := [], alts := [], laidByText := true, laidKinds := [.data, .data, .data], laidTests := true, laidLooks := .later }
def CardMadeUptoCardSaid : Prop := Claim7.holds Tryd.pinned (.plain (OpenSpec.upto cardMadeSpec)) cardMadeUptoCard

/-- THE SECOND FORM's CARD OF 'innkeeperlaw35.CardChanged'. -/
def cardChangedUptoCard : Claim7 := { stood := { row := cardChangedUptoRow, standIns := [], harness := (true, "c5f4ea40b73083b519158711bd070e514f12e7bcba30d8054d17fcf88c2f9717"), looks := false }, kinds := [], alts := [], laidByText := true, laidKinds := [.data, .data, .data], laidTests := true, laidLooks := .later }
def CardChangedUptoCardSaid : Prop := Claim7.holds Tryd.pinned (.plain (OpenSpec.upto cardChangedSpec)) cardChangedUptoCard

/-- THE SECOND FORM's CARD OF 'innkeeperlaw37.LockPower'. -/
def lockPowerUptoCard : Claim7 := { stood := { row := lockPowerUptoRow, standIns := [], harness := (true, "c5f4ea40b73083b519158711bd070e514f12e7bcba30d8054d17fcf88c2f9717"), looks := false }, kinds := [], alts := [], laidByText := true, laidKinds := [.data, .data, .data], laidTests := true, laidLooks := .later }
def LockPowerUptoCardSaid : Prop := Claim7.holds Tryd.pinned (.plain (OpenSpec.upto lockPowerSpec)) lockPowerUptoCard

/-- THE SECOND FORM's CARD OF 'innkeeperlaw37.LockRevokes'. -/
def lockRevokesUptoCard : Claim7 := { stood := { row := lockRevokesUptoRow, standIns := [], harness := (true, "c5f4ea40b73083b519158711bd070e514f12e7bcba30d8054d17fcf88c2f9717"), looks := false }, kinds := [], alts := [], laidByText := true, laidKinds := [.data, .data, .data], laidTests := true, laidLooks := .later }
def LockRevokesUptoCardSaid : Prop := Claim7.holds Tryd.pinned (.plain (OpenSpec.upto lockRevokesSpec)) lockRevokesUptoCard

/-- THE SECOND FORM's CARD OF 'innkeeperlaw37.LockCourse'. -/
def lockCourseUptoCard : Claim7 := { stood := { row := lockCourseUptoRow, standIns := [], harness := (true, "c5f4ea40b73083b519158711bd070e514f12e7bcba30d8054d17fcf88c2f9717"), looks := false }, kinds := [], alts := [], laidByText := true, laidKinds := [.data, .data, .data], laidTests := true, laidLooks := .later }
def LockCourseUptoCardSaid : Prop := Claim7.holds Tryd.pinned (.plain (OpenSpec.upto lockCourseSpec)) lockCourseUptoCard
end Rows
end Go.Proofs.YtoehobaigfmnpaaDoor
