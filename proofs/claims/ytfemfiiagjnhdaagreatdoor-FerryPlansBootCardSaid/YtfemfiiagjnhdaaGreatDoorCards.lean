/-
  DERIVED. GIVEN WITH THE SEED: THE CARDS: each row of YtfemfiiagjnhdaaGreatDoorRows.lean that lists a variable, with what it lists TIED to the program's text (the seventh form; the later family's looks); each row that meets fmt, with fmt's text TOLD by the authors' own Lean function (tested against real Go, not proved from fmt's source: count such statements apart). THE CARD IS WHAT COUNTS. Prove the row's statement (the work); the ties are given (YtfemfiiagjnhdaaGreatDoorTie.lean); close each card by the builder's one call (the guide's Derived/Test/ToyasCard.lean, 'card_holds'). Laid BY PROGRAM, IN A SANDBOX (cutbox-door.mjs). By AI agents, Wed Nov 11 2026. No macro, syntax, notation, axiom, sorry.
-/
import Derived.Test.YtfemfiiagjnhdaaGreatDoorRows
import GoSem.ClaimSeven
namespace Go.Proofs.YtfemfiiagjnhdaaGreatDoor
namespace Rows

/-- THE TIED CARD OF 'ferrylaw17.EpochLays'. -/
def epochLaysCard : Claim7 := { stood := { row := epochLaysRow, standIns := [], harness := (true, "2dca3c0125b68b7d8a50578bfc78c2374236e9b4c472f5062974918d4192e1db"), looks := true }, kinds := [], alts := [], laidByText := true, laidKinds := [.handle, .sentinel, .sentinel, .sentinel, .sentinel, .sentinel, .sentinel, .sentinel, .sentinel, .sentinel, .sentinel, .sentinel, .sentinel, .sentinel, .sentinel, .sentinel, .sentinel, .sentinel, .sentinel, .sentinel, .sentinel], laidTests := true, laidLooks := .later }
def EpochLaysCardSaid : Prop := Claim7.holds Tryz.pinned (.plain (OpenSpec.ofChange epochLaysSpec)) epochLaysCard

/-- THE TIED CARD OF 'ferrylaw17.EpochMarks'. -/
def epochMarksCard : Claim7 := { stood := { row := epochMarksRow, standIns := [], harness := (true, "2dca3c0125b68b7d8a50578bfc78c2374236e9b4c472f5062974918d4192e1db"), looks := true }, kinds := [], alts := [], laidByText := true, laidKinds := [.handle, .sentinel, .sentinel, .sentinel, .sentinel, .sentinel, .sentinel, .sentinel, .sentinel, .sentinel, .sentinel, .sentinel, .sentinel, .sentinel, .sentinel, .sentinel, .sentinel, .sentinel, .sentinel, .sentinel, .sentinel], laidTests := true, laidLooks := .later }
def EpochMarksCardSaid : Prop := Claim7.holds Tryz.pinned (.plain (OpenSpec.ofChange epochMarksSpec)) epochMarksCard

/-- THE TIED CARD OF 'ferrylaw17.EpochChains'. -/
def epochChainsCard : Claim7 := { stood := { row := epochChainsRow, standIns := [], harness := (true, "2dca3c0125b68b7d8a50578bfc78c2374236e9b4c472f5062974918d4192e1db"), looks := true }, kinds := [], alts := [], laidByText := true, laidKinds := [.handle, .sentinel, .sentinel, .sentinel, .sentinel, .sentinel, .sentinel, .sentinel, .sentinel, .sentinel, .sentinel, .sentinel, .sentinel, .sentinel, .sentinel, .sentinel, .sentinel, .sentinel, .sentinel, .sentinel, .sentinel], laidTests := true, laidLooks := .later }
def EpochChainsCardSaid : Prop := Claim7.holds Tryz.pinned (.plain (OpenSpec.ofChange epochChainsSpec)) epochChainsCard

/-- THE TIED CARD OF 'ferrylaw17.EpochMemory'. -/
def epochMemoryCard : Claim7 := { stood := { row := epochMemoryRow, standIns := [], harness := (true, "2dca3c0125b68b7d8a50578bfc78c2374236e9b4c472f5062974918d4192e1db"), looks := true }, kinds := [], alts := [], laidByText := true, laidKinds := [.handle, .sentinel, .sentinel, .sentinel, .sentinel, .sentinel, .sentinel, .sentinel, .sentinel, .sentinel, .sentinel, .sentinel, .sentinel, .sentinel, .sentinel, .sentinel, .sentinel, .sentinel, .sentinel, .sentinel, .sentinel], laidTests := true, laidLooks := .later }
def EpochMemoryCardSaid : Prop := Claim7.holds Tryz.pinned (.plain (OpenSpec.ofChange epochMemorySpec)) epochMemoryCard

/-- THE TIED CARD OF 'ferrylaw10.PlanBursts'. -/
def planBurstsCard : Claim7 := { stood := { row := planBurstsRow, standIns := [], harness := (true, "2dca3c0125b68b7d8a50578bfc78c2374236e9b4c472f5062974918d4192e1db"), looks := true }, kinds := [], alts := [], laidByText := true, laidKinds := [.handle, .sentinel, .sentinel, .sentinel, .sentinel, .sentinel, .sentinel, .sentinel, .sentinel, .sentinel, .sentinel, .sentinel, .sentinel, .sentinel, .sentinel, .sentinel, .sentinel, .sentinel, .sentinel, .sentinel, .sentinel], laidTests := true, laidLooks := .later }
def PlanBurstsCardSaid : Prop := Claim7.holds Tryz.pinned (.plain (OpenSpec.ofChange planBurstsSpec)) planBurstsCard

/-- THE TIED CARD OF 'ferrylaw10.PlanMemory'. -/
def planMemoryCard : Claim7 := { stood := { row := planMemoryRow, standIns := [], harness := (true, "2dca3c0125b68b7d8a50578bfc78c2374236e9b4c472f5062974918d4192e1db"), looks := true }, kinds := [], alts := [], laidByText := true, laidKinds := [.handle, .sentinel, .sentinel, .sentinel, .sentinel, .sentinel, .sentinel, .sentinel, .sentinel, .sentinel, .sentinel, .sentinel, .sentinel, .sentinel, .sentinel, .sentinel, .sentinel, .sentinel, .sentinel, .sentinel, .sentinel], laidTests := true, laidLooks := .later }
def PlanMemoryCardSaid : Prop := Claim7.holds Tryz.pinned (.plain (OpenSpec.ofChange planMemorySpec)) planMemoryCard

/-- THE TIED CARD OF 'ferrylaw10.PlanBytes'. -/
def planBytesCard : Claim7 := { stood := { row := planBytesRow, standIns := [], harness := (true, "2dca3c0125b68b7d8a50578bfc78c2374236e9b4c472f5062974918d4192e1db"), looks := true }, kinds := [], alts := [], laidByText := true, laidKinds := [.handle, .sentinel, .sentinel, .sentinel, .sentinel, .sentinel, .sentinel, .sentinel, .sentinel, .sentinel, .sentinel, .sentinel, .sentinel, .sentinel, .sentinel, .sentinel, .sentinel, .sentinel, .sentinel, .sentinel, .sentinel], laidTests := true, laidLooks := .later }
def PlanBytesCardSaid : Prop := Claim7.holds Tryz.pinned (.plain (OpenSpec.ofChange planBytesSpec)) planBytesCard

/-- THE TIED CARD OF 'ferrylaw10.PlanTurns'. -/
def planTurnsCard : Claim7 := { stood := { row := planTurnsRow, standIns := [], harness := (true, "2dca3c0125b68b7d8a50578bfc78c2374236e9b4c472f5062974918d4192e1db"), looks := true }, kinds := [], alts := [], laidByText := true, laidKinds := [.handle, .sentinel, .sentinel, .sentinel, .sentinel, .sentinel, .sentinel, .sentinel, .sentinel, .sentinel, .sentinel, .sentinel, .sentinel, .sentinel, .sentinel, .sentinel, .sentinel, .sentinel, .sentinel, .sentinel, .sentinel], laidTests := true, laidLooks := .later }
def PlanTurnsCardSaid : Prop := Claim7.holds Tryz.pinned (.plain (OpenSpec.ofChange planTurnsSpec)) planTurnsCard

/-- THE TIED CARD OF 'ferrytop.FerryPlansBoot'. -/
def ferryPlansBootCard : Claim7 := { stood := { row := ferryPlansBootRow, standIns := [], harness := (true, "2dca3c0125b68b7d8a50578bfc78c2374236e9b4c472f5062974918d4192e1db"), looks := true }, kinds := [], alts := [], laidByText := true, laidKinds := [.sentinel, .sentinel, .sentinel, .sentinel, .sentinel, .sentinel, .sentinel, .sentinel, .sentinel, .sentinel, .sentinel, .sentinel, .sentinel, .sentinel, .sentinel, .sentinel, .sentinel, .sentinel, .sentinel, .sentinel], laidTests := true, laidLooks := .later }
def FerryPlansBootCardSaid : Prop := Claim7.holds Tryz.pinned (.plain (OpenSpec.ofChange ferryPlansBootSpec)) ferryPlansBootCard

/-- THE SECOND FORM's CARD OF 'ferrylaw17.EpochLays'. -/
def epochLaysUptoCard : Claim7 := { stood := { row := epochLaysUptoRow, standIns := [], harness := (true, "2dca3c0125b68b7d8a50578bfc78c2374236e9b4c472f5062974918d4192e1db"), looks := true }, kinds := [], alts := [], laidByText := true, laidKinds := [.handle, .sentinel, .sentinel, .sentinel, .sentinel, .sentinel, .sentinel, .sentinel, .sentinel, .sentinel, .sentinel, .sentinel, .sentinel, .sentinel, .sentinel, .sentinel, .sentinel, .sentinel, .sentinel, .sentinel, .sentinel], laidTests := true, laidLooks := .later }
def EpochLaysUptoCardSaid : Prop := Claim7.holds Tryz.pinned (.plain (OpenSpec.upto epochLaysSpec)) epochLaysUptoCard

/-- THE SECOND FORM's CARD OF 'ferrylaw17.EpochMarks'. -/
def epochMarksUptoCard : Claim7 := { stood := { row := epochMarksUptoRow, standIns := [], harness := (true, "2dca3c0125b68b7d8a50578bfc78c2374236e9b4c472f5062974918d4192e1db"), looks := true }, kinds := [], alts := [], laidByText := true, laidKinds := [.handle, .sentinel, .sentinel, .sentinel, .sentinel, .sentinel, .sentinel, .sentinel, .sentinel, .sentinel, .sentinel, .sentinel, .sentinel, .sentinel, .sentinel, .sentinel, .sentinel, .sentinel, .sentinel, .sentinel, .sentinel], laidTests := true, laidLooks := .later }
def EpochMarksUptoCardSaid : Prop := Claim7.holds Tryz.pinned (.plain (OpenSpec.upto epochMarksSpec)) epochMarksUptoCard

/-- THE SECOND FORM's CARD OF 'ferrylaw17.EpochChains'. -/
def epochChainsUptoCard : Claim7 := { stood := { row := epochChainsUptoRow, standIns := [], harness := (true, "2dca3c0125b68b7d8a50578bfc78c2374236e9b4c472f5062974918d4192e1db"), looks := true }, kinds := [], alts := [], laidByText := true, laidKinds := [.handle, .sentinel, .sentinel, .sentinel, .sentinel, .sentinel, .sentinel, .sentinel, .sentinel, .sentinel, .sentinel, .sentinel, .sentinel, .sentinel, .sentinel, .sentinel, .sentinel, .sentinel, .sentinel, .sentinel, .sentinel], laidTests := true, laidLooks := .later }
def EpochChainsUptoCardSaid : Prop := Claim7.holds Tryz.pinned (.plain (OpenSpec.upto epochChainsSpec)) epochChainsUptoCard

/-- THE SECOND FORM's CARD OF 'ferrylaw17.EpochMemory'. -/
def epochMemoryUptoCard : Claim7 := { stood := { row := epochMemoryUptoRow, standIns := [], harness := (true, "2dca3c0125b68b7d8a50578bfc78c2374236e9b4c472f5062974918d4192e1db"), looks := true }, kinds := [], alts := [], laidByText := true, laidKinds := [.handle, .sentinel, .sentinel, .sentinel, .sentinel, .sentinel, .sentinel, .sentinel, .sentinel, .sentinel, .sentinel, .sentinel, .sentinel, .sentinel, .sentinel, .sentinel, .sentinel, .sentinel, .sentinel, .sentinel, .sentinel], laidTests := true, laidLooks := .later }
def EpochMemoryUptoCardSaid : Prop := Claim7.holds Tryz.pinned (.plain (OpenSpec.upto epochMemorySpec)) epochMemoryUptoCard

/-- THE SECOND FORM's CARD OF 'ferrylaw10.PlanBursts'. -/
def planBurstsUptoCard : Claim7 := { stood := { row := planBurstsUptoRow, standIns := [], harness := (true, "2dca3c0125b68b7d8a50578bfc78c2374236e9b4c472f5062974918d4192e1db"), looks := true }, kinds := [], alts := [], laidByText := true, laidKinds := [.handle, .sentinel, .sentinel, .sentinel, .sentinel, .sentinel, .sentinel, .sentinel, .sentinel, .sentinel, .sentinel, .sentinel, .sentinel, .sentinel, .sentinel, .sentinel, .sentinel, .sentinel, .sentinel, .sentinel, .sentinel], laidTests := true, laidLooks := .later }
def PlanBurstsUptoCardSaid : Prop := Claim7.holds Tryz.pinned (.plain (OpenSpec.upto planBurstsSpec)) planBurstsUptoCard

/-- THE SECOND FORM's CARD OF 'ferrylaw10.PlanMemory'. -/
def planMemoryUptoCard : Claim7 := { stood := { row := planMemoryUptoRow, standIns := [], harness := (true, "2dca3c0125b68b7d8a50578bfc78c2374236e9b4c472f5062974918d4192e1db"), looks := true }, kinds := [], alts := [], laidByText := true, laidKinds := [.handle, .sentinel, .sentinel, .sentinel, .sentinel, .sentinel, .sentinel, .sentinel, .sentinel, .sentinel, .sentinel, .sentinel, .sentinel, .sentinel, .sentinel, .sentinel, .sentinel, .sentinel, .sentinel, .sentinel, .sentinel], laidTests := true, laidLooks := .later }
def PlanMemoryUptoCardSaid : Prop := Claim7.holds Tryz.pinned (.plain (OpenSpec.upto planMemorySpec)) planMemoryUptoCard

/-- THE SECOND FORM's CARD OF 'ferrylaw10.PlanBytes'. -/
def planBytesUptoCard : Claim7 := { stood := { row := planBytesUptoRow, standIns := [], harness := (true, "2dca3c0125b68b7d8a50578bfc78c2374236e9b4c472f5062974918d4192e1db"), looks := true }, kinds := [], alts := [], laidByText := true, laidKinds := [.handle, .sentinel, .sentinel, .sentinel, .sentinel, .sentinel, .sentinel, .sentinel, .sentinel, .sentinel, .sentinel, .sentinel, .sentinel, .sentinel, .sentinel, .sentinel, .sentinel, .sentinel, .sentinel, .sentinel, .sentinel], laidTests := true, laidLooks := .later }
def PlanBytesUptoCardSaid : Prop := Claim7.holds Tryz.pinned (.plain (OpenSpec.upto planBytesSpec)) planBytesUptoCard

/-- THE SECOND FORM's CARD OF 'ferrylaw10.PlanTurns'. -/
def planTurnsUptoCard : Claim7 := { stood := { row := planTurnsUptoRow, standIns := [], harness := (true, "2dca3c0125b68b7d8a50578bfc78c2374236e9b4c472f5062974918d4192e1db"), looks := true }, kinds := [], alts := [], laidByText := true, laidKinds := [.handle, .sentinel, .sentinel, .sentinel, .sentinel, .sentinel, .sentinel, .sentinel, .sentinel, .sentinel, .sentinel, .sentinel, .sentinel, .sentinel, .sentinel, .sentinel, .sentinel, .sentinel, .sentinel, .sentinel, .sentinel], laidTests := true, laidLooks := .later }
def PlanTurnsUptoCardSaid : Prop := Claim7.holds Tryz.pinned (.plain (OpenSpec.upto planTurnsSpec)) planTurnsUptoCard

/-- THE SECOND FORM's CARD OF 'ferrytop.FerryPlansBoot'. -/
def ferryPlansBootUptoCard : Claim7 := { stood := { row := ferryPlansBootUptoRow, standIns := [], harness := (true, "2dca3c0125b68b7d8a50578bfc78c2374236e9b4c472f5062974918d4192e1db"), looks := true }, kinds := [], alts := [], laidByText := true, laidKinds := [.sentinel, .sentinel, .sentinel, .sentinel, .sentinel, .sentinel, .sentinel, .sentinel, .sentinel, .sentinel, .sentinel, .sentinel, .sentinel, .sentinel, .sentinel, .sentinel, .sentinel, .sentinel, .sentinel, .sentinel], laidTests := true, laidLooks := .later }
def FerryPlansBootUptoCardSaid : Prop := Claim7.holds Tryz.pinned (.plain (OpenSpec.upto ferryPlansBootSpec)) ferryPlansBootUptoCard
end Rows
end Go.Proofs.YtfemfiiagjnhdaaGreatDoor
