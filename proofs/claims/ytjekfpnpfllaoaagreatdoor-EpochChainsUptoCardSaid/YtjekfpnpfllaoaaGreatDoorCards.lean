/-
  DERIVED. GIVEN WITH THE SEED: THE CARDS: each row of YtjekfpnpfllaoaaGreatDoorRows.lean that lists a variable, with what it lists TIED to the program's text (the seventh form; the later family's looks); each row that meets fmt, with fmt's text TOLD by the authors' own Lean function (tested against real Go, not proved from fmt's source: count such statements apart). THE CARD IS WHAT COUNTS. Prove the row's statement (the work); the ties are given (YtjekfpnpfllaoaaGreatDoorTie.lean); close each card by the builder's one call (the guide's Derived/Test/ToyasCard.lean, 'card_holds'). Laid BY PROGRAM, IN A SANDBOX (cutbox-door.mjs). By AI agents, Wed Nov 11 2026. No macro, syntax, notation, axiom, sorry.
-/
import Derived.Test.YtjekfpnpfllaoaaGreatDoorRows
import GoSem.ClaimSeven
namespace Go.Proofs.YtjekfpnpfllaoaaGreatDoor
namespace Rows

/-- THE TIED CARD OF 'ferrylaw17.EpochLays'. -/
def epochLaysCard : Claim7 := { stood := { row := epochLaysRow, standIns := [], harness := (true, "4f64f64ca673ebcd5766b287f8df16e8a2077b9226c29782b15cabb1ee3d6027"), looks := true }, kinds := [], alts := [], laidByText := true, laidKinds := [.handle, .sentinel, .sentinel, .sentinel, .sentinel, .sentinel, .sentinel, .sentinel, .sentinel, .sentinel, .sentinel, .sentinel, .sentinel, .sentinel, .sentinel, .sentinel, .sentinel, .sentinel, .sentinel, .sentinel, .sentinel], laidTests := true, laidLooks := .later }
def EpochLaysCardSaid : Prop := Claim7.holds Tryz.pinned (.plain (OpenSpec.ofChange epochLaysSpec)) epochLaysCard

/-- THE TIED CARD OF 'ferrylaw17.EpochMarks'. -/
def epochMarksCard : Claim7 := { stood := { row := epochMarksRow, standIns := [], harness := (true, "4f64f64ca673ebcd5766b287f8df16e8a2077b9226c29782b15cabb1ee3d6027"), looks := true }, kinds := [], alts := [], laidByText := true, laidKinds := [.handle, .sentinel, .sentinel, .sentinel, .sentinel, .sentinel, .sentinel, .sentinel, .sentinel, .sentinel, .sentinel, .sentinel, .sentinel, .sentinel, .sentinel, .sentinel, .sentinel, .sentinel, .sentinel, .sentinel, .sentinel], laidTests := true, laidLooks := .later }
def EpochMarksCardSaid : Prop := Claim7.holds Tryz.pinned (.plain (OpenSpec.ofChange epochMarksSpec)) epochMarksCard

/-- THE TIED CARD OF 'ferrylaw17.EpochChains'. -/
def epochChainsCard : Claim7 := { stood := { row := epochChainsRow, standIns := [], harness := (true, "4f64f64ca673ebcd5766b287f8df16e8a2077b9226c29782b15cabb1ee3d6027"), looks := true }, kinds := [], alts := [], laidByText := true, laidKinds := [.handle, .sentinel, .sentinel, .sentinel, .sentinel, .sentinel, .sentinel, .sentinel, .sentinel, .sentinel, .sentinel, .sentinel, .sentinel, .sentinel, .sentinel, .sentinel, .sentinel, .sentinel, .sentinel, .sentinel, .sentinel], laidTests := true, laidLooks := .later }
def EpochChainsCardSaid : Prop := Claim7.holds Tryz.pinned (.plain (OpenSpec.ofChange epochChainsSpec)) epochChainsCard

/-- THE SECOND FORM's CARD OF 'ferrylaw17.EpochLays'. -/
def epochLaysUptoCard : Claim7 := { stood := { row := epochLaysUptoRow, standIns := [], harness := (true, "4f64f64ca673ebcd5766b287f8df16e8a2077b9226c29782b15cabb1ee3d6027"), looks := true }, kinds := [], alts := [], laidByText := true, laidKinds := [.handle, .sentinel, .sentinel, .sentinel, .sentinel, .sentinel, .sentinel, .sentinel, .sentinel, .sentinel, .sentinel, .sentinel, .sentinel, .sentinel, .sentinel, .sentinel, .sentinel, .sentinel, .sentinel, .sentinel, .sentinel], laidTests := true, laidLooks := .later }
def EpochLaysUptoCardSaid : Prop := Claim7.holds Tryz.pinned (.plain (OpenSpec.upto epochLaysSpec)) epochLaysUptoCard

/-- THE SECOND FORM's CARD OF 'ferrylaw17.EpochMarks'. -/
def epochMarksUptoCard : Claim7 := { stood := { row := epochMarksUptoRow, standIns := [], harness := (true, "4f64f64ca673ebcd5766b287f8df16e8a2077b9226c29782b15cabb1ee3d6027"), looks := true }, kinds := [], alts := [], laidByText := true, laidKinds := [.handle, .sentinel, .sentinel, .sentinel, .sentinel, .sentinel, .sentinel, .sentinel, .sentinel, .sentinel, .sentinel, .sentinel, .sentinel, .sentinel, .sentinel, .sentinel, .sentinel, .sentinel, .sentinel, .sentinel, .sentinel], laidTests := true, laidLooks := .later }
def EpochMarksUptoCardSaid : Prop := Claim7.holds Tryz.pinned (.plain (OpenSpec.upto epochMarksSpec)) epochMarksUptoCard

/-- THE SECOND FORM's CARD OF 'ferrylaw17.EpochChains'. -/
def epochChainsUptoCard : Claim7 := { stood := { row := epochChainsUptoRow, standIns := [], harness := (true, "4f64f64ca673ebcd5766b287f8df16e8a2077b9226c29782b15cabb1ee3d6027"), looks := true }, kinds := [], alts := [], laidByText := true, laidKinds := [.handle, .sentinel, .sentinel, .sentinel, .sentinel, .sentinel, .sentinel, .sentinel, .sentinel, .sentinel, .sentinel, .sentinel, .sentinel, .sentinel, .sentinel, .sentinel, .sentinel, .sentinel, .sentinel, .sentinel, .sentinel], laidTests := true, laidLooks := .later }
def EpochChainsUptoCardSaid : Prop := Claim7.holds Tryz.pinned (.plain (OpenSpec.upto epochChainsSpec)) epochChainsUptoCard
end Rows
end Go.Proofs.YtjekfpnpfllaoaaGreatDoor
