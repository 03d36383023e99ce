/-
  DERIVED. GIVEN WITH THE SEED: THE CARDS: each row of YtnhjohcgnmogaaaDoorRows.lean that lists a variable, with what it lists TIED to the program's text (the seventh form; the later family's looks); each row that meets fmt, with fmt's text TOLD by the authors' own Lean function (tested against real Go, not proved from fmt's source: count such statements apart). THE CARD IS WHAT COUNTS. Prove the row's statement (the work); the ties are given (YtnhjohcgnmogaaaDoorTie.lean); close each card by the builder's one call (the guide's Derived/Test/ToyasCard.lean, 'card_holds'). Laid BY PROGRAM, IN A SANDBOX (cutbox-door.mjs). By AI agents, Wed Nov 11 2026. No macro, syntax, notation, axiom, sorry.
-/
import Derived.Test.YtnhjohcgnmogaaaDoorRows
import GoSem.ClaimSeven
namespace Go.Proofs.YtnhjohcgnmogaaaDoor
namespace Rows

/-- THE TIED CARD OF 'ferrylaw02.WireLists'. -/
def wireListsCard : Claim7 := { stood := { row := wireListsRow, standIns := [], harness := (true, "6c321c78301677330eaa2513a3dd332c1005522b39f1921b25468337daadf943"), looks := true }, kinds := [], alts := [], laidByText := true, laidKinds := [.handle, .sentinel, .sentinel, .sentinel, .sentinel, .sentinel, .sentinel, .sentinel, .sentinel, .sentinel, .sentinel, .sentinel, .sentinel, .sentinel, .sentinel, .sentinel, .sentinel, .sentinel, .sentinel, .sentinel, .sentinel], laidTests := true, laidLooks := .later }
def WireListsCardSaid : Prop := Claim7.holds Tryd.pinned (.plain (OpenSpec.ofChange wireListsSpec)) wireListsCard

/-- THE TIED CARD OF 'ferrylaw02.WireMemory'. -/
def wireMemoryCard : Claim7 := { stood := { row := wireMemoryRow, standIns := [], harness := (true, "6c321c78301677330eaa2513a3dd332c1005522b39f1921b25468337daadf943"), looks := true }, kinds := [], alts := [], laidByText := true, laidKinds := [.handle, .sentinel, .sentinel, .sentinel, .sentinel, .sentinel, .sentinel, .sentinel, .sentinel, .sentinel, .sentinel, .sentinel, .sentinel, .sentinel, .sentinel, .sentinel, .sentinel, .sentinel, .sentinel, .sentinel, .sentinel], laidTests := true, laidLooks := .later }
def WireMemoryCardSaid : Prop := Claim7.holds Tryd.pinned (.plain (OpenSpec.ofChange wireMemorySpec)) wireMemoryCard

/-- THE TIED CARD OF 'ferrytop.FerryBurstsTold'. -/
def ferryBurstsToldCard : Claim7 := { stood := { row := ferryBurstsToldRow, standIns := [], harness := (true, "6c321c78301677330eaa2513a3dd332c1005522b39f1921b25468337daadf943"), looks := true }, kinds := [], alts := [], laidByText := true, laidKinds := [.data, .sentinel, .sentinel, .sentinel, .sentinel, .sentinel, .sentinel, .sentinel, .sentinel, .sentinel, .sentinel, .sentinel, .sentinel, .sentinel, .sentinel, .sentinel, .sentinel, .sentinel, .sentinel, .sentinel, .sentinel], laidTests := true, laidLooks := .later }
def FerryBurstsToldCardSaid : Prop := Claim7.holds Tryd.pinned (.plain (OpenSpec.ofChange ferryBurstsToldSpec)) ferryBurstsToldCard

/-- THE TIED CARD OF 'ferrytop.FerryRunsSplit'. -/
def ferryRunsSplitCard : Claim7 := { stood := { row := ferryRunsSplitRow, standIns := [], harness := (true, "6c321c78301677330eaa2513a3dd332c1005522b39f1921b25468337daadf943"), looks := true }, kinds := [], alts := [], laidByText := true, laidKinds := [.sentinel, .sentinel, .sentinel, .sentinel, .sentinel, .sentinel, .listed, .data], laidTests := true, laidLooks := .later }
def FerryRunsSplitCardSaid : Prop := Claim7.holds Tryd.pinned (.plain (OpenSpec.ofChange ferryRunsSplitSpec)) ferryRunsSplitCard

/-- THE SECOND FORM's CARD OF 'ferrylaw02.WireLists'. -/
def wireListsUptoCard : Claim7 := { stood := { row := wireListsUptoRow, standIns := [], harness := (true, "6c321c78301677330eaa2513a3dd332c1005522b39f1921b25468337daadf943"), looks := true }, kinds := [], alts := [], laidByText := true, laidKinds := [.handle, .sentinel, .sentinel, .sentinel, .sentinel, .sentinel, .sentinel, .sentinel, .sentinel, .sentinel, .sentinel, .sentinel, .sentinel, .sentinel, .sentinel, .sentinel, .sentinel, .sentinel, .sentinel, .sentinel, .sentinel], laidTests := true, laidLooks := .later }
def WireListsUptoCardSaid : Prop := Claim7.holds Tryd.pinned (.plain (OpenSpec.upto wireListsSpec)) wireListsUptoCard

/-- THE SECOND FORM's CARD OF 'ferrylaw02.WireMemory'. -/
def wireMemoryUptoCard : Claim7 := { stood := { row := wireMemoryUptoRow, standIns := [], harness := (true, "6c321c78301677330eaa2513a3dd332c1005522b39f1921b25468337daadf943"), looks := true }, kinds := [], alts := [], laidByText := true, laidKinds := [.handle, .sentinel, .sentinel, .sentinel, .sentinel, .sentinel, .sentinel, .sentinel, .sentinel, .sentinel, .sentinel, .sentinel, .sentinel, .sentinel, .sentinel, .sentinel, .sentinel, .sentinel, .sentinel, .sentinel, .sentinel], laidTests := true, laidLooks := .later }
def WireMemoryUptoCardSaid : Prop := Claim7.holds Tryd.pinned (.plain (OpenSpec.upto wireMemorySpec)) wireMemoryUptoCard

/-- THE SECOND FORM's CARD OF 'ferrytop.FerryBurstsTold'. -/
def ferryBurstsToldUptoCard : Claim7 := { stood := { row := ferryBurstsToldUptoRow, standIns := [], harness := (true, "6c321c78301677330eaa2513a3dd332c1005522b39f1921b25468337daadf943"), looks := true }, kinds := [], alts := [], laidByText := true, laidKinds := [.data, .sentinel, .sentinel, .sentinel, .sentinel, .sentinel, .sentinel, .sentinel, .sentinel, .sentinel, .sentinel, .sentinel, .sentinel, .sentinel, .sentinel, .sentinel, .sentinel, .sentinel, .sentinel, .sentinel, .sentinel], laidTests := true, laidLooks := .later }
def FerryBurstsToldUptoCardSaid : Prop := Claim7.holds Tryd.pinned (.plain (OpenSpec.upto ferryBurstsToldSpec)) ferryBurstsToldUptoCard

/-- THE SECOND FORM's CARD OF 'ferrytop.FerryRunsSplit'. -/
def ferryRunsSplitUptoCard : Claim7 := { stood := { row := ferryRunsSplitUptoRow, standIns := [], harness := (true, "6c321c78301677330eaa2513a3dd332c1005522b39f1921b25468337daadf943"), looks := true }, kinds := [], alts := [], laidByText := true, laidKinds := [.sentinel, .sentinel, .sentinel, .sentinel, .sentinel, .sentinel, .listed, .data], laidTests := true, laidLooks := .later }
def FerryRunsSplitUptoCardSaid : Prop := Claim7.holds Tryd.pinned (.plain (OpenSpec.upto ferryRunsSplitSpec)) ferryRunsSplitUptoCard
end Rows
end Go.Proofs.YtnhjohcgnmogaaaDoor
