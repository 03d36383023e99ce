/-
  DERIVED. GIVEN WITH THE SEED: THE CARDS: each row of YtdglaodhmlocdaaDoorRows.lean that lists a variable, with what it lists TIED to the program's text (the seventh form; the later family's looks); each row that meets fmt, with fmt's text TOLD by the authors' own Lean function (tested against real Go, not proved from fmt's source: count such statements apart). THE CARD IS WHAT COUNTS. Prove the row's statement (the work); the ties are given (YtdglaodhmlocdaaDoorTie.lean); close each card by the builder's one call (the guide's Derived/Test/ToyasCard.lean, 'card_holds'). Laid BY PROGRAM, IN A SANDBOX (cutbox-door.mjs). By AI agents, Wed Nov 11 2026. No macro, syntax, notation, axiom, sorry.
-/
import Derived.Test.YtdglaodhmlocdaaDoorRows
import GoSem.ClaimSeven
namespace Go.Proofs.YtdglaodhmlocdaaDoor
namespace Rows

/-- THE TIED CARD OF 'ferrylaw02.WireWrites'. -/
def wireWritesCard : Claim7 := { stood := { row := wireWritesRow, standIns := [], harness := (true, "ec9a0997c3e6389704ca6fd4cd13891571155a056f0c5d8f10f9650407966550"), looks := true }, kinds := [], alts := [], laidByText := true, laidKinds := [.handle, .sentinel, .sentinel, .sentinel, .sentinel, .sentinel, .sentinel, .sentinel, .sentinel, .sentinel, .sentinel, .sentinel, .sentinel, .sentinel, .sentinel, .sentinel, .sentinel, .sentinel, .sentinel, .sentinel, .sentinel], laidTests := true, laidLooks := .later }
def WireWritesCardSaid : Prop := Claim7.holds Tryd.pinned (.plain (OpenSpec.ofChange wireWritesSpec)) wireWritesCard

/-- THE TIED CARD OF 'ferrylaw02.WireStays'. -/
def wireStaysCard : Claim7 := { stood := { row := wireStaysRow, standIns := [], harness := (true, "ec9a0997c3e6389704ca6fd4cd13891571155a056f0c5d8f10f9650407966550"), looks := true }, kinds := [], alts := [], laidByText := true, laidKinds := [.handle, .sentinel, .sentinel, .sentinel, .sentinel, .sentinel, .sentinel, .sentinel, .sentinel, .sentinel, .sentinel, .sentinel, .sentinel, .sentinel, .sentinel, .sentinel, .sentinel, .sentinel, .sentinel, .sentinel, .sentinel], laidTests := true, laidLooks := .later }
def WireStaysCardSaid : Prop := Claim7.holds Tryd.pinned (.plain (OpenSpec.ofChange wireStaysSpec)) wireStaysCard

/-- THE TIED CARD OF 'ferrylaw02.WireReads'. -/
def wireReadsCard : Claim7 := { stood := { row := wireReadsRow, standIns := [], harness := (true, "ec9a0997c3e6389704ca6fd4cd13891571155a056f0c5d8f10f9650407966550"), looks := true }, kinds := [], alts := [], laidByText := true, laidKinds := [.handle, .sentinel, .sentinel, .sentinel, .sentinel, .sentinel, .sentinel, .sentinel, .sentinel, .sentinel, .sentinel, .sentinel, .sentinel, .sentinel, .sentinel, .sentinel, .sentinel, .sentinel, .sentinel, .sentinel, .sentinel], laidTests := true, laidLooks := .later }
def WireReadsCardSaid : Prop := Claim7.holds Tryd.pinned (.plain (OpenSpec.ofChange wireReadsSpec)) wireReadsCard

/-- THE TIED CARD OF 'ferrylaw02.WireBack'. -/
def wireBackCard : Claim7 := { stood := { row := wireBackRow, standIns := [], harness := (true, "ec9a0997c3e6389704ca6fd4cd13891571155a056f0c5d8f10f9650407966550"), looks := true }, kinds := [], alts := [], laidByText := true, laidKinds := [.handle, .sentinel, .sentinel, .sentinel, .sentinel, .sentinel, .sentinel, .sentinel, .sentinel, .sentinel, .sentinel, .sentinel, .sentinel, .sentinel, .sentinel, .sentinel, .sentinel, .sentinel, .sentinel, .sentinel, .sentinel], laidTests := true, laidLooks := .later }
def WireBackCardSaid : Prop := Claim7.holds Tryd.pinned (.plain (OpenSpec.ofChange wireBackSpec)) wireBackCard

/-- THE TIED CARD OF 'ferrylaw02.WireLists'. -/
def wireListsCard : Claim7 := { stood := { row := wireListsRow, standIns := [], harness := (true, "ec9a0997c3e6389704ca6fd4cd13891571155a056f0c5d8f10f9650407966550"), looks := true }, kinds := [], alts := [], laidByText := true, laidKinds := [.handle, .sentinel, .sentinel, .sentinel, .sentinel, .sentinel, .sentinel, .sentinel, .sentinel, .sentinel, .sentinel, .sentinel, .sentinel, .sentinel, .sentinel, .sentinel, .sentinel, .sentinel, .sentinel, .sentinel, .sentinel], laidTests := true, laidLooks := .later }
def WireListsCardSaid : Prop := Claim7.holds Tryd.pinned (.plain (OpenSpec.ofChange wireListsSpec)) wireListsCard

/-- THE TIED CARD OF 'ferrylaw02.WireTurns'. -/
def wireTurnsCard : Claim7 := { stood := { row := wireTurnsRow, standIns := [], harness := (true, "ec9a0997c3e6389704ca6fd4cd13891571155a056f0c5d8f10f9650407966550"), looks := true }, kinds := [], alts := [], laidByText := true, laidKinds := [.handle, .sentinel, .sentinel, .sentinel, .sentinel, .sentinel, .sentinel, .sentinel, .sentinel, .sentinel, .sentinel, .sentinel, .sentinel, .sentinel, .sentinel, .sentinel, .sentinel, .sentinel, .sentinel, .sentinel, .sentinel], laidTests := true, laidLooks := .later }
def WireTurnsCardSaid : Prop := Claim7.holds Tryd.pinned (.plain (OpenSpec.ofChange wireTurnsSpec)) wireTurnsCard

/-- THE TIED CARD OF 'ferrytop.FerryQueuesInOrder'. -/
def ferryQueuesInOrderCard : Claim7 := { stood := { row := ferryQueuesInOrderRow, standIns := [], harness := (true, "ec9a0997c3e6389704ca6fd4cd13891571155a056f0c5d8f10f9650407966550"), looks := true }, kinds := [], alts := [], laidByText := true, laidKinds := [.sentinel, .sentinel, .sentinel, .sentinel, .sentinel, .sentinel, .sentinel], laidTests := true, laidLooks := .later }
def FerryQueuesInOrderCardSaid : Prop := Claim7.holds Tryd.pinned (.plain (OpenSpec.ofChange ferryQueuesInOrderSpec)) ferryQueuesInOrderCard

/-- THE TIED CARD OF 'ferrylaw02.WireMemory'. -/
def wireMemoryCard : Claim7 := { stood := { row := wireMemoryRow, standIns := [], harness := (true, "ec9a0997c3e6389704ca6fd4cd13891571155a056f0c5d8f10f9650407966550"), looks := true }, kinds := [], alts := [], laidByText := true, laidKinds := [.handle, .sentinel, .sentinel, .sentinel, .sentinel, .sentinel, .sentinel, .sentinel, .sentinel, .sentinel, .sentinel, .sentinel, .sentinel, .sentinel, .sentinel, .sentinel, .sentinel, .sentinel, .sentinel, .sentinel, .sentinel], laidTests := true, laidLooks := .later }
def WireMemoryCardSaid : Prop := Claim7.holds Tryd.pinned (.plain (OpenSpec.ofChange wireMemorySpec)) wireMemoryCard

/-- THE SECOND FORM's CARD OF 'ferrylaw02.WireWrites'. -/
def wireWritesUptoCard : Claim7 := { stood := { row := wireWritesUptoRow, standIns := [], harness := (true, "ec9a0997c3e6389704ca6fd4cd13891571155a056f0c5d8f10f9650407966550"), looks := true }, kinds := [], alts := [], laidByText := true, laidKinds := [.handle, .sentinel, .sentinel, .sentinel, .sentinel, .sentinel, .sentinel, .sentinel, .sentinel, .sentinel, .sentinel, .sentinel, .sentinel, .sentinel, .sentinel, .sentinel, .sentinel, .sentinel, .sentinel, .sentinel, .sentinel], laidTests := true, laidLooks := .later }
def WireWritesUptoCardSaid : Prop := Claim7.holds Tryd.pinned (.plain (OpenSpec.upto wireWritesSpec)) wireWritesUptoCard

/-- THE SECOND FORM's CARD OF 'ferrylaw02.WireStays'. -/
def wireStaysUptoCard : Claim7 := { stood := { row := wireStaysUptoRow, standIns := [], harness := (true, "ec9a0997c3e6389704ca6fd4cd13891571155a056f0c5d8f10f9650407966550"), looks := true }, kinds := [], alts := [], laidByText := true, laidKinds := [.handle, .sentinel, .sentinel, .sentinel, .sentinel, .sentinel, .sentinel, .sentinel, .sentinel, .sentinel, .sentinel, .sentinel, .sentinel, .sentinel, .sentinel, .sentinel, .sentinel, .sentinel, .sentinel, .sentinel, .sentinel], laidTests := true, laidLooks := .later }
def WireStaysUptoCardSaid : Prop := Claim7.holds Tryd.pinned (.plain (OpenSpec.upto wireStaysSpec)) wireStaysUptoCard

/-- THE SECOND FORM's CARD OF 'ferrylaw02.WireReads'. -/
def wireReadsUptoCard : Claim7 := { stood := { row := wireReadsUptoRow, standIns := [], harness := (true, "ec9a0997c3e6389704ca6fd4cd13891571155a056f0c5d8f10f9650407966550"), looks := true }, kinds := [], alts := [], laidByText := true, laidKinds := [.handle, .sentinel, .sentinel, .sentinel, .sentinel, .sentinel, .sentinel, .sentinel, .sentinel, .sentinel, .sentinel, .sentinel, .sentinel, .sentinel, .sentinel, .sentinel, .sentinel, .sentinel, .sentinel, .sentinel, .sentinel], laidTests := true, laidLooks := .later }
def WireReadsUptoCardSaid : Prop := Claim7.holds Tryd.pinned (.plain (OpenSpec.upto wireReadsSpec)) wireReadsUptoCard

/-- THE SECOND FORM's CARD OF 'ferrylaw02.WireBack'. -/
def wireBackUptoCard : Claim7 := { stood := { row := wireBackUptoRow, standIns := [], harness := (true, "ec9a0997c3e6389704ca6fd4cd13891571155a056f0c5d8f10f9650407966550"), looks := true }, kinds := [], alts := [], laidByText := true, laidKinds := [.handle, .sentinel, .sentinel, .sentinel, .sentinel, .sentinel, .sentinel, .sentinel, .sentinel, .sentinel, .sentinel, .sentinel, .sentinel, .sentinel, .sentinel, .sentinel, .sentinel, .sentinel, .sentinel, .sentinel, .sentinel], laidTests := true, laidLooks := .later }
def WireBackUptoCardSaid : Prop := Claim7.holds Tryd.pinned (.plain (OpenSpec.upto wireBackSpec)) wireBackUptoCard

/-- THE SECOND FORM's CARD OF 'ferrylaw02.WireLists'. -/
def wireListsUptoCard : Claim7 := { stood := { row := wireListsUptoRow, standIns := [], harness := (true, "ec9a0997c3e6389704ca6fd4cd13891571155a056f0c5d8f10f9650407966550"), looks := true }, kinds := [], alts := [], laidByText := true, laidKinds := [.handle, .sentinel, .sentinel, .sentinel, .sentinel, .sentinel, .sentinel, .sentinel, .sentinel, .sentinel, .sentinel, .sentinel, .sentinel, .sentinel, .sentinel, .sentinel, .sentinel, .sentinel, .sentinel, .sentinel, .sentinel], laidTests := true, laidLooks := .later }
def WireListsUptoCardSaid : Prop := Claim7.holds Tryd.pinned (.plain (OpenSpec.upto wireListsSpec)) wireListsUptoCard

/-- THE SECOND FORM's CARD OF 'ferrylaw02.WireTurns'. -/
def wireTurnsUptoCard : Claim7 := { stood := { row := wireTurnsUptoRow, standIns := [], harness := (true, "ec9a0997c3e6389704ca6fd4cd13891571155a056f0c5d8f10f9650407966550"), looks := true }, kinds := [], alts := [], laidByText := true, laidKinds := [.handle, .sentinel, .sentinel, .sentinel, .sentinel, .sentinel, .sentinel, .sentinel, .sentinel, .sentinel, .sentinel, .sentinel, .sentinel, .sentinel, .sentinel, .sentinel, .sentinel, .sentinel, .sentinel, .sentinel, .sentinel], laidTests := true, laidLooks := .later }
def WireTurnsUptoCardSaid : Prop := Claim7.holds Tryd.pinned (.plain (OpenSpec.upto wireTurnsSpec)) wireTurnsUptoCard

/-- THE SECOND FORM's CARD OF 'ferrytop.FerryQueuesInOrder'. -/
def ferryQueuesInOrderUptoCard : Claim7 := { stood := { row := ferryQueuesInOrderUptoRow, standIns := [], harness := (true, "ec9a0997c3e6389704ca6fd4cd13891571155a056f0c5d8f10f9650407966550"), looks := true }, kinds := [], alts := [], laidByText := true, laidKinds := [.sentinel, .sentinel, .sentinel, .sentinel, .sentinel, .sentinel, .sentinel], laidTests := true, laidLooks := .later }
def FerryQueuesInOrderUptoCardSaid : Prop := Claim7.holds Tryd.pinned (.plain (OpenSpec.upto ferryQueuesInOrderSpec)) ferryQueuesInOrderUptoCard

/-- THE SECOND FORM's CARD OF 'ferrylaw02.WireMemory'. -/
def wireMemoryUptoCard : Claim7 := { stood := { row := wireMemoryUptoRow, standIns := [], harness := (true, "ec9a0997c3e6389704ca6fd4cd13891571155a056f0c5d8f10f9650407966550"), looks := true }, kinds := [], alts := [], laidByText := true, laidKinds := [.handle, .sentinel, .sentinel, .sentinel, .sentinel, .sentinel, .sentinel, .sentinel, .sentinel, .sentinel, .sentinel, .sentinel, .sentinel, .sentinel, .sentinel, .sentinel, .sentinel, .sentinel, .sentinel, .sentinel, .sentinel], laidTests := true, laidLooks := .later }
def WireMemoryUptoCardSaid : Prop := Claim7.holds Tryd.pinned (.plain (OpenSpec.upto wireMemorySpec)) wireMemoryUptoCard
end Rows
end Go.Proofs.YtdglaodhmlocdaaDoor
