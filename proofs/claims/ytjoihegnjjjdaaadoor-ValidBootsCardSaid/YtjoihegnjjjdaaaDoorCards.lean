/-
  DERIVED. GIVEN WITH THE SEED: THE CARDS: each row of YtjoihegnjjjdaaaDoorRows.lean that lists a variable, with what it lists TIED to the program's text (the seventh form; the later family's looks); each row that meets fmt, with fmt's text TOLD by the authors' own Lean function (tested against real Go, not proved from fmt's source: count such statements apart). THE CARD IS WHAT COUNTS. Prove the row's statement (the work); the ties are given (YtjoihegnjjjdaaaDoorTie.lean); close each card by the builder's one call (the guide's Derived/Test/ToyasCard.lean, 'card_holds'). Laid BY PROGRAM, IN A SANDBOX (cutbox-door.mjs). By AI agents, Wed Nov 11 2026. No macro, syntax, notation, axiom, sorry.
-/
import Derived.Test.YtjoihegnjjjdaaaDoorRows
import GoSem.ClaimSeven
namespace Go.Proofs.YtjoihegnjjjdaaaDoor
namespace Rows

/-- THE TIED CARD OF 'ferrylaw14.FrameCarries'. -/
def frameCarriesCard : Claim7 := { stood := { row := frameCarriesRow, standIns := [], harness := (true, "959bcb7dfa65c4dcb3ef39cdd5428f9335251b0be8794d994c4f39a8864efa26"), looks := true }, kinds := [], alts := [], laidByText := true, laidKinds := [.handle, .sentinel, .sentinel, .sentinel, .sentinel, .sentinel, .sentinel, .sentinel, .sentinel, .sentinel, .sentinel, .sentinel, .sentinel, .sentinel, .sentinel, .sentinel, .sentinel, .sentinel, .sentinel, .sentinel, .sentinel], laidTests := true, laidLooks := .later }
def FrameCarriesCardSaid : Prop := Claim7.holds Tryd.pinned (.plain (OpenSpec.ofChange frameCarriesSpec)) frameCarriesCard

/-- THE TIED CARD OF 'ferrylaw14.FrameLinks'. -/
def frameLinksCard : Claim7 := { stood := { row := frameLinksRow, standIns := [], harness := (true, "959bcb7dfa65c4dcb3ef39cdd5428f9335251b0be8794d994c4f39a8864efa26"), looks := true }, kinds := [], alts := [], laidByText := true, laidKinds := [.handle, .sentinel, .sentinel, .sentinel, .sentinel, .sentinel, .sentinel, .sentinel, .sentinel, .sentinel, .sentinel, .sentinel, .sentinel, .sentinel, .sentinel, .sentinel, .sentinel, .sentinel, .sentinel, .sentinel, .sentinel], laidTests := true, laidLooks := .later }
def FrameLinksCardSaid : Prop := Claim7.holds Tryd.pinned (.plain (OpenSpec.ofChange frameLinksSpec)) frameLinksCard

/-- THE TIED CARD OF 'ferrytop.FerryBurstsTold'. -/
def ferryBurstsToldCard : Claim7 := { stood := { row := ferryBurstsToldRow, standIns := [], harness := (true, "959bcb7dfa65c4dcb3ef39cdd5428f9335251b0be8794d994c4f39a8864efa26"), looks := true }, kinds := [], alts := [], laidByText := true, laidKinds := [.data, .sentinel, .sentinel, .sentinel, .sentinel, .sentinel, .sentinel, .sentinel, .sentinel, .sentinel, .sentinel, .sentinel, .sentinel, .sentinel, .sentinel, .sentinel, .sentinel, .sentinel, .sentinel, .sentinel, .sentinel], laidTests := true, laidLooks := .later }
def FerryBurstsToldCardSaid : Prop := Claim7.holds Tryd.pinned (.plain (OpenSpec.ofChange ferryBurstsToldSpec)) ferryBurstsToldCard

/-- THE TIED CARD OF 'ferrylaw11.ValidOrder'. -/
def validOrderCard : Claim7 := { stood := { row := validOrderRow, standIns := [], harness := (true, "959bcb7dfa65c4dcb3ef39cdd5428f9335251b0be8794d994c4f39a8864efa26"), looks := true }, kinds := [], alts := [], laidByText := true, laidKinds := [.handle, .sentinel, .sentinel, .sentinel, .sentinel, .sentinel, .sentinel, .sentinel, .sentinel, .sentinel, .sentinel, .sentinel, .sentinel, .sentinel, .sentinel, .sentinel, .sentinel, .sentinel, .sentinel, .sentinel, .sentinel], laidTests := true, laidLooks := .later }
def ValidOrderCardSaid : Prop := Claim7.holds Tryd.pinned (.plain (OpenSpec.ofChange validOrderSpec)) validOrderCard

/-- THE TIED CARD OF 'ferrytop.FerryRunsSplit'. -/
def ferryRunsSplitCard : Claim7 := { stood := { row := ferryRunsSplitRow, standIns := [], harness := (true, "959bcb7dfa65c4dcb3ef39cdd5428f9335251b0be8794d994c4f39a8864efa26"), looks := true }, kinds := [], alts := [], laidByText := true, laidKinds := [.sentinel, .sentinel, .sentinel, .sentinel, .sentinel, .sentinel, .listed, .data], laidTests := true, laidLooks := .later }
def FerryRunsSplitCardSaid : Prop := Claim7.holds Tryd.pinned (.plain (OpenSpec.ofChange ferryRunsSplitSpec)) ferryRunsSplitCard

/-- THE TIED CARD OF 'ferrylaw14.FrameTicks'. -/
def frameTicksCard : Claim7 := { stood := { row := frameTicksRow, standIns := [], harness := (true, "959bcb7dfa65c4dcb3ef39cdd5428f9335251b0be8794d994c4f39a8864efa26"), looks := true }, kinds := [], alts := [], laidByText := true, laidKinds := [.handle, .sentinel, .sentinel, .sentinel, .sentinel, .sentinel, .sentinel, .sentinel, .sentinel, .sentinel, .sentinel, .sentinel, .sentinel, .sentinel, .sentinel, .sentinel, .sentinel, .sentinel, .sentinel, .sentinel, .sentinel], laidTests := true, laidLooks := .later }
def FrameTicksCardSaid : Prop := Claim7.holds Tryd.pinned (.plain (OpenSpec.ofChange frameTicksSpec)) frameTicksCard

/-- THE TIED CARD OF 'ferrylaw14.FrameChecks'. -/
def frameChecksCard : Claim7 := { stood := { row := frameChecksRow, standIns := [], harness := (true, "959bcb7dfa65c4dcb3ef39cdd5428f9335251b0be8794d994c4f39a8864efa26"), looks := true }, kinds := [], alts := [], laidByText := true, laidKinds := [.handle, .sentinel, .sentinel, .sentinel, .sentinel, .sentinel, .sentinel, .sentinel, .sentinel, .sentinel, .sentinel, .sentinel, .sentinel, .sentinel, .sentinel, .sentinel, .sentinel, .sentinel, .sentinel, .sentinel, .sentinel], laidTests := true, laidLooks := .later }
def FrameChecksCardSaid : Prop := Claim7.holds Tryd.pinned (.plain (OpenSpec.ofChange frameChecksSpec)) frameChecksCard

/-- THE TIED CARD OF 'ferrylaw11.ValidBoots'. -/
def validBootsCard : Claim7 := { stood := { row := validBootsRow, standIns := [], harness := (true, "959bcb7dfa65c4dcb3ef39cdd5428f9335251b0be8794d994c4f39a8864efa26"), looks := true }, kinds := [], alts := [], laidByText := true, laidKinds := [.handle, .sentinel, .sentinel, .sentinel, .sentinel, .sentinel, .sentinel, .sentinel, .sentinel, .sentinel, .sentinel, .sentinel, .sentinel, .sentinel, .sentinel, .sentinel, .sentinel, .sentinel, .sentinel, .sentinel, .sentinel], laidTests := true, laidLooks := .later }
def ValidBootsCardSaid : Prop := Claim7.holds Tryd.pinned (.plain (OpenSpec.ofChange validBootsSpec)) validBootsCard

/-- THE SECOND FORM's CARD OF 'ferrylaw14.FrameCarries'. -/
def frameCarriesUptoCard : Claim7 := { stood := { row := frameCarriesUptoRow, standIns := [], harness := (true, "959bcb7dfa65c4dcb3ef39cdd5428f9335251b0be8794d994c4f39a8864efa26"), looks := true }, kinds := [], alts := [], laidByText := true, laidKinds := [.handle, .sentinel, .sentinel, .sentinel, .sentinel, .sentinel, .sentinel, .sentinel, .sentinel, .sentinel, .sentinel, .sentinel, .sentinel, .sentinel, .sentinel, .sentinel, .sentinel, .sentinel, .sentinel, .sentinel, .sentinel], laidTests := true, laidLooks := .later }
def FrameCarriesUptoCardSaid : Prop := Claim7.holds Tryd.pinned (.plain (OpenSpec.upto frameCarriesSpec)) frameCarriesUptoCard

/-- THE SECOND FORM's CARD OF 'ferrylaw14.FrameLinks'. -/
def frameLinksUptoCard : Claim7 := { stood := { row := frameLinksUptoRow, standIns := [], harness := (true, "959bcb7dfa65c4dcb3ef39cdd5428f9335251b0be8794d994c4f39a8864efa26"), looks := true }, kinds := [], alts := [], laidByText := true, laidKinds := [.handle, .sentinel, .sentinel, .sentinel, .sentinel, .sentinel, .sentinel, .sentinel, .sentinel, .sentinel, .sentinel, .sentinel, .sentinel, .sentinel, .sentinel, .sentinel, .sentinel, .sentinel, .sentinel, .sentinel, .sentinel], laidTests := true, laidLooks := .later }
def FrameLinksUptoCardSaid : Prop := Claim7.holds Tryd.pinned (.plain (OpenSpec.upto frameLinksSpec)) frameLinksUptoCard

/-- THE SECOND FORM's CARD OF 'ferrytop.FerryBurstsTold'. -/
def ferryBurstsToldUptoCard : Claim7 := { stood := { row := ferryBurstsToldUptoRow, standIns := [], harness := (true, "959bcb7dfa65c4dcb3ef39cdd5428f9335251b0be8794d994c4f39a8864efa26"), looks := true }, kinds := [], alts := [], laidByText := true, laidKinds := [.data, .sentinel, .sentinel, .sentinel, .sentinel, .sentinel, .sentinel, .sentinel, .sentinel, .sentinel, .sentinel, .sentinel, .sentinel, .sentinel, .sentinel, .sentinel, .sentinel, .sentinel, .sentinel, .sentinel, .sentinel], laidTests := true, laidLooks := .later }
def FerryBurstsToldUptoCardSaid : Prop := Claim7.holds Tryd.pinned (.plain (OpenSpec.upto ferryBurstsToldSpec)) ferryBurstsToldUptoCard

/-- THE SECOND FORM's CARD OF 'ferrylaw11.ValidOrder'. -/
def validOrderUptoCard : Claim7 := { stood := { row := validOrderUptoRow, standIns := [], harness := (true, "959bcb7dfa65c4dcb3ef39cdd5428f9335251b0be8794d994c4f39a8864efa26"), looks := true }, kinds := [], alts := [], laidByText := true, laidKinds := [.handle, .sentinel, .sentinel, .sentinel, .sentinel, .sentinel, .sentinel, .sentinel, .sentinel, .sentinel, .sentinel, .sentinel, .sentinel, .sentinel, .sentinel, .sentinel, .sentinel, .sentinel, .sentinel, .sentinel, .sentinel], laidTests := true, laidLooks := .later }
def ValidOrderUptoCardSaid : Prop := Claim7.holds Tryd.pinned (.plain (OpenSpec.upto validOrderSpec)) validOrderUptoCard

/-- THE SECOND FORM's CARD OF 'ferrytop.FerryRunsSplit'. -/
def ferryRunsSplitUptoCard : Claim7 := { stood := { row := ferryRunsSplitUptoRow, standIns := [], harness := (true, "959bcb7dfa65c4dcb3ef39cdd5428f9335251b0be8794d994c4f39a8864efa26"), looks := true }, kinds := [], alts := [], laidByText := true, laidKinds := [.sentinel, .sentinel, .sentinel, .sentinel, .sentinel, .sentinel, .listed, .data], laidTests := true, laidLooks := .later }
def FerryRunsSplitUptoCardSaid : Prop := Claim7.holds Tryd.pinned (.plain (OpenSpec.upto ferryRunsSplitSpec)) ferryRunsSplitUptoCard

/-- THE SECOND FORM's CARD OF 'ferrylaw14.FrameTicks'. -/
def frameTicksUptoCard : Claim7 := { stood := { row := frameTicksUptoRow, standIns := [], harness := (true, "959bcb7dfa65c4dcb3ef39cdd5428f9335251b0be8794d994c4f39a8864efa26"), looks := true }, kinds := [], alts := [], laidByText := true, laidKinds := [.handle, .sentinel, .sentinel, .sentinel, .sentinel, .sentinel, .sentinel, .sentinel, .sentinel, .sentinel, .sentinel, .sentinel, .sentinel, .sentinel, .sentinel, .sentinel, .sentinel, .sentinel, .sentinel, .sentinel, .sentinel], laidTests := true, laidLooks := .later }
def FrameTicksUptoCardSaid : Prop := Claim7.holds Tryd.pinned (.plain (OpenSpec.upto frameTicksSpec)) frameTicksUptoCard

/-- THE SECOND FORM's CARD OF 'ferrylaw14.FrameChecks'. -/
def frameChecksUptoCard : Claim7 := { stood := { row := frameChecksUptoRow, standIns := [], harness := (true, "959bcb7dfa65c4dcb3ef39cdd5428f9335251b0be8794d994c4f39a8864efa26"), looks := true }, kinds := [], alts := [], laidByText := true, laidKinds := [.handle, .sentinel, .sentinel, .sentinel, .sentinel, .sentinel, .sentinel, .sentinel, .sentinel, .sentinel, .sentinel, .sentinel, .sentinel, .sentinel, .sentinel, .sentinel, .sentinel, .sentinel, .sentinel, .sentinel, .sentinel], laidTests := true, laidLooks := .later }
def FrameChecksUptoCardSaid : Prop := Claim7.holds Tryd.pinned (.plain (OpenSpec.upto frameChecksSpec)) frameChecksUptoCard

/-- THE SECOND FORM's CARD OF 'ferrylaw11.ValidBoots'. -/
def validBootsUptoCard : Claim7 := { stood := { row := validBootsUptoRow, standIns := [], harness := (true, "959bcb7dfa65c4dcb3ef39cdd5428f9335251b0be8794d994c4f39a8864efa26"), looks := true }, kinds := [], alts := [], laidByText := true, laidKinds := [.handle, .sentinel, .sentinel, .sentinel, .sentinel, .sentinel, .sentinel, .sentinel, .sentinel, .sentinel, .sentinel, .sentinel, .sentinel, .sentinel, .sentinel, .sentinel, .sentinel, .sentinel, .sentinel, .sentinel, .sentinel], laidTests := true, laidLooks := .later }
def ValidBootsUptoCardSaid : Prop := Claim7.holds Tryd.pinned (.plain (OpenSpec.upto validBootsSpec)) validBootsUptoCard
end Rows
end Go.Proofs.YtjoihegnjjjdaaaDoor
