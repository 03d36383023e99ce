/-
  DERIVED. GIVEN WITH THE SEED: THE CARDS: each row of YtjoihegnjjjdaaaGreatDoorRows.lean that lists a variable, with what it lists TIED to the program's text (the seventh form; the later family's looks); each row that meets fmt, with fmt's text TOLD by the authors' own Lean function (tested against real Go, not proved from fmt's source: count such statements apart). THE CARD IS WHAT COUNTS. Prove the row's statement (the work); the ties are given (YtjoihegnjjjdaaaGreatDoorTie.lean); close each card by the builder's one call (the guide's Derived/Test/ToyasCard.lean, 'card_holds'). Laid BY PROGRAM, IN A SANDBOX (cutbox-door.mjs). By AI agents, Wed Nov 11 2026. No macro, syntax, notation, axiom, sorry.
-/
import Derived.Test.YtjoihegnjjjdaaaGreatDoorRows
import GoSem.ClaimSeven
namespace Go.Proofs.YtjoihegnjjjdaaaGreatDoor
namespace Rows

/-- THE TIED CARD OF 'ferrylaw11.ValidRules'. -/
def validRulesCard : Claim7 := { stood := { row := validRulesRow, standIns := [], harness := (true, "76d6ad5a8b7ed24054d95ca80c06b771b1d134bcd93619f8b69ff5b58703839a"), looks := true }, kinds := [], alts := [], laidByText := true, laidKinds := [.handle, .sentinel, .sentinel, .sentinel, .sentinel, .sentinel, .sentinel, .sentinel, .sentinel, .sentinel, .sentinel, .sentinel, .sentinel, .sentinel, .sentinel, .sentinel, .sentinel, .sentinel, .sentinel, .sentinel, .sentinel], laidTests := true, laidLooks := .later }
def ValidRulesCardSaid : Prop := Claim7.holds Tryz.pinned (.plain (OpenSpec.ofChange validRulesSpec)) validRulesCard

/-- THE TIED CARD OF 'ferrylaw14.FrameAsks'. -/
def frameAsksCard : Claim7 := { stood := { row := frameAsksRow, standIns := [], harness := (true, "76d6ad5a8b7ed24054d95ca80c06b771b1d134bcd93619f8b69ff5b58703839a"), looks := true }, kinds := [], alts := [], laidByText := true, laidKinds := [.handle, .sentinel, .sentinel, .sentinel, .sentinel, .sentinel, .sentinel, .sentinel, .sentinel, .sentinel, .sentinel, .sentinel, .sentinel, .sentinel, .sentinel, .sentinel, .sentinel, .sentinel, .sentinel, .sentinel, .sentinel], laidTests := true, laidLooks := .later }
def FrameAsksCardSaid : Prop := Claim7.holds Tryz.pinned (.plain (OpenSpec.ofChange frameAsksSpec)) frameAsksCard

/-- THE TIED CARD OF 'ferrylaw14.FrameMemory'. -/
def frameMemoryCard : Claim7 := { stood := { row := frameMemoryRow, standIns := [], harness := (true, "76d6ad5a8b7ed24054d95ca80c06b771b1d134bcd93619f8b69ff5b58703839a"), looks := true }, kinds := [], alts := [], laidByText := true, laidKinds := [.handle, .sentinel, .sentinel, .sentinel, .sentinel, .sentinel, .sentinel, .sentinel, .sentinel, .sentinel, .sentinel, .sentinel, .sentinel, .sentinel, .sentinel, .sentinel, .sentinel, .sentinel, .sentinel, .sentinel, .sentinel], laidTests := true, laidLooks := .later }
def FrameMemoryCardSaid : Prop := Claim7.holds Tryz.pinned (.plain (OpenSpec.ofChange frameMemorySpec)) frameMemoryCard

/-- THE TIED CARD OF 'ferrylaw11.ValidKeeps'. -/
def validKeepsCard : Claim7 := { stood := { row := validKeepsRow, standIns := [], harness := (true, "76d6ad5a8b7ed24054d95ca80c06b771b1d134bcd93619f8b69ff5b58703839a"), looks := true }, kinds := [], alts := [], laidByText := true, laidKinds := [.handle, .sentinel, .sentinel, .sentinel, .sentinel, .sentinel, .sentinel, .sentinel, .sentinel, .sentinel, .sentinel, .sentinel, .sentinel, .sentinel, .sentinel, .sentinel, .sentinel, .sentinel, .sentinel, .sentinel, .sentinel], laidTests := true, laidLooks := .later }
def ValidKeepsCardSaid : Prop := Claim7.holds Tryz.pinned (.plain (OpenSpec.ofChange validKeepsSpec)) validKeepsCard

/-- THE SECOND FORM's CARD OF 'ferrylaw11.ValidRules'. -/
def validRulesUptoCard : Claim7 := { stood := { row := validRulesUptoRow, standIns := [], harness := (true, "76d6ad5a8b7ed24054d95ca80c06b771b1d134bcd93619f8b69ff5b58703839a"), looks := true }, kinds := [], alts := [], laidByText := true, laidKinds := [.handle, .sentinel, .sentinel, .sentinel, .sentinel, .sentinel, .sentinel, .sentinel, .sentinel, .sentinel, .sentinel, .sentinel, .sentinel, .sentinel, .sentinel, .sentinel, .sentinel, .sentinel, .sentinel, .sentinel, .sentinel], laidTests := true, laidLooks := .later }
def ValidRulesUptoCardSaid : Prop := Claim7.holds Tryz.pinned (.plain (OpenSpec.upto validRulesSpec)) validRulesUptoCard

/-- THE SECOND FORM's CARD OF 'ferrylaw14.FrameAsks'. -/
def frameAsksUptoCard : Claim7 := { stood := { row := frameAsksUptoRow, standIns := [], harness := (true, "76d6ad5a8b7ed24054d95ca80c06b771b1d134bcd93619f8b69ff5b58703839a"), looks := true }, kinds := [], alts := [], laidByText := true, laidKinds := [.handle, .sentinel, .sentinel, .sentinel, .sentinel, .sentinel, .sentinel, .sentinel, .sentinel, .sentinel, .sentinel, .sentinel, .sentinel, .sentinel, .sentinel, .sentinel, .sentinel, .sentinel, .sentinel, .sentinel, .sentinel], laidTests := true, laidLooks := .later }
def FrameAsksUptoCardSaid : Prop := Claim7.holds Tryz.pinned (.plain (OpenSpec.upto frameAsksSpec)) frameAsksUptoCard

/-- THE SECOND FORM's CARD OF 'ferrylaw14.FrameMemory'. -/
def frameMemoryUptoCard : Claim7 := { stood := { row := frameMemoryUptoRow, standIns := [], harness := (true, "76d6ad5a8b7ed24054d95ca80c06b771b1d134bcd93619f8b69ff5b58703839a"), looks := true }, kinds := [], alts := [], laidByText := true, laidKinds := [.handle, .sentinel, .sentinel, .sentinel, .sentinel, .sentinel, .sentinel, .sentinel, .sentinel, .sentinel, .sentinel, .sentinel, .sentinel, .sentinel, .sentinel, .sentinel, .sentinel, .sentinel, .sentinel, .sentinel, .sentinel], laidTests := true, laidLooks := .later }
def FrameMemoryUptoCardSaid : Prop := Claim7.holds Tryz.pinned (.plain (OpenSpec.upto frameMemorySpec)) frameMemoryUptoCard

/-- THE SECOND FORM's CARD OF 'ferrylaw11.ValidKeeps'. -/
def validKeepsUptoCard : Claim7 := { stood := { row := validKeepsUptoRow, standIns := [], harness := (true, "76d6ad5a8b7ed24054d95ca80c06b771b1d134bcd93619f8b69ff5b58703839a"), looks := true }, kinds := [], alts := [], laidByText := true, laidKinds := [.handle, .sentinel, .sentinel, .sentinel, .sentinel, .sentinel, .sentinel, .sentinel, .sentinel, .sentinel, .sentinel, .sentinel, .sentinel, .sentinel, .sentinel, .sentinel, .sentinel, .sentinel, .sentinel, .sentinel, .sentinel], laidTests := true, laidLooks := .later }
def ValidKeepsUptoCardSaid : Prop := Claim7.holds Tryz.pinned (.plain (OpenSpec.upto validKeepsSpec)) validKeepsUptoCard
end Rows
end Go.Proofs.YtjoihegnjjjdaaaGreatDoor
