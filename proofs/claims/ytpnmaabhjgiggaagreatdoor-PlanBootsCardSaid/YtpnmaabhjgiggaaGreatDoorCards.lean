/-
  DERIVED. GIVEN WITH THE SEED: THE CARDS: each row of YtpnmaabhjgiggaaGreatDoorRows.lean that lists a variable, with what it lists TIED to the program's text (the seventh form; the later family's looks); each row that meets fmt, with fmt's text TOLD by the authors' own Lean function (tested against real Go, not proved from fmt's source: count such statements apart). THE CARD IS WHAT COUNTS. Prove the row's statement (the work); the ties are given (YtpnmaabhjgiggaaGreatDoorTie.lean); close each card by the builder's one call (the guide's Derived/Test/ToyasCard.lean, 'card_holds'). Laid BY PROGRAM, IN A SANDBOX (cutbox-door.mjs). By AI agents, Wed Nov 11 2026. No macro, syntax, notation, axiom, sorry.
-/
import Derived.Test.YtpnmaabhjgiggaaGreatDoorRows
import GoSem.ClaimSeven
namespace Go.Proofs.YtpnmaabhjgiggaaGreatDoor
namespace Rows

/-- THE TIED CARD OF 'ferrylaw10.PlanBoots'. -/
def planBootsCard : Claim7 := { stood := { row := planBootsRow, standIns := [], harness := (true, "3531fcd186bc1e9cb31778f119c1289cae5973c5153a7df97195a0a10501a98d"), looks := true }, kinds := [], alts := [], laidByText := true, laidKinds := [.handle, .sentinel, .sentinel, .sentinel, .sentinel, .sentinel, .sentinel, .sentinel, .sentinel, .sentinel, .sentinel, .sentinel, .sentinel, .sentinel, .sentinel, .sentinel, .sentinel, .sentinel, .sentinel, .sentinel, .sentinel], laidTests := true, laidLooks := .later }
def PlanBootsCardSaid : Prop := Claim7.holds Tryz.pinned (.plain (OpenSpec.ofChange planBootsSpec)) planBootsCard

/-- THE SECOND FORM's CARD OF 'ferrylaw10.PlanBoots'. -/
def planBootsUptoCard : Claim7 := { stood := { row := planBootsUptoRow, standIns := [], harness := (true, "3531fcd186bc1e9cb31778f119c1289cae5973c5153a7df97195a0a10501a98d"), looks := true }, kinds := [], alts := [], laidByText := true, laidKinds := [.handle, .sentinel, .sentinel, .sentinel, .sentinel, .sentinel, .sentinel, .sentinel, .sentinel, .sentinel, .sentinel, .sentinel, .sentinel, .sentinel, .sentinel, .sentinel, .sentinel, .sentinel, .sentinel, .sentinel, .sentinel], laidTests := true, laidLooks := .later }
def PlanBootsUptoCardSaid : Prop := Claim7.holds Tryz.pinned (.plain (OpenSpec.upto planBootsSpec)) planBootsUptoCard
end Rows
end Go.Proofs.YtpnmaabhjgiggaaGreatDoor
