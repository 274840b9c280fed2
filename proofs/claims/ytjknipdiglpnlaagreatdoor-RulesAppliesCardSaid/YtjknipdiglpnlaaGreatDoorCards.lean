/-
  DERIVED. GIVEN WITH THE SEED: THE CARDS: each row of YtjknipdiglpnlaaGreatDoorRows.lean that lists a variable, with what it lists TIED to the program's text (the seventh form; the later family's looks); each row that meets fmt, with fmt's text TOLD by the authors' own Lean function (tested against real Go, not proved from fmt's source: count such statements apart). THE CARD IS WHAT COUNTS. Prove the row's statement (the work); the ties are given (YtjknipdiglpnlaaGreatDoorTie.lean); close each card by the builder's one call (the guide's Derived/Test/ToyasCard.lean, 'card_holds'). Laid BY PROGRAM, IN A SANDBOX (cutbox-door.mjs). By AI agents, Wed Nov 11 2026. No macro, syntax, notation, axiom, sorry.
-/
import Derived.Test.YtjknipdiglpnlaaGreatDoorRows
import GoSem.ClaimSeven
namespace Go.Proofs.YtjknipdiglpnlaaGreatDoor
namespace Rows

/-- THE TIED CARD OF 'admissionlaw13.RulesApplies'. -/
def rulesAppliesCard : Claim7 := { stood := { row := rulesAppliesRow, standIns := [], harness := (true, "527579939c00ab37ba50f5abaaa62fa3c2e2733bc6a3a7c89efd41727934ba81"), looks := false }, kinds := [], alts := [], laidByText := true, laidKinds := [.data, .pinned], laidTests := true, laidLooks := .later }
def RulesAppliesCardSaid : Prop := Claim7.holds Tryz.pinned (.plain (OpenSpec.ofChange rulesAppliesSpec)) rulesAppliesCard

/-- THE SECOND FORM's CARD OF 'admissionlaw13.RulesApplies'. -/
def rulesAppliesUptoCard : Claim7 := { stood := { row := rulesAppliesUptoRow, standIns := [], harness := (true, "527579939c00ab37ba50f5abaaa62fa3c2e2733bc6a3a7c89efd41727934ba81"), looks := false }, kinds := [], alts := [], laidByText := true, laidKinds := [.data, .pinned], laidTests := true, laidLooks := .later }
def RulesAppliesUptoCardSaid : Prop := Claim7.holds Tryz.pinned (.plain (OpenSpec.upto rulesAppliesSpec)) rulesAppliesUptoCard
end Rows
end Go.Proofs.YtjknipdiglpnlaaGreatDoor
