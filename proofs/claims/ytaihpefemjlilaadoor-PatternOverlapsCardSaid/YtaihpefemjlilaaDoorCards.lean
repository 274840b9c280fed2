/-
  DERIVED. GIVEN WITH THE SEED: THE CARDS: each row of YtaihpefemjlilaaDoorRows.lean that lists a variable, with what it lists TIED to the program's text (the seventh form; the later family's looks); each row that meets fmt, with fmt's text TOLD by the authors' own Lean function (tested against real Go, not proved from fmt's source: count such statements apart). THE CARD IS WHAT COUNTS. Prove the row's statement (the work); the ties are given (YtaihpefemjlilaaDoorTie.lean); close each card by the builder's one call (the guide's Derived/Test/ToyasCard.lean, 'card_holds'). Laid BY PROGRAM, IN A SANDBOX (cutbox-door.mjs). By AI agents, Wed Nov 11 2026. No macro, syntax, notation, axiom, sorry.
-/
import Derived.Test.YtaihpefemjlilaaDoorRows
import GoSem.ClaimSeven
namespace Go.Proofs.YtaihpefemjlilaaDoor
namespace Rows

/-- THE TIED CARD OF 'admissionlaw37.WorkloadChanged'. -/
def workloadChangedCard : Claim7 := { stood := { row := workloadChangedRow, standIns := [], harness := (true, "34e32fca82ce32e5a50f65f1d06c7618d2620673891e1d1ba31c7ebf64448dda"), looks := false }, kinds := [], alts := [], laidByText := true, laidKinds := [.data, .pinned], laidTests := true, laidLooks := .later }
def WorkloadChangedCardSaid : Prop := Claim7.holds Tryd.pinned (.plain (OpenSpec.ofChange workloadChangedSpec)) workloadChangedCard

/-- THE TIED CARD OF 'admissionlaw03.PatternOverlaps'. -/
def patternOverlapsCard : Claim7 := { stood := { row := patternOverlapsRow, standIns := [], harness := (true, "34e32fca82ce32e5a50f65f1d06c7618d2620673891e1d1ba31c7ebf64448dda"), looks := false }, kinds := [], alts := [], laidByText := true, laidKinds := [.data, .pinned], laidTests := true, laidLooks := .later }
def PatternOverlapsCardSaid : Prop := Claim7.holds Tryd.pinned (.plain (OpenSpec.ofChange patternOverlapsSpec)) patternOverlapsCard

/-- THE SECOND FORM's CARD OF 'admissionlaw37.WorkloadChanged'. -/
def workloadChangedUptoCard : Claim7 := { stood := { row := workloadChangedUptoRow, standIns := [], harness := (true, "34e32fca82ce32e5a50f65f1d06c7618d2620673891e1d1ba31c7ebf64448dda"), looks := false }, kinds := [], alts := [], laidByText := true, laidKinds := [.data, .pinned], laidTests := true, laidLooks := .later }
def WorkloadChangedUptoCardSaid : Prop := Claim7.holds Tryd.pinned (.plain (OpenSpec.upto workloadChangedSpec)) workloadChangedUptoCard

/-- THE SECOND FORM's CARD OF 'admissionlaw03.PatternOverlaps'. -/
def patternOverlapsUptoCard : Claim7 := { stood := { row := patternOverlapsUptoRow, standIns := [], harness := (true, "34e32fca82ce32e5a50f65f1d06c7618d2620673891e1d1ba31c7ebf64448dda"), looks := false }, kinds := [], alts := [], laidByText := true, laidKinds := [.data, .pinned], laidTests := true, laidLooks := .later }
def PatternOverlapsUptoCardSaid : Prop := Claim7.holds Tryd.pinned (.plain (OpenSpec.upto patternOverlapsSpec)) patternOverlapsUptoCard
end Rows
end Go.Proofs.YtaihpefemjlilaaDoor
