/-
  DERIVED. GIVEN WITH THE SEED: THE CARDS: each row of YtjhakjeioppijaaDoorRows.lean that lists a variable, with what it lists TIED to the program's text (the seventh form; the later family's looks); each row that meets fmt, with fmt's text TOLD by the authors' own Lean function (tested against real Go, not proved from fmt's source: count such statements apart). THE CARD IS WHAT COUNTS. Prove the row's statement (the work); the ties are given (YtjhakjeioppijaaDoorTie.lean); close each card by the builder's one call (the guide's Derived/Test/ToyasCard.lean, 'card_holds'). Laid BY PROGRAM, IN A SANDBOX (cutbox-door.mjs). By AI agents, Wed Nov 11 2026. No macro, syntax, notation, axiom, sorry.
-/
import Derived.Test.YtjhakjeioppijaaDoorRows
import GoSem.ClaimSeven
namespace Go.Proofs.YtjhakjeioppijaaDoor
namespace Rows

/-- THE TIED CARD OF 'admissionlaw37.WorkloadValid'. -/
def workloadValidCard : Claim7 := { stood := { row := workloadValidRow, standIns := [], harness := (true, "f24abd1e67cae2a6e52cdfa3edd8061de5c4e4f4879a5d0062cbc90ab4153933"), looks := false }, kinds := [], alts := [], laidByText := true, laidKinds := [.data, .pinned], laidTests := true, laidLooks := .later }
def WorkloadValidCardSaid : Prop := Claim7.holds Tryd.pinned (.plain (OpenSpec.ofChange workloadValidSpec)) workloadValidCard

/-- THE TIED CARD OF 'admissionlaw37.WorkloadChanged'. -/
def workloadChangedCard : Claim7 := { stood := { row := workloadChangedRow, standIns := [], harness := (true, "f24abd1e67cae2a6e52cdfa3edd8061de5c4e4f4879a5d0062cbc90ab4153933"), looks := false }, kinds := [], alts := [], laidByText := true, laidKinds := [.data, .pinned], laidTests := true, laidLooks := .later }
def WorkloadChangedCardSaid : Prop := Claim7.holds Tryd.pinned (.plain (OpenSpec.ofChange workloadChangedSpec)) workloadChangedCard

/-- THE TIED CARD OF 'admissionlaw37.WorkloadMark'. -/
def workloadMarkCard : Claim7 := { stood := { row := workloadMarkRow, standIns := [], harness := (true, "f24abd1e67cae2a6e52cdfa3edd8061de5c4e4f4879a5d0062cbc90ab4153933"), looks := false }, kinds := [], alts := [], laidByText := true, laidKinds := [.data, .pinned], laidTests := true, laidLooks := .later }
def WorkloadMarkCardSaid : Prop := Claim7.holds Tryd.pinned (.plain (OpenSpec.ofChange workloadMarkSpec)) workloadMarkCard

/-- THE TIED CARD OF 'admissionlaw37.WorkloadFresh'. -/
def workloadFreshCard : Claim7 := { stood := { row := workloadFreshRow, standIns := [], harness := (true, "f24abd1e67cae2a6e52cdfa3edd8061de5c4e4f4879a5d0062cbc90ab4153933"), looks := false }, kinds := [], alts := [], laidByText := true, laidKinds := [.data, .pinned], laidTests := true, laidLooks := .later }
def WorkloadFreshCardSaid : Prop := Claim7.holds Tryd.pinned (.plain (OpenSpec.ofChange workloadFreshSpec)) workloadFreshCard

/-- THE TIED CARD OF 'admissionlaw37.WorkloadCalls'. -/
def workloadCallsCard : Claim7 := { stood := { row := workloadCallsRow, standIns := [], harness := (true, "f24abd1e67cae2a6e52cdfa3edd8061de5c4e4f4879a5d0062cbc90ab4153933"), looks := false }, kinds := [], alts := [], laidByText := true, laidKinds := [.data, .pinned], laidTests := true, laidLooks := .later }
def WorkloadCallsCardSaid : Prop := Claim7.holds Tryd.pinned (.plain (OpenSpec.ofChange workloadCallsSpec)) workloadCallsCard

/-- THE TIED CARD OF 'admissionlaw37.WorkloadRaw'. -/
def workloadRawCard : Claim7 := { stood := { row := workloadRawRow, standIns := [], harness := (true, "f24abd1e67cae2a6e52cdfa3edd8061de5c4e4f4879a5d0062cbc90ab4153933"), looks := false }, kinds := [], alts := [], laidByText := true, laidKinds := [.data, .pinned], laidTests := true, laidLooks := .later }
def WorkloadRawCardSaid : Prop := Claim7.holds Tryd.pinned (.plain (OpenSpec.ofChange workloadRawSpec)) workloadRawCard

/-- THE TIED CARD OF 'admissionlaw38.DisruptionCounts'. -/
def disruptionCountsCard : Claim7 := { stood := { row := disruptionCountsRow, standIns := [], harness := (true, "f24abd1e67cae2a6e52cdfa3edd8061de5c4e4f4879a5d0062cbc90ab4153933"), looks := false }, kinds := [], alts := [], laidByText := true, laidKinds := [.data, .pinned], laidTests := true, laidLooks := .later }
def DisruptionCountsCardSaid : Prop := Claim7.holds Tryd.pinned (.plain (OpenSpec.ofChange disruptionCountsSpec)) disruptionCountsCard

/-- THE TIED CARD OF 'admissionlaw38.DisruptionOverdue'. -/
def disruptionOverdueCard : Claim7 := { stood := { row := disruptionOverdueRow, standIns := [], harness := (true, "f24abd1e67cae2a6e52cdfa3edd8061de5c4e4f4879a5d0062cbc90ab4153933"), looks := false }, kinds := [], alts := [], laidByText := true, laidKinds := [.data, .pinned], laidTests := true, laidLooks := .later }
def DisruptionOverdueCardSaid : Prop := Claim7.holds Tryd.pinned (.plain (OpenSpec.ofChange disruptionOverdueSpec)) disruptionOverdueCard

/-- THE TIED CARD OF 'admissionlaw38.DisruptionVictims'. -/
def disruptionVictimsCard : Claim7 := { stood := { row := disruptionVictimsRow, standIns := [], harness := (true, "f24abd1e67cae2a6e52cdfa3edd8061de5c4e4f4879a5d0062cbc90ab4153933"), looks := false }, kinds := [], alts := [], laidByText := true, laidKinds := [.data, .pinned], laidTests := true, laidLooks := .later }
def DisruptionVictimsCardSaid : Prop := Claim7.holds Tryd.pinned (.plain (OpenSpec.ofChange disruptionVictimsSpec)) disruptionVictimsCard

/-- THE TIED CARD OF 'admissionlaw38.DisruptionFirst'. -/
def disruptionFirstCard : Claim7 := { stood := { row := disruptionFirstRow, standIns := [], harness := (true, "f24abd1e67cae2a6e52cdfa3edd8061de5c4e4f4879a5d0062cbc90ab4153933"), looks := false }, kinds := [], alts := [], laidByText := true, laidKinds := [.data, .pinned], laidTests := true, laidLooks := .later }
def DisruptionFirstCardSaid : Prop := Claim7.holds Tryd.pinned (.plain (OpenSpec.ofChange disruptionFirstSpec)) disruptionFirstCard

/-- THE TIED CARD OF 'admissionlaw38.DisruptionLater'. -/
def disruptionLaterCard : Claim7 := { stood := { row := disruptionLaterRow, standIns := [], harness := (true, "f24abd1e67cae2a6e52cdfa3edd8061de5c4e4f4879a5d0062cbc90ab4153933"), looks := false }, kinds := [], alts := [], laidByText := true, laidKinds := [.data, .pinned], laidTests := true, laidLooks := .later }
def DisruptionLaterCardSaid : Prop := Claim7.holds Tryd.pinned (.plain (OpenSpec.ofChange disruptionLaterSpec)) disruptionLaterCard

/-- THE TIED CARD OF 'admissionlaw38.DisruptionRoom'. -/
def disruptionRoomCard : Claim7 := { stood := { row := disruptionRoomRow, standIns := [], harness := (true, "f24abd1e67cae2a6e52cdfa3edd8061de5c4e4f4879a5d0062cbc90ab4153933"), looks := false }, kinds := [], alts := [], laidByText := true, laidKinds := [.data, .pinned], laidTests := true, laidLooks := .later }
def DisruptionRoomCardSaid : Prop := Claim7.holds Tryd.pinned (.plain (OpenSpec.ofChange disruptionRoomSpec)) disruptionRoomCard

/-- THE SECOND FORM's CARD OF 'admissionlaw37.WorkloadValid'. -/
def workloadValidUptoCard : Claim7 := { stood := { row := workloadValidUptoRow, standIns := [], harness := (true, "f24abd1e67cae2a6e52cdfa3edd8061de5c4e4f4879a5d0062cbc90ab4153933"), looks := false }, kinds := [], alts := [], laidByText := true, laidKinds := [.data, .pinned], laidTests := true, laidLooks := .later }
def WorkloadValidUptoCardSaid : Prop := Claim7.holds Tryd.pinned (.plain (OpenSpec.upto workloadValidSpec)) workloadValidUptoCard

/-- THE SECOND FORM's CARD OF 'admissionlaw37.WorkloadChanged'. -/
def workloadChangedUptoCard : Claim7 := { stood := { row := workloadChangedUptoRow, standIns := [], harness := (true, "f24abd1e67cae2a6e52cdfa3edd8061de5c4e4f4879a5d0062cbc90ab4153933"), looks := false }, kinds := [], alts := [], laidByText := true, laidKinds := [.data, .pinned], laidTests := true, laidLooks := .later }
def WorkloadChangedUptoCardSaid : Prop := Claim7.holds Tryd.pinned (.plain (OpenSpec.upto workloadChangedSpec)) workloadChangedUptoCard

/-- THE SECOND FORM's CARD OF 'admissionlaw37.WorkloadMark'. -/
def workloadMarkUptoCard : Claim7 := { stood := { row := workloadMarkUptoRow, standIns := [], harness := (true, "f24abd1e67cae2a6e52cdfa3edd8061de5c4e4f4879a5d0062cbc90ab4153933"), looks := false }, kinds := [], alts := [], laidByText := true, laidKinds := [.data, .pinned], laidTests := true, laidLooks := .later }
def WorkloadMarkUptoCardSaid : Prop := Claim7.holds Tryd.pinned (.plain (OpenSpec.upto workloadMarkSpec)) workloadMarkUptoCard

/-- THE SECOND FORM's CARD OF 'admissionlaw37.WorkloadFresh'. -/
def workloadFreshUptoCard : Claim7 := { stood := { row := workloadFreshUptoRow, standIns := [], harness := (true, "f24abd1e67cae2a6e52cdfa3edd8061de5c4e4f4879a5d0062cbc90ab4153933"), looks := false }, kinds := [], alts := [], laidByText := true, laidKinds := [.data, .pinned], laidTests := true, laidLooks := .later }
def WorkloadFreshUptoCardSaid : Prop := Claim7.holds Tryd.pinned (.plain (OpenSpec.upto workloadFreshSpec)) workloadFreshUptoCard

/-- THE SECOND FORM's CARD OF 'admissionlaw37.WorkloadCalls'. -/
def workloadCallsUptoCard : Claim7 := { stood := { row := workloadCallsUptoRow, standIns := [], harness := (true, "f24abd1e67cae2a6e52cdfa3edd8061de5c4e4f4879a5d0062cbc90ab4153933"), looks := false }, kinds := [], alts := [], laidByText := true, laidKinds := [.data, .pinned], laidTests := true, laidLooks := .later }
def WorkloadCallsUptoCardSaid : Prop := Claim7.holds Tryd.pinned (.plain (OpenSpec.upto workloadCallsSpec)) workloadCallsUptoCard

/-- THE SECOND FORM's CARD OF 'admissionlaw37.WorkloadRaw'. -/
def workloadRawUptoCard : Claim7 := { stood := { row := workloadRawUptoRow, standIns := [], harness := (true, "f24abd1e67cae2a6e52cdfa3edd8061de5c4e4f4879a5d0062cbc90ab4153933"), looks := false }, kinds := [], alts := [], laidByText := true, laidKinds := [.data, .pinned], laidTests := true, laidLooks := .later }
def WorkloadRawUptoCardSaid : Prop := Claim7.holds Tryd.pinned (.plain (OpenSpec.upto workloadRawSpec)) workloadRawUptoCard

/-- THE SECOND FORM's CARD OF 'admissionlaw38.DisruptionCounts'. -/
def disruptionCountsUptoCard : Claim7 := { stood := { row := disruptionCountsUptoRow, standIns := [], harness := (true, "f24abd1e67cae2a6e52cdfa3edd8061de5c4e4f4879a5d0062cbc90ab4153933"), looks := false }, kinds := [], alts := [], laidByText := true, laidKinds := [.data, .pinned], laidTests := true, laidLooks := .later }
def DisruptionCountsUptoCardSaid : Prop := Claim7.holds Tryd.pinned (.plain (OpenSpec.upto disruptionCountsSpec)) disruptionCountsUptoCard

/-- THE SECOND FORM's CARD OF 'admissionlaw38.DisruptionOverdue'. -/
def disruptionOverdueUptoCard : Claim7 := { stood := { row := disruptionOverdueUptoRow, standIns := [], harness := (true, "f24abd1e67cae2a6e52cdfa3edd8061de5c4e4f4879a5d0062cbc90ab4153933"), looks := false }, kinds := [], alts := [], laidByText := true, laidKinds := [.data, .pinned], laidTests := true, laidLooks := .later }
def DisruptionOverdueUptoCardSaid : Prop := Claim7.holds Tryd.pinned (.plain (OpenSpec.upto disruptionOverdueSpec)) disruptionOverdueUptoCard

/-- THE SECOND FORM's CARD OF 'admissionlaw38.DisruptionVictims'. -/
def disruptionVictimsUptoCard : Claim7 := { stood := { row := disruptionVictimsUptoRow, standIns := [], harness := (true, "f24abd1e67cae2a6e52cdfa3edd8061de5c4e4f4879a5d0062cbc90ab4153933"), looks := false }, kinds := [], alts := [], laidByText := true, laidKinds := [.data, .pinned], laidTests := true, laidLooks := .later }
def DisruptionVictimsUptoCardSaid : Prop := Claim7.holds Tryd.pinned (.plain (OpenSpec.upto disruptionVictimsSpec)) disruptionVictimsUptoCard

/-- THE SECOND FORM's CARD OF 'admissionlaw38.DisruptionFirst'. -/
def disruptionFirstUptoCard : Claim7 := { stood := { row := disruptionFirstUptoRow, standIns := [], harness := (true, "f24abd1e67cae2a6e52cdfa3edd8061de5c4e4f4879a5d0062cbc90ab4153933"), looks := false }, kinds := [], alts := [], laidByText := true, laidKinds := [.data, .pinned], laidTests := true, laidLooks := .later }
def DisruptionFirstUptoCardSaid : Prop := Claim7.holds Tryd.pinned (.plain (OpenSpec.upto disruptionFirstSpec)) disruptionFirstUptoCard

/-- THE SECOND FORM's CARD OF 'admissionlaw38.DisruptionLater'. -/
def disruptionLaterUptoCard : Claim7 := { stood := { row := disruptionLaterUptoRow, standIns := [], harness := (true, "f24abd1e67cae2a6e52cdfa3edd8061de5c4e4f4879a5d0062cbc90ab4153933"), looks := false }, kinds := [], alts := [], laidByText := true, laidKinds := [.data, .pinned], laidTests := true, laidLooks := .later }
def DisruptionLaterUptoCardSaid : Prop := Claim7.holds Tryd.pinned (.plain (OpenSpec.upto disruptionLaterSpec)) disruptionLaterUptoCard

/-- THE SECOND FORM's CARD OF 'admissionlaw38.DisruptionRoom'. -/
def disruptionRoomUptoCard : Claim7 := { stood := { row := disruptionRoomUptoRow, standIns := [], harness := (true, "f24abd1e67cae2a6e52cdfa3edd8061de5c4e4f4879a5d0062cbc90ab4153933"), looks := false }, kinds := [], alts := [], laidByText := true, laidKinds := [.data, .pinned], laidTests := true, laidLooks := .later }
def DisruptionRoomUptoCardSaid : Prop := Claim7.holds Tryd.pinned (.plain (OpenSpec.upto disruptionRoomSpec)) disruptionRoomUptoCard
end Rows
end Go.Proofs.YtjhakjeioppijaaDoor
