/-
  DERIVED. GIVEN WITH THE SEED: THE CARDS: each row of YtfbfedpjahpnmaaGreatDoorRows.lean that lists a variable, with what it lists TIED to the program's text (the seventh form; the later family's looks); each row that meets fmt, with fmt's text TOLD by the authors' own Lean function (tested against real Go, not proved from fmt's source: count such statements apart). THE CARD IS WHAT COUNTS. Prove the row's statement (the work); the ties are given (YtfbfedpjahpnmaaGreatDoorTie.lean); close each card by the builder's one call (the guide's Derived/Test/ToyasCard.lean, 'card_holds'). Laid BY PROGRAM, IN A SANDBOX (cutbox-door.mjs). By AI agents, Wed Nov 11 2026. No macro, syntax, notation, axiom, sorry.
-/
import Derived.Test.YtfbfedpjahpnmaaGreatDoorRows
import GoSem.ClaimSeven
namespace Go.Proofs.YtfbfedpjahpnmaaGreatDoor
namespace Rows

/-- THE TIED CARD OF 'areopaguslaw18.SnapTells'. -/
def snapTellsCard : Claim7 := { stood := { row := snapTellsRow, standIns := [], harness := (true, "338194bf78525d87480f179ab1755ac51e8cfc08f94328954fc3b55a16a13a55"), looks := false }, kinds := [], alts := [], laidByText := true, laidKinds := [.data], laidTests := true, laidLooks := .later }
def SnapTellsCardSaid : Prop := Claim7.holds Tryz.pinned (.plain (OpenSpec.ofChange snapTellsSpec)) snapTellsCard

/-- THE TIED CARD OF 'areopaguslaw18.SnapHead'. -/
def snapHeadCard : Claim7 := { stood := { row := snapHeadRow, standIns := [], harness := (true, "338194bf78525d87480f179ab1755ac51e8cfc08f94328954fc3b55a16a13a55"), looks := false }, kinds := [], alts := [], laidByText := true, laidKinds := [.data], laidTests := true, laidLooks := .later }
def SnapHeadCardSaid : Prop := Claim7.holds Tryz.pinned (.plain (OpenSpec.ofChange snapHeadSpec)) snapHeadCard

/-- THE TIED CARD OF 'areopaguslaw18.SnapAsk'. -/
def snapAskCard : Claim7 := { stood := { row := snapAskRow, standIns := [], harness := (true, "338194bf78525d87480f179ab1755ac51e8cfc08f94328954fc3b55a16a13a55"), looks := false }, kinds := [], alts := [], laidByText := true, laidKinds := [.data], laidTests := true, laidLooks := .later }
def SnapAskCardSaid : Prop := Claim7.holds Tryz.pinned (.plain (OpenSpec.ofChange snapAskSpec)) snapAskCard

/-- THE TIED CARD OF 'areopaguslaw18.SnapSlots'. -/
def snapSlotsCard : Claim7 := { stood := { row := snapSlotsRow, standIns := [], harness := (true, "338194bf78525d87480f179ab1755ac51e8cfc08f94328954fc3b55a16a13a55"), looks := false }, kinds := [], alts := [], laidByText := true, laidKinds := [.data], laidTests := true, laidLooks := .later }
def SnapSlotsCardSaid : Prop := Claim7.holds Tryz.pinned (.plain (OpenSpec.ofChange snapSlotsSpec)) snapSlotsCard

/-- THE TIED CARD OF 'areopaguslaw18.SnapBlock'. -/
def snapBlockCard : Claim7 := { stood := { row := snapBlockRow, standIns := [], harness := (true, "338194bf78525d87480f179ab1755ac51e8cfc08f94328954fc3b55a16a13a55"), looks := false }, kinds := [], alts := [], laidByText := true, laidKinds := [.data], laidTests := true, laidLooks := .later }
def SnapBlockCardSaid : Prop := Claim7.holds Tryz.pinned (.plain (OpenSpec.ofChange snapBlockSpec)) snapBlockCard

/-- THE TIED CARD OF 'areopaguslaw19.ReaderSame'. -/
def readerSameCard : Claim7 := { stood := { row := readerSameRow, standIns := [], harness := (true, "338194bf78525d87480f179ab1755ac51e8cfc08f94328954fc3b55a16a13a55"), looks := false }, kinds := [], alts := [], laidByText := true, laidKinds := [.data], laidTests := true, laidLooks := .later }
def ReaderSameCardSaid : Prop := Claim7.holds Tryz.pinned (.plain (OpenSpec.ofChange readerSameSpec)) readerSameCard

/-- THE TIED CARD OF 'areopaguslaw19.ReaderDone'. -/
def readerDoneCard : Claim7 := { stood := { row := readerDoneRow, standIns := [], harness := (true, "338194bf78525d87480f179ab1755ac51e8cfc08f94328954fc3b55a16a13a55"), looks := false }, kinds := [], alts := [], laidByText := true, laidKinds := [.data], laidTests := true, laidLooks := .later }
def ReaderDoneCardSaid : Prop := Claim7.holds Tryz.pinned (.plain (OpenSpec.ofChange readerDoneSpec)) readerDoneCard

/-- THE TIED CARD OF 'areopaguslaw19.ReaderGoes'. -/
def readerGoesCard : Claim7 := { stood := { row := readerGoesRow, standIns := [], harness := (true, "338194bf78525d87480f179ab1755ac51e8cfc08f94328954fc3b55a16a13a55"), looks := false }, kinds := [], alts := [], laidByText := true, laidKinds := [.data], laidTests := true, laidLooks := .later }
def ReaderGoesCardSaid : Prop := Claim7.holds Tryz.pinned (.plain (OpenSpec.ofChange readerGoesSpec)) readerGoesCard

/-- THE TIED CARD OF 'areopaguslaw19.ReaderOwn'. -/
def readerOwnCard : Claim7 := { stood := { row := readerOwnRow, standIns := [], harness := (true, "338194bf78525d87480f179ab1755ac51e8cfc08f94328954fc3b55a16a13a55"), looks := false }, kinds := [], alts := [], laidByText := true, laidKinds := [.data], laidTests := true, laidLooks := .later }
def ReaderOwnCardSaid : Prop := Claim7.holds Tryz.pinned (.plain (OpenSpec.ofChange readerOwnSpec)) readerOwnCard

/-- THE TIED CARD OF 'areopaguslaw18.SnapPrune'. -/
def snapPruneCard : Claim7 := { stood := { row := snapPruneRow, standIns := [], harness := (true, "338194bf78525d87480f179ab1755ac51e8cfc08f94328954fc3b55a16a13a55"), looks := false }, kinds := [], alts := [], laidByText := true, laidKinds := [.data], laidTests := true, laidLooks := .later }
def SnapPruneCardSaid : Prop := Claim7.holds Tryz.pinned (.plain (OpenSpec.ofChange snapPruneSpec)) snapPruneCard

/-- THE TIED CARD OF 'areopaguslaw19.ReaderLong'. -/
def readerLongCard : Claim7 := { stood := { row := readerLongRow, standIns := [], harness := (true, "338194bf78525d87480f179ab1755ac51e8cfc08f94328954fc3b55a16a13a55"), looks := false }, kinds := [], alts := [], laidByText := true, laidKinds := [.data], laidTests := true, laidLooks := .later }
def ReaderLongCardSaid : Prop := Claim7.holds Tryz.pinned (.plain (OpenSpec.ofChange readerLongSpec)) readerLongCard

/-- THE SECOND FORM's CARD OF 'areopaguslaw18.SnapTells'. -/
def snapTellsUptoCard : Claim7 := { stood := { row := snapTellsUptoRow, standIns := [], harness := (true, "338194bf78525d87480f179ab1755ac51e8cfc08f94328954fc3b55a16a13a55"), looks := false }, kinds := [], alts := [], laidByText := true, laidKinds := [.data], laidTests := true, laidLooks := .later }
def SnapTellsUptoCardSaid : Prop := Claim7.holds Tryz.pinned (.plain (OpenSpec.upto snapTellsSpec)) snapTellsUptoCard

/-- THE SECOND FORM's CARD OF 'areopaguslaw18.SnapHead'. -/
def snapHeadUptoCard : Claim7 := { stood := { row := snapHeadUptoRow, standIns := [], harness := (true, "338194bf78525d87480f179ab1755ac51e8cfc08f94328954fc3b55a16a13a55"), looks := false }, kinds := [], alts := [], laidByText := true, laidKinds := [.data], laidTests := true, laidLooks := .later }
def SnapHeadUptoCardSaid : Prop := Claim7.holds Tryz.pinned (.plain (OpenSpec.upto snapHeadSpec)) snapHeadUptoCard

/-- THE SECOND FORM's CARD OF 'areopaguslaw18.SnapAsk'. -/
def snapAskUptoCard : Claim7 := { stood := { row := snapAskUptoRow, standIns := [], harness := (true, "338194bf78525d87480f179ab1755ac51e8cfc08f94328954fc3b55a16a13a55"), looks := false }, kinds := [], alts := [], laidByText := true, laidKinds := [.data], laidTests := true, laidLooks := .later }
def SnapAskUptoCardSaid : Prop := Claim7.holds Tryz.pinned (.plain (OpenSpec.upto snapAskSpec)) snapAskUptoCard

/-- THE SECOND FORM's CARD OF 'areopaguslaw18.SnapSlots'. -/
def snapSlotsUptoCard : Claim7 := { stood := { row := snapSlotsUptoRow, standIns := [], harness := (true, "338194bf78525d87480f179ab1755ac51e8cfc08f94328954fc3b55a16a13a55"), looks := false }, kinds := [], alts := [], laidByText := true, laidKinds := [.data], laidTests := true, laidLooks := .later }
def SnapSlotsUptoCardSaid : Prop := Claim7.holds Tryz.pinned (.plain (OpenSpec.upto snapSlotsSpec)) snapSlotsUptoCard

/-- THE SECOND FORM's CARD OF 'areopaguslaw18.SnapBlock'. -/
def snapBlockUptoCard : Claim7 := { stood := { row := snapBlockUptoRow, standIns := [], harness := (true, "338194bf78525d87480f179ab1755ac51e8cfc08f94328954fc3b55a16a13a55"), looks := false }, kinds := [], alts := [], laidByText := true, laidKinds := [.data], laidTests := true, laidLooks := .later }
def SnapBlockUptoCardSaid : Prop := Claim7.holds Tryz.pinned (.plain (OpenSpec.upto snapBlockSpec)) snapBlockUptoCard

/-- THE SECOND FORM's CARD OF 'areopaguslaw19.ReaderSame'. -/
def readerSameUptoCard : Claim7 := { stood := { row := readerSameUptoRow, standIns := [], harness := (true, "338194bf78525d87480f179ab1755ac51e8cfc08f94328954fc3b55a16a13a55"), looks := false }, kinds := [], alts := [], laidByText := true, laidKinds := [.data], laidTests := true, laidLooks := .later }
def ReaderSameUptoCardSaid : Prop := Claim7.holds Tryz.pinned (.plain (OpenSpec.upto readerSameSpec)) readerSameUptoCard

/-- THE SECOND FORM's CARD OF 'areopaguslaw19.ReaderDone'. -/
def readerDoneUptoCard : Claim7 := { stood := { row := readerDoneUptoRow, standIns := [], harness := (true, "338194bf78525d87480f179ab1755ac51e8cfc08f94328954fc3b55a16a13a55"), looks := false }, kinds := [], alts := [], laidByText := true, laidKinds := [.data], laidTests := true, laidLooks := .later }
def ReaderDoneUptoCardSaid : Prop := Claim7.holds Tryz.pinned (.plain (OpenSpec.upto readerDoneSpec)) readerDoneUptoCard

/-- THE SECOND FORM's CARD OF 'areopaguslaw19.ReaderGoes'. -/
def readerGoesUptoCard : Claim7 := { stood := { row := readerGoesUptoRow, standIns := [], harness := (true, "338194bf78525d87480f179ab1755ac51e8cfc08f94328954fc3b55a16a13a55"), looks := false }, kinds := [], alts := [], laidByText := true, laidKinds := [.data], laidTests := true, laidLooks := .later }
def ReaderGoesUptoCardSaid : Prop := Claim7.holds Tryz.pinned (.plain (OpenSpec.upto readerGoesSpec)) readerGoesUptoCard

/-- THE SECOND FORM's CARD OF 'areopaguslaw19.ReaderOwn'. -/
def readerOwnUptoCard : Claim7 := { stood := { row := readerOwnUptoRow, standIns := [], harness := (true, "338194bf78525d87480f179ab1755ac51e8cfc08f94328954fc3b55a16a13a55"), looks := false }, kinds := [], alts := [], laidByText := true, laidKinds := [.data], laidTests := true, laidLooks := .later }
def ReaderOwnUptoCardSaid : Prop := Claim7.holds Tryz.pinned (.plain (OpenSpec.upto readerOwnSpec)) readerOwnUptoCard

/-- THE SECOND FORM's CARD OF 'areopaguslaw18.SnapPrune'. -/
def snapPruneUptoCard : Claim7 := { stood := { row := snapPruneUptoRow, standIns := [], harness := (true, "338194bf78525d87480f179ab1755ac51e8cfc08f94328954fc3b55a16a13a55"), looks := false }, kinds := [], alts := [], laidByText := true, laidKinds := [.data], laidTests := true, laidLooks := .later }
def SnapPruneUptoCardSaid : Prop := Claim7.holds Tryz.pinned (.plain (OpenSpec.upto snapPruneSpec)) snapPruneUptoCard

/-- THE SECOND FORM's CARD OF 'areopaguslaw19.ReaderLong'. -/
def readerLongUptoCard : Claim7 := { stood := { row := readerLongUptoRow, standIns := [], harness := (true, "338194bf78525d87480f179ab1755ac51e8cfc08f94328954fc3b55a16a13a55"), looks := false }, kinds := [], alts := [], laidByText := true, laidKinds := [.data], laidTests := true, laidLooks := .later }
def ReaderLongUptoCardSaid : Prop := Claim7.holds Tryz.pinned (.plain (OpenSpec.upto readerLongSpec)) readerLongUptoCard
end Rows
end Go.Proofs.YtfbfedpjahpnmaaGreatDoor
