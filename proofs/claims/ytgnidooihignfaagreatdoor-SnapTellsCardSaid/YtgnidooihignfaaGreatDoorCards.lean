/-
  DERIVED. GIVEN WITH THE SEED: THE CARDS: each row of YtgnidooihignfaaGreatDoorRows.lean that lists a variable, with what it lists TIED to the program's text (the seventh form; the later family's looks); each row that meets fmt, with fmt's text TOLD by the authors' own Lean function (tested against real Go, not proved from fmt's source: count such statements apart). THE CARD IS WHAT COUNTS. Prove the row's statement (the work); the ties are given (YtgnidooihignfaaGreatDoorTie.lean); close each card by the builder's one call (the guide's Derived/Test/ToyasCard.lean, 'card_holds'). Laid BY PROGRAM, IN A SANDBOX (cutbox-door.mjs). By AI agents, Wed Nov 11 2026. No macro, syntax, notation, axiom, sorry.
-/
import Derived.Test.YtgnidooihignfaaGreatDoorRows
import GoSem.ClaimSeven
namespace Go.Proofs.YtgnidooihignfaaGreatDoor
namespace Rows

/-- THE TIED CARD OF 'areopaguslaw18.SnapTells'. -/
def snapTellsCard : Claim7 := { stood := { row := snapTellsRow, standIns := [], harness := (true, "0f6c58fbd34454627b03dc5aa3f72d77f520a83c0acdbe20467a7ed831b66302"), looks := false }, kinds := [], alts := [], laidByText := true, laidKinds := [.data], laidTests := true, laidLooks := .later }
def SnapTellsCardSaid : Prop := Claim7.holds Tryz.pinned (.plain (OpenSpec.ofChange snapTellsSpec)) snapTellsCard

/-- THE TIED CARD OF 'areopaguslaw18.SnapBlock'. -/
def snapBlockCard : Claim7 := { stood := { row := snapBlockRow, standIns := [], harness := (true, "0f6c58fbd34454627b03dc5aa3f72d77f520a83c0acdbe20467a7ed831b66302"), looks := false }, kinds := [], alts := [], laidByText := true, laidKinds := [.data], laidTests := true, laidLooks := .later }
def SnapBlockCardSaid : Prop := Claim7.holds Tryz.pinned (.plain (OpenSpec.ofChange snapBlockSpec)) snapBlockCard

/-- THE TIED CARD OF 'areopaguslaw18.SnapPrune'. -/
def snapPruneCard : Claim7 := { stood := { row := snapPruneRow, standIns := [], harness := (true, "0f6c58fbd34454627b03dc5aa3f72d77f520a83c0acdbe20467a7ed831b66302"), looks := false }, kinds := [], alts := [], laidByText := true, laidKinds := [.data], laidTests := true, laidLooks := .later }
def SnapPruneCardSaid : Prop := Claim7.holds Tryz.pinned (.plain (OpenSpec.ofChange snapPruneSpec)) snapPruneCard

/-- THE TIED CARD OF 'areopaguslaw17.EngineNew'. -/
def engineNewCard : Claim7 := { stood := { row := engineNewRow, standIns := [], harness := (true, "0f6c58fbd34454627b03dc5aa3f72d77f520a83c0acdbe20467a7ed831b66302"), looks := false }, kinds := [], alts := [], laidByText := true, laidKinds := [.data], laidTests := true, laidLooks := .later }
def EngineNewCardSaid : Prop := Claim7.holds Tryz.pinned (.plain (OpenSpec.ofChange engineNewSpec)) engineNewCard

/-- THE TIED CARD OF 'areopaguslaw17.EngineStays'. -/
def engineStaysCard : Claim7 := { stood := { row := engineStaysRow, standIns := [], harness := (true, "0f6c58fbd34454627b03dc5aa3f72d77f520a83c0acdbe20467a7ed831b66302"), looks := false }, kinds := [], alts := [], laidByText := true, laidKinds := [.data], laidTests := true, laidLooks := .later }
def EngineStaysCardSaid : Prop := Claim7.holds Tryz.pinned (.plain (OpenSpec.ofChange engineStaysSpec)) engineStaysCard

/-- THE TIED CARD OF 'areopaguslaw17.EngineWeighs'. -/
def engineWeighsCard : Claim7 := { stood := { row := engineWeighsRow, standIns := [], harness := (true, "0f6c58fbd34454627b03dc5aa3f72d77f520a83c0acdbe20467a7ed831b66302"), looks := false }, kinds := [], alts := [], laidByText := true, laidKinds := [.data], laidTests := true, laidLooks := .later }
def EngineWeighsCardSaid : Prop := Claim7.holds Tryz.pinned (.plain (OpenSpec.ofChange engineWeighsSpec)) engineWeighsCard

/-- THE TIED CARD OF 'areopaguslaw17.EngineLate'. -/
def engineLateCard : Claim7 := { stood := { row := engineLateRow, standIns := [], harness := (true, "0f6c58fbd34454627b03dc5aa3f72d77f520a83c0acdbe20467a7ed831b66302"), looks := false }, kinds := [], alts := [], laidByText := true, laidKinds := [.data], laidTests := true, laidLooks := .later }
def EngineLateCardSaid : Prop := Claim7.holds Tryz.pinned (.plain (OpenSpec.ofChange engineLateSpec)) engineLateCard

/-- THE TIED CARD OF 'areopaguslaw17.EngineFinal'. -/
def engineFinalCard : Claim7 := { stood := { row := engineFinalRow, standIns := [], harness := (true, "0f6c58fbd34454627b03dc5aa3f72d77f520a83c0acdbe20467a7ed831b66302"), looks := false }, kinds := [], alts := [], laidByText := true, laidKinds := [.data], laidTests := true, laidLooks := .later }
def EngineFinalCardSaid : Prop := Claim7.holds Tryz.pinned (.plain (OpenSpec.ofChange engineFinalSpec)) engineFinalCard

/-- THE TIED CARD OF 'areopaguslaw17.EngineBlock'. -/
def engineBlockCard : Claim7 := { stood := { row := engineBlockRow, standIns := [], harness := (true, "0f6c58fbd34454627b03dc5aa3f72d77f520a83c0acdbe20467a7ed831b66302"), looks := false }, kinds := [], alts := [], laidByText := true, laidKinds := [.data], laidTests := true, laidLooks := .later }
def EngineBlockCardSaid : Prop := Claim7.holds Tryz.pinned (.plain (OpenSpec.ofChange engineBlockSpec)) engineBlockCard

/-- THE TIED CARD OF 'areopaguslaw17.EnginePrune'. -/
def enginePruneCard : Claim7 := { stood := { row := enginePruneRow, standIns := [], harness := (true, "0f6c58fbd34454627b03dc5aa3f72d77f520a83c0acdbe20467a7ed831b66302"), looks := false }, kinds := [], alts := [], laidByText := true, laidKinds := [.data], laidTests := true, laidLooks := .later }
def EnginePruneCardSaid : Prop := Claim7.holds Tryz.pinned (.plain (OpenSpec.ofChange enginePruneSpec)) enginePruneCard

/-- THE SECOND FORM's CARD OF 'areopaguslaw18.SnapTells'. -/
def snapTellsUptoCard : Claim7 := { stood := { row := snapTellsUptoRow, standIns := [], harness := (true, "0f6c58fbd34454627b03dc5aa3f72d77f520a83c0acdbe20467a7ed831b66302"), looks := false }, kinds := [], alts := [], laidByText := true, laidKinds := [.data], laidTests := true, laidLooks := .later }
def SnapTellsUptoCardSaid : Prop := Claim7.holds Tryz.pinned (.plain (OpenSpec.upto snapTellsSpec)) snapTellsUptoCard

/-- THE SECOND FORM's CARD OF 'areopaguslaw18.SnapBlock'. -/
def snapBlockUptoCard : Claim7 := { stood := { row := snapBlockUptoRow, standIns := [], harness := (true, "0f6c58fbd34454627b03dc5aa3f72d77f520a83c0acdbe20467a7ed831b66302"), looks := false }, kinds := [], alts := [], laidByText := true, laidKinds := [.data], laidTests := true, laidLooks := .later }
def SnapBlockUptoCardSaid : Prop := Claim7.holds Tryz.pinned (.plain (OpenSpec.upto snapBlockSpec)) snapBlockUptoCard

/-- THE SECOND FORM's CARD OF 'areopaguslaw18.SnapPrune'. -/
def snapPruneUptoCard : Claim7 := { stood := { row := snapPruneUptoRow, standIns := [], harness := (true, "0f6c58fbd34454627b03dc5aa3f72d77f520a83c0acdbe20467a7ed831b66302"), looks := false }, kinds := [], alts := [], laidByText := true, laidKinds := [.data], laidTests := true, laidLooks := .later }
def SnapPruneUptoCardSaid : Prop := Claim7.holds Tryz.pinned (.plain (OpenSpec.upto snapPruneSpec)) snapPruneUptoCard

/-- THE SECOND FORM's CARD OF 'areopaguslaw17.EngineNew'. -/
def engineNewUptoCard : Claim7 := { stood := { row := engineNewUptoRow, standIns := [], harness := (true, "0f6c58fbd34454627b03dc5aa3f72d77f520a83c0acdbe20467a7ed831b66302"), looks := false }, kinds := [], alts := [], laidByText := true, laidKinds := [.data], laidTests := true, laidLooks := .later }
def EngineNewUptoCardSaid : Prop := Claim7.holds Tryz.pinned (.plain (OpenSpec.upto engineNewSpec)) engineNewUptoCard

/-- THE SECOND FORM's CARD OF 'areopaguslaw17.EngineStays'. -/
def engineStaysUptoCard : Claim7 := { stood := { row := engineStaysUptoRow, standIns := [], harness := (true, "0f6c58fbd34454627b03dc5aa3f72d77f520a83c0acdbe20467a7ed831b66302"), looks := false }, kinds := [], alts := [], laidByText := true, laidKinds := [.data], laidTests := true, laidLooks := .later }
def EngineStaysUptoCardSaid : Prop := Claim7.holds Tryz.pinned (.plain (OpenSpec.upto engineStaysSpec)) engineStaysUptoCard

/-- THE SECOND FORM's CARD OF 'areopaguslaw17.EngineWeighs'. -/
def engineWeighsUptoCard : Claim7 := { stood := { row := engineWeighsUptoRow, standIns := [], harness := (true, "0f6c58fbd34454627b03dc5aa3f72d77f520a83c0acdbe20467a7ed831b66302"), looks := false }, kinds := [], alts := [], laidByText := true, laidKinds := [.data], laidTests := true, laidLooks := .later }
def EngineWeighsUptoCardSaid : Prop := Claim7.holds Tryz.pinned (.plain (OpenSpec.upto engineWeighsSpec)) engineWeighsUptoCard

/-- THE SECOND FORM's CARD OF 'areopaguslaw17.EngineLate'. -/
def engineLateUptoCard : Claim7 := { stood := { row := engineLateUptoRow, standIns := [], harness := (true, "0f6c58fbd34454627b03dc5aa3f72d77f520a83c0acdbe20467a7ed831b66302"), looks := false }, kinds := [], alts := [], laidByText := true, laidKinds := [.data], laidTests := true, laidLooks := .later }
def EngineLateUptoCardSaid : Prop := Claim7.holds Tryz.pinned (.plain (OpenSpec.upto engineLateSpec)) engineLateUptoCard

/-- THE SECOND FORM's CARD OF 'areopaguslaw17.EngineFinal'. -/
def engineFinalUptoCard : Claim7 := { stood := { row := engineFinalUptoRow, standIns := [], harness := (true, "0f6c58fbd34454627b03dc5aa3f72d77f520a83c0acdbe20467a7ed831b66302"), looks := false }, kinds := [], alts := [], laidByText := true, laidKinds := [.data], laidTests := true, laidLooks := .later }
def EngineFinalUptoCardSaid : Prop := Claim7.holds Tryz.pinned (.plain (OpenSpec.upto engineFinalSpec)) engineFinalUptoCard

/-- THE SECOND FORM's CARD OF 'areopaguslaw17.EngineBlock'. -/
def engineBlockUptoCard : Claim7 := { stood := { row := engineBlockUptoRow, standIns := [], harness := (true, "0f6c58fbd34454627b03dc5aa3f72d77f520a83c0acdbe20467a7ed831b66302"), looks := false }, kinds := [], alts := [], laidByText := true, laidKinds := [.data], laidTests := true, laidLooks := .later }
def EngineBlockUptoCardSaid : Prop := Claim7.holds Tryz.pinned (.plain (OpenSpec.upto engineBlockSpec)) engineBlockUptoCard

/-- THE SECOND FORM's CARD OF 'areopaguslaw17.EnginePrune'. -/
def enginePruneUptoCard : Claim7 := { stood := { row := enginePruneUptoRow, standIns := [], harness := (true, "0f6c58fbd34454627b03dc5aa3f72d77f520a83c0acdbe20467a7ed831b66302"), looks := false }, kinds := [], alts := [], laidByText := true, laidKinds := [.data], laidTests := true, laidLooks := .later }
def EnginePruneUptoCardSaid : Prop := Claim7.holds Tryz.pinned (.plain (OpenSpec.upto enginePruneSpec)) enginePruneUptoCard
end Rows
end Go.Proofs.YtgnidooihignfaaGreatDoor
