/-
  DERIVED. GIVEN WITH THE SEED: THE CARDS: each row of YtdlejnafhmpobaaDoorRows.lean that lists a variable, with what it lists TIED to the program's text (the seventh form; the later family's looks); each row that meets fmt, with fmt's text TOLD by the authors' own Lean function (tested against real Go, not proved from fmt's source: count such statements apart). THE CARD IS WHAT COUNTS. Prove the row's statement (the work); the ties are given (YtdlejnafhmpobaaDoorTie.lean); close each card by the builder's one call (the guide's Derived/Test/ToyasCard.lean, 'card_holds'). Laid BY PROGRAM, IN A SANDBOX (cutbox-door.mjs). By AI agents, Wed Nov 11 2026. No macro, syntax, notation, axiom, sorry.
-/
import Derived.Test.YtdlejnafhmpobaaDoorRows
import GoSem.ClaimSeven
namespace Go.Proofs.YtdlejnafhmpobaaDoor
namespace Rows

/-- THE TIED CARD OF 'areopaguslaw16.FinalTells'. -/
def finalTellsCard : Claim7 := { stood := { row := finalTellsRow, standIns := [], harness := (true, "0698de0faabdddb88f8bf30a1b125b4a7f83b72d35178fbca20ab35a23ec96bf"), looks := false }, kinds := [], alts := [], laidByText := true, laidKinds := [.data], laidTests := true, laidLooks := .later }
def FinalTellsCardSaid : Prop := Claim7.holds Tryd.pinned (.plain (OpenSpec.ofChange finalTellsSpec)) finalTellsCard

/-- THE TIED CARD OF 'areopaguslaw16.FinalNext'. -/
def finalNextCard : Claim7 := { stood := { row := finalNextRow, standIns := [], harness := (true, "0698de0faabdddb88f8bf30a1b125b4a7f83b72d35178fbca20ab35a23ec96bf"), looks := false }, kinds := [], alts := [], laidByText := true, laidKinds := [.data], laidTests := true, laidLooks := .later }
def FinalNextCardSaid : Prop := Claim7.holds Tryd.pinned (.plain (OpenSpec.ofChange finalNextSpec)) finalNextCard

/-- THE TIED CARD OF 'areopaguslaw16.FinalBest'. -/
def finalBestCard : Claim7 := { stood := { row := finalBestRow, standIns := [], harness := (true, "0698de0faabdddb88f8bf30a1b125b4a7f83b72d35178fbca20ab35a23ec96bf"), looks := false }, kinds := [], alts := [], laidByText := true, laidKinds := [.data], laidTests := true, laidLooks := .later }
def FinalBestCardSaid : Prop := Claim7.holds Tryd.pinned (.plain (OpenSpec.ofChange finalBestSpec)) finalBestCard

/-- THE TIED CARD OF 'areopaguslaw16.FinalNone'. -/
def finalNoneCard : Claim7 := { stood := { row := finalNoneRow, standIns := [], harness := (true, "0698de0faabdddb88f8bf30a1b125b4a7f83b72d35178fbca20ab35a23ec96bf"), looks := false }, kinds := [], alts := [], laidByText := true, laidKinds := [.data], laidTests := true, laidLooks := .later }
def FinalNoneCardSaid : Prop := Claim7.holds Tryd.pinned (.plain (OpenSpec.ofChange finalNoneSpec)) finalNoneCard

/-- THE TIED CARD OF 'areopaguslaw16.FinalChain'. -/
def finalChainCard : Claim7 := { stood := { row := finalChainRow, standIns := [], harness := (true, "0698de0faabdddb88f8bf30a1b125b4a7f83b72d35178fbca20ab35a23ec96bf"), looks := false }, kinds := [], alts := [], laidByText := true, laidKinds := [.data], laidTests := true, laidLooks := .later }
def FinalChainCardSaid : Prop := Claim7.holds Tryd.pinned (.plain (OpenSpec.ofChange finalChainSpec)) finalChainCard

/-- THE TIED CARD OF 'areopaguslaw16.FinalSafe'. -/
def finalSafeCard : Claim7 := { stood := { row := finalSafeRow, standIns := [], harness := (true, "0698de0faabdddb88f8bf30a1b125b4a7f83b72d35178fbca20ab35a23ec96bf"), looks := false }, kinds := [], alts := [], laidByText := true, laidKinds := [.data], laidTests := true, laidLooks := .later }
def FinalSafeCardSaid : Prop := Claim7.holds Tryd.pinned (.plain (OpenSpec.ofChange finalSafeSpec)) finalSafeCard

/-- THE SECOND FORM's CARD OF 'areopaguslaw16.FinalTells'. -/
def finalTellsUptoCard : Claim7 := { stood := { row := finalTellsUptoRow, standIns := [], harness := (true, "0698de0faabdddb88f8bf30a1b125b4a7f83b72d35178fbca20ab35a23ec96bf"), looks := false }, kinds := [], alts := [], laidByText := true, laidKinds := [.data], laidTests := true, laidLooks := .later }
def FinalTellsUptoCardSaid : Prop := Claim7.holds Tryd.pinned (.plain (OpenSpec.upto finalTellsSpec)) finalTellsUptoCard

/-- THE SECOND FORM's CARD OF 'areopaguslaw16.FinalNext'. -/
def finalNextUptoCard : Claim7 := { stood := { row := finalNextUptoRow, standIns := [], harness := (true, "0698de0faabdddb88f8bf30a1b125b4a7f83b72d35178fbca20ab35a23ec96bf"), looks := false }, kinds := [], alts := [], laidByText := true, laidKinds := [.data], laidTests := true, laidLooks := .later }
def FinalNextUptoCardSaid : Prop := Claim7.holds Tryd.pinned (.plain (OpenSpec.upto finalNextSpec)) finalNextUptoCard

/-- THE SECOND FORM's CARD OF 'areopaguslaw16.FinalBest'. -/
def finalBestUptoCard : Claim7 := { stood := { row := finalBestUptoRow, standIns := [], harness := (true, "0698de0faabdddb88f8bf30a1b125b4a7f83b72d35178fbca20ab35a23ec96bf"), looks := false }, kinds := [], alts := [], laidByText := true, laidKinds := [.data], laidTests := true, laidLooks := .later }
def FinalBestUptoCardSaid : Prop := Claim7.holds Tryd.pinned (.plain (OpenSpec.upto finalBestSpec)) finalBestUptoCard

/-- THE SECOND FORM's CARD OF 'areopaguslaw16.FinalNone'. -/
def finalNoneUptoCard : Claim7 := { stood := { row := finalNoneUptoRow, standIns := [], harness := (true, "0698de0faabdddb88f8bf30a1b125b4a7f83b72d35178fbca20ab35a23ec96bf"), looks := false }, kinds := [], alts := [], laidByText := true, laidKinds := [.data], laidTests := true, laidLooks := .later }
def FinalNoneUptoCardSaid : Prop := Claim7.holds Tryd.pinned (.plain (OpenSpec.upto finalNoneSpec)) finalNoneUptoCard

/-- THE SECOND FORM's CARD OF 'areopaguslaw16.FinalChain'. -/
def finalChainUptoCard : Claim7 := { stood := { row := finalChainUptoRow, standIns := [], harness := (true, "0698de0faabdddb88f8bf30a1b125b4a7f83b72d35178fbca20ab35a23ec96bf"), looks := false }, kinds := [], alts := [], laidByText := true, laidKinds := [.data], laidTests := true, laidLooks := .later }
def FinalChainUptoCardSaid : Prop := Claim7.holds Tryd.pinned (.plain (OpenSpec.upto finalChainSpec)) finalChainUptoCard

/-- THE SECOND FORM's CARD OF 'areopaguslaw16.FinalSafe'. -/
def finalSafeUptoCard : Claim7 := { stood := { row := finalSafeUptoRow, standIns := [], harness := (true, "0698de0faabdddb88f8bf30a1b125b4a7f83b72d35178fbca20ab35a23ec96bf"), looks := false }, kinds := [], alts := [], laidByText := true, laidKinds := [.data], laidTests := true, laidLooks := .later }
def FinalSafeUptoCardSaid : Prop := Claim7.holds Tryd.pinned (.plain (OpenSpec.upto finalSafeSpec)) finalSafeUptoCard
end Rows
end Go.Proofs.YtdlejnafhmpobaaDoor
