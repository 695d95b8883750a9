/-
  DERIVED. GIVEN WITH THE SEED: THE CARDS: each row of YtekjdikofhdcpaaGreatDoorRows.lean that lists a variable, with what it lists TIED to the program's text (the seventh form; the later family's looks); each row that meets fmt, with fmt's text TOLD by the authors' own Lean function (tested against real Go, not proved from fmt's source: count such statements apart). THE CARD IS WHAT COUNTS. Prove the row's statement (the work); the ties are given (YtekjdikofhdcpaaGreatDoorTie.lean); close each card by the builder's one call (the guide's Derived/Test/ToyasCard.lean, 'card_holds'). Laid BY PROGRAM, IN A SANDBOX (cutbox-door.mjs). By AI agents, Wed Nov 11 2026. No macro, syntax, notation, axiom, sorry.
-/
import Derived.Test.YtekjdikofhdcpaaGreatDoorRows
import GoSem.ClaimSeven
namespace Go.Proofs.YtekjdikofhdcpaaGreatDoor
namespace Rows

/-- THE TIED CARD OF 'areopaguslaw21.HistTells'. -/
def histTellsCard : Claim7 := { stood := { row := histTellsRow, standIns := [], harness := (true, "75313ae37f2bf438211c16e2f0c83fd347e93202d89a6cbea126968164662503"), looks := false }, kinds := [], alts := [], laidByText := true, laidKinds := [.data], laidTests := true, laidLooks := .later }
def HistTellsCardSaid : Prop := Claim7.holds Tryz.pinned (.plain (OpenSpec.ofChange histTellsSpec)) histTellsCard

/-- THE TIED CARD OF 'areopaguslaw21.HistReal'. -/
def histRealCard : Claim7 := { stood := { row := histRealRow, standIns := [], harness := (true, "75313ae37f2bf438211c16e2f0c83fd347e93202d89a6cbea126968164662503"), looks := false }, kinds := [], alts := [], laidByText := true, laidKinds := [.data], laidTests := true, laidLooks := .later }
def HistRealCardSaid : Prop := Claim7.holds Tryz.pinned (.plain (OpenSpec.ofChange histRealSpec)) histRealCard

/-- THE TIED CARD OF 'areopaguslaw21.HistParts'. -/
def histPartsCard : Claim7 := { stood := { row := histPartsRow, standIns := [], harness := (true, "75313ae37f2bf438211c16e2f0c83fd347e93202d89a6cbea126968164662503"), looks := false }, kinds := [], alts := [], laidByText := true, laidKinds := [.data], laidTests := true, laidLooks := .later }
def HistPartsCardSaid : Prop := Claim7.holds Tryz.pinned (.plain (OpenSpec.ofChange histPartsSpec)) histPartsCard

/-- THE TIED CARD OF 'areopaguslaw21.HistAsks'. -/
def histAsksCard : Claim7 := { stood := { row := histAsksRow, standIns := [], harness := (true, "75313ae37f2bf438211c16e2f0c83fd347e93202d89a6cbea126968164662503"), looks := false }, kinds := [], alts := [], laidByText := true, laidKinds := [.data], laidTests := true, laidLooks := .later }
def HistAsksCardSaid : Prop := Claim7.holds Tryz.pinned (.plain (OpenSpec.ofChange histAsksSpec)) histAsksCard

/-- THE TIED CARD OF 'areopaguslaw21.HistNone'. -/
def histNoneCard : Claim7 := { stood := { row := histNoneRow, standIns := [], harness := (true, "75313ae37f2bf438211c16e2f0c83fd347e93202d89a6cbea126968164662503"), looks := false }, kinds := [], alts := [], laidByText := true, laidKinds := [.data], laidTests := true, laidLooks := .later }
def HistNoneCardSaid : Prop := Claim7.holds Tryz.pinned (.plain (OpenSpec.ofChange histNoneSpec)) histNoneCard

/-- THE TIED CARD OF 'areopaguslaw21.HistOne'. -/
def histOneCard : Claim7 := { stood := { row := histOneRow, standIns := [], harness := (true, "75313ae37f2bf438211c16e2f0c83fd347e93202d89a6cbea126968164662503"), looks := false }, kinds := [], alts := [], laidByText := true, laidKinds := [.data], laidTests := true, laidLooks := .later }
def HistOneCardSaid : Prop := Claim7.holds Tryz.pinned (.plain (OpenSpec.ofChange histOneSpec)) histOneCard

/-- THE SECOND FORM's CARD OF 'areopaguslaw21.HistTells'. -/
def histTellsUptoCard : Claim7 := { stood := { row := histTellsUptoRow, standIns := [], harness := (true, "75313ae37f2bf438211c16e2f0c83fd347e93202d89a6cbea126968164662503"), looks := false }, kinds := [], alts := [], laidByText := true, laidKinds := [.data], laidTests := true, laidLooks := .later }
def HistTellsUptoCardSaid : Prop := Claim7.holds Tryz.pinned (.plain (OpenSpec.upto histTellsSpec)) histTellsUptoCard

/-- THE SECOND FORM's CARD OF 'areopaguslaw21.HistReal'. -/
def histRealUptoCard : Claim7 := { stood := { row := histRealUptoRow, standIns := [], harness := (true, "75313ae37f2bf438211c16e2f0c83fd347e93202d89a6cbea126968164662503"), looks := false }, kinds := [], alts := [], laidByText := true, laidKinds := [.data], laidTests := true, laidLooks := .later }
def HistRealUptoCardSaid : Prop := Claim7.holds Tryz.pinned (.plain (OpenSpec.upto histRealSpec)) histRealUptoCard

/-- THE SECOND FORM's CARD OF 'areopaguslaw21.HistParts'. -/
def histPartsUptoCard : Claim7 := { stood := { row := histPartsUptoRow, standIns := [], harness := (true, "75313ae37f2bf438211c16e2f0c83fd347e93202d89a6cbea126968164662503"), looks := false }, kinds := [], alts := [], laidByText := true, laidKinds := [.data], laidTests := true, laidLooks := .later }
def HistPartsUptoCardSaid : Prop := Claim7.holds Tryz.pinned (.plain (OpenSpec.upto histPartsSpec)) histPartsUptoCard

/-- THE SECOND FORM's CARD OF 'areopaguslaw21.HistAsks'. -/
def histAsksUptoCard : Claim7 := { stood := { row := histAsksUptoRow, standIns := [], harness := (true, "75313ae37f2bf438211c16e2f0c83fd347e93202d89a6cbea126968164662503"), looks := false }, kinds := [], alts := [], laidByText := true, laidKinds := [.data], laidTests := true, laidLooks := .later }
def HistAsksUptoCardSaid : Prop := Claim7.holds Tryz.pinned (.plain (OpenSpec.upto histAsksSpec)) histAsksUptoCard

/-- THE SECOND FORM's CARD OF 'areopaguslaw21.HistNone'. -/
def histNoneUptoCard : Claim7 := { stood := { row := histNoneUptoRow, standIns := [], harness := (true, "75313ae37f2bf438211c16e2f0c83fd347e93202d89a6cbea126968164662503"), looks := false }, kinds := [], alts := [], laidByText := true, laidKinds := [.data], laidTests := true, laidLooks := .later }
def HistNoneUptoCardSaid : Prop := Claim7.holds Tryz.pinned (.plain (OpenSpec.upto histNoneSpec)) histNoneUptoCard

/-- THE SECOND FORM's CARD OF 'areopaguslaw21.HistOne'. -/
def histOneUptoCard : Claim7 := { stood := { row := histOneUptoRow, standIns := [], harness := (true, "75313ae37f2bf438211c16e2f0c83fd347e93202d89a6cbea126968164662503"), looks := false }, kinds := [], alts := [], laidByText := true, laidKinds := [.data], laidTests := true, laidLooks := .later }
def HistOneUptoCardSaid : Prop := Claim7.holds Tryz.pinned (.plain (OpenSpec.upto histOneSpec)) histOneUptoCard
end Rows
end Go.Proofs.YtekjdikofhdcpaaGreatDoor
