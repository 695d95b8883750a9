/-
  NARROWER THAN 'FOR EVERY INPUT', by the rows' own cells (each row's printed sentence says how): SnapTells: laid · SnapHead: laid · SnapAsk: laid · SnapSlots: laid · SnapBlock: laid · ReaderSame: laid · ReaderDone: laid · ReaderGoes: laid · ReaderOwn: laid · SnapPrune: laid · ReaderLong: laid.
  DERIVED. THE GIVEN ROWS OF THIS SEAT. 11 by the template 'for every input the law returns true; each argument reads behind the call as it read before'; 0 by the template 'total and deterministic' (their statements: YtfbfedpjahpnmaaGreatDoorTotals.lean).
  GIVEN WITH THE SEED: the statements are not yours to turn. If you find one false, say at which input.
  Laid BY PROGRAM, IN A SANDBOX (cutbox-rows.mjs): the forced cells as the released guide's own fill.sh prints them over the translation 4d7ab68f8701e6b5… (all of the seat's roots in one cut). By AI agents, Wed Nov 11 2026. No macro, syntax, notation, axiom, sorry.
-/
import Derived.Test.YtfbfedpjahpnmaaGreatDoorChecked
import GoSem.Claim
import GoSem.ClaimJoined
import GoSem.ClaimMapViews
import Derived.JoinedTies
import Derived.KernelRfl
namespace Go.Proofs.YtfbfedpjahpnmaaGreatDoor
/- THE CELL 'sum', in the pinned program and in every row, IS THE sha256 OF THE DUMP (.gsa) THAT YtfbfedpjahpnmaaGreatDoorProg.lean LOADS. Nothing in Lean hashes anything: it is a label: what it is worth is what the hold of that sum in a sandbox is worth. -/
noncomputable def Tryz.pinned : Pinned := { name := "ytfbfedpjahpnmaagreatdoor", sum := "4d7ab68f8701e6b56052f905de40a8b1e315a765564c39794884c0dca98d9b25", checked := Tryz.checked }
namespace Rows
def none {H : Type} : Left H := { results := [], args := [] }

/- WHAT THE LISTED PACKAGE-LEVEL VARIABLES READ AS WHEN THE CALL BEGINS. Each datum BY PROGRAM (the guide's laid-datum.mjs) off the statement by which the dump's own 'gosem.cut.vars' lays the variable. In a bare row this is a premise. The card (YtfbfedpjahpnmaaGreatDoorCards.lean) ties it to the program's text. -/
def laid_math_bits_deBruijn64tab {H : Type} : DataW H := .agg [.lit (.int .u8 0), .lit (.int .u8 1), .lit (.int .u8 56), .lit (.int .u8 2), .lit (.int .u8 57), .lit (.int .u8 49), .lit (.int .u8 28), .lit (.int .u8 3), .lit (.int .u8 61), .lit (.int .u8 58), .lit (.int .u8 42), .lit (.int .u8 50), .lit (.int .u8 38), .lit (.int .u8 29), .lit (.int .u8 17), .lit (.int .u8 4), .lit (.int .u8 62), .lit (.int .u8 47), .lit (.int .u8 59), .lit (.int .u8 36), .lit (.int .u8 45), .lit (.int .u8 43), .lit (.int .u8 51), .lit (.int .u8 22), .lit (.int .u8 53), .lit (.int .u8 39), .lit (.int .u8 33), .lit (.int .u8 30), .lit (.int .u8 24), .lit (.int .u8 18), .lit (.int .u8 12), .lit (.int .u8 5), .lit (.int .u8 63), .lit (.int .u8 55), .lit (.int .u8 48), .lit (.int .u8 27), .lit (.int .u8 60), .lit (.int .u8 41), .lit (.int .u8 37), .lit (.int .u8 16), .lit (.int .u8 46), .lit (.int .u8 35), .lit (.int .u8 44), .lit (.int .u8 21), .lit (.int .u8 52), .lit (.int .u8 32), .lit (.int .u8 23), .lit (.int .u8 11), .lit (.int .u8 54), .lit (.int .u8 26), .lit (.int .u8 40), .lit (.int .u8 15), .lit (.int .u8 34), .lit (.int .u8 20), .lit (.int .u8 31), .lit (.int .u8 10), .lit (.int .u8 25), .lit (.int .u8 14), .lit (.int .u8 19), .lit (.int .u8 9), .lit (.int .u8 13), .lit (.int .u8 8), .lit (.int .u8 7), .lit (.int .u8 6)]

/-- 'areopaguslaw18.SnapTells': WHATEVER THE INPUT: true; the input reads as it did. -/
def snapTellsSpec : ChangeSpec := { name := "snapTells", fn := fun _ => fun
  | [d1, d2, d3, d4, d5] => { results := [.lit (.bool true)], args := [d1, d2, d3, d4, d5] }
  | _ => none }
def snapTellsRow : OpenClaim := { program := "ytfbfedpjahpnmaagreatdoor", sum := "4d7ab68f8701e6b56052f905de40a8b1e315a765564c39794884c0dca98d9b25", func := "areopagus/areopaguslaw18.SnapTells", spec := "snapTells", inPlace := ["math/bits.Add64"], unfollowed := true, recurses := true, named := ["math/bits.deBruijn64tab"], plainKeys := false, apart := false, laid := [("math/bits.deBruijn64tab", laid_math_bits_deBruijn64tab)] }
def SnapTellsSaid : Prop := snapTellsRow.holds Tryz.pinned (OpenSpec.ofChange snapTellsSpec)

/-- ITS FALSE NEIGHBOUR: 'it returns false'. Refute it at one input. -/
def snapTellsWrong : ChangeSpec := { name := "snapTells", fn := fun _ => fun
  | [d1, d2, d3, d4, d5] => { results := [.lit (.bool false)], args := [d1, d2, d3, d4, d5] }
  | _ => none }
def SnapTellsWrongFalsely : Prop := snapTellsRow.holds Tryz.pinned (OpenSpec.ofChange snapTellsWrong)

/-- 'areopaguslaw18.SnapHead': WHATEVER THE INPUT: true; the input reads as it did. -/
def snapHeadSpec : ChangeSpec := { name := "snapHead", fn := fun _ => fun
  | [d1, d2] => { results := [.lit (.bool true)], args := [d1, d2] }
  | _ => none }
def snapHeadRow : OpenClaim := { program := "ytfbfedpjahpnmaagreatdoor", sum := "4d7ab68f8701e6b56052f905de40a8b1e315a765564c39794884c0dca98d9b25", func := "areopagus/areopaguslaw18.SnapHead", spec := "snapHead", inPlace := ["math/bits.Add64"], unfollowed := true, recurses := true, named := ["math/bits.deBruijn64tab"], plainKeys := false, apart := false, laid := [("math/bits.deBruijn64tab", laid_math_bits_deBruijn64tab)] }
def SnapHeadSaid : Prop := snapHeadRow.holds Tryz.pinned (OpenSpec.ofChange snapHeadSpec)

/-- ITS FALSE NEIGHBOUR: 'it returns false'. Refute it at one input. -/
def snapHeadWrong : ChangeSpec := { name := "snapHead", fn := fun _ => fun
  | [d1, d2] => { results := [.lit (.bool false)], args := [d1, d2] }
  | _ => none }
def SnapHeadWrongFalsely : Prop := snapHeadRow.holds Tryz.pinned (OpenSpec.ofChange snapHeadWrong)

/-- 'areopaguslaw18.SnapAsk': WHATEVER THE INPUT: true; the input reads as it did. -/
def snapAskSpec : ChangeSpec := { name := "snapAsk", fn := fun _ => fun
  | [d1, d2, d3] => { results := [.lit (.bool true)], args := [d1, d2, d3] }
  | _ => none }
def snapAskRow : OpenClaim := { program := "ytfbfedpjahpnmaagreatdoor", sum := "4d7ab68f8701e6b56052f905de40a8b1e315a765564c39794884c0dca98d9b25", func := "areopagus/areopaguslaw18.SnapAsk", spec := "snapAsk", inPlace := ["math/bits.Add64"], unfollowed := true, recurses := true, named := ["math/bits.deBruijn64tab"], plainKeys := false, apart := false, laid := [("math/bits.deBruijn64tab", laid_math_bits_deBruijn64tab)] }
def SnapAskSaid : Prop := snapAskRow.holds Tryz.pinned (OpenSpec.ofChange snapAskSpec)

/-- ITS FALSE NEIGHBOUR: 'it returns false'. Refute it at one input. -/
def snapAskWrong : ChangeSpec := { name := "snapAsk", fn := fun _ => fun
  | [d1, d2, d3] => { results := [.lit (.bool false)], args := [d1, d2, d3] }
  | _ => none }
def SnapAskWrongFalsely : Prop := snapAskRow.holds Tryz.pinned (OpenSpec.ofChange snapAskWrong)

/-- 'areopaguslaw18.SnapSlots': WHATEVER THE INPUT: true; the input reads as it did. -/
def snapSlotsSpec : ChangeSpec := { name := "snapSlots", fn := fun _ => fun
  | [d1, d2] => { results := [.lit (.bool true)], args := [d1, d2] }
  | _ => none }
def snapSlotsRow : OpenClaim := { program := "ytfbfedpjahpnmaagreatdoor", sum := "4d7ab68f8701e6b56052f905de40a8b1e315a765564c39794884c0dca98d9b25", func := "areopagus/areopaguslaw18.SnapSlots", spec := "snapSlots", inPlace := ["math/bits.Add64"], unfollowed := true, recurses := true, named := ["math/bits.deBruijn64tab"], plainKeys := false, apart := false, laid := [("math/bits.deBruijn64tab", laid_math_bits_deBruijn64tab)] }
def SnapSlotsSaid : Prop := snapSlotsRow.holds Tryz.pinned (OpenSpec.ofChange snapSlotsSpec)

/-- ITS FALSE NEIGHBOUR: 'it returns false'. Refute it at one input. -/
def snapSlotsWrong : ChangeSpec := { name := "snapSlots", fn := fun _ => fun
  | [d1, d2] => { results := [.lit (.bool false)], args := [d1, d2] }
  | _ => none }
def SnapSlotsWrongFalsely : Prop := snapSlotsRow.holds Tryz.pinned (OpenSpec.ofChange snapSlotsWrong)

/-- 'areopaguslaw18.SnapBlock': WHATEVER THE INPUT: true; the input reads as it did. -/
def snapBlockSpec : ChangeSpec := { name := "snapBlock", fn := fun _ => fun
  | [d1, d2, d3] => { results := [.lit (.bool true)], args := [d1, d2, d3] }
  | _ => none }
def snapBlockRow : OpenClaim := { program := "ytfbfedpjahpnmaagreatdoor", sum := "4d7ab68f8701e6b56052f905de40a8b1e315a765564c39794884c0dca98d9b25", func := "areopagus/areopaguslaw18.SnapBlock", spec := "snapBlock", inPlace := ["math/bits.Add64"], unfollowed := true, recurses := true, named := ["math/bits.deBruijn64tab"], plainKeys := false, apart := false, laid := [("math/bits.deBruijn64tab", laid_math_bits_deBruijn64tab)] }
def SnapBlockSaid : Prop := snapBlockRow.holds Tryz.pinned (OpenSpec.ofChange snapBlockSpec)

/-- ITS FALSE NEIGHBOUR: 'it returns false'. Refute it at one input. -/
def snapBlockWrong : ChangeSpec := { name := "snapBlock", fn := fun _ => fun
  | [d1, d2, d3] => { results := [.lit (.bool false)], args := [d1, d2, d3] }
  | _ => none }
def SnapBlockWrongFalsely : Prop := snapBlockRow.holds Tryz.pinned (OpenSpec.ofChange snapBlockWrong)

/-- 'areopaguslaw19.ReaderSame': WHATEVER THE INPUT: true; the input reads as it did. -/
def readerSameSpec : ChangeSpec := { name := "readerSame", fn := fun _ => fun
  | [d1, d2] => { results := [.lit (.bool true)], args := [d1, d2] }
  | _ => none }
def readerSameRow : OpenClaim := { program := "ytfbfedpjahpnmaagreatdoor", sum := "4d7ab68f8701e6b56052f905de40a8b1e315a765564c39794884c0dca98d9b25", func := "areopagus/areopaguslaw19.ReaderSame", spec := "readerSame", inPlace := ["math/bits.Add64"], unfollowed := true, recurses := true, named := ["math/bits.deBruijn64tab"], plainKeys := false, apart := false, laid := [("math/bits.deBruijn64tab", laid_math_bits_deBruijn64tab)] }
def ReaderSameSaid : Prop := readerSameRow.holds Tryz.pinned (OpenSpec.ofChange readerSameSpec)

/-- ITS FALSE NEIGHBOUR: 'it returns false'. Refute it at one input. -/
def readerSameWrong : ChangeSpec := { name := "readerSame", fn := fun _ => fun
  | [d1, d2] => { results := [.lit (.bool false)], args := [d1, d2] }
  | _ => none }
def ReaderSameWrongFalsely : Prop := readerSameRow.holds Tryz.pinned (OpenSpec.ofChange readerSameWrong)

/-- 'areopaguslaw19.ReaderDone': WHATEVER THE INPUT: true; the input reads as it did. -/
def readerDoneSpec : ChangeSpec := { name := "readerDone", fn := fun _ => fun
  | [d1, d2, d3] => { results := [.lit (.bool true)], args := [d1, d2, d3] }
  | _ => none }
def readerDoneRow : OpenClaim := { program := "ytfbfedpjahpnmaagreatdoor", sum := "4d7ab68f8701e6b56052f905de40a8b1e315a765564c39794884c0dca98d9b25", func := "areopagus/areopaguslaw19.ReaderDone", spec := "readerDone", inPlace := ["math/bits.Add64"], unfollowed := true, recurses := true, named := ["math/bits.deBruijn64tab"], plainKeys := false, apart := false, laid := [("math/bits.deBruijn64tab", laid_math_bits_deBruijn64tab)] }
def ReaderDoneSaid : Prop := readerDoneRow.holds Tryz.pinned (OpenSpec.ofChange readerDoneSpec)

/-- ITS FALSE NEIGHBOUR: 'it returns false'. Refute it at one input. -/
def readerDoneWrong : ChangeSpec := { name := "readerDone", fn := fun _ => fun
  | [d1, d2, d3] => { results := [.lit (.bool false)], args := [d1, d2, d3] }
  | _ => none }
def ReaderDoneWrongFalsely : Prop := readerDoneRow.holds Tryz.pinned (OpenSpec.ofChange readerDoneWrong)

/-- 'areopaguslaw19.ReaderGoes': WHATEVER THE INPUT: true; the input reads as it did. -/
def readerGoesSpec : ChangeSpec := { name := "readerGoes", fn := fun _ => fun
  | [d1, d2] => { results := [.lit (.bool true)], args := [d1, d2] }
  | _ => none }
def readerGoesRow : OpenClaim := { program := "ytfbfedpjahpnmaagreatdoor", sum := "4d7ab68f8701e6b56052f905de40a8b1e315a765564c39794884c0dca98d9b25", func := "areopagus/areopaguslaw19.ReaderGoes", spec := "readerGoes", inPlace := ["math/bits.Add64"], unfollowed := true, recurses := true, named := ["math/bits.deBruijn64tab"], plainKeys := false, apart := false, laid := [("math/bits.deBruijn64tab", laid_math_bits_deBruijn64tab)] }
def ReaderGoesSaid : Prop := readerGoesRow.holds Tryz.pinned (OpenSpec.ofChange readerGoesSpec)

/-- ITS FALSE NEIGHBOUR: 'it returns false'. Refute it at one input. -/
def readerGoesWrong : ChangeSpec := { name := "readerGoes", fn := fun _ => fun
  | [d1, d2] => { results := [.lit (.bool false)], args := [d1, d2] }
  | _ => none }
def ReaderGoesWrongFalsely : Prop := readerGoesRow.holds Tryz.pinned (OpenSpec.ofChange readerGoesWrong)

/-- 'areopaguslaw19.ReaderOwn': WHATEVER THE INPUT: true; the input reads as it did. -/
def readerOwnSpec : ChangeSpec := { name := "readerOwn", fn := fun _ => fun
  | [d1, d2, d3] => { results := [.lit (.bool true)], args := [d1, d2, d3] }
  | _ => none }
def readerOwnRow : OpenClaim := { program := "ytfbfedpjahpnmaagreatdoor", sum := "4d7ab68f8701e6b56052f905de40a8b1e315a765564c39794884c0dca98d9b25", func := "areopagus/areopaguslaw19.ReaderOwn", spec := "readerOwn", inPlace := ["math/bits.Add64"], unfollowed := true, recurses := true, named := ["math/bits.deBruijn64tab"], plainKeys := false, apart := false, laid := [("math/bits.deBruijn64tab", laid_math_bits_deBruijn64tab)] }
def ReaderOwnSaid : Prop := readerOwnRow.holds Tryz.pinned (OpenSpec.ofChange readerOwnSpec)

/-- ITS FALSE NEIGHBOUR: 'it returns false'. Refute it at one input. -/
def readerOwnWrong : ChangeSpec := { name := "readerOwn", fn := fun _ => fun
  | [d1, d2, d3] => { results := [.lit (.bool false)], args := [d1, d2, d3] }
  | _ => none }
def ReaderOwnWrongFalsely : Prop := readerOwnRow.holds Tryz.pinned (OpenSpec.ofChange readerOwnWrong)

/-- 'areopaguslaw18.SnapPrune': WHATEVER THE INPUT: true; the input reads as it did. -/
def snapPruneSpec : ChangeSpec := { name := "snapPrune", fn := fun _ => fun
  | [d1, d2] => { results := [.lit (.bool true)], args := [d1, d2] }
  | _ => none }
def snapPruneRow : OpenClaim := { program := "ytfbfedpjahpnmaagreatdoor", sum := "4d7ab68f8701e6b56052f905de40a8b1e315a765564c39794884c0dca98d9b25", func := "areopagus/areopaguslaw18.SnapPrune", spec := "snapPrune", inPlace := ["math/bits.Add64"], unfollowed := true, recurses := true, named := ["math/bits.deBruijn64tab"], plainKeys := false, apart := false, laid := [("math/bits.deBruijn64tab", laid_math_bits_deBruijn64tab)] }
def SnapPruneSaid : Prop := snapPruneRow.holds Tryz.pinned (OpenSpec.ofChange snapPruneSpec)

/-- ITS FALSE NEIGHBOUR: 'it returns false'. Refute it at one input. -/
def snapPruneWrong : ChangeSpec := { name := "snapPrune", fn := fun _ => fun
  | [d1, d2] => { results := [.lit (.bool false)], args := [d1, d2] }
  | _ => none }
def SnapPruneWrongFalsely : Prop := snapPruneRow.holds Tryz.pinned (OpenSpec.ofChange snapPruneWrong)

/-- 'areopaguslaw19.ReaderLong': WHATEVER THE INPUT: true; the input reads as it did. -/
def readerLongSpec : ChangeSpec := { name := "readerLong", fn := fun _ => fun
  | [d1, d2] => { results := [.lit (.bool true)], args := [d1, d2] }
  | _ => none }
def readerLongRow : OpenClaim := { program := "ytfbfedpjahpnmaagreatdoor", sum := "4d7ab68f8701e6b56052f905de40a8b1e315a765564c39794884c0dca98d9b25", func := "areopagus/areopaguslaw19.ReaderLong", spec := "readerLong", inPlace := ["math/bits.Add64"], unfollowed := true, recurses := true, named := ["math/bits.deBruijn64tab"], plainKeys := false, apart := false, laid := [("math/bits.deBruijn64tab", laid_math_bits_deBruijn64tab)] }
def ReaderLongSaid : Prop := readerLongRow.holds Tryz.pinned (OpenSpec.ofChange readerLongSpec)

/-- ITS FALSE NEIGHBOUR: 'it returns false'. Refute it at one input. -/
def readerLongWrong : ChangeSpec := { name := "readerLong", fn := fun _ => fun
  | [d1, d2] => { results := [.lit (.bool false)], args := [d1, d2] }
  | _ => none }
def ReaderLongWrongFalsely : Prop := readerLongRow.holds Tryz.pinned (OpenSpec.ofChange readerLongWrong)

/- THE SECOND FORM. 'bulk': how many values and letters a reading holds, each counted each time it is reached (what is shared counts as often as it is met; a slice's spare places count too). A statement '..UptoSaid' is the law's where the arguments, and the package variables that the reading takes, are together of bulk at most 1048576: NARROWER than '..Said'. Prove '..Said' where nothing that the law and all that it calls make is longer than what came in: it says more and counts as full. Else prove '..UptoSaid'. A law counts once. -/
mutual
def uptoBulk {H : Type} : DataW H → Nat
  | .lit (.string bytes) => bytes.length + 1
  | .lit _ => 1
  | .nil => 1
  | .ptr d => uptoBulk d + 1
  | .slice elems spare => uptoBulkAll elems + uptoBulkAll spare + 1
  | .agg parts => uptoBulkAll parts + 1
  | .iface _ d => uptoBulk d + 1
  | .map entries => uptoBulkEntries entries + 1
  | .held _ => 1
def uptoBulkAll {H : Type} : List (DataW H) → Nat
  | [] => 0
  | d :: r => uptoBulk d + uptoBulkAll r
def uptoBulkEntries {H : Type} : List (Lit × DataW H) → Nat
  | [] => 0
  | x :: r => uptoBulkEntry x + uptoBulkEntries r
def uptoBulkEntry {H : Type} : Lit × DataW H → Nat
  | (.string bytes, d) => bytes.length + uptoBulk d + 1
  | (_, d) => uptoBulk d + 1
 end
def uptoSmall : (H : Type) → List (DataW H) → Bool := fun _ ds => decide (uptoBulkAll ds ≤ 1048576)
def OpenSpec.upto (s : _root_.Go.ChangeSpec) : _root_.Go.OpenSpec := { _root_.Go.OpenSpec.ofChange s with cond := some uptoSmall }

/-- 'areopaguslaw18.SnapTells', WHERE WHAT IT READS IS OF BULK AT MOST 1048576: true; the input reads as it did. -/
def snapTellsUptoRow : OpenClaim := { program := "ytfbfedpjahpnmaagreatdoor", sum := "4d7ab68f8701e6b56052f905de40a8b1e315a765564c39794884c0dca98d9b25", func := "areopagus/areopaguslaw18.SnapTells", spec := "snapTells", inPlace := ["math/bits.Add64"], unfollowed := true, recurses := true, named := ["math/bits.deBruijn64tab"], plainKeys := false, apart := false, laid := [("math/bits.deBruijn64tab", laid_math_bits_deBruijn64tab)], narrowed := true }
def SnapTellsUptoSaid : Prop := snapTellsUptoRow.holds Tryz.pinned (OpenSpec.upto snapTellsSpec)

/-- 'areopaguslaw18.SnapHead', WHERE WHAT IT READS IS OF BULK AT MOST 1048576: true; the input reads as it did. -/
def snapHeadUptoRow : OpenClaim := { program := "ytfbfedpjahpnmaagreatdoor", sum := "4d7ab68f8701e6b56052f905de40a8b1e315a765564c39794884c0dca98d9b25", func := "areopagus/areopaguslaw18.SnapHead", spec := "snapHead", inPlace := ["math/bits.Add64"], unfollowed := true, recurses := true, named := ["math/bits.deBruijn64tab"], plainKeys := false, apart := false, laid := [("math/bits.deBruijn64tab", laid_math_bits_deBruijn64tab)], narrowed := true }
def SnapHeadUptoSaid : Prop := snapHeadUptoRow.holds Tryz.pinned (OpenSpec.upto snapHeadSpec)

/-- 'areopaguslaw18.SnapAsk', WHERE WHAT IT READS IS OF BULK AT MOST 1048576: true; the input reads as it did. -/
def snapAskUptoRow : OpenClaim := { program := "ytfbfedpjahpnmaagreatdoor", sum := "4d7ab68f8701e6b56052f905de40a8b1e315a765564c39794884c0dca98d9b25", func := "areopagus/areopaguslaw18.SnapAsk", spec := "snapAsk", inPlace := ["math/bits.Add64"], unfollowed := true, recurses := true, named := ["math/bits.deBruijn64tab"], plainKeys := false, apart := false, laid := [("math/bits.deBruijn64tab", laid_math_bits_deBruijn64tab)], narrowed := true }
def SnapAskUptoSaid : Prop := snapAskUptoRow.holds Tryz.pinned (OpenSpec.upto snapAskSpec)

/-- 'areopaguslaw18.SnapSlots', WHERE WHAT IT READS IS OF BULK AT MOST 1048576: true; the input reads as it did. -/
def snapSlotsUptoRow : OpenClaim := { program := "ytfbfedpjahpnmaagreatdoor", sum := "4d7ab68f8701e6b56052f905de40a8b1e315a765564c39794884c0dca98d9b25", func := "areopagus/areopaguslaw18.SnapSlots", spec := "snapSlots", inPlace := ["math/bits.Add64"], unfollowed := true, recurses := true, named := ["math/bits.deBruijn64tab"], plainKeys := false, apart := false, laid := [("math/bits.deBruijn64tab", laid_math_bits_deBruijn64tab)], narrowed := true }
def SnapSlotsUptoSaid : Prop := snapSlotsUptoRow.holds Tryz.pinned (OpenSpec.upto snapSlotsSpec)

/-- 'areopaguslaw18.SnapBlock', WHERE WHAT IT READS IS OF BULK AT MOST 1048576: true; the input reads as it did. -/
def snapBlockUptoRow : OpenClaim := { program := "ytfbfedpjahpnmaagreatdoor", sum := "4d7ab68f8701e6b56052f905de40a8b1e315a765564c39794884c0dca98d9b25", func := "areopagus/areopaguslaw18.SnapBlock", spec := "snapBlock", inPlace := ["math/bits.Add64"], unfollowed := true, recurses := true, named := ["math/bits.deBruijn64tab"], plainKeys := false, apart := false, laid := [("math/bits.deBruijn64tab", laid_math_bits_deBruijn64tab)], narrowed := true }
def SnapBlockUptoSaid : Prop := snapBlockUptoRow.holds Tryz.pinned (OpenSpec.upto snapBlockSpec)

/-- 'areopaguslaw19.ReaderSame', WHERE WHAT IT READS IS OF BULK AT MOST 1048576: true; the input reads as it did. -/
def readerSameUptoRow : OpenClaim := { program := "ytfbfedpjahpnmaagreatdoor", sum := "4d7ab68f8701e6b56052f905de40a8b1e315a765564c39794884c0dca98d9b25", func := "areopagus/areopaguslaw19.ReaderSame", spec := "readerSame", inPlace := ["math/bits.Add64"], unfollowed := true, recurses := true, named := ["math/bits.deBruijn64tab"], plainKeys := false, apart := false, laid := [("math/bits.deBruijn64tab", laid_math_bits_deBruijn64tab)], narrowed := true }
def ReaderSameUptoSaid : Prop := readerSameUptoRow.holds Tryz.pinned (OpenSpec.upto readerSameSpec)

/-- 'areopaguslaw19.ReaderDone', WHERE WHAT IT READS IS OF BULK AT MOST 1048576: true; the input reads as it did. -/
def readerDoneUptoRow : OpenClaim := { program := "ytfbfedpjahpnmaagreatdoor", sum := "4d7ab68f8701e6b56052f905de40a8b1e315a765564c39794884c0dca98d9b25", func := "areopagus/areopaguslaw19.ReaderDone", spec := "readerDone", inPlace := ["math/bits.Add64"], unfollowed := true, recurses := true, named := ["math/bits.deBruijn64tab"], plainKeys := false, apart := false, laid := [("math/bits.deBruijn64tab", laid_math_bits_deBruijn64tab)], narrowed := true }
def ReaderDoneUptoSaid : Prop := readerDoneUptoRow.holds Tryz.pinned (OpenSpec.upto readerDoneSpec)

/-- 'areopaguslaw19.ReaderGoes', WHERE WHAT IT READS IS OF BULK AT MOST 1048576: true; the input reads as it did. -/
def readerGoesUptoRow : OpenClaim := { program := "ytfbfedpjahpnmaagreatdoor", sum := "4d7ab68f8701e6b56052f905de40a8b1e315a765564c39794884c0dca98d9b25", func := "areopagus/areopaguslaw19.ReaderGoes", spec := "readerGoes", inPlace := ["math/bits.Add64"], unfollowed := true, recurses := true, named := ["math/bits.deBruijn64tab"], plainKeys := false, apart := false, laid := [("math/bits.deBruijn64tab", laid_math_bits_deBruijn64tab)], narrowed := true }
def ReaderGoesUptoSaid : Prop := readerGoesUptoRow.holds Tryz.pinned (OpenSpec.upto readerGoesSpec)

/-- 'areopaguslaw19.ReaderOwn', WHERE WHAT IT READS IS OF BULK AT MOST 1048576: true; the input reads as it did. -/
def readerOwnUptoRow : OpenClaim := { program := "ytfbfedpjahpnmaagreatdoor", sum := "4d7ab68f8701e6b56052f905de40a8b1e315a765564c39794884c0dca98d9b25", func := "areopagus/areopaguslaw19.ReaderOwn", spec := "readerOwn", inPlace := ["math/bits.Add64"], unfollowed := true, recurses := true, named := ["math/bits.deBruijn64tab"], plainKeys := false, apart := false, laid := [("math/bits.deBruijn64tab", laid_math_bits_deBruijn64tab)], narrowed := true }
def ReaderOwnUptoSaid : Prop := readerOwnUptoRow.holds Tryz.pinned (OpenSpec.upto readerOwnSpec)

/-- 'areopaguslaw18.SnapPrune', WHERE WHAT IT READS IS OF BULK AT MOST 1048576: true; the input reads as it did. -/
def snapPruneUptoRow : OpenClaim := { program := "ytfbfedpjahpnmaagreatdoor", sum := "4d7ab68f8701e6b56052f905de40a8b1e315a765564c39794884c0dca98d9b25", func := "areopagus/areopaguslaw18.SnapPrune", spec := "snapPrune", inPlace := ["math/bits.Add64"], unfollowed := true, recurses := true, named := ["math/bits.deBruijn64tab"], plainKeys := false, apart := false, laid := [("math/bits.deBruijn64tab", laid_math_bits_deBruijn64tab)], narrowed := true }
def SnapPruneUptoSaid : Prop := snapPruneUptoRow.holds Tryz.pinned (OpenSpec.upto snapPruneSpec)

/-- 'areopaguslaw19.ReaderLong', WHERE WHAT IT READS IS OF BULK AT MOST 1048576: true; the input reads as it did. -/
def readerLongUptoRow : OpenClaim := { program := "ytfbfedpjahpnmaagreatdoor", sum := "4d7ab68f8701e6b56052f905de40a8b1e315a765564c39794884c0dca98d9b25", func := "areopagus/areopaguslaw19.ReaderLong", spec := "readerLong", inPlace := ["math/bits.Add64"], unfollowed := true, recurses := true, named := ["math/bits.deBruijn64tab"], plainKeys := false, apart := false, laid := [("math/bits.deBruijn64tab", laid_math_bits_deBruijn64tab)], narrowed := true }
def ReaderLongUptoSaid : Prop := readerLongUptoRow.holds Tryz.pinned (OpenSpec.upto readerLongSpec)

end Rows
end Go.Proofs.YtfbfedpjahpnmaaGreatDoor
