/-
  NARROWER THAN 'FOR EVERY INPUT', by the rows' own cells (each row's printed sentence says how): SnapTells: laid · SnapBlock: laid · SnapPrune: laid · EngineNew: laid · EngineStays: laid · EngineWeighs: laid · EngineLate: laid · EngineFinal: laid · EngineBlock: laid · EnginePrune: laid.
  DERIVED. THE GIVEN ROWS OF THIS SEAT. 10 by the template 'for every input the law returns true; each argument reads behind the call as it read before'; 0 by the template 'total and deterministic' (their statements: YtgnidooihignfaaGreatDoorTotals.lean).
  GIVEN WITH THE SEED: the statements are not yours to turn. If you find one false, say at which input.
  Laid BY PROGRAM, IN A SANDBOX (cutbox-rows.mjs): the forced cells as the released guide's own fill.sh prints them over the translation 7b644b49255cc362… (all of the seat's roots in one cut). By AI agents, Wed Nov 11 2026. No macro, syntax, notation, axiom, sorry.
-/
import Derived.Test.YtgnidooihignfaaGreatDoorChecked
import GoSem.Claim
import GoSem.ClaimJoined
import GoSem.ClaimMapViews
import Derived.JoinedTies
import Derived.KernelRfl
namespace Go.Proofs.YtgnidooihignfaaGreatDoor
/- THE CELL 'sum', in the pinned program and in every row, IS THE sha256 OF THE DUMP (.gsa) THAT YtgnidooihignfaaGreatDoorProg.lean LOADS. Nothing in Lean hashes anything: it is a label: what it is worth is what the hold of that sum in a sandbox is worth. -/
noncomputable def Tryz.pinned : Pinned := { name := "ytgnidooihignfaagreatdoor", sum := "7b644b49255cc362c766ee583924f8afcfa84e86677f1d63cbc638f66192ebb9", checked := Tryz.checked }
namespace Rows
def none {H : Type} : Left H := { results := [], args := [] }

/- WHAT THE LISTED PACKAGE-LEVEL VARIABLES READ AS WHEN THE CALL BEGINS. Each datum BY PROGRAM (the guide's laid-datum.mjs) off the statement by which the dump's own 'gosem.cut.vars' lays the variable. In a bare row this is a premise. The card (YtgnidooihignfaaGreatDoorCards.lean) ties it to the program's text. -/
def laid_math_bits_deBruijn64tab {H : Type} : DataW H := .agg [.lit (.int .u8 0), .lit (.int .u8 1), .lit (.int .u8 56), .lit (.int .u8 2), .lit (.int .u8 57), .lit (.int .u8 49), .lit (.int .u8 28), .lit (.int .u8 3), .lit (.int .u8 61), .lit (.int .u8 58), .lit (.int .u8 42), .lit (.int .u8 50), .lit (.int .u8 38), .lit (.int .u8 29), .lit (.int .u8 17), .lit (.int .u8 4), .lit (.int .u8 62), .lit (.int .u8 47), .lit (.int .u8 59), .lit (.int .u8 36), .lit (.int .u8 45), .lit (.int .u8 43), .lit (.int .u8 51), .lit (.int .u8 22), .lit (.int .u8 53), .lit (.int .u8 39), .lit (.int .u8 33), .lit (.int .u8 30), .lit (.int .u8 24), .lit (.int .u8 18), .lit (.int .u8 12), .lit (.int .u8 5), .lit (.int .u8 63), .lit (.int .u8 55), .lit (.int .u8 48), .lit (.int .u8 27), .lit (.int .u8 60), .lit (.int .u8 41), .lit (.int .u8 37), .lit (.int .u8 16), .lit (.int .u8 46), .lit (.int .u8 35), .lit (.int .u8 44), .lit (.int .u8 21), .lit (.int .u8 52), .lit (.int .u8 32), .lit (.int .u8 23), .lit (.int .u8 11), .lit (.int .u8 54), .lit (.int .u8 26), .lit (.int .u8 40), .lit (.int .u8 15), .lit (.int .u8 34), .lit (.int .u8 20), .lit (.int .u8 31), .lit (.int .u8 10), .lit (.int .u8 25), .lit (.int .u8 14), .lit (.int .u8 19), .lit (.int .u8 9), .lit (.int .u8 13), .lit (.int .u8 8), .lit (.int .u8 7), .lit (.int .u8 6)]

/-- 'areopaguslaw18.SnapTells': WHATEVER THE INPUT: true; the input reads as it did. -/
def snapTellsSpec : ChangeSpec := { name := "snapTells", fn := fun _ => fun
  | [d1, d2, d3, d4, d5] => { results := [.lit (.bool true)], args := [d1, d2, d3, d4, d5] }
  | _ => none }
def snapTellsRow : OpenClaim := { program := "ytgnidooihignfaagreatdoor", sum := "7b644b49255cc362c766ee583924f8afcfa84e86677f1d63cbc638f66192ebb9", func := "areopagus/areopaguslaw18.SnapTells", spec := "snapTells", inPlace := ["math/bits.Add64"], unfollowed := true, recurses := true, named := ["math/bits.deBruijn64tab"], plainKeys := false, apart := false, laid := [("math/bits.deBruijn64tab", laid_math_bits_deBruijn64tab)] }
def SnapTellsSaid : Prop := snapTellsRow.holds Tryz.pinned (OpenSpec.ofChange snapTellsSpec)

/-- ITS FALSE NEIGHBOUR: 'it returns false'. Refute it at one input. -/
def snapTellsWrong : ChangeSpec := { name := "snapTells", fn := fun _ => fun
  | [d1, d2, d3, d4, d5] => { results := [.lit (.bool false)], args := [d1, d2, d3, d4, d5] }
  | _ => none }
def SnapTellsWrongFalsely : Prop := snapTellsRow.holds Tryz.pinned (OpenSpec.ofChange snapTellsWrong)

/-- 'areopaguslaw18.SnapBlock': WHATEVER THE INPUT: true; the input reads as it did. -/
def snapBlockSpec : ChangeSpec := { name := "snapBlock", fn := fun _ => fun
  | [d1, d2, d3] => { results := [.lit (.bool true)], args := [d1, d2, d3] }
  | _ => none }
def snapBlockRow : OpenClaim := { program := "ytgnidooihignfaagreatdoor", sum := "7b644b49255cc362c766ee583924f8afcfa84e86677f1d63cbc638f66192ebb9", func := "areopagus/areopaguslaw18.SnapBlock", spec := "snapBlock", inPlace := ["math/bits.Add64"], unfollowed := true, recurses := true, named := ["math/bits.deBruijn64tab"], plainKeys := false, apart := false, laid := [("math/bits.deBruijn64tab", laid_math_bits_deBruijn64tab)] }
def SnapBlockSaid : Prop := snapBlockRow.holds Tryz.pinned (OpenSpec.ofChange snapBlockSpec)

/-- ITS FALSE NEIGHBOUR: 'it returns false'. Refute it at one input. -/
def snapBlockWrong : ChangeSpec := { name := "snapBlock", fn := fun _ => fun
  | [d1, d2, d3] => { results := [.lit (.bool false)], args := [d1, d2, d3] }
  | _ => none }
def SnapBlockWrongFalsely : Prop := snapBlockRow.holds Tryz.pinned (OpenSpec.ofChange snapBlockWrong)

/-- 'areopaguslaw18.SnapPrune': WHATEVER THE INPUT: true; the input reads as it did. -/
def snapPruneSpec : ChangeSpec := { name := "snapPrune", fn := fun _ => fun
  | [d1, d2] => { results := [.lit (.bool true)], args := [d1, d2] }
  | _ => none }
def snapPruneRow : OpenClaim := { program := "ytgnidooihignfaagreatdoor", sum := "7b644b49255cc362c766ee583924f8afcfa84e86677f1d63cbc638f66192ebb9", func := "areopagus/areopaguslaw18.SnapPrune", spec := "snapPrune", inPlace := ["math/bits.Add64"], unfollowed := true, recurses := true, named := ["math/bits.deBruijn64tab"], plainKeys := false, apart := false, laid := [("math/bits.deBruijn64tab", laid_math_bits_deBruijn64tab)] }
def SnapPruneSaid : Prop := snapPruneRow.holds Tryz.pinned (OpenSpec.ofChange snapPruneSpec)

/-- ITS FALSE NEIGHBOUR: 'it returns false'. Refute it at one input. -/
def snapPruneWrong : ChangeSpec := { name := "snapPrune", fn := fun _ => fun
  | [d1, d2] => { results := [.lit (.bool false)], args := [d1, d2] }
  | _ => none }
def SnapPruneWrongFalsely : Prop := snapPruneRow.holds Tryz.pinned (OpenSpec.ofChange snapPruneWrong)

/-- 'areopaguslaw17.EngineNew': WHATEVER THE INPUT: true; the input reads as it did. -/
def engineNewSpec : ChangeSpec := { name := "engineNew", fn := fun _ => fun
  | [d1, d2] => { results := [.lit (.bool true)], args := [d1, d2] }
  | _ => none }
def engineNewRow : OpenClaim := { program := "ytgnidooihignfaagreatdoor", sum := "7b644b49255cc362c766ee583924f8afcfa84e86677f1d63cbc638f66192ebb9", func := "areopagus/areopaguslaw17.EngineNew", spec := "engineNew", inPlace := ["math/bits.Add64", "math/bits.Sub64"], unfollowed := true, recurses := true, named := ["math/bits.deBruijn64tab"], plainKeys := false, apart := false, laid := [("math/bits.deBruijn64tab", laid_math_bits_deBruijn64tab)] }
def EngineNewSaid : Prop := engineNewRow.holds Tryz.pinned (OpenSpec.ofChange engineNewSpec)

/-- ITS FALSE NEIGHBOUR: 'it returns false'. Refute it at one input. -/
def engineNewWrong : ChangeSpec := { name := "engineNew", fn := fun _ => fun
  | [d1, d2] => { results := [.lit (.bool false)], args := [d1, d2] }
  | _ => none }
def EngineNewWrongFalsely : Prop := engineNewRow.holds Tryz.pinned (OpenSpec.ofChange engineNewWrong)

/-- 'areopaguslaw17.EngineStays': WHATEVER THE INPUT: true; the input reads as it did. -/
def engineStaysSpec : ChangeSpec := { name := "engineStays", fn := fun _ => fun
  | [d1, d2] => { results := [.lit (.bool true)], args := [d1, d2] }
  | _ => none }
def engineStaysRow : OpenClaim := { program := "ytgnidooihignfaagreatdoor", sum := "7b644b49255cc362c766ee583924f8afcfa84e86677f1d63cbc638f66192ebb9", func := "areopagus/areopaguslaw17.EngineStays", spec := "engineStays", inPlace := ["math/bits.Add64", "math/bits.Sub64"], unfollowed := true, recurses := true, named := ["math/bits.deBruijn64tab"], plainKeys := false, apart := false, laid := [("math/bits.deBruijn64tab", laid_math_bits_deBruijn64tab)] }
def EngineStaysSaid : Prop := engineStaysRow.holds Tryz.pinned (OpenSpec.ofChange engineStaysSpec)

/-- ITS FALSE NEIGHBOUR: 'it returns false'. Refute it at one input. -/
def engineStaysWrong : ChangeSpec := { name := "engineStays", fn := fun _ => fun
  | [d1, d2] => { results := [.lit (.bool false)], args := [d1, d2] }
  | _ => none }
def EngineStaysWrongFalsely : Prop := engineStaysRow.holds Tryz.pinned (OpenSpec.ofChange engineStaysWrong)

/-- 'areopaguslaw17.EngineWeighs': WHATEVER THE INPUT: true; the input reads as it did. -/
def engineWeighsSpec : ChangeSpec := { name := "engineWeighs", fn := fun _ => fun
  | [d1, d2] => { results := [.lit (.bool true)], args := [d1, d2] }
  | _ => none }
def engineWeighsRow : OpenClaim := { program := "ytgnidooihignfaagreatdoor", sum := "7b644b49255cc362c766ee583924f8afcfa84e86677f1d63cbc638f66192ebb9", func := "areopagus/areopaguslaw17.EngineWeighs", spec := "engineWeighs", inPlace := ["math/bits.Add64", "math/bits.Sub64"], unfollowed := true, recurses := true, named := ["math/bits.deBruijn64tab"], plainKeys := false, apart := false, laid := [("math/bits.deBruijn64tab", laid_math_bits_deBruijn64tab)] }
def EngineWeighsSaid : Prop := engineWeighsRow.holds Tryz.pinned (OpenSpec.ofChange engineWeighsSpec)

/-- ITS FALSE NEIGHBOUR: 'it returns false'. Refute it at one input. -/
def engineWeighsWrong : ChangeSpec := { name := "engineWeighs", fn := fun _ => fun
  | [d1, d2] => { results := [.lit (.bool false)], args := [d1, d2] }
  | _ => none }
def EngineWeighsWrongFalsely : Prop := engineWeighsRow.holds Tryz.pinned (OpenSpec.ofChange engineWeighsWrong)

/-- 'areopaguslaw17.EngineLate': WHATEVER THE INPUT: true; the input reads as it did. -/
def engineLateSpec : ChangeSpec := { name := "engineLate", fn := fun _ => fun
  | [d1, d2] => { results := [.lit (.bool true)], args := [d1, d2] }
  | _ => none }
def engineLateRow : OpenClaim := { program := "ytgnidooihignfaagreatdoor", sum := "7b644b49255cc362c766ee583924f8afcfa84e86677f1d63cbc638f66192ebb9", func := "areopagus/areopaguslaw17.EngineLate", spec := "engineLate", inPlace := ["math/bits.Add64", "math/bits.Sub64"], unfollowed := true, recurses := true, named := ["math/bits.deBruijn64tab"], plainKeys := false, apart := false, laid := [("math/bits.deBruijn64tab", laid_math_bits_deBruijn64tab)] }
def EngineLateSaid : Prop := engineLateRow.holds Tryz.pinned (OpenSpec.ofChange engineLateSpec)

/-- ITS FALSE NEIGHBOUR: 'it returns false'. Refute it at one input. -/
def engineLateWrong : ChangeSpec := { name := "engineLate", fn := fun _ => fun
  | [d1, d2] => { results := [.lit (.bool false)], args := [d1, d2] }
  | _ => none }
def EngineLateWrongFalsely : Prop := engineLateRow.holds Tryz.pinned (OpenSpec.ofChange engineLateWrong)

/-- 'areopaguslaw17.EngineFinal': WHATEVER THE INPUT: true; the input reads as it did. -/
def engineFinalSpec : ChangeSpec := { name := "engineFinal", fn := fun _ => fun
  | [d1, d2] => { results := [.lit (.bool true)], args := [d1, d2] }
  | _ => none }
def engineFinalRow : OpenClaim := { program := "ytgnidooihignfaagreatdoor", sum := "7b644b49255cc362c766ee583924f8afcfa84e86677f1d63cbc638f66192ebb9", func := "areopagus/areopaguslaw17.EngineFinal", spec := "engineFinal", inPlace := ["math/bits.Add64", "math/bits.Sub64"], unfollowed := true, recurses := true, named := ["math/bits.deBruijn64tab"], plainKeys := false, apart := false, laid := [("math/bits.deBruijn64tab", laid_math_bits_deBruijn64tab)] }
def EngineFinalSaid : Prop := engineFinalRow.holds Tryz.pinned (OpenSpec.ofChange engineFinalSpec)

/-- ITS FALSE NEIGHBOUR: 'it returns false'. Refute it at one input. -/
def engineFinalWrong : ChangeSpec := { name := "engineFinal", fn := fun _ => fun
  | [d1, d2] => { results := [.lit (.bool false)], args := [d1, d2] }
  | _ => none }
def EngineFinalWrongFalsely : Prop := engineFinalRow.holds Tryz.pinned (OpenSpec.ofChange engineFinalWrong)

/-- 'areopaguslaw17.EngineBlock': WHATEVER THE INPUT: true; the input reads as it did. -/
def engineBlockSpec : ChangeSpec := { name := "engineBlock", fn := fun _ => fun
  | [d1, d2] => { results := [.lit (.bool true)], args := [d1, d2] }
  | _ => none }
def engineBlockRow : OpenClaim := { program := "ytgnidooihignfaagreatdoor", sum := "7b644b49255cc362c766ee583924f8afcfa84e86677f1d63cbc638f66192ebb9", func := "areopagus/areopaguslaw17.EngineBlock", spec := "engineBlock", inPlace := ["math/bits.Add64", "math/bits.Sub64"], unfollowed := true, recurses := true, named := ["math/bits.deBruijn64tab"], plainKeys := false, apart := false, laid := [("math/bits.deBruijn64tab", laid_math_bits_deBruijn64tab)] }
def EngineBlockSaid : Prop := engineBlockRow.holds Tryz.pinned (OpenSpec.ofChange engineBlockSpec)

/-- ITS FALSE NEIGHBOUR: 'it returns false'. Refute it at one input. -/
def engineBlockWrong : ChangeSpec := { name := "engineBlock", fn := fun _ => fun
  | [d1, d2] => { results := [.lit (.bool false)], args := [d1, d2] }
  | _ => none }
def EngineBlockWrongFalsely : Prop := engineBlockRow.holds Tryz.pinned (OpenSpec.ofChange engineBlockWrong)

/-- 'areopaguslaw17.EnginePrune': WHATEVER THE INPUT: true; the input reads as it did. -/
def enginePruneSpec : ChangeSpec := { name := "enginePrune", fn := fun _ => fun
  | [d1, d2, d3, d4] => { results := [.lit (.bool true)], args := [d1, d2, d3, d4] }
  | _ => none }
def enginePruneRow : OpenClaim := { program := "ytgnidooihignfaagreatdoor", sum := "7b644b49255cc362c766ee583924f8afcfa84e86677f1d63cbc638f66192ebb9", func := "areopagus/areopaguslaw17.EnginePrune", spec := "enginePrune", inPlace := ["math/bits.Add64", "math/bits.Sub64"], unfollowed := true, recurses := true, named := ["math/bits.deBruijn64tab"], plainKeys := false, apart := false, laid := [("math/bits.deBruijn64tab", laid_math_bits_deBruijn64tab)] }
def EnginePruneSaid : Prop := enginePruneRow.holds Tryz.pinned (OpenSpec.ofChange enginePruneSpec)

/-- ITS FALSE NEIGHBOUR: 'it returns false'. Refute it at one input. -/
def enginePruneWrong : ChangeSpec := { name := "enginePrune", fn := fun _ => fun
  | [d1, d2, d3, d4] => { results := [.lit (.bool false)], args := [d1, d2, d3, d4] }
  | _ => none }
def EnginePruneWrongFalsely : Prop := enginePruneRow.holds Tryz.pinned (OpenSpec.ofChange enginePruneWrong)

/- THE SECOND FORM. 'bulk': how many values and letters a reading holds, each counted each time it is reached (what is shared counts as often as it is met; a slice's spare places count too). A statement '..UptoSaid' is the law's where the arguments, and the package variables that the reading takes, are together of bulk at most 1048576: NARROWER than '..Said'. Prove '..Said' where nothing that the law and all that it calls make is longer than what came in: it says more and counts as full. Else prove '..UptoSaid'. A law counts once. -/
mutual
def uptoBulk {H : Type} : DataW H → Nat
  | .lit (.string bytes) => bytes.length + 1
  | .lit _ => 1
  | .nil => 1
  | .ptr d => uptoBulk d + 1
  | .slice elems spare => uptoBulkAll elems + uptoBulkAll spare + 1
  | .agg parts => uptoBulkAll parts + 1
  | .iface _ d => uptoBulk d + 1
  | .map entries => uptoBulkEntries entries + 1
  | .held _ => 1
def uptoBulkAll {H : Type} : List (DataW H) → Nat
  | [] => 0
  | d :: r => uptoBulk d + uptoBulkAll r
def uptoBulkEntries {H : Type} : List (Lit × DataW H) → Nat
  | [] => 0
  | x :: r => uptoBulkEntry x + uptoBulkEntries r
def uptoBulkEntry {H : Type} : Lit × DataW H → Nat
  | (.string bytes, d) => bytes.length + uptoBulk d + 1
  | (_, d) => uptoBulk d + 1
 end
def uptoSmall : (H : Type) → List (DataW H) → Bool := fun _ ds => decide (uptoBulkAll ds ≤ 1048576)
def OpenSpec.upto (s : _root_.Go.ChangeSpec) : _root_.Go.OpenSpec := { _root_.Go.OpenSpec.ofChange s with cond := some uptoSmall }

/-- 'areopaguslaw18.SnapTells', WHERE WHAT IT READS IS OF BULK AT MOST 1048576: true; the input reads as it did. -/
def snapTellsUptoRow : OpenClaim := { program := "ytgnidooihignfaagreatdoor", sum := "7b644b49255cc362c766ee583924f8afcfa84e86677f1d63cbc638f66192ebb9", func := "areopagus/areopaguslaw18.SnapTells", spec := "snapTells", inPlace := ["math/bits.Add64"], unfollowed := true, recurses := true, named := ["math/bits.deBruijn64tab"], plainKeys := false, apart := false, laid := [("math/bits.deBruijn64tab", laid_math_bits_deBruijn64tab)], narrowed := true }
def SnapTellsUptoSaid : Prop := snapTellsUptoRow.holds Tryz.pinned (OpenSpec.upto snapTellsSpec)

/-- 'areopaguslaw18.SnapBlock', WHERE WHAT IT READS IS OF BULK AT MOST 1048576: true; the input reads as it did. -/
def snapBlockUptoRow : OpenClaim := { program := "ytgnidooihignfaagreatdoor", sum := "7b644b49255cc362c766ee583924f8afcfa84e86677f1d63cbc638f66192ebb9", func := "areopagus/areopaguslaw18.SnapBlock", spec := "snapBlock", inPlace := ["math/bits.Add64"], unfollowed := true, recurses := true, named := ["math/bits.deBruijn64tab"], plainKeys := false, apart := false, laid := [("math/bits.deBruijn64tab", laid_math_bits_deBruijn64tab)], narrowed := true }
def SnapBlockUptoSaid : Prop := snapBlockUptoRow.holds Tryz.pinned (OpenSpec.upto snapBlockSpec)

/-- 'areopaguslaw18.SnapPrune', WHERE WHAT IT READS IS OF BULK AT MOST 1048576: true; the input reads as it did. -/
def snapPruneUptoRow : OpenClaim := { program := "ytgnidooihignfaagreatdoor", sum := "7b644b49255cc362c766ee583924f8afcfa84e86677f1d63cbc638f66192ebb9", func := "areopagus/areopaguslaw18.SnapPrune", spec := "snapPrune", inPlace := ["math/bits.Add64"], unfollowed := true, recurses := true, named := ["math/bits.deBruijn64tab"], plainKeys := false, apart := false, laid := [("math/bits.deBruijn64tab", laid_math_bits_deBruijn64tab)], narrowed := true }
def SnapPruneUptoSaid : Prop := snapPruneUptoRow.holds Tryz.pinned (OpenSpec.upto snapPruneSpec)

/-- 'areopaguslaw17.EngineNew', WHERE WHAT IT READS IS OF BULK AT MOST 1048576: true; the input reads as it did. -/
def engineNewUptoRow : OpenClaim := { program := "ytgnidooihignfaagreatdoor", sum := "7b644b49255cc362c766ee583924f8afcfa84e86677f1d63cbc638f66192ebb9", func := "areopagus/areopaguslaw17.EngineNew", spec := "engineNew", inPlace := ["math/bits.Add64", "math/bits.Sub64"], unfollowed := true, recurses := true, named := ["math/bits.deBruijn64tab"], plainKeys := false, apart := false, laid := [("math/bits.deBruijn64tab", laid_math_bits_deBruijn64tab)], narrowed := true }
def EngineNewUptoSaid : Prop := engineNewUptoRow.holds Tryz.pinned (OpenSpec.upto engineNewSpec)

/-- 'areopaguslaw17.EngineStays', WHERE WHAT IT READS IS OF BULK AT MOST 1048576: true; the input reads as it did. -/
def engineStaysUptoRow : OpenClaim := { program := "ytgnidooihignfaagreatdoor", sum := "7b644b49255cc362c766ee583924f8afcfa84e86677f1d63cbc638f66192ebb9", func := "areopagus/areopaguslaw17.EngineStays", spec := "engineStays", inPlace := ["math/bits.Add64", "math/bits.Sub64"], unfollowed := true, recurses := true, named := ["math/bits.deBruijn64tab"], plainKeys := false, apart := false, laid := [("math/bits.deBruijn64tab", laid_math_bits_deBruijn64tab)], narrowed := true }
def EngineStaysUptoSaid : Prop := engineStaysUptoRow.holds Tryz.pinned (OpenSpec.upto engineStaysSpec)

/-- 'areopaguslaw17.EngineWeighs', WHERE WHAT IT READS IS OF BULK AT MOST 1048576: true; the input reads as it did. -/
def engineWeighsUptoRow : OpenClaim := { program := "ytgnidooihignfaagreatdoor", sum := "7b644b49255cc362c766ee583924f8afcfa84e86677f1d63cbc638f66192ebb9", func := "areopagus/areopaguslaw17.EngineWeighs", spec := "engineWeighs", inPlace := ["math/bits.Add64", "math/bits.Sub64"], unfollowed := true, recurses := true, named := ["math/bits.deBruijn64tab"], plainKeys := false, apart := false, laid := [("math/bits.deBruijn64tab", laid_math_bits_deBruijn64tab)], narrowed := true }
def EngineWeighsUptoSaid : Prop := engineWeighsUptoRow.holds Tryz.pinned (OpenSpec.upto engineWeighsSpec)

/-- 'areopaguslaw17.EngineLate', WHERE WHAT IT READS IS OF BULK AT MOST 1048576: true; the input reads as it did. -/
def engineLateUptoRow : OpenClaim := { program := "ytgnidooihignfaagreatdoor", sum := "7b644b49255cc362c766ee583924f8afcfa84e86677f1d63cbc638f66192ebb9", func := "areopagus/areopaguslaw17.EngineLate", spec := "engineLate", inPlace := ["math/bits.Add64", "math/bits.Sub64"], unfollowed := true, recurses := true, named := ["math/bits.deBruijn64tab"], plainKeys := false, apart := false, laid := [("math/bits.deBruijn64tab", laid_math_bits_deBruijn64tab)], narrowed := true }
def EngineLateUptoSaid : Prop := engineLateUptoRow.holds Tryz.pinned (OpenSpec.upto engineLateSpec)

/-- 'areopaguslaw17.EngineFinal', WHERE WHAT IT READS IS OF BULK AT MOST 1048576: true; the input reads as it did. -/
def engineFinalUptoRow : OpenClaim := { program := "ytgnidooihignfaagreatdoor", sum := "7b644b49255cc362c766ee583924f8afcfa84e86677f1d63cbc638f66192ebb9", func := "areopagus/areopaguslaw17.EngineFinal", spec := "engineFinal", inPlace := ["math/bits.Add64", "math/bits.Sub64"], unfollowed := true, recurses := true, named := ["math/bits.deBruijn64tab"], plainKeys := false, apart := false, laid := [("math/bits.deBruijn64tab", laid_math_bits_deBruijn64tab)], narrowed := true }
def EngineFinalUptoSaid : Prop := engineFinalUptoRow.holds Tryz.pinned (OpenSpec.upto engineFinalSpec)

/-- 'areopaguslaw17.EngineBlock', WHERE WHAT IT READS IS OF BULK AT MOST 1048576: true; the input reads as it did. -/
def engineBlockUptoRow : OpenClaim := { program := "ytgnidooihignfaagreatdoor", sum := "7b644b49255cc362c766ee583924f8afcfa84e86677f1d63cbc638f66192ebb9", func := "areopagus/areopaguslaw17.EngineBlock", spec := "engineBlock", inPlace := ["math/bits.Add64", "math/bits.Sub64"], unfollowed := true, recurses := true, named := ["math/bits.deBruijn64tab"], plainKeys := false, apart := false, laid := [("math/bits.deBruijn64tab", laid_math_bits_deBruijn64tab)], narrowed := true }
def EngineBlockUptoSaid : Prop := engineBlockUptoRow.holds Tryz.pinned (OpenSpec.upto engineBlockSpec)

/-- 'areopaguslaw17.EnginePrune', WHERE WHAT IT READS IS OF BULK AT MOST 1048576: true; the input reads as it did. -/
def enginePruneUptoRow : OpenClaim := { program := "ytgnidooihignfaagreatdoor", sum := "7b644b49255cc362c766ee583924f8afcfa84e86677f1d63cbc638f66192ebb9", func := "areopagus/areopaguslaw17.EnginePrune", spec := "enginePrune", inPlace := ["math/bits.Add64", "math/bits.Sub64"], unfollowed := true, recurses := true, named := ["math/bits.deBruijn64tab"], plainKeys := false, apart := false, laid := [("math/bits.deBruijn64tab", laid_math_bits_deBruijn64tab)], narrowed := true }
def EnginePruneUptoSaid : Prop := enginePruneUptoRow.holds Tryz.pinned (OpenSpec.upto enginePruneSpec)

end Rows
end Go.Proofs.YtgnidooihignfaaGreatDoor
