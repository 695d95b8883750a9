/-
  No cell of these rows narrows 'for every input' (looked for: loops, veiled, ifaces, maps, wideKeys, modest, calm, conditions, laid).
  DERIVED. THE GIVEN ROWS OF THIS SEAT. 11 by the template 'for every input the law returns true; each argument reads behind the call as it read before'; 0 by the template 'total and deterministic' (their statements: YtpcegpfbmmgbbaaTotals.lean).
  GIVEN WITH THE SEED: the statements are not yours to turn. If you find one false, say at which input.
  Laid BY PROGRAM, IN A SANDBOX (cutbox-rows.mjs): the forced cells as the released guide's own fill.sh prints them over the translation 4c6958b23f5034fc… (all of the seat's roots in one cut). By AI agents, Wed Nov 11 2026. No macro, syntax, notation, axiom, sorry.
-/
import Derived.Test.YtpcegpfbmmgbbaaChecked
import GoSem.Claim
import GoSem.ClaimJoined
import GoSem.ClaimMapViews
import Derived.JoinedTies
import Derived.KernelRfl
namespace Go.Proofs.Ytpcegpfbmmgbbaa
/- THE CELL 'sum', in the pinned program and in every row, IS THE sha256 OF THE DUMP (.gsa) THAT YtpcegpfbmmgbbaaProg.lean LOADS. Nothing in Lean hashes anything: it is a label: what it is worth is what the hold of that sum in a sandbox is worth. -/
noncomputable def Try.pinned : Pinned := { name := "ytpcegpfbmmgbbaa", sum := "4c6958b23f5034fc3aec1b26500a278698bcc9f207421f42710bb92647b8f237", checked := Try.checked }
namespace Rows
def none {H : Type} : Left H := { results := [], args := [] }

/-- 'areopaguslaw03.WireTells': WHATEVER THE INPUT: true; the input reads as it did. -/
def wireTellsSpec : ChangeSpec := { name := "wireTells", fn := fun _ => fun
  | [d1, d2, d3] => { results := [.lit (.bool true)], args := [d1, d2, d3] }
  | _ => none }
def wireTellsRow : OpenClaim := { program := "ytpcegpfbmmgbbaa", sum := "4c6958b23f5034fc3aec1b26500a278698bcc9f207421f42710bb92647b8f237", func := "areopagus/areopaguslaw03.WireTells", spec := "wireTells", plainKeys := false, apart := false }
def WireTellsSaid : Prop := wireTellsRow.holds Try.pinned (OpenSpec.ofChange wireTellsSpec)

/-- ITS FALSE NEIGHBOUR: 'it returns false'. Refute it at one input. -/
def wireTellsWrong : ChangeSpec := { name := "wireTells", fn := fun _ => fun
  | [d1, d2, d3] => { results := [.lit (.bool false)], args := [d1, d2, d3] }
  | _ => none }
def WireTellsWrongFalsely : Prop := wireTellsRow.holds Try.pinned (OpenSpec.ofChange wireTellsWrong)

/-- 'areopaguslaw03.WireBack': WHATEVER THE INPUT: true; the input reads as it did. -/
def wireBackSpec : ChangeSpec := { name := "wireBack", fn := fun _ => fun
  | [d1, d2, d3] => { results := [.lit (.bool true)], args := [d1, d2, d3] }
  | _ => none }
def wireBackRow : OpenClaim := { program := "ytpcegpfbmmgbbaa", sum := "4c6958b23f5034fc3aec1b26500a278698bcc9f207421f42710bb92647b8f237", func := "areopagus/areopaguslaw03.WireBack", spec := "wireBack", plainKeys := false, apart := false }
def WireBackSaid : Prop := wireBackRow.holds Try.pinned (OpenSpec.ofChange wireBackSpec)

/-- ITS FALSE NEIGHBOUR: 'it returns false'. Refute it at one input. -/
def wireBackWrong : ChangeSpec := { name := "wireBack", fn := fun _ => fun
  | [d1, d2, d3] => { results := [.lit (.bool false)], args := [d1, d2, d3] }
  | _ => none }
def WireBackWrongFalsely : Prop := wireBackRow.holds Try.pinned (OpenSpec.ofChange wireBackWrong)

/-- 'areopaguslaw03.WireOwn': WHATEVER THE INPUT: true; the input reads as it did. -/
def wireOwnSpec : ChangeSpec := { name := "wireOwn", fn := fun _ => fun
  | [d1, d2, d3, d4] => { results := [.lit (.bool true)], args := [d1, d2, d3, d4] }
  | _ => none }
def wireOwnRow : OpenClaim := { program := "ytpcegpfbmmgbbaa", sum := "4c6958b23f5034fc3aec1b26500a278698bcc9f207421f42710bb92647b8f237", func := "areopagus/areopaguslaw03.WireOwn", spec := "wireOwn", plainKeys := false, apart := false }
def WireOwnSaid : Prop := wireOwnRow.holds Try.pinned (OpenSpec.ofChange wireOwnSpec)

/-- ITS FALSE NEIGHBOUR: 'it returns false'. Refute it at one input. -/
def wireOwnWrong : ChangeSpec := { name := "wireOwn", fn := fun _ => fun
  | [d1, d2, d3, d4] => { results := [.lit (.bool false)], args := [d1, d2, d3, d4] }
  | _ => none }
def WireOwnWrongFalsely : Prop := wireOwnRow.holds Try.pinned (OpenSpec.ofChange wireOwnWrong)

/-- 'areopaguslaw03.WireNone': WHATEVER THE INPUT: true; the input reads as it did. -/
def wireNoneSpec : ChangeSpec := { name := "wireNone", fn := fun _ => fun
  | [d] => { results := [.lit (.bool true)], args := [d] }
  | _ => none }
def wireNoneRow : OpenClaim := { program := "ytpcegpfbmmgbbaa", sum := "4c6958b23f5034fc3aec1b26500a278698bcc9f207421f42710bb92647b8f237", func := "areopagus/areopaguslaw03.WireNone", spec := "wireNone", plainKeys := false, apart := false }
def WireNoneSaid : Prop := wireNoneRow.holds Try.pinned (OpenSpec.ofChange wireNoneSpec)

/-- ITS FALSE NEIGHBOUR: 'it returns false'. Refute it at one input. -/
def wireNoneWrong : ChangeSpec := { name := "wireNone", fn := fun _ => fun
  | [d] => { results := [.lit (.bool false)], args := [d] }
  | _ => none }
def WireNoneWrongFalsely : Prop := wireNoneRow.holds Try.pinned (OpenSpec.ofChange wireNoneWrong)

/-- 'areopaguslaw03.WirePlaces': WHATEVER THE INPUT: true; the input reads as it did. -/
def wirePlacesSpec : ChangeSpec := { name := "wirePlaces", fn := fun _ => fun
  | [d1, d2, d3] => { results := [.lit (.bool true)], args := [d1, d2, d3] }
  | _ => none }
def wirePlacesRow : OpenClaim := { program := "ytpcegpfbmmgbbaa", sum := "4c6958b23f5034fc3aec1b26500a278698bcc9f207421f42710bb92647b8f237", func := "areopagus/areopaguslaw03.WirePlaces", spec := "wirePlaces", plainKeys := false, apart := false }
def WirePlacesSaid : Prop := wirePlacesRow.holds Try.pinned (OpenSpec.ofChange wirePlacesSpec)

/-- ITS FALSE NEIGHBOUR: 'it returns false'. Refute it at one input. -/
def wirePlacesWrong : ChangeSpec := { name := "wirePlaces", fn := fun _ => fun
  | [d1, d2, d3] => { results := [.lit (.bool false)], args := [d1, d2, d3] }
  | _ => none }
def WirePlacesWrongFalsely : Prop := wirePlacesRow.holds Try.pinned (OpenSpec.ofChange wirePlacesWrong)

/-- 'areopaguslaw03.WireSpoils': WHATEVER THE INPUT: true; the input reads as it did. -/
def wireSpoilsSpec : ChangeSpec := { name := "wireSpoils", fn := fun _ => fun
  | [d1, d2, d3] => { results := [.lit (.bool true)], args := [d1, d2, d3] }
  | _ => none }
def wireSpoilsRow : OpenClaim := { program := "ytpcegpfbmmgbbaa", sum := "4c6958b23f5034fc3aec1b26500a278698bcc9f207421f42710bb92647b8f237", func := "areopagus/areopaguslaw03.WireSpoils", spec := "wireSpoils", plainKeys := false, apart := false }
def WireSpoilsSaid : Prop := wireSpoilsRow.holds Try.pinned (OpenSpec.ofChange wireSpoilsSpec)

/-- ITS FALSE NEIGHBOUR: 'it returns false'. Refute it at one input. -/
def wireSpoilsWrong : ChangeSpec := { name := "wireSpoils", fn := fun _ => fun
  | [d1, d2, d3] => { results := [.lit (.bool false)], args := [d1, d2, d3] }
  | _ => none }
def WireSpoilsWrongFalsely : Prop := wireSpoilsRow.holds Try.pinned (OpenSpec.ofChange wireSpoilsWrong)

/-- 'areopaguslaw09.BestTells': WHATEVER THE INPUT: true; the input reads as it did. -/
def bestTellsSpec : ChangeSpec := { name := "bestTells", fn := fun _ => fun
  | [d1, d2, d3, d4] => { results := [.lit (.bool true)], args := [d1, d2, d3, d4] }
  | _ => none }
def bestTellsRow : OpenClaim := { program := "ytpcegpfbmmgbbaa", sum := "4c6958b23f5034fc3aec1b26500a278698bcc9f207421f42710bb92647b8f237", func := "areopagus/areopaguslaw09.BestTells", spec := "bestTells", unfollowed := true, recurses := true, plainKeys := false, apart := false }
def BestTellsSaid : Prop := bestTellsRow.holds Try.pinned (OpenSpec.ofChange bestTellsSpec)

/-- ITS FALSE NEIGHBOUR: 'it returns false'. Refute it at one input. -/
def bestTellsWrong : ChangeSpec := { name := "bestTells", fn := fun _ => fun
  | [d1, d2, d3, d4] => { results := [.lit (.bool false)], args := [d1, d2, d3, d4] }
  | _ => none }
def BestTellsWrongFalsely : Prop := bestTellsRow.holds Try.pinned (OpenSpec.ofChange bestTellsWrong)

/-- 'areopaguslaw09.BestPairs': WHATEVER THE INPUT: true; the input reads as it did. -/
def bestPairsSpec : ChangeSpec := { name := "bestPairs", fn := fun _ => fun
  | [d1, d2, d3, d4] => { results := [.lit (.bool true)], args := [d1, d2, d3, d4] }
  | _ => none }
def bestPairsRow : OpenClaim := { program := "ytpcegpfbmmgbbaa", sum := "4c6958b23f5034fc3aec1b26500a278698bcc9f207421f42710bb92647b8f237", func := "areopagus/areopaguslaw09.BestPairs", spec := "bestPairs", unfollowed := true, recurses := true, plainKeys := false, apart := false }
def BestPairsSaid : Prop := bestPairsRow.holds Try.pinned (OpenSpec.ofChange bestPairsSpec)

/-- ITS FALSE NEIGHBOUR: 'it returns false'. Refute it at one input. -/
def bestPairsWrong : ChangeSpec := { name := "bestPairs", fn := fun _ => fun
  | [d1, d2, d3, d4] => { results := [.lit (.bool false)], args := [d1, d2, d3, d4] }
  | _ => none }
def BestPairsWrongFalsely : Prop := bestPairsRow.holds Try.pinned (OpenSpec.ofChange bestPairsWrong)

/-- 'areopaguslaw09.BestOff': WHATEVER THE INPUT: true; the input reads as it did. -/
def bestOffSpec : ChangeSpec := { name := "bestOff", fn := fun _ => fun
  | [d1, d2, d3, d4] => { results := [.lit (.bool true)], args := [d1, d2, d3, d4] }
  | _ => none }
def bestOffRow : OpenClaim := { program := "ytpcegpfbmmgbbaa", sum := "4c6958b23f5034fc3aec1b26500a278698bcc9f207421f42710bb92647b8f237", func := "areopagus/areopaguslaw09.BestOff", spec := "bestOff", unfollowed := true, recurses := true, plainKeys := false, apart := false }
def BestOffSaid : Prop := bestOffRow.holds Try.pinned (OpenSpec.ofChange bestOffSpec)

/-- ITS FALSE NEIGHBOUR: 'it returns false'. Refute it at one input. -/
def bestOffWrong : ChangeSpec := { name := "bestOff", fn := fun _ => fun
  | [d1, d2, d3, d4] => { results := [.lit (.bool false)], args := [d1, d2, d3, d4] }
  | _ => none }
def BestOffWrongFalsely : Prop := bestOffRow.holds Try.pinned (OpenSpec.ofChange bestOffWrong)

/-- 'areopaguslaw09.BestKid': WHATEVER THE INPUT: true; the input reads as it did. -/
def bestKidSpec : ChangeSpec := { name := "bestKid", fn := fun _ => fun
  | [d1, d2, d3, d4] => { results := [.lit (.bool true)], args := [d1, d2, d3, d4] }
  | _ => none }
def bestKidRow : OpenClaim := { program := "ytpcegpfbmmgbbaa", sum := "4c6958b23f5034fc3aec1b26500a278698bcc9f207421f42710bb92647b8f237", func := "areopagus/areopaguslaw09.BestKid", spec := "bestKid", unfollowed := true, recurses := true, plainKeys := false, apart := false }
def BestKidSaid : Prop := bestKidRow.holds Try.pinned (OpenSpec.ofChange bestKidSpec)

/-- ITS FALSE NEIGHBOUR: 'it returns false'. Refute it at one input. -/
def bestKidWrong : ChangeSpec := { name := "bestKid", fn := fun _ => fun
  | [d1, d2, d3, d4] => { results := [.lit (.bool false)], args := [d1, d2, d3, d4] }
  | _ => none }
def BestKidWrongFalsely : Prop := bestKidRow.holds Try.pinned (OpenSpec.ofChange bestKidWrong)

/-- 'areopaguslaw09.BestHead': WHATEVER THE INPUT: true; the input reads as it did. -/
def bestHeadSpec : ChangeSpec := { name := "bestHead", fn := fun _ => fun
  | [d1, d2, d3, d4] => { results := [.lit (.bool true)], args := [d1, d2, d3, d4] }
  | _ => none }
def bestHeadRow : OpenClaim := { program := "ytpcegpfbmmgbbaa", sum := "4c6958b23f5034fc3aec1b26500a278698bcc9f207421f42710bb92647b8f237", func := "areopagus/areopaguslaw09.BestHead", spec := "bestHead", unfollowed := true, recurses := true, plainKeys := false, apart := false }
def BestHeadSaid : Prop := bestHeadRow.holds Try.pinned (OpenSpec.ofChange bestHeadSpec)

/-- ITS FALSE NEIGHBOUR: 'it returns false'. Refute it at one input. -/
def bestHeadWrong : ChangeSpec := { name := "bestHead", fn := fun _ => fun
  | [d1, d2, d3, d4] => { results := [.lit (.bool false)], args := [d1, d2, d3, d4] }
  | _ => none }
def BestHeadWrongFalsely : Prop := bestHeadRow.holds Try.pinned (OpenSpec.ofChange bestHeadWrong)

/- THE SECOND FORM. 'bulk': how many values and letters a reading holds, each counted each time it is reached (what is shared counts as often as it is met; a slice's spare places count too). A statement '..UptoSaid' is the law's where the arguments, and the package variables that the reading takes, are together of bulk at most 1048576: NARROWER than '..Said'. Prove '..Said' where nothing that the law and all that it calls make is longer than what came in: it says more and counts as full. Else prove '..UptoSaid'. A law counts once. -/
mutual
def uptoBulk {H : Type} : DataW H → Nat
  | .lit (.string bytes) => bytes.length + 1
  | .lit _ => 1
  | .nil => 1
  | .ptr d => uptoBulk d + 1
  | .slice elems spare => uptoBulkAll elems + uptoBulkAll spare + 1
  | .agg parts => uptoBulkAll parts + 1
  | .iface _ d => uptoBulk d + 1
  | .map entries => uptoBulkEntries entries + 1
  | .held _ => 1
def uptoBulkAll {H : Type} : List (DataW H) → Nat
  | [] => 0
  | d :: r => uptoBulk d + uptoBulkAll r
def uptoBulkEntries {H : Type} : List (Lit × DataW H) → Nat
  | [] => 0
  | x :: r => uptoBulkEntry x + uptoBulkEntries r
def uptoBulkEntry {H : Type} : Lit × DataW H → Nat
  | (.string bytes, d) => bytes.length + uptoBulk d + 1
  | (_, d) => uptoBulk d + 1
 end
def uptoSmall : (H : Type) → List (DataW H) → Bool := fun _ ds => decide (uptoBulkAll ds ≤ 1048576)
def OpenSpec.upto (s : _root_.Go.ChangeSpec) : _root_.Go.OpenSpec := { _root_.Go.OpenSpec.ofChange s with cond := some uptoSmall }

/-- 'areopaguslaw03.WireTells', WHERE WHAT IT READS IS OF BULK AT MOST 1048576: true; the input reads as it did. -/
def wireTellsUptoRow : OpenClaim := { program := "ytpcegpfbmmgbbaa", sum := "4c6958b23f5034fc3aec1b26500a278698bcc9f207421f42710bb92647b8f237", func := "areopagus/areopaguslaw03.WireTells", spec := "wireTells", plainKeys := false, apart := false, narrowed := true }
def WireTellsUptoSaid : Prop := wireTellsUptoRow.holds Try.pinned (OpenSpec.upto wireTellsSpec)

/-- 'areopaguslaw03.WireBack', WHERE WHAT IT READS IS OF BULK AT MOST 1048576: true; the input reads as it did. -/
def wireBackUptoRow : OpenClaim := { program := "ytpcegpfbmmgbbaa", sum := "4c6958b23f5034fc3aec1b26500a278698bcc9f207421f42710bb92647b8f237", func := "areopagus/areopaguslaw03.WireBack", spec := "wireBack", plainKeys := false, apart := false, narrowed := true }
def WireBackUptoSaid : Prop := wireBackUptoRow.holds Try.pinned (OpenSpec.upto wireBackSpec)

/-- 'areopaguslaw03.WireOwn', WHERE WHAT IT READS IS OF BULK AT MOST 1048576: true; the input reads as it did. -/
def wireOwnUptoRow : OpenClaim := { program := "ytpcegpfbmmgbbaa", sum := "4c6958b23f5034fc3aec1b26500a278698bcc9f207421f42710bb92647b8f237", func := "areopagus/areopaguslaw03.WireOwn", spec := "wireOwn", plainKeys := false, apart := false, narrowed := true }
def WireOwnUptoSaid : Prop := wireOwnUptoRow.holds Try.pinned (OpenSpec.upto wireOwnSpec)

/-- 'areopaguslaw03.WireNone', WHERE WHAT IT READS IS OF BULK AT MOST 1048576: true; the input reads as it did. -/
def wireNoneUptoRow : OpenClaim := { program := "ytpcegpfbmmgbbaa", sum := "4c6958b23f5034fc3aec1b26500a278698bcc9f207421f42710bb92647b8f237", func := "areopagus/areopaguslaw03.WireNone", spec := "wireNone", plainKeys := false, apart := false, narrowed := true }
def WireNoneUptoSaid : Prop := wireNoneUptoRow.holds Try.pinned (OpenSpec.upto wireNoneSpec)

/-- 'areopaguslaw03.WirePlaces', WHERE WHAT IT READS IS OF BULK AT MOST 1048576: true; the input reads as it did. -/
def wirePlacesUptoRow : OpenClaim := { program := "ytpcegpfbmmgbbaa", sum := "4c6958b23f5034fc3aec1b26500a278698bcc9f207421f42710bb92647b8f237", func := "areopagus/areopaguslaw03.WirePlaces", spec := "wirePlaces", plainKeys := false, apart := false, narrowed := true }
def WirePlacesUptoSaid : Prop := wirePlacesUptoRow.holds Try.pinned (OpenSpec.upto wirePlacesSpec)

/-- 'areopaguslaw03.WireSpoils', WHERE WHAT IT READS IS OF BULK AT MOST 1048576: true; the input reads as it did. -/
def wireSpoilsUptoRow : OpenClaim := { program := "ytpcegpfbmmgbbaa", sum := "4c6958b23f5034fc3aec1b26500a278698bcc9f207421f42710bb92647b8f237", func := "areopagus/areopaguslaw03.WireSpoils", spec := "wireSpoils", plainKeys := false, apart := false, narrowed := true }
def WireSpoilsUptoSaid : Prop := wireSpoilsUptoRow.holds Try.pinned (OpenSpec.upto wireSpoilsSpec)

/-- 'areopaguslaw09.BestTells', WHERE WHAT IT READS IS OF BULK AT MOST 1048576: true; the input reads as it did. -/
def bestTellsUptoRow : OpenClaim := { program := "ytpcegpfbmmgbbaa", sum := "4c6958b23f5034fc3aec1b26500a278698bcc9f207421f42710bb92647b8f237", func := "areopagus/areopaguslaw09.BestTells", spec := "bestTells", unfollowed := true, recurses := true, plainKeys := false, apart := false, narrowed := true }
def BestTellsUptoSaid : Prop := bestTellsUptoRow.holds Try.pinned (OpenSpec.upto bestTellsSpec)

/-- 'areopaguslaw09.BestPairs', WHERE WHAT IT READS IS OF BULK AT MOST 1048576: true; the input reads as it did. -/
def bestPairsUptoRow : OpenClaim := { program := "ytpcegpfbmmgbbaa", sum := "4c6958b23f5034fc3aec1b26500a278698bcc9f207421f42710bb92647b8f237", func := "areopagus/areopaguslaw09.BestPairs", spec := "bestPairs", unfollowed := true, recurses := true, plainKeys := false, apart := false, narrowed := true }
def BestPairsUptoSaid : Prop := bestPairsUptoRow.holds Try.pinned (OpenSpec.upto bestPairsSpec)

/-- 'areopaguslaw09.BestOff', WHERE WHAT IT READS IS OF BULK AT MOST 1048576: true; the input reads as it did. -/
def bestOffUptoRow : OpenClaim := { program := "ytpcegpfbmmgbbaa", sum := "4c6958b23f5034fc3aec1b26500a278698bcc9f207421f42710bb92647b8f237", func := "areopagus/areopaguslaw09.BestOff", spec := "bestOff", unfollowed := true, recurses := true, plainKeys := false, apart := false, narrowed := true }
def BestOffUptoSaid : Prop := bestOffUptoRow.holds Try.pinned (OpenSpec.upto bestOffSpec)

/-- 'areopaguslaw09.BestKid', WHERE WHAT IT READS IS OF BULK AT MOST 1048576: true; the input reads as it did. -/
def bestKidUptoRow : OpenClaim := { program := "ytpcegpfbmmgbbaa", sum := "4c6958b23f5034fc3aec1b26500a278698bcc9f207421f42710bb92647b8f237", func := "areopagus/areopaguslaw09.BestKid", spec := "bestKid", unfollowed := true, recurses := true, plainKeys := false, apart := false, narrowed := true }
def BestKidUptoSaid : Prop := bestKidUptoRow.holds Try.pinned (OpenSpec.upto bestKidSpec)

/-- 'areopaguslaw09.BestHead', WHERE WHAT IT READS IS OF BULK AT MOST 1048576: true; the input reads as it did. -/
def bestHeadUptoRow : OpenClaim := { program := "ytpcegpfbmmgbbaa", sum := "4c6958b23f5034fc3aec1b26500a278698bcc9f207421f42710bb92647b8f237", func := "areopagus/areopaguslaw09.BestHead", spec := "bestHead", unfollowed := true, recurses := true, plainKeys := false, apart := false, narrowed := true }
def BestHeadUptoSaid : Prop := bestHeadUptoRow.holds Try.pinned (OpenSpec.upto bestHeadSpec)

end Rows
end Go.Proofs.Ytpcegpfbmmgbbaa
