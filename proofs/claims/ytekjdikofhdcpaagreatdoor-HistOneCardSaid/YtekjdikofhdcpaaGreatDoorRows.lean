/-
  NARROWER THAN 'FOR EVERY INPUT', by the rows' own cells (each row's printed sentence says how): HistTells: laid · HistReal: laid · HistParts: laid · HistAsks: laid · HistNone: laid · HistOne: laid.
  DERIVED. THE GIVEN ROWS OF THIS SEAT. 6 by the template 'for every input the law returns true; each argument reads behind the call as it read before'; 0 by the template 'total and deterministic' (their statements: YtekjdikofhdcpaaGreatDoorTotals.lean).
  GIVEN WITH THE SEED: the statements are not yours to turn. If you find one false, say at which input.
  Laid BY PROGRAM, IN A SANDBOX (cutbox-rows.mjs): the forced cells as the released guide's own fill.sh prints them over the translation b55db9ee876cdf9f… (all of the seat's roots in one cut). By AI agents, Wed Nov 11 2026. No macro, syntax, notation, axiom, sorry.
-/
import Derived.Test.YtekjdikofhdcpaaGreatDoorChecked
import GoSem.Claim
import GoSem.ClaimJoined
import GoSem.ClaimMapViews
import Derived.JoinedTies
import Derived.KernelRfl
namespace Go.Proofs.YtekjdikofhdcpaaGreatDoor
/- THE CELL 'sum', in the pinned program and in every row, IS THE sha256 OF THE DUMP (.gsa) THAT YtekjdikofhdcpaaGreatDoorProg.lean LOADS. Nothing in Lean hashes anything: it is a label: what it is worth is what the hold of that sum in a sandbox is worth. -/
noncomputable def Tryz.pinned : Pinned := { name := "ytekjdikofhdcpaagreatdoor", sum := "b55db9ee876cdf9f00467e7587bb2ad983326ef3db4f4d64434ffec1d5642c6b", checked := Tryz.checked }
namespace Rows
def none {H : Type} : Left H := { results := [], args := [] }

/- WHAT THE LISTED PACKAGE-LEVEL VARIABLES READ AS WHEN THE CALL BEGINS. Each datum BY PROGRAM (the guide's laid-datum.mjs) off the statement by which the dump's own 'gosem.cut.vars' lays the variable. In a bare row this is a premise. The card (YtekjdikofhdcpaaGreatDoorCards.lean) ties it to the program's text. -/
def laid_math_bits_deBruijn64tab {H : Type} : DataW H := .agg [.lit (.int .u8 0), .lit (.int .u8 1), .lit (.int .u8 56), .lit (.int .u8 2), .lit (.int .u8 57), .lit (.int .u8 49), .lit (.int .u8 28), .lit (.int .u8 3), .lit (.int .u8 61), .lit (.int .u8 58), .lit (.int .u8 42), .lit (.int .u8 50), .lit (.int .u8 38), .lit (.int .u8 29), .lit (.int .u8 17), .lit (.int .u8 4), .lit (.int .u8 62), .lit (.int .u8 47), .lit (.int .u8 59), .lit (.int .u8 36), .lit (.int .u8 45), .lit (.int .u8 43), .lit (.int .u8 51), .lit (.int .u8 22), .lit (.int .u8 53), .lit (.int .u8 39), .lit (.int .u8 33), .lit (.int .u8 30), .lit (.int .u8 24), .lit (.int .u8 18), .lit (.int .u8 12), .lit (.int .u8 5), .lit (.int .u8 63), .lit (.int .u8 55), .lit (.int .u8 48), .lit (.int .u8 27), .lit (.int .u8 60), .lit (.int .u8 41), .lit (.int .u8 37), .lit (.int .u8 16), .lit (.int .u8 46), .lit (.int .u8 35), .lit (.int .u8 44), .lit (.int .u8 21), .lit (.int .u8 52), .lit (.int .u8 32), .lit (.int .u8 23), .lit (.int .u8 11), .lit (.int .u8 54), .lit (.int .u8 26), .lit (.int .u8 40), .lit (.int .u8 15), .lit (.int .u8 34), .lit (.int .u8 20), .lit (.int .u8 31), .lit (.int .u8 10), .lit (.int .u8 25), .lit (.int .u8 14), .lit (.int .u8 19), .lit (.int .u8 9), .lit (.int .u8 13), .lit (.int .u8 8), .lit (.int .u8 7), .lit (.int .u8 6)]

/-- 'areopaguslaw21.HistTells': WHATEVER THE INPUT: true; the input reads as it did. -/
def histTellsSpec : ChangeSpec := { name := "histTells", fn := fun _ => fun
  | [d1, d2, d3, d4, d5] => { results := [.lit (.bool true)], args := [d1, d2, d3, d4, d5] }
  | _ => none }
def histTellsRow : OpenClaim := { program := "ytekjdikofhdcpaagreatdoor", sum := "b55db9ee876cdf9f00467e7587bb2ad983326ef3db4f4d64434ffec1d5642c6b", func := "areopagus/areopaguslaw21.HistTells", spec := "histTells", inPlace := ["math/bits.Add64", "math/bits.Sub64"], unfollowed := true, recurses := true, named := ["math/bits.deBruijn64tab"], plainKeys := false, apart := false, laid := [("math/bits.deBruijn64tab", laid_math_bits_deBruijn64tab)] }
def HistTellsSaid : Prop := histTellsRow.holds Tryz.pinned (OpenSpec.ofChange histTellsSpec)

/-- ITS FALSE NEIGHBOUR: 'it returns false'. Refute it at one input. -/
def histTellsWrong : ChangeSpec := { name := "histTells", fn := fun _ => fun
  | [d1, d2, d3, d4, d5] => { results := [.lit (.bool false)], args := [d1, d2, d3, d4, d5] }
  | _ => none }
def HistTellsWrongFalsely : Prop := histTellsRow.holds Tryz.pinned (OpenSpec.ofChange histTellsWrong)

/-- 'areopaguslaw21.HistReal': WHATEVER THE INPUT: true; the input reads as it did. -/
def histRealSpec : ChangeSpec := { name := "histReal", fn := fun _ => fun
  | [d1, d2] => { results := [.lit (.bool true)], args := [d1, d2] }
  | _ => none }
def histRealRow : OpenClaim := { program := "ytekjdikofhdcpaagreatdoor", sum := "b55db9ee876cdf9f00467e7587bb2ad983326ef3db4f4d64434ffec1d5642c6b", func := "areopagus/areopaguslaw21.HistReal", spec := "histReal", inPlace := ["math/bits.Add64", "math/bits.Sub64"], unfollowed := true, recurses := true, named := ["math/bits.deBruijn64tab"], plainKeys := false, apart := false, laid := [("math/bits.deBruijn64tab", laid_math_bits_deBruijn64tab)] }
def HistRealSaid : Prop := histRealRow.holds Tryz.pinned (OpenSpec.ofChange histRealSpec)

/-- ITS FALSE NEIGHBOUR: 'it returns false'. Refute it at one input. -/
def histRealWrong : ChangeSpec := { name := "histReal", fn := fun _ => fun
  | [d1, d2] => { results := [.lit (.bool false)], args := [d1, d2] }
  | _ => none }
def HistRealWrongFalsely : Prop := histRealRow.holds Tryz.pinned (OpenSpec.ofChange histRealWrong)

/-- 'areopaguslaw21.HistParts': WHATEVER THE INPUT: true; the input reads as it did. -/
def histPartsSpec : ChangeSpec := { name := "histParts", fn := fun _ => fun
  | [d1, d2, d3, d4] => { results := [.lit (.bool true)], args := [d1, d2, d3, d4] }
  | _ => none }
def histPartsRow : OpenClaim := { program := "ytekjdikofhdcpaagreatdoor", sum := "b55db9ee876cdf9f00467e7587bb2ad983326ef3db4f4d64434ffec1d5642c6b", func := "areopagus/areopaguslaw21.HistParts", spec := "histParts", inPlace := ["math/bits.Add64", "math/bits.Sub64"], unfollowed := true, recurses := true, named := ["math/bits.deBruijn64tab"], plainKeys := false, apart := false, laid := [("math/bits.deBruijn64tab", laid_math_bits_deBruijn64tab)] }
def HistPartsSaid : Prop := histPartsRow.holds Tryz.pinned (OpenSpec.ofChange histPartsSpec)

/-- ITS FALSE NEIGHBOUR: 'it returns false'. Refute it at one input. -/
def histPartsWrong : ChangeSpec := { name := "histParts", fn := fun _ => fun
  | [d1, d2, d3, d4] => { results := [.lit (.bool false)], args := [d1, d2, d3, d4] }
  | _ => none }
def HistPartsWrongFalsely : Prop := histPartsRow.holds Tryz.pinned (OpenSpec.ofChange histPartsWrong)

/-- 'areopaguslaw21.HistAsks': WHATEVER THE INPUT: true; the input reads as it did. -/
def histAsksSpec : ChangeSpec := { name := "histAsks", fn := fun _ => fun
  | [d1, d2, d3, d4] => { results := [.lit (.bool true)], args := [d1, d2, d3, d4] }
  | _ => none }
def histAsksRow : OpenClaim := { program := "ytekjdikofhdcpaagreatdoor", sum := "b55db9ee876cdf9f00467e7587bb2ad983326ef3db4f4d64434ffec1d5642c6b", func := "areopagus/areopaguslaw21.HistAsks", spec := "histAsks", inPlace := ["math/bits.Add64", "math/bits.Sub64"], unfollowed := true, recurses := true, named := ["math/bits.deBruijn64tab"], plainKeys := false, apart := false, laid := [("math/bits.deBruijn64tab", laid_math_bits_deBruijn64tab)] }
def HistAsksSaid : Prop := histAsksRow.holds Tryz.pinned (OpenSpec.ofChange histAsksSpec)

/-- ITS FALSE NEIGHBOUR: 'it returns false'. Refute it at one input. -/
def histAsksWrong : ChangeSpec := { name := "histAsks", fn := fun _ => fun
  | [d1, d2, d3, d4] => { results := [.lit (.bool false)], args := [d1, d2, d3, d4] }
  | _ => none }
def HistAsksWrongFalsely : Prop := histAsksRow.holds Tryz.pinned (OpenSpec.ofChange histAsksWrong)

/-- 'areopaguslaw21.HistNone': WHATEVER THE INPUT: true; the input reads as it did. -/
def histNoneSpec : ChangeSpec := { name := "histNone", fn := fun _ => fun
  | [d1, d2] => { results := [.lit (.bool true)], args := [d1, d2] }
  | _ => none }
def histNoneRow : OpenClaim := { program := "ytekjdikofhdcpaagreatdoor", sum := "b55db9ee876cdf9f00467e7587bb2ad983326ef3db4f4d64434ffec1d5642c6b", func := "areopagus/areopaguslaw21.HistNone", spec := "histNone", inPlace := ["math/bits.Add64", "math/bits.Sub64"], unfollowed := true, recurses := true, named := ["math/bits.deBruijn64tab"], plainKeys := false, apart := false, laid := [("math/bits.deBruijn64tab", laid_math_bits_deBruijn64tab)] }
def HistNoneSaid : Prop := histNoneRow.holds Tryz.pinned (OpenSpec.ofChange histNoneSpec)

/-- ITS FALSE NEIGHBOUR: 'it returns false'. Refute it at one input. -/
def histNoneWrong : ChangeSpec := { name := "histNone", fn := fun _ => fun
  | [d1, d2] => { results := [.lit (.bool false)], args := [d1, d2] }
  | _ => none }
def HistNoneWrongFalsely : Prop := histNoneRow.holds Tryz.pinned (OpenSpec.ofChange histNoneWrong)

/-- 'areopaguslaw21.HistOne': WHATEVER THE INPUT: true; the input reads as it did. -/
def histOneSpec : ChangeSpec := { name := "histOne", fn := fun _ => fun
  | [d1, d2, d3] => { results := [.lit (.bool true)], args := [d1, d2, d3] }
  | _ => none }
def histOneRow : OpenClaim := { program := "ytekjdikofhdcpaagreatdoor", sum := "b55db9ee876cdf9f00467e7587bb2ad983326ef3db4f4d64434ffec1d5642c6b", func := "areopagus/areopaguslaw21.HistOne", spec := "histOne", inPlace := ["math/bits.Add64", "math/bits.Sub64"], unfollowed := true, recurses := true, named := ["math/bits.deBruijn64tab"], plainKeys := false, apart := false, laid := [("math/bits.deBruijn64tab", laid_math_bits_deBruijn64tab)] }
def HistOneSaid : Prop := histOneRow.holds Tryz.pinned (OpenSpec.ofChange histOneSpec)

/-- ITS FALSE NEIGHBOUR: 'it returns false'. Refute it at one input. -/
def histOneWrong : ChangeSpec := { name := "histOne", fn := fun _ => fun
  | [d1, d2, d3] => { results := [.lit (.bool false)], args := [d1, d2, d3] }
  | _ => none }
def HistOneWrongFalsely : Prop := histOneRow.holds Tryz.pinned (OpenSpec.ofChange histOneWrong)

/- THE SECOND FORM. 'bulk': how many values and letters a reading holds, each counted each time it is reached (what is shared counts as often as it is met; a slice's spare places count too). A statement '..UptoSaid' is the law's where the arguments, and the package variables that the reading takes, are together of bulk at most 1048576: NARROWER than '..Said'. Prove '..Said' where nothing that the law and all that it calls make is longer than what came in: it says more and counts as full. Else prove '..UptoSaid'. A law counts once. -/
mutual
def uptoBulk {H : Type} : DataW H → Nat
  | .lit (.string bytes) => bytes.length + 1
  | .lit _ => 1
  | .nil => 1
  | .ptr d => uptoBulk d + 1
  | .slice elems spare => uptoBulkAll elems + uptoBulkAll spare + 1
  | .agg parts => uptoBulkAll parts + 1
  | .iface _ d => uptoBulk d + 1
  | .map entries => uptoBulkEntries entries + 1
  | .held _ => 1
def uptoBulkAll {H : Type} : List (DataW H) → Nat
  | [] => 0
  | d :: r => uptoBulk d + uptoBulkAll r
def uptoBulkEntries {H : Type} : List (Lit × DataW H) → Nat
  | [] => 0
  | x :: r => uptoBulkEntry x + uptoBulkEntries r
def uptoBulkEntry {H : Type} : Lit × DataW H → Nat
  | (.string bytes, d) => bytes.length + uptoBulk d + 1
  | (_, d) => uptoBulk d + 1
 end
def uptoSmall : (H : Type) → List (DataW H) → Bool := fun _ ds => decide (uptoBulkAll ds ≤ 1048576)
def OpenSpec.upto (s : _root_.Go.ChangeSpec) : _root_.Go.OpenSpec := { _root_.Go.OpenSpec.ofChange s with cond := some uptoSmall }

/-- 'areopaguslaw21.HistTells', WHERE WHAT IT READS IS OF BULK AT MOST 1048576: true; the input reads as it did. -/
def histTellsUptoRow : OpenClaim := { program := "ytekjdikofhdcpaagreatdoor", sum := "b55db9ee876cdf9f00467e7587bb2ad983326ef3db4f4d64434ffec1d5642c6b", func := "areopagus/areopaguslaw21.HistTells", spec := "histTells", inPlace := ["math/bits.Add64", "math/bits.Sub64"], unfollowed := true, recurses := true, named := ["math/bits.deBruijn64tab"], plainKeys := false, apart := false, laid := [("math/bits.deBruijn64tab", laid_math_bits_deBruijn64tab)], narrowed := true }
def HistTellsUptoSaid : Prop := histTellsUptoRow.holds Tryz.pinned (OpenSpec.upto histTellsSpec)

/-- 'areopaguslaw21.HistReal', WHERE WHAT IT READS IS OF BULK AT MOST 1048576: true; the input reads as it did. -/
def histRealUptoRow : OpenClaim := { program := "ytekjdikofhdcpaagreatdoor", sum := "b55db9ee876cdf9f00467e7587bb2ad983326ef3db4f4d64434ffec1d5642c6b", func := "areopagus/areopaguslaw21.HistReal", spec := "histReal", inPlace := ["math/bits.Add64", "math/bits.Sub64"], unfollowed := true, recurses := true, named := ["math/bits.deBruijn64tab"], plainKeys := false, apart := false, laid := [("math/bits.deBruijn64tab", laid_math_bits_deBruijn64tab)], narrowed := true }
def HistRealUptoSaid : Prop := histRealUptoRow.holds Tryz.pinned (OpenSpec.upto histRealSpec)

/-- 'areopaguslaw21.HistParts', WHERE WHAT IT READS IS OF BULK AT MOST 1048576: true; the input reads as it did. -/
def histPartsUptoRow : OpenClaim := { program := "ytekjdikofhdcpaagreatdoor", sum := "b55db9ee876cdf9f00467e7587bb2ad983326ef3db4f4d64434ffec1d5642c6b", func := "areopagus/areopaguslaw21.HistParts", spec := "histParts", inPlace := ["math/bits.Add64", "math/bits.Sub64"], unfollowed := true, recurses := true, named := ["math/bits.deBruijn64tab"], plainKeys := false, apart := false, laid := [("math/bits.deBruijn64tab", laid_math_bits_deBruijn64tab)], narrowed := true }
def HistPartsUptoSaid : Prop := histPartsUptoRow.holds Tryz.pinned (OpenSpec.upto histPartsSpec)

/-- 'areopaguslaw21.HistAsks', WHERE WHAT IT READS IS OF BULK AT MOST 1048576: true; the input reads as it did. -/
def histAsksUptoRow : OpenClaim := { program := "ytekjdikofhdcpaagreatdoor", sum := "b55db9ee876cdf9f00467e7587bb2ad983326ef3db4f4d64434ffec1d5642c6b", func := "areopagus/areopaguslaw21.HistAsks", spec := "histAsks", inPlace := ["math/bits.Add64", "math/bits.Sub64"], unfollowed := true, recurses := true, named := ["math/bits.deBruijn64tab"], plainKeys := false, apart := false, laid := [("math/bits.deBruijn64tab", laid_math_bits_deBruijn64tab)], narrowed := true }
def HistAsksUptoSaid : Prop := histAsksUptoRow.holds Tryz.pinned (OpenSpec.upto histAsksSpec)

/-- 'areopaguslaw21.HistNone', WHERE WHAT IT READS IS OF BULK AT MOST 1048576: true; the input reads as it did. -/
def histNoneUptoRow : OpenClaim := { program := "ytekjdikofhdcpaagreatdoor", sum := "b55db9ee876cdf9f00467e7587bb2ad983326ef3db4f4d64434ffec1d5642c6b", func := "areopagus/areopaguslaw21.HistNone", spec := "histNone", inPlace := ["math/bits.Add64", "math/bits.Sub64"], unfollowed := true, recurses := true, named := ["math/bits.deBruijn64tab"], plainKeys := false, apart := false, laid := [("math/bits.deBruijn64tab", laid_math_bits_deBruijn64tab)], narrowed := true }
def HistNoneUptoSaid : Prop := histNoneUptoRow.holds Tryz.pinned (OpenSpec.upto histNoneSpec)

/-- 'areopaguslaw21.HistOne', WHERE WHAT IT READS IS OF BULK AT MOST 1048576: true; the input reads as it did. -/
def histOneUptoRow : OpenClaim := { program := "ytekjdikofhdcpaagreatdoor", sum := "b55db9ee876cdf9f00467e7587bb2ad983326ef3db4f4d64434ffec1d5642c6b", func := "areopagus/areopaguslaw21.HistOne", spec := "histOne", inPlace := ["math/bits.Add64", "math/bits.Sub64"], unfollowed := true, recurses := true, named := ["math/bits.deBruijn64tab"], plainKeys := false, apart := false, laid := [("math/bits.deBruijn64tab", laid_math_bits_deBruijn64tab)], narrowed := true }
def HistOneUptoSaid : Prop := histOneUptoRow.holds Tryz.pinned (OpenSpec.upto histOneSpec)

end Rows
end Go.Proofs.YtekjdikofhdcpaaGreatDoor
