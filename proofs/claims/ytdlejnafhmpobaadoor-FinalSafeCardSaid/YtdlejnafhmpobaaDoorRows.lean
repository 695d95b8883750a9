/-
  NARROWER THAN 'FOR EVERY INPUT', by the rows' own cells (each row's printed sentence says how): FinalTells: laid · FinalNext: laid · FinalBest: laid · FinalNone: laid · FinalChain: laid · FinalSafe: laid.
  DERIVED. THE GIVEN ROWS OF THIS SEAT. 6 by the template 'for every input the law returns true; each argument reads behind the call as it read before'; 0 by the template 'total and deterministic' (their statements: YtdlejnafhmpobaaDoorTotals.lean).
  GIVEN WITH THE SEED: the statements are not yours to turn. If you find one false, say at which input.
  Laid BY PROGRAM, IN A SANDBOX (cutbox-rows.mjs): the forced cells as the released guide's own fill.sh prints them over the translation d009a105baf041dd… (all of the seat's roots in one cut). By AI agents, Wed Nov 11 2026. No macro, syntax, notation, axiom, sorry.
-/
import Derived.Test.YtdlejnafhmpobaaDoorChecked
import GoSem.Claim
import GoSem.ClaimJoined
import GoSem.ClaimMapViews
import Derived.JoinedTies
import Derived.KernelRfl
namespace Go.Proofs.YtdlejnafhmpobaaDoor
/- THE CELL 'sum', in the pinned program and in every row, IS THE sha256 OF THE DUMP (.gsa) THAT YtdlejnafhmpobaaDoorProg.lean LOADS. Nothing in Lean hashes anything: it is a label: what it is worth is what the hold of that sum in a sandbox is worth. -/
noncomputable def Tryd.pinned : Pinned := { name := "ytdlejnafhmpobaadoor", sum := "d009a105baf041dd99384875d0808c443cfa77388a1d90c4cba621153e334a4f", checked := Tryd.checked }
namespace Rows
def none {H : Type} : Left H := { results := [], args := [] }

/- WHAT THE LISTED PACKAGE-LEVEL VARIABLES READ AS WHEN THE CALL BEGINS. Each datum BY PROGRAM (the guide's laid-datum.mjs) off the statement by which the dump's own 'gosem.cut.vars' lays the variable. In a bare row this is a premise. The card (YtdlejnafhmpobaaDoorCards.lean) ties it to the program's text. -/
def laid_math_bits_deBruijn64tab {H : Type} : DataW H := .agg [.lit (.int .u8 0), .lit (.int .u8 1), .lit (.int .u8 56), .lit (.int .u8 2), .lit (.int .u8 57), .lit (.int .u8 49), .lit (.int .u8 28), .lit (.int .u8 3), .lit (.int .u8 61), .lit (.int .u8 58), .lit (.int .u8 42), .lit (.int .u8 50), .lit (.int .u8 38), .lit (.int .u8 29), .lit (.int .u8 17), .lit (.int .u8 4), .lit (.int .u8 62), .lit (.int .u8 47), .lit (.int .u8 59), .lit (.int .u8 36), .lit (.int .u8 45), .lit (.int .u8 43), .lit (.int .u8 51), .lit (.int .u8 22), .lit (.int .u8 53), .lit (.int .u8 39), .lit (.int .u8 33), .lit (.int .u8 30), .lit (.int .u8 24), .lit (.int .u8 18), .lit (.int .u8 12), .lit (.int .u8 5), .lit (.int .u8 63), .lit (.int .u8 55), .lit (.int .u8 48), .lit (.int .u8 27), .lit (.int .u8 60), .lit (.int .u8 41), .lit (.int .u8 37), .lit (.int .u8 16), .lit (.int .u8 46), .lit (.int .u8 35), .lit (.int .u8 44), .lit (.int .u8 21), .lit (.int .u8 52), .lit (.int .u8 32), .lit (.int .u8 23), .lit (.int .u8 11), .lit (.int .u8 54), .lit (.int .u8 26), .lit (.int .u8 40), .lit (.int .u8 15), .lit (.int .u8 34), .lit (.int .u8 20), .lit (.int .u8 31), .lit (.int .u8 10), .lit (.int .u8 25), .lit (.int .u8 14), .lit (.int .u8 19), .lit (.int .u8 9), .lit (.int .u8 13), .lit (.int .u8 8), .lit (.int .u8 7), .lit (.int .u8 6)]

/-- 'areopaguslaw16.FinalTells': WHATEVER THE INPUT: true; the input reads as it did. -/
def finalTellsSpec : ChangeSpec := { name := "finalTells", fn := fun _ => fun
  | [d1, d2, d3, d4, d5] => { results := [.lit (.bool true)], args := [d1, d2, d3, d4, d5] }
  | _ => none }
def finalTellsRow : OpenClaim := { program := "ytdlejnafhmpobaadoor", sum := "d009a105baf041dd99384875d0808c443cfa77388a1d90c4cba621153e334a4f", func := "areopagus/areopaguslaw16.FinalTells", spec := "finalTells", unfollowed := true, recurses := true, named := ["math/bits.deBruijn64tab"], plainKeys := false, apart := false, laid := [("math/bits.deBruijn64tab", laid_math_bits_deBruijn64tab)] }
def FinalTellsSaid : Prop := finalTellsRow.holds Tryd.pinned (OpenSpec.ofChange finalTellsSpec)

/-- ITS FALSE NEIGHBOUR: 'it returns false'. Refute it at one input. -/
def finalTellsWrong : ChangeSpec := { name := "finalTells", fn := fun _ => fun
  | [d1, d2, d3, d4, d5] => { results := [.lit (.bool false)], args := [d1, d2, d3, d4, d5] }
  | _ => none }
def FinalTellsWrongFalsely : Prop := finalTellsRow.holds Tryd.pinned (OpenSpec.ofChange finalTellsWrong)

/-- 'areopaguslaw16.FinalNext': WHATEVER THE INPUT: true; the input reads as it did. -/
def finalNextSpec : ChangeSpec := { name := "finalNext", fn := fun _ => fun
  | [d1, d2, d3, d4, d5] => { results := [.lit (.bool true)], args := [d1, d2, d3, d4, d5] }
  | _ => none }
def finalNextRow : OpenClaim := { program := "ytdlejnafhmpobaadoor", sum := "d009a105baf041dd99384875d0808c443cfa77388a1d90c4cba621153e334a4f", func := "areopagus/areopaguslaw16.FinalNext", spec := "finalNext", unfollowed := true, recurses := true, named := ["math/bits.deBruijn64tab"], plainKeys := false, apart := false, laid := [("math/bits.deBruijn64tab", laid_math_bits_deBruijn64tab)] }
def FinalNextSaid : Prop := finalNextRow.holds Tryd.pinned (OpenSpec.ofChange finalNextSpec)

/-- ITS FALSE NEIGHBOUR: 'it returns false'. Refute it at one input. -/
def finalNextWrong : ChangeSpec := { name := "finalNext", fn := fun _ => fun
  | [d1, d2, d3, d4, d5] => { results := [.lit (.bool false)], args := [d1, d2, d3, d4, d5] }
  | _ => none }
def FinalNextWrongFalsely : Prop := finalNextRow.holds Tryd.pinned (OpenSpec.ofChange finalNextWrong)

/-- 'areopaguslaw16.FinalBest': WHATEVER THE INPUT: true; the input reads as it did. -/
def finalBestSpec : ChangeSpec := { name := "finalBest", fn := fun _ => fun
  | [d1, d2, d3, d4] => { results := [.lit (.bool true)], args := [d1, d2, d3, d4] }
  | _ => none }
def finalBestRow : OpenClaim := { program := "ytdlejnafhmpobaadoor", sum := "d009a105baf041dd99384875d0808c443cfa77388a1d90c4cba621153e334a4f", func := "areopagus/areopaguslaw16.FinalBest", spec := "finalBest", unfollowed := true, recurses := true, named := ["math/bits.deBruijn64tab"], plainKeys := false, apart := false, laid := [("math/bits.deBruijn64tab", laid_math_bits_deBruijn64tab)] }
def FinalBestSaid : Prop := finalBestRow.holds Tryd.pinned (OpenSpec.ofChange finalBestSpec)

/-- ITS FALSE NEIGHBOUR: 'it returns false'. Refute it at one input. -/
def finalBestWrong : ChangeSpec := { name := "finalBest", fn := fun _ => fun
  | [d1, d2, d3, d4] => { results := [.lit (.bool false)], args := [d1, d2, d3, d4] }
  | _ => none }
def FinalBestWrongFalsely : Prop := finalBestRow.holds Tryd.pinned (OpenSpec.ofChange finalBestWrong)

/-- 'areopaguslaw16.FinalNone': WHATEVER THE INPUT: true; the input reads as it did. -/
def finalNoneSpec : ChangeSpec := { name := "finalNone", fn := fun _ => fun
  | [d1, d2, d3, d4] => { results := [.lit (.bool true)], args := [d1, d2, d3, d4] }
  | _ => none }
def finalNoneRow : OpenClaim := { program := "ytdlejnafhmpobaadoor", sum := "d009a105baf041dd99384875d0808c443cfa77388a1d90c4cba621153e334a4f", func := "areopagus/areopaguslaw16.FinalNone", spec := "finalNone", unfollowed := true, recurses := true, named := ["math/bits.deBruijn64tab"], plainKeys := false, apart := false, laid := [("math/bits.deBruijn64tab", laid_math_bits_deBruijn64tab)] }
def FinalNoneSaid : Prop := finalNoneRow.holds Tryd.pinned (OpenSpec.ofChange finalNoneSpec)

/-- ITS FALSE NEIGHBOUR: 'it returns false'. Refute it at one input. -/
def finalNoneWrong : ChangeSpec := { name := "finalNone", fn := fun _ => fun
  | [d1, d2, d3, d4] => { results := [.lit (.bool false)], args := [d1, d2, d3, d4] }
  | _ => none }
def FinalNoneWrongFalsely : Prop := finalNoneRow.holds Tryd.pinned (OpenSpec.ofChange finalNoneWrong)

/-- 'areopaguslaw16.FinalChain': WHATEVER THE INPUT: true; the input reads as it did. -/
def finalChainSpec : ChangeSpec := { name := "finalChain", fn := fun _ => fun
  | [d1, d2, d3, d4] => { results := [.lit (.bool true)], args := [d1, d2, d3, d4] }
  | _ => none }
def finalChainRow : OpenClaim := { program := "ytdlejnafhmpobaadoor", sum := "d009a105baf041dd99384875d0808c443cfa77388a1d90c4cba621153e334a4f", func := "areopagus/areopaguslaw16.FinalChain", spec := "finalChain", unfollowed := true, recurses := true, named := ["math/bits.deBruijn64tab"], plainKeys := false, apart := false, laid := [("math/bits.deBruijn64tab", laid_math_bits_deBruijn64tab)] }
def FinalChainSaid : Prop := finalChainRow.holds Tryd.pinned (OpenSpec.ofChange finalChainSpec)

/-- ITS FALSE NEIGHBOUR: 'it returns false'. Refute it at one input. -/
def finalChainWrong : ChangeSpec := { name := "finalChain", fn := fun _ => fun
  | [d1, d2, d3, d4] => { results := [.lit (.bool false)], args := [d1, d2, d3, d4] }
  | _ => none }
def FinalChainWrongFalsely : Prop := finalChainRow.holds Tryd.pinned (OpenSpec.ofChange finalChainWrong)

/-- 'areopaguslaw16.FinalSafe': WHATEVER THE INPUT: true; the input reads as it did. -/
def finalSafeSpec : ChangeSpec := { name := "finalSafe", fn := fun _ => fun
  | [d1, d2, d3, d4] => { results := [.lit (.bool true)], args := [d1, d2, d3, d4] }
  | _ => none }
def finalSafeRow : OpenClaim := { program := "ytdlejnafhmpobaadoor", sum := "d009a105baf041dd99384875d0808c443cfa77388a1d90c4cba621153e334a4f", func := "areopagus/areopaguslaw16.FinalSafe", spec := "finalSafe", unfollowed := true, recurses := true, named := ["math/bits.deBruijn64tab"], plainKeys := false, apart := false, laid := [("math/bits.deBruijn64tab", laid_math_bits_deBruijn64tab)] }
def FinalSafeSaid : Prop := finalSafeRow.holds Tryd.pinned (OpenSpec.ofChange finalSafeSpec)

/-- ITS FALSE NEIGHBOUR: 'it returns false'. Refute it at one input. -/
def finalSafeWrong : ChangeSpec := { name := "finalSafe", fn := fun _ => fun
  | [d1, d2, d3, d4] => { results := [.lit (.bool false)], args := [d1, d2, d3, d4] }
  | _ => none }
def FinalSafeWrongFalsely : Prop := finalSafeRow.holds Tryd.pinned (OpenSpec.ofChange finalSafeWrong)

/- THE SECOND FORM. 'bulk': how many values and letters a reading holds, each counted each time it is reached (what is shared counts as often as it is met; a slice's spare places count too). A statement '..UptoSaid' is the law's where the arguments, and the package variables that the reading takes, are together of bulk at most 1048576: NARROWER than '..Said'. Prove '..Said' where nothing that the law and all that it calls make is longer than what came in: it says more and counts as full. Else prove '..UptoSaid'. A law counts once. -/
mutual
def uptoBulk {H : Type} : DataW H → Nat
  | .lit (.string bytes) => bytes.length + 1
  | .lit _ => 1
  | .nil => 1
  | .ptr d => uptoBulk d + 1
  | .slice elems spare => uptoBulkAll elems + uptoBulkAll spare + 1
  | .agg parts => uptoBulkAll parts + 1
  | .iface _ d => uptoBulk d + 1
  | .map entries => uptoBulkEntries entries + 1
  | .held _ => 1
def uptoBulkAll {H : Type} : List (DataW H) → Nat
  | [] => 0
  | d :: r => uptoBulk d + uptoBulkAll r
def uptoBulkEntries {H : Type} : List (Lit × DataW H) → Nat
  | [] => 0
  | x :: r => uptoBulkEntry x + uptoBulkEntries r
def uptoBulkEntry {H : Type} : Lit × DataW H → Nat
  | (.string bytes, d) => bytes.length + uptoBulk d + 1
  | (_, d) => uptoBulk d + 1
 end
def uptoSmall : (H : Type) → List (DataW H) → Bool := fun _ ds => decide (uptoBulkAll ds ≤ 1048576)
def OpenSpec.upto (s : _root_.Go.ChangeSpec) : _root_.Go.OpenSpec := { _root_.Go.OpenSpec.ofChange s with cond := some uptoSmall }

/-- 'areopaguslaw16.FinalTells', WHERE WHAT IT READS IS OF BULK AT MOST 1048576: true; the input reads as it did. -/
def finalTellsUptoRow : OpenClaim := { program := "ytdlejnafhmpobaadoor", sum := "d009a105baf041dd99384875d0808c443cfa77388a1d90c4cba621153e334a4f", func := "areopagus/areopaguslaw16.FinalTells", spec := "finalTells", unfollowed := true, recurses := true, named := ["math/bits.deBruijn64tab"], plainKeys := false, apart := false, laid := [("math/bits.deBruijn64tab", laid_math_bits_deBruijn64tab)], narrowed := true }
def FinalTellsUptoSaid : Prop := finalTellsUptoRow.holds Tryd.pinned (OpenSpec.upto finalTellsSpec)

/-- 'areopaguslaw16.FinalNext', WHERE WHAT IT READS IS OF BULK AT MOST 1048576: true; the input reads as it did. -/
def finalNextUptoRow : OpenClaim := { program := "ytdlejnafhmpobaadoor", sum := "d009a105baf041dd99384875d0808c443cfa77388a1d90c4cba621153e334a4f", func := "areopagus/areopaguslaw16.FinalNext", spec := "finalNext", unfollowed := true, recurses := true, named := ["math/bits.deBruijn64tab"], plainKeys := false, apart := false, laid := [("math/bits.deBruijn64tab", laid_math_bits_deBruijn64tab)], narrowed := true }
def FinalNextUptoSaid : Prop := finalNextUptoRow.holds Tryd.pinned (OpenSpec.upto finalNextSpec)

/-- 'areopaguslaw16.FinalBest', WHERE WHAT IT READS IS OF BULK AT MOST 1048576: true; the input reads as it did. -/
def finalBestUptoRow : OpenClaim := { program := "ytdlejnafhmpobaadoor", sum := "d009a105baf041dd99384875d0808c443cfa77388a1d90c4cba621153e334a4f", func := "areopagus/areopaguslaw16.FinalBest", spec := "finalBest", unfollowed := true, recurses := true, named := ["math/bits.deBruijn64tab"], plainKeys := false, apart := false, laid := [("math/bits.deBruijn64tab", laid_math_bits_deBruijn64tab)], narrowed := true }
def FinalBestUptoSaid : Prop := finalBestUptoRow.holds Tryd.pinned (OpenSpec.upto finalBestSpec)

/-- 'areopaguslaw16.FinalNone', WHERE WHAT IT READS IS OF BULK AT MOST 1048576: true; the input reads as it did. -/
def finalNoneUptoRow : OpenClaim := { program := "ytdlejnafhmpobaadoor", sum := "d009a105baf041dd99384875d0808c443cfa77388a1d90c4cba621153e334a4f", func := "areopagus/areopaguslaw16.FinalNone", spec := "finalNone", unfollowed := true, recurses := true, named := ["math/bits.deBruijn64tab"], plainKeys := false, apart := false, laid := [("math/bits.deBruijn64tab", laid_math_bits_deBruijn64tab)], narrowed := true }
def FinalNoneUptoSaid : Prop := finalNoneUptoRow.holds Tryd.pinned (OpenSpec.upto finalNoneSpec)

/-- 'areopaguslaw16.FinalChain', WHERE WHAT IT READS IS OF BULK AT MOST 1048576: true; the input reads as it did. -/
def finalChainUptoRow : OpenClaim := { program := "ytdlejnafhmpobaadoor", sum := "d009a105baf041dd99384875d0808c443cfa77388a1d90c4cba621153e334a4f", func := "areopagus/areopaguslaw16.FinalChain", spec := "finalChain", unfollowed := true, recurses := true, named := ["math/bits.deBruijn64tab"], plainKeys := false, apart := false, laid := [("math/bits.deBruijn64tab", laid_math_bits_deBruijn64tab)], narrowed := true }
def FinalChainUptoSaid : Prop := finalChainUptoRow.holds Tryd.pinned (OpenSpec.upto finalChainSpec)

/-- 'areopaguslaw16.FinalSafe', WHERE WHAT IT READS IS OF BULK AT MOST 1048576: true; the input reads as it did. -/
def finalSafeUptoRow : OpenClaim := { program := "ytdlejnafhmpobaadoor", sum := "d009a105baf041dd99384875d0808c443cfa77388a1d90c4cba621153e334a4f", func := "areopagus/areopaguslaw16.FinalSafe", spec := "finalSafe", unfollowed := true, recurses := true, named := ["math/bits.deBruijn64tab"], plainKeys := false, apart := false, laid := [("math/bits.deBruijn64tab", laid_math_bits_deBruijn64tab)], narrowed := true }
def FinalSafeUptoSaid : Prop := finalSafeUptoRow.holds Tryd.pinned (OpenSpec.upto finalSafeSpec)

end Rows
end Go.Proofs.YtdlejnafhmpobaaDoor
