/- What the arguments of the rows of layers 18 and 19 are; the table. -/
import Derived.Test.YtgnidooihignfaaGreatDoorP6
import Derived.WalkKit
import Derived.ProofKit
import Derived.OpenShut
import Derived.LaidMore
import Derived.LaidLaws
import Derived.Lay
import Derived.SevenTiedAt
import Derived.Test.YtgnidooihignfaaGreatDoorRows
set_option linter.unusedSimpArgs false
set_option maxRecDepth 100000
namespace Go.Proofs.YtgnidooihignfaaGreatDoor
open Go Go.Ab Go.ChangeShapes Go.WideShapes Go.ChangeAt Go.RowKit
theorem own : ownKnob Tryz.prog.godebug = none := by kernel_rfl
theorem laidOut : laidOutB Tryz.prog = true := by kernel_rfl
theorem u64_of {m : Nat} {x : AV} (h : hasT Tryz.prog (m + 1) 27 x) : ∃ n : Int, x = .int .u64 n ∧ (0 ≤ n ∧ n < 18446744073709551616) := by
 unfold hasT at h
 rw [Tryz.underlying27] at h
 obtain ⟨i, rfl, hw⟩ := h
 refine ⟨i, rfl, ?_⟩
 simp [Lit.wf, IntKind.min, IntKind.max, IntKind.signed, IntKind.bits] at hw
 omega
theorem int_of {m : Nat} {x : AV} (h : hasT Tryz.prog (m + 1) 3 x) : ∃ n : Int, x = .int .i64 n := by
 unfold hasT at h
 rw [Tryz.underlying3] at h
 obtain ⟨i, rfl, hw⟩ := h
 exact ⟨i, rfl⟩
theorem root_of {m : Nat} {x : AV} (h : hasT Tryz.prog (m + 1) 34 x) : ∃ r : Root, x = .root r := by
 unfold hasT at h
 rw [Tryz.underlying34] at h
 simp only at h
 rw [if_pos (by kernel_rfl)] at h
 exact h
theorem check_of {m : Nat} {x : AV} (h : hasT Tryz.prog (m + 2) 36 x) : ∃ c : Check, x = c.av ∧ (0 ≤ c.epoch ∧ c.epoch < 18446744073709551616) := by
 unfold hasT at h
 rw [Tryz.underlying36] at h
 obtain ⟨xs, rfl, hl, hf⟩ := h
 match xs, hl with
 | [e, r], _ =>
   obtain ⟨n, rfl, h0⟩ := u64_of (hf 0 _ e rfl rfl)
   obtain ⟨q, rfl⟩ := root_of (hf 1 _ r rfl rfl)
   exact ⟨⟨n, q⟩, rfl, h0⟩
theorem list_of {α : Type} {f : α → AV} {P : AV → Prop} {W : α → Prop} (hP : ∀ x, P x → ∃ a, x = f a ∧ W a) : ∀ xs : List AV, (∀ x ∈ xs, P x) → ∃ l : List α, xs = l.map f ∧ ∀ a ∈ l, W a
 | [], _ => ⟨[], rfl, fun a ha => by cases ha⟩
 | y :: ys, h => by
   obtain ⟨a, rfl, h0⟩ := hP y (h y (by simp))
   obtain ⟨l, rfl, h1⟩ := list_of hP ys fun z hz => h z (by simp [hz])
   refine ⟨a :: l, rfl, fun b hb => ?_⟩
   rcases List.mem_cons.1 hb with rfl | hb
   · exact h0
   · exact h1 b hb
theorem node_of {m : Nat} {x : AV} (h : hasT Tryz.prog (m + 2) 65 x) : ∃ n : Node, x = n.av ∧ 0 ≤ n.slot := by
 unfold hasT at h
 rw [Tryz.underlying65] at h
 obtain ⟨xs, rfl, hl, hf⟩ := h
 match xs, hl with
 | [r, p, s, j], _ =>
   obtain ⟨r, rfl⟩ := root_of (hf 0 _ r rfl rfl)
   obtain ⟨p, rfl⟩ := int_of (hf 1 _ p rfl rfl)
   obtain ⟨s, rfl, h2⟩ := u64_of (hf 2 _ s rfl rfl)
   obtain ⟨j, rfl, _⟩ := u64_of (hf 3 _ j rfl rfl)
   exact ⟨⟨r, p, s, j⟩, rfl, h2.1⟩
theorem tree_of {m : Nat} {x : AV} (h : hasT Tryz.prog (m + 4) 24 x) : ∃ t : List Node, x = tav t ∧ (∀ n ∈ t, 0 ≤ n.slot) := by
 unfold hasT at h
 rw [Tryz.underlying24] at h
 obtain ⟨xs, rfl, hl, hf⟩ := h
 match xs, hl with
 | [n], _ =>
   have hn := hf 0 _ n rfl rfl
   unfold hasT at hn
   rw [Tryz.underlying22] at hn
   obtain ⟨ys, rfl, hx, _⟩ := hn
   obtain ⟨l, rfl, h⟩ := list_of (fun x => node_of) ys hx
   exact ⟨l, rfl, h⟩
theorem snap_of {m : Nat} {x : AV} (h : hasT Tryz.prog (m + 5) 40 x) : ∃ s : Snap, x = s.av ∧ (∀ n ∈ s.t, 0 ≤ n.slot) := by
 unfold hasT at h
 rw [Tryz.underlying40] at h
 obtain ⟨xs, rfl, hl, hf⟩ := h
 match xs, hl with
 | [v, t, r, j, f], _ =>
   obtain ⟨v, rfl⟩ := int_of (hf 0 _ v rfl rfl)
   obtain ⟨t, rfl, h1⟩ := tree_of (hf 1 _ t rfl rfl)
   obtain ⟨r, rfl⟩ := root_of (hf 2 _ r rfl rfl)
   obtain ⟨j, rfl, _⟩ := check_of (hf 3 _ j rfl rfl)
   obtain ⟨f, rfl, _⟩ := check_of (hf 4 _ f rfl rfl)
   exact ⟨⟨v, t, r, j, f⟩, rfl, h1⟩
def theLaid : List (String × DataW Unit) := [("math/bits.deBruijn64tab", Rows.laid_math_bits_deBruijn64tab)]
theorem laid_tab : (Rows.laid_math_bits_deBruijn64tab : DataW Unit) = Lib.tabData .u8 tabN := rfl
theorem htab (W : World) (h : laidMet Tryz.prog theLaid W) : Rep ⟨id, fun _ => False, fun b => b < W.heap.size, W⟩ (.ref tabV) [.pointer (some ⟨0, 0, none⟩)] := by
 unfold theLaid at h
 rw [laid_tab] at h
 exact tab_laid (P := Tryz.prog) (name := "math/bits.deBruijn64tab") (zs := tabN) (t := 276) (e := 5) (n := 64) (by kernel_rfl) (by kernel_rfl) Tryz.underlying276 Tryz.underlying5 (by kernel_rfl) (by kernel_rfl) (by decide) h
end Go.Proofs.YtgnidooihignfaaGreatDoor
