/- What the arguments of the rows of layer 16 are; the table. -/
import Derived.Test.YtdlejnafhmpobaaDoorP5
import Derived.WalkKit
import Derived.ProofKit
import Derived.OpenShut
import Derived.LaidMore
import Derived.LaidLaws
import Derived.Lay
import Derived.SevenTiedAt
import Derived.Test.YtdlejnafhmpobaaDoorRows
set_option linter.unusedSimpArgs false
set_option maxRecDepth 100000
namespace Go.Proofs.YtdlejnafhmpobaaDoor
open Go Go.Ab Go.ChangeShapes Go.WideShapes Go.ChangeAt Go.RowKit

theorem own : ownKnob Tryd.prog.godebug = none := by kernel_rfl
theorem laidOut : laidOutB Tryd.prog = true := by kernel_rfl

theorem u64_of {m : Nat} {x : AV} (h : hasT Tryd.prog (m + 1) 28 x) : ∃ n : Int, x = .int .u64 n ∧ (0 ≤ n ∧ n < 18446744073709551616) := by
  unfold hasT at h
  rw [Tryd.underlying28] at h
  obtain ⟨i, rfl, hw⟩ := h
  refine ⟨i, rfl, ?_⟩
  simp [Lit.wf, IntKind.min, IntKind.max, IntKind.signed, IntKind.bits] at hw
  omega
theorem int_of {m : Nat} {x : AV} (h : hasT Tryd.prog (m + 1) 3 x) : ∃ n : Int, x = .int .i64 n := by
  unfold hasT at h
  rw [Tryd.underlying3] at h
  obtain ⟨i, rfl, hw⟩ := h
  exact ⟨i, rfl⟩
theorem root_of {m : Nat} {x : AV} (h : hasT Tryd.prog (m + 1) 30 x) : ∃ r : Root, x = .root r := by
  unfold hasT at h
  rw [Tryd.underlying30] at h
  simp only at h
  rw [if_pos (by kernel_rfl)] at h
  exact h
theorem check_of {m : Nat} {x : AV} (h : hasT Tryd.prog (m + 2) 32 x) : ∃ c : Check, x = c.av ∧ (0 ≤ c.epoch ∧ c.epoch < 18446744073709551616) := by
  unfold hasT at h
  rw [Tryd.underlying32] at h
  obtain ⟨xs, rfl, hl, hf⟩ := h
  match xs, hl with
  | [e, r], _ =>
    obtain ⟨n, rfl, h0⟩ := u64_of (hf 0 _ e rfl rfl)
    obtain ⟨q, rfl⟩ := root_of (hf 1 _ r rfl rfl)
    exact ⟨⟨n, q⟩, rfl, h0⟩
def Link.wf (a : Link) : Prop := (0 ≤ a.s.epoch ∧ a.s.epoch < 18446744073709551616) ∧ (0 ≤ a.t.epoch ∧ a.t.epoch < 18446744073709551616) ∧ (0 ≤ a.mask ∧ a.mask < 18446744073709551616)
theorem link_of {m : Nat} {x : AV} (h : hasT Tryd.prog (m + 3) 59 x) : ∃ a : Link, x = a.av ∧ a.wf := by
  unfold hasT at h
  rw [Tryd.underlying59] at h
  obtain ⟨xs, rfl, hl, hf⟩ := h
  match xs, hl with
  | [s, t, k], _ =>
    obtain ⟨s, rfl, h1⟩ := check_of (hf 0 _ s rfl rfl)
    obtain ⟨t, rfl, h2⟩ := check_of (hf 1 _ t rfl rfl)
    obtain ⟨k, rfl, h3⟩ := u64_of (hf 2 _ k rfl rfl)
    exact ⟨⟨s, t, k⟩, rfl, h1, h2, h3⟩
theorem list_of {α : Type} {f : α → AV} {P : AV → Prop} {W : α → Prop} (hP : ∀ x, P x → ∃ a, x = f a ∧ W a) : ∀ xs : List AV, (∀ x ∈ xs, P x) → ∃ l : List α, xs = l.map f ∧ ∀ a ∈ l, W a
  | [], _ => ⟨[], rfl, fun a ha => by cases ha⟩
  | y :: ys, h => by
    obtain ⟨a, rfl, h0⟩ := hP y (h y (by simp))
    obtain ⟨l, rfl, h1⟩ := list_of hP ys fun z hz => h z (by simp [hz])
    refine ⟨a :: l, rfl, fun b hb => ?_⟩
    rcases List.mem_cons.1 hb with rfl | hb
    · exact h0
    · exact h1 b hb
theorem links_of {m : Nat} {x : AV} (h : hasT Tryd.prog (m + 4) 25 x) : ∃ l : List Link, x = links l ∧ (okL l ∧ okC l) := by
  unfold hasT at h
  rw [Tryd.underlying25] at h
  obtain ⟨xs, rfl, hx, _⟩ := h
  obtain ⟨l, rfl, hl⟩ := list_of (fun x => link_of) xs hx
  exact ⟨l, rfl, fun a ha => (hl a ha).2.2, fun a ha => ⟨(hl a ha).1.1, (hl a ha).2.1.1, (hl a ha).1.2, (hl a ha).2.1.2⟩⟩
theorem checks_of {m : Nat} {x : AV} (h : hasT Tryd.prog (m + 3) 27 x) : ∃ l : List Check, x = checks l := by
  unfold hasT at h
  rw [Tryd.underlying27] at h
  obtain ⟨xs, rfl, hx, _⟩ := h
  obtain ⟨l, rfl, _⟩ := list_of (fun x => check_of) xs hx
  exact ⟨l, rfl⟩
theorem bal_of {m : Nat} {x : AV} (h : hasT Tryd.prog (m + 2) 26 x) : ∃ l : List Int, x = u64s l ∧ (okB l ∧ l.length ≤ 9223372036854775807) := by
  unfold hasT at h
  rw [Tryd.underlying26] at h
  obtain ⟨xs, rfl, hx, hlen⟩ := h
  obtain ⟨l, rfl, hl⟩ := list_of (f := uav) (fun x => u64_of) xs hx
  exact ⟨l, rfl, fun a ha => (hl a ha).1, by simpa [maxLen] using hlen⟩
theorem node_of {m : Nat} {x : AV} (h : hasT Tryd.prog (m + 2) 89 x) : ∃ n : Node, x = n.av ∧ True := by
  unfold hasT at h
  rw [Tryd.underlying89] at h
  obtain ⟨xs, rfl, hl, hf⟩ := h
  match xs, hl with
  | [r, p, s, j], _ =>
    obtain ⟨r, rfl⟩ := root_of (hf 0 _ r rfl rfl)
    obtain ⟨p, rfl⟩ := int_of (hf 1 _ p rfl rfl)
    obtain ⟨s, rfl, _⟩ := u64_of (hf 2 _ s rfl rfl)
    obtain ⟨j, rfl, _⟩ := u64_of (hf 3 _ j rfl rfl)
    exact ⟨⟨r, p, s, j⟩, rfl, trivial⟩
theorem tree_of {m : Nat} {x : AV} (h : hasT Tryd.prog (m + 4) 24 x) : ∃ t : List Node, x = tav t := by
  unfold hasT at h
  rw [Tryd.underlying24] at h
  obtain ⟨xs, rfl, hl, hf⟩ := h
  match xs, hl with
  | [n], _ =>
    have hn := hf 0 _ n rfl rfl
    unfold hasT at hn
    rw [Tryd.underlying22] at hn
    obtain ⟨ys, rfl, hx, _⟩ := hn
    obtain ⟨l, rfl, _⟩ := list_of (fun x => node_of) ys hx
    exact ⟨l, rfl⟩

def theLaid : List (String × DataW Unit) := [("math/bits.deBruijn64tab", Rows.laid_math_bits_deBruijn64tab)]
theorem laid_tab : (Rows.laid_math_bits_deBruijn64tab : DataW Unit) = Lib.tabData .u8 tabN := rfl
theorem htab (W : World) (h : laidMet Tryd.prog theLaid W) : Rep ⟨id, fun _ => False, fun b => b < W.heap.size, W⟩ (.ref tabV) [.pointer (some ⟨0, 0, none⟩)] := by
  unfold theLaid at h
  rw [laid_tab] at h
  exact tab_laid (P := Tryd.prog) (name := "math/bits.deBruijn64tab") (zs := tabN) (t := 125) (e := 5) (n := 64) (by kernel_rfl) (by kernel_rfl) Tryd.underlying125 Tryd.underlying5 (by kernel_rfl) (by kernel_rfl) (by decide) h

end Go.Proofs.YtdlejnafhmpobaaDoor
