/- What the arguments of the rows of layer 9 are. -/
import Derived.Test.YtpcegpfbmmgbbaaBeA
import Derived.WalkKit
import Derived.ProofKit
import Derived.OpenShut
set_option linter.unusedSimpArgs false
namespace Go.Proofs.Ytpcegpfbmmgbbaa
open Go Go.Ab Go.ChangeShapes Go.WideShapes Go.ChangeAt Go.RowKit

theorem own : ownKnob Try.prog.godebug = none := by kernel_rfl
theorem laidOut : laidOutB Try.prog = true := by kernel_rfl

theorem u64_of {m : Nat} {x : AV} (h : hasT Try.prog (m + 1) 24 x) : ∃ n : Int, x = .int .u64 n := by
  unfold hasT at h
  rw [Try.underlying24] at h
  obtain ⟨i, rfl, _⟩ := h
  exact ⟨i, rfl⟩
theorem int_of {m : Nat} {x : AV} (h : hasT Try.prog (m + 1) 3 x) : ∃ n : Int, x = .int .i64 n := by
  unfold hasT at h
  rw [Try.underlying3] at h
  obtain ⟨i, rfl, hw⟩ := h
  exact ⟨i, rfl⟩
theorem bool_of {m : Nat} {x : AV} (h : hasT Try.prog (m + 1) 4 x) : ∃ b : Bool, x = .bool b := by
  unfold hasT at h
  rw [Try.underlying4] at h
  exact h
theorem root_of {m : Nat} {x : AV} (h : hasT Try.prog (m + 1) 23 x) : ∃ r : Root, x = .root r := by
  unfold hasT at h
  rw [Try.underlying23] at h
  simp only at h
  rw [if_pos (by kernel_rfl)] at h
  exact h
theorem node_of {m : Nat} {x : AV} (h : hasT Try.prog (m + 2) 63 x) : ∃ n : Node, x = n.av := by
  unfold hasT at h
  rw [Try.underlying63] at h
  obtain ⟨xs, rfl, hl, hf⟩ := h
  match xs, hl with
  | [r, p, s, j], _ =>
    obtain ⟨r, rfl⟩ := root_of (hf 0 _ r rfl rfl)
    obtain ⟨p, rfl⟩ := int_of (hf 1 _ p rfl rfl)
    obtain ⟨s, rfl⟩ := u64_of (hf 2 _ s rfl rfl)
    obtain ⟨j, rfl⟩ := u64_of (hf 3 _ j rfl rfl)
    exact ⟨⟨r, p, s, j⟩, rfl⟩
theorem map_of {α : Type} {f : α → AV} {P : AV → Prop} (hP : ∀ x, P x → ∃ a, x = f a) : ∀ xs : List AV, (∀ x ∈ xs, P x) → ∃ l : List α, xs = l.map f
  | [], _ => ⟨[], rfl⟩
  | y :: ys, h => by
    obtain ⟨a, rfl⟩ := hP y (h y (by simp))
    obtain ⟨l, rfl⟩ := map_of hP ys fun z hz => h z (by simp [hz])
    exact ⟨a :: l, rfl⟩
theorem nodes_of {m : Nat} {x : AV} (h : hasT Try.prog (m + 3) 45 x) : ∃ l : List Node, x = .sl (l.map Node.av) false := by
  unfold hasT at h
  rw [Try.underlying45] at h
  obtain ⟨xs, rfl, hx, _⟩ := h
  obtain ⟨l, rfl⟩ := map_of (fun x => node_of) xs hx
  exact ⟨l, rfl⟩
theorem tree_of {m : Nat} {x : AV} (h : hasT Try.prog (m + 4) 47 x) : ∃ t : List Node, x = tav t := by
  unfold hasT at h
  rw [Try.underlying47] at h
  obtain ⟨xs, rfl, hl, hf⟩ := h
  match xs, hl with
  | [n], _ =>
    obtain ⟨l, rfl⟩ := nodes_of (hf 0 _ n rfl rfl)
    exact ⟨l, rfl⟩
theorem weights_of {m : Nat} {x : AV} (h : hasT Try.prog (m + 2) 48 x) : ∃ w : List Int, x = .sl (w.map uav) false := by
  unfold hasT at h
  rw [Try.underlying48] at h
  obtain ⟨xs, rfl, hx, _⟩ := h
  obtain ⟨l, rfl⟩ := map_of (f := uav) (fun x => u64_of) xs hx
  exact ⟨l, rfl⟩
theorem bools_of {m : Nat} {x : AV} (h : hasT Try.prog (m + 2) 49 x) : ∃ b : List Bool, x = .sl (b.map .bool) false := by
  unfold hasT at h
  rw [Try.underlying49] at h
  obtain ⟨xs, rfl, hx, _⟩ := h
  obtain ⟨l, rfl⟩ := map_of (f := AV.bool) (fun x => bool_of) xs hx
  exact ⟨l, rfl⟩
