/- What the rows' arguments are. -/
import Derived.Test.YtjahbgcdplngcaaLtE
import Derived.WalkKit
import Derived.ProofKit
import Derived.OpenShut
set_option linter.unusedSimpArgs false
namespace Go.Proofs.Ytjahbgcdplngcaa
open Go Go.Ab Go.ChangeShapes Go.WideShapes Go.ChangeAt Go.RowKit

theorem own : ownKnob Try.prog.godebug = none := by kernel_rfl
theorem laidOut : laidOutB Try.prog = true := by kernel_rfl

theorem u64_of {m : Nat} {x : AV} (h : hasT Try.prog (m + 1) 23 x) : ∃ n : Int, x = .int .u64 n ∧ 0 ≤ n := by
  unfold hasT at h
  rw [Try.underlying23] at h
  obtain ⟨i, rfl, hw⟩ := h
  refine ⟨i, rfl, ?_⟩
  simp [Lit.wf, IntKind.min, IntKind.signed] at hw
  omega
theorem int_of {m : Nat} {x : AV} (h : hasT Try.prog (m + 1) 3 x) : ∃ n : Int, x = .int .i64 n := by
  unfold hasT at h
  rw [Try.underlying3] at h
  obtain ⟨i, rfl, hw⟩ := h
  exact ⟨i, rfl⟩
theorem root_of {m : Nat} {x : AV} (h : hasT Try.prog (m + 1) 25 x) : ∃ r : Root, x = .root r := by
  unfold hasT at h
  rw [Try.underlying25] at h
  simp only at h
  rw [if_pos (by kernel_rfl)] at h
  exact h
theorem check_of {m : Nat} {x : AV} (h : hasT Try.prog (m + 2) 27 x) : ∃ c : Check, x = c.av := by
  unfold hasT at h
  rw [Try.underlying27] at h
  obtain ⟨xs, rfl, hl, hf⟩ := h
  match xs, hl with
  | [e, r], _ =>
    obtain ⟨n, rfl, _⟩ := u64_of (hf 0 _ e rfl rfl)
    obtain ⟨q, rfl⟩ := root_of (hf 1 _ r rfl rfl)
    exact ⟨⟨n, q⟩, rfl⟩
theorem att_of {m : Nat} {x : AV} (h : hasT Try.prog (m + 3) 47 x) : ∃ a : Att, x = a.av ∧ 0 ≤ a.slot := by
  unfold hasT at h
  rw [Try.underlying47] at h
  obtain ⟨xs, rfl, hl, hf⟩ := h
  match xs, hl with
  | [v, s, r, c, d], _ =>
    obtain ⟨v, rfl⟩ := int_of (hf 0 _ v rfl rfl)
    obtain ⟨s, rfl, h0⟩ := u64_of (hf 1 _ s rfl rfl)
    obtain ⟨r, rfl⟩ := root_of (hf 2 _ r rfl rfl)
    obtain ⟨c, rfl⟩ := check_of (hf 3 _ c rfl rfl)
    obtain ⟨d, rfl⟩ := check_of (hf 4 _ d rfl rfl)
    exact ⟨⟨v, s, r, c, d⟩, rfl, h0⟩
theorem atts_of {m : Nat} {x : AV} (h : hasT Try.prog (m + 4) 45 x) : ∃ l : List Att, x = atts l ∧ ∀ a ∈ l, 0 ≤ a.slot := by
  unfold hasT at h
  rw [Try.underlying45] at h
  obtain ⟨xs, rfl, hx, hlen⟩ := h
  clear hlen
  induction xs with
  | nil => exact ⟨[], rfl, by simp⟩
  | cons y ys ih =>
    obtain ⟨a, rfl, h0⟩ := att_of (hx y (by simp))
    obtain ⟨l, h1, h2⟩ := ih (fun z hz => hx z (by simp [hz]))
    simp only [atts, AV.sl.injEq, and_true] at h1
    refine ⟨a :: l, by rw [atts, List.map_cons, h1], fun b hb => ?_⟩
    rcases List.mem_cons.1 hb with rfl | hb
    · exact h0
    · exact h2 b hb

