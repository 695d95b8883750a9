/- What the arguments of the rows of layer 15 are. -/
import Derived.Test.YtjahbgcdplngcaaLkE
import Derived.WalkKit
import Derived.ProofKit
import Derived.OpenShut
set_option linter.unusedSimpArgs false
namespace Go.Proofs.Ytjahbgcdplngcaa
open Go Go.Ab Go.ChangeShapes Go.WideShapes Go.ChangeAt Go.RowKit

theorem own : ownKnob Try.prog.godebug = none := by kernel_rfl
theorem laidOut : laidOutB Try.prog = true := by kernel_rfl

theorem u64_of {m : Nat} {x : AV} (h : hasT Try.prog (m + 1) 23 x) : ∃ n : Int, x = .int .u64 n ∧ (0 ≤ n ∧ n < 18446744073709551616) := by
  unfold hasT at h
  rw [Try.underlying23] at h
  obtain ⟨i, rfl, hw⟩ := h
  refine ⟨i, rfl, ?_⟩
  simp [Lit.wf, IntKind.min, IntKind.max, IntKind.signed, IntKind.bits] at hw
  omega
theorem int_of {m : Nat} {x : AV} (h : hasT Try.prog (m + 1) 3 x) : ∃ n : Int, x = .int .i64 n := by
  unfold hasT at h
  rw [Try.underlying3] at h
  obtain ⟨i, rfl, hw⟩ := h
  exact ⟨i, rfl⟩
theorem root_of {m : Nat} {x : AV} (h : hasT Try.prog (m + 1) 25 x) : ∃ r : Root, x = .root r := by
  unfold hasT at h
  rw [Try.underlying25] at h
  simp only at h
  rw [if_pos (by kernel_rfl)] at h
  exact h
theorem check_of {m : Nat} {x : AV} (h : hasT Try.prog (m + 2) 27 x) : ∃ c : Check, x = c.av ∧ (0 ≤ c.epoch ∧ c.epoch < 18446744073709551616) := by
  unfold hasT at h
  rw [Try.underlying27] at h
  obtain ⟨xs, rfl, hl, hf⟩ := h
  match xs, hl with
  | [e, r], _ =>
    obtain ⟨n, rfl, h0⟩ := u64_of (hf 0 _ e rfl rfl)
    obtain ⟨q, rfl⟩ := root_of (hf 1 _ r rfl rfl)
    exact ⟨⟨n, q⟩, rfl, h0⟩
def Link.wf (a : Link) : Prop := (0 ≤ a.s.epoch ∧ a.s.epoch < 18446744073709551616) ∧ (0 ≤ a.t.epoch ∧ a.t.epoch < 18446744073709551616) ∧ (0 ≤ a.mask ∧ a.mask < 18446744073709551616)
theorem link_of {m : Nat} {x : AV} (h : hasT Try.prog (m + 3) 36 x) : ∃ a : Link, x = a.av ∧ a.wf := by
  unfold hasT at h
  rw [Try.underlying36] at h
  obtain ⟨xs, rfl, hl, hf⟩ := h
  match xs, hl with
  | [s, t, k], _ =>
    obtain ⟨s, rfl, h1⟩ := check_of (hf 0 _ s rfl rfl)
    obtain ⟨t, rfl, h2⟩ := check_of (hf 1 _ t rfl rfl)
    obtain ⟨k, rfl, h3⟩ := u64_of (hf 2 _ k rfl rfl)
    exact ⟨⟨s, t, k⟩, rfl, h1, h2, h3⟩
theorem links_of {m : Nat} {x : AV} (h : hasT Try.prog (m + 4) 22 x) : ∃ l : List Link, x = links l ∧ ∀ a ∈ l, a.wf := by
  unfold hasT at h
  rw [Try.underlying22] at h
  obtain ⟨xs, rfl, hx, hlen⟩ := h
  clear hlen
  induction xs with
  | nil => exact ⟨[], rfl, by simp⟩
  | cons y ys ih =>
    obtain ⟨a, rfl, h0⟩ := link_of (hx y (by simp))
    obtain ⟨l, h1, h2⟩ := ih (fun z hz => hx z (by simp [hz]))
    simp only [links, AV.sl.injEq, and_true] at h1
    refine ⟨a :: l, by rw [links, List.map_cons, h1], fun b hb => ?_⟩
    rcases List.mem_cons.1 hb with rfl | hb
    · exact h0
    · exact h2 b hb
