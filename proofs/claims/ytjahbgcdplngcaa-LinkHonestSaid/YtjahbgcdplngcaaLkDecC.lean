/- What lists of checkpoints as arguments are. -/
import Derived.Test.YtjahbgcdplngcaaLkM
import Derived.Test.YtjahbgcdplngcaaLkDec
set_option linter.unusedSimpArgs false
namespace Go.Proofs.Ytjahbgcdplngcaa
open Go Go.Ab Go.ChangeShapes Go.WideShapes Go.ChangeAt Go.RowKit

theorem checks_of {m : Nat} {x : AV} (h : hasT Try.prog (m + 3) 43 x) : ∃ l : List Check, x = checks l ∧ ∀ a ∈ l, 0 ≤ a.epoch ∧ a.epoch < 18446744073709551616 := by
  unfold hasT at h
  rw [Try.underlying43] at h
  obtain ⟨xs, rfl, hx, hlen⟩ := h
  clear hlen
  induction xs with
  | nil => exact ⟨[], rfl, by simp⟩
  | cons y ys ih =>
    obtain ⟨a, rfl, h0⟩ := check_of (hx y (by simp))
    obtain ⟨l, h1, h2⟩ := ih (fun z hz => hx z (by simp [hz]))
    simp only [checks, AV.sl.injEq, and_true] at h1
    refine ⟨a :: l, by rw [checks, List.map_cons, h1], fun b hb => ?_⟩
    rcases List.mem_cons.1 hb with rfl | hb
    · exact h0
    · exact h2 b hb
