/- What the arguments of the rows of layer 3 are. -/
import Derived.Test.YtpcegpfbmmgbbaaWiI
import Derived.WalkKit
import Derived.ProofKit
import Derived.OpenShut
set_option linter.unusedSimpArgs false
namespace Go.Proofs.Ytpcegpfbmmgbbaa
open Go Go.Ab Go.ChangeShapes Go.WideShapes Go.ChangeAt Go.RowKit

theorem own : ownKnob Try.prog.godebug = none := by kernel_rfl
theorem laidOut : laidOutB Try.prog = true := by kernel_rfl

theorem u64_of {m : Nat} {x : AV} (h : hasT Try.prog (m + 1) 24 x) : ∃ n : Int, x = .int .u64 n ∧ (0 ≤ n ∧ n < 2 ^ 64) := by
  unfold hasT at h
  rw [Try.underlying24] at h
  obtain ⟨i, rfl, hw⟩ := h
  refine ⟨i, rfl, ?_⟩
  simp [Lit.wf, IntKind.min, IntKind.max, IntKind.signed, IntKind.bits] at hw
  omega
theorem u8_of {m : Nat} {x : AV} (h : hasT Try.prog (m + 1) 5 x) : ∃ n : UInt8, x = bav n := by
  unfold hasT at h
  rw [Try.underlying5] at h
  obtain ⟨i, rfl, hw⟩ := h
  simp [Lit.wf, IntKind.min, IntKind.max, IntKind.signed, IntKind.bits] at hw
  refine ⟨UInt8.ofNat i.toNat, ?_⟩
  have e : (UInt8.ofNat i.toNat).toNat = i.toNat := by
    rw [UInt8.toNat_ofNat']
    exact Nat.mod_eq_of_lt (by omega)
  rw [bav, e, Int.toNat_of_nonneg hw.1]
theorem int_of {m : Nat} {x : AV} (h : hasT Try.prog (m + 1) 3 x) : ∃ n : Int, x = .int .i64 n := by
  unfold hasT at h
  rw [Try.underlying3] at h
  obtain ⟨i, rfl, hw⟩ := h
  exact ⟨i, rfl⟩
theorem root_of {m : Nat} {x : AV} (h : hasT Try.prog (m + 1) 23 x) : ∃ r : Root, x = .root r := by
  unfold hasT at h
  rw [Try.underlying23] at h
  simp only at h
  rw [if_pos (by kernel_rfl)] at h
  exact h
theorem check_of {m : Nat} {x : AV} (h : hasT Try.prog (m + 2) 28 x) : ∃ c : Check, x = c.av ∧ (0 ≤ c.epoch ∧ c.epoch < 2 ^ 64) := by
  unfold hasT at h
  rw [Try.underlying28] at h
  obtain ⟨xs, rfl, hl, hf⟩ := h
  match xs, hl with
  | [e, r], _ =>
    obtain ⟨n, rfl, h0⟩ := u64_of (hf 0 _ e rfl rfl)
    obtain ⟨q, rfl⟩ := root_of (hf 1 _ r rfl rfl)
    exact ⟨⟨n, q⟩, rfl, h0⟩
theorem block_of {m : Nat} {x : AV} (h : hasT Try.prog (m + 2) 26 x) : ∃ b : Block, x = b.av ∧ b.Ok := by
  unfold hasT at h
  rw [Try.underlying26] at h
  obtain ⟨xs, rfl, hl, hf⟩ := h
  match xs, hl with
  | [r, p, s, j], _ =>
    obtain ⟨r, rfl⟩ := root_of (hf 0 _ r rfl rfl)
    obtain ⟨p, rfl⟩ := root_of (hf 1 _ p rfl rfl)
    obtain ⟨s, rfl, h1⟩ := u64_of (hf 2 _ s rfl rfl)
    obtain ⟨j, rfl, h2⟩ := u64_of (hf 3 _ j rfl rfl)
    exact ⟨⟨r, p, s, j⟩, rfl, h1, h2⟩
theorem att_of {m : Nat} {x : AV} (h : hasT Try.prog (m + 3) 30 x) : ∃ a : Att, x = a.av ∧ a.Ok := by
  unfold hasT at h
  rw [Try.underlying30] at h
  obtain ⟨xs, rfl, hl, hf⟩ := h
  match xs, hl with
  | [v, s, r, c, d], _ =>
    obtain ⟨v, rfl⟩ := int_of (hf 0 _ v rfl rfl)
    obtain ⟨s, rfl, h1⟩ := u64_of (hf 1 _ s rfl rfl)
    obtain ⟨r, rfl⟩ := root_of (hf 2 _ r rfl rfl)
    obtain ⟨c, rfl, h2⟩ := check_of (hf 3 _ c rfl rfl)
    obtain ⟨d, rfl, h3⟩ := check_of (hf 4 _ d rfl rfl)
    exact ⟨⟨v, s, r, c, d⟩, rfl, h1, h2, h3⟩
theorem bytes_of {m : Nat} {x : AV} (h : hasT Try.prog (m + 2) 31 x) : ∃ l : List UInt8, x = .sl (l.map bav) false := by
  unfold hasT at h
  rw [Try.underlying31] at h
  obtain ⟨xs, rfl, hx, hlen⟩ := h
  clear hlen
  induction xs with
  | nil => exact ⟨[], rfl⟩
  | cons y ys ih =>
    obtain ⟨a, rfl⟩ := u8_of (hx y (by simp))
    obtain ⟨l, h1⟩ := ih (fun z hz => hx z (by simp [hz]))
    simp only [AV.sl.injEq, and_true] at h1
    exact ⟨a :: l, by rw [List.map_cons, h1]⟩
