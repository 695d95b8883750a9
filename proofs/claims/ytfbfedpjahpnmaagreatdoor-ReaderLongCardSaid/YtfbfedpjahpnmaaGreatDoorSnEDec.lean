/- What the arguments of the rows are: engines, calls. -/
import Derived.Test.YtfbfedpjahpnmaaGreatDoorSnDec
set_option linter.unusedSimpArgs false
set_option maxRecDepth 100000
namespace Go.Proofs.YtfbfedpjahpnmaaGreatDoor
open Go Go.Ab Go.ChangeShapes Go.WideShapes Go.ChangeAt Go.RowKit

theorem bool_of {m : Nat} {x : AV} (h : hasT Tryz.prog (m + 1) 4 x) : ∃ b : Bool, x = .bool b := by
  unfold hasT at h
  rw [Tryz.underlying4] at h
  exact h
theorem byte_of {m : Nat} {x : AV} (h : hasT Tryz.prog (m + 1) 5 x) : ∃ n : UInt8, x = bav n ∧ True := by
  unfold hasT at h
  rw [Tryz.underlying5] at h
  obtain ⟨i, rfl, hw⟩ := h
  simp [Lit.wf, IntKind.min, IntKind.max, IntKind.signed, IntKind.bits] at hw
  refine ⟨UInt8.ofNat i.toNat, ?_, trivial⟩
  unfold bav
  congr 1
  rw [UInt8.toNat_ofNat']
  omega
def Link.wf (a : Link) : Prop := (0 ≤ a.s.epoch ∧ a.s.epoch < 18446744073709551616) ∧ (0 ≤ a.t.epoch ∧ a.t.epoch < 18446744073709551616) ∧ (0 ≤ a.mask ∧ a.mask < 18446744073709551616)
def Att.wf (a : Att) : Prop := (0 ≤ a.slot ∧ a.slot < 18446744073709551616) ∧ (0 ≤ a.source.epoch ∧ a.source.epoch < 18446744073709551616) ∧ (0 ≤ a.target.epoch ∧ a.target.epoch < 18446744073709551616)
theorem call_of {m : Nat} {x : AV} (h : hasT Tryz.prog (m + 3) 43 x) : ∃ c : Ask, x = c.av ∧ (0 ≤ c.slot ∧ c.slot < 18446744073709551616) ∧ c.vals.length ≤ 9223372036854775807 := by
  unfold hasT at h
  rw [Tryz.underlying43] at h
  obtain ⟨xs, rfl, hl, hf⟩ := h
  match xs, hl with
  | [k, r, a, b, s], _ =>
    obtain ⟨k, rfl⟩ := int_of (hf 0 _ k rfl rfl)
    have hn := hf 1 _ r rfl rfl
    unfold hasT at hn
    rw [Tryz.underlying41] at hn
    obtain ⟨ys, rfl, hx, hlen⟩ := hn
    obtain ⟨l, rfl, _⟩ := list_of (fun x => byte_of) ys hx
    obtain ⟨a, rfl⟩ := root_of (hf 2 _ a rfl rfl)
    obtain ⟨b, rfl⟩ := root_of (hf 3 _ b rfl rfl)
    obtain ⟨s, rfl, h0⟩ := u64_of (hf 4 _ s rfl rfl)
    exact ⟨⟨k, l, a, b, s⟩, rfl, h0, by simpa [maxLen] using hlen⟩
end Go.Proofs.YtfbfedpjahpnmaaGreatDoor
