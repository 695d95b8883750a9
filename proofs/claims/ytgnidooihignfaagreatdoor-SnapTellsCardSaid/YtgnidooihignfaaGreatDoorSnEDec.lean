/- What the arguments of the rows are: engines, calls. -/
import Derived.Test.YtgnidooihignfaaGreatDoorSnDec
set_option linter.unusedSimpArgs false
set_option maxRecDepth 100000
namespace Go.Proofs.YtgnidooihignfaaGreatDoor
open Go Go.Ab Go.ChangeShapes Go.WideShapes Go.ChangeAt Go.RowKit
theorem bool_of {m : Nat} {x : AV} (h : hasT Tryz.prog (m + 1) 4 x) : ∃ b : Bool, x = .bool b := by
 unfold hasT at h
 rw [Tryz.underlying4] at h
 exact h
theorem byte_of {m : Nat} {x : AV} (h : hasT Tryz.prog (m + 1) 5 x) : ∃ n : UInt8, x = bav n ∧ True := by
 unfold hasT at h
 rw [Tryz.underlying5] at h
 obtain ⟨i, rfl, hw⟩ := h
 simp [Lit.wf, IntKind.min, IntKind.max, IntKind.signed, IntKind.bits] at hw
 refine ⟨UInt8.ofNat i.toNat, ?_, trivial⟩
 unfold bav
 congr 1
 rw [UInt8.toNat_ofNat']
 omega
def Link.wf (a : Link) : Prop := (0 ≤ a.s.epoch ∧ a.s.epoch < 18446744073709551616) ∧ (0 ≤ a.t.epoch ∧ a.t.epoch < 18446744073709551616) ∧ (0 ≤ a.mask ∧ a.mask < 18446744073709551616)
theorem link_of {m : Nat} {x : AV} (h : hasT Tryz.prog (m + 3) 149 x) : ∃ a : Link, x = a.av ∧ a.wf := by
 unfold hasT at h
 rw [Tryz.underlying149] at h
 obtain ⟨xs, rfl, hl, hf⟩ := h
 match xs, hl with
 | [s, t, k], _ =>
   obtain ⟨s, rfl, h1⟩ := check_of (hf 0 _ s rfl rfl)
   obtain ⟨t, rfl, h2⟩ := check_of (hf 1 _ t rfl rfl)
   obtain ⟨k, rfl, h3⟩ := u64_of (hf 2 _ k rfl rfl)
   exact ⟨⟨s, t, k⟩, rfl, h1, h2, h3⟩
theorem links_of {m : Nat} {x : AV} (h : hasT Tryz.prog (m + 4) 31 x) : ∃ l : List Link, x = links l ∧ (okL l ∧ okC l) := by
 unfold hasT at h
 rw [Tryz.underlying31] at h
 obtain ⟨xs, rfl, hx, _⟩ := h
 obtain ⟨l, rfl, hl⟩ := list_of (fun x => link_of) xs hx
 exact ⟨l, rfl, fun a ha => (hl a ha).2.2, fun a ha => ⟨(hl a ha).1.1, (hl a ha).2.1.1, (hl a ha).1.2, (hl a ha).2.1.2⟩⟩
theorem checks_of {m : Nat} {x : AV} (h : hasT Tryz.prog (m + 3) 32 x) : ∃ l : List Check, x = checks l := by
 unfold hasT at h
 rw [Tryz.underlying32] at h
 obtain ⟨xs, rfl, hx, _⟩ := h
 obtain ⟨l, rfl, _⟩ := list_of (fun x => check_of) xs hx
 exact ⟨l, rfl⟩
theorem bal_of {m : Nat} {x : AV} (h : hasT Tryz.prog (m + 2) 25 x) : ∃ l : List Int, x = u64s l ∧ okB l := by
 unfold hasT at h
 rw [Tryz.underlying25] at h
 obtain ⟨xs, rfl, hx, hlen⟩ := h
 obtain ⟨l, rfl, hl⟩ := list_of (f := uav) (fun x => u64_of) xs hx
 exact ⟨l, rfl, fun a ha => (hl a ha).1⟩
theorem latest_of {m : Nat} {x : AV} (h : hasT Tryz.prog (m + 2) 146 x) : ∃ a : Latest, x = a.av ∧ (0 ≤ a.epoch ∧ a.epoch < 18446744073709551616) := by
 unfold hasT at h
 rw [Tryz.underlying146] at h
 obtain ⟨xs, rfl, hl, hf⟩ := h
 match xs, hl with
 | [b, r, e], _ =>
   obtain ⟨b, rfl⟩ := bool_of (hf 0 _ b rfl rfl)
   obtain ⟨r, rfl⟩ := root_of (hf 1 _ r rfl rfl)
   obtain ⟨e, rfl, h0⟩ := u64_of (hf 2 _ e rfl rfl)
   exact ⟨⟨b, r, e⟩, rfl, h0⟩
theorem votes_of {m : Nat} {x : AV} (h : hasT Tryz.prog (m + 4) 29 x) : ∃ (l : List Latest) (o : Int), x = vav l o ∧ (∀ a ∈ l, 0 ≤ a.epoch ∧ a.epoch < 18446744073709551616) ∧ (0 ≤ o ∧ o < 18446744073709551616) := by
 unfold hasT at h
 rw [Tryz.underlying29] at h
 obtain ⟨xs, rfl, hl, hf⟩ := h
 match xs, hl with
 | [n, o], _ =>
   have hn := hf 0 _ n rfl rfl
   unfold hasT at hn
   rw [Tryz.underlying26] at hn
   obtain ⟨ys, rfl, hx, _⟩ := hn
   obtain ⟨l, rfl, h⟩ := list_of (fun x => latest_of) ys hx
   obtain ⟨o, rfl, h0⟩ := u64_of (hf 1 _ o rfl rfl)
   exact ⟨l, o, rfl, h, h0⟩
def Att.wf (a : Att) : Prop := (0 ≤ a.slot ∧ a.slot < 18446744073709551616) ∧ (0 ≤ a.source.epoch ∧ a.source.epoch < 18446744073709551616) ∧ (0 ≤ a.target.epoch ∧ a.target.epoch < 18446744073709551616)
theorem att_of {m : Nat} {x : AV} (h : hasT Tryz.prog (m + 3) 76 x) : ∃ a : Att, x = a.av ∧ a.wf := by
 unfold hasT at h
 rw [Tryz.underlying76] at h
 obtain ⟨xs, rfl, hl, hf⟩ := h
 match xs, hl with
 | [v, s, r, c, t], _ =>
   obtain ⟨v, rfl⟩ := int_of (hf 0 _ v rfl rfl)
   obtain ⟨s, rfl, h1⟩ := u64_of (hf 1 _ s rfl rfl)
   obtain ⟨r, rfl⟩ := root_of (hf 2 _ r rfl rfl)
   obtain ⟨c, rfl, h2⟩ := check_of (hf 3 _ c rfl rfl)
   obtain ⟨t, rfl, h3⟩ := check_of (hf 4 _ t rfl rfl)
   exact ⟨⟨v, s, r, c, t⟩, rfl, h1, h2, h3⟩
theorem atts_of {m : Nat} {x : AV} (h : hasT Tryz.prog (m + 4) 30 x) : ∃ l : List Att, x = atts l ∧ ∀ a ∈ l, a.wf := by
 unfold hasT at h
 rw [Tryz.underlying30] at h
 obtain ⟨xs, rfl, hx, _⟩ := h
 obtain ⟨l, rfl, hl⟩ := list_of (fun x => att_of) xs hx
 exact ⟨l, rfl, hl⟩
theorem call_of {m : Nat} {x : AV} (h : hasT Tryz.prog (m + 3) 43 x) : ∃ c : Ask, x = c.av ∧ (0 ≤ c.slot ∧ c.slot < 18446744073709551616) ∧ c.vals.length ≤ 9223372036854775807 := by
 unfold hasT at h
 rw [Tryz.underlying43] at h
 obtain ⟨xs, rfl, hl, hf⟩ := h
 match xs, hl with
 | [k, r, a, b, s], _ =>
   obtain ⟨k, rfl⟩ := int_of (hf 0 _ k rfl rfl)
   have hn := hf 1 _ r rfl rfl
   unfold hasT at hn
   rw [Tryz.underlying41] at hn
   obtain ⟨ys, rfl, hx, hlen⟩ := hn
   obtain ⟨l, rfl, _⟩ := list_of (fun x => byte_of) ys hx
   obtain ⟨a, rfl⟩ := root_of (hf 2 _ a rfl rfl)
   obtain ⟨b, rfl⟩ := root_of (hf 3 _ b rfl rfl)
   obtain ⟨s, rfl, h0⟩ := u64_of (hf 4 _ s rfl rfl)
   exact ⟨⟨k, l, a, b, s⟩, rfl, h0, by simpa [maxLen] using hlen⟩
end Go.Proofs.YtgnidooihignfaaGreatDoor
