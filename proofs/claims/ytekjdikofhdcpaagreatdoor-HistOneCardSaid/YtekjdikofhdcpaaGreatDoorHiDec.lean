/- What the arguments of the rows of layer 21 are. -/
import Derived.Test.YtekjdikofhdcpaaGreatDoorP6
import Derived.Test.YtekjdikofhdcpaaGreatDoorSnEDec
set_option linter.unusedSimpArgs false
set_option maxRecDepth 100000
namespace Go.Proofs.YtekjdikofhdcpaaGreatDoor
open Go Go.Ab Go.ChangeShapes Go.WideShapes Go.ChangeAt Go.RowKit
theorem tick_of {m : Nat} {x : AV} (h : hasT Tryz.prog (m + 4) 58 x) : ∃ a : Tick, x = a.av := by
 unfold hasT at h
 rw [Tryz.underlying58] at h
 obtain ⟨xs, rfl, hl, hf⟩ := h
 match xs, hl with
 | [w, c, f, r, i, n, t], _ =>
  obtain ⟨w, rfl⟩ := int_of (hf 0 _ w rfl rfl)
  obtain ⟨c, rfl, _⟩ := call_of (hf 1 _ c rfl rfl)
  obtain ⟨f, rfl⟩ := int_of (hf 2 _ f rfl rfl)
  obtain ⟨r, rfl⟩ := resp_of (hf 3 _ r rfl rfl)
  obtain ⟨i, rfl⟩ := int_of (hf 4 _ i rfl rfl)
  obtain ⟨n, rfl⟩ := int_of (hf 5 _ n rfl rfl)
  obtain ⟨t, rfl⟩ := int_of (hf 6 _ t rfl rfl)
  exact ⟨⟨w, c, f, r, i, n, t⟩, rfl⟩
theorem ticks_of {m : Nat} {x : AV} (h : hasT Tryz.prog (m + 5) 39 x) : ∃ l : List Tick, x = ticks l := by
 unfold hasT at h
 rw [Tryz.underlying39] at h
 obtain ⟨xs, rfl, hx, _⟩ := h
 obtain ⟨l, rfl, _⟩ := list_of (W := fun _ => True) (fun x h => let ⟨a, e⟩ := tick_of h; ⟨a, e, trivial⟩) xs hx
 exact ⟨l, rfl⟩
theorem ints_of {m : Nat} {x : AV} (h : hasT Tryz.prog (m + 2) 40 x) : ∃ o : List Int, x = ints o := by
 unfold hasT at h
 rw [Tryz.underlying40] at h
 obtain ⟨xs, rfl, hx, _⟩ := h
 obtain ⟨l, rfl, _⟩ := list_of (W := fun _ => True) (fun x h => let ⟨a, e⟩ := int_of h; ⟨a, e, trivial⟩) xs hx
 exact ⟨l, rfl⟩
end Go.Proofs.YtekjdikofhdcpaaGreatDoor
