/- What a tree that may be is like. -/
import Derived.Test.YtdlejnafhmpobaaDoorFbF
set_option linter.unusedSimpArgs false
namespace Go.Proofs.YtdlejnafhmpobaaDoor
open Go Go.Ab

theorem nth_node {t : List Node} {k : Nat} (h : k < t.length) : nth (t.map Node.av) (k : Int) = some (t.getD k zNode).av := by
  rw [nth_map_lt Node.av t k h, List.getD_eq_getElem?_getD, List.getElem?_eq_getElem h]; rfl
theorem may_parent {t : List Node} (h : mayB t = true) {k : Nat} (hk : k < t.length) : ((t.getD k zNode).parent = -1 ∧ k = 0) ∨ (0 ≤ (t.getD k zNode).parent ∧ (t.getD k zNode).parent < k) := by
  unfold mayB at h
  simp only [Bool.and_eq_true] at h
  have := List.all_eq_true.1 h.1.2 k (List.mem_range.2 hk)
  unfold fitsB at this
  rw [List.getElem?_eq_getElem hk] at this
  have e : t.getD k zNode = t[k] := by simp [hk]
  rw [e]
  simp only at this
  split at this
  · rename_i h0
    simp at this
    exact .inl ⟨this.1, h0⟩
  · simp at this
    exact .inr ⟨this.1.1.1, this.1.1.2⟩
theorem may_len {t : List Node} (h : mayB t = true) : 1 ≤ t.length ∧ t.length ≤ 12 := by
  unfold mayB at h
  simp at h
  exact ⟨h.1.1.1, h.1.1.2⟩

