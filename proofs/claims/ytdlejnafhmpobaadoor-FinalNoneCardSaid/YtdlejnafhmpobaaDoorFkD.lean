/- Links that may be, who attested one, and one more that is attested. -/
import Derived.Test.YtdlejnafhmpobaaDoorFkC
set_option linter.unusedSimpArgs false
set_option maxRecDepth 10000
namespace Go.Proofs.YtdlejnafhmpobaaDoor
open Go Go.Ab

@[go_sem] theorem und64 : Tryd.prog.underlying 80 = some (.map 99 3) := Tryd.underlying80

theorem look_spec {l : List Link} {n : Nat} {k : LKey} {i : Nat} (h : llook (placesTo l n) k = some i) : i < n ∧ ∃ hi : i < l.length, keyOf l[i] = k := by
  induction n with
  | zero => simp [placesTo, llook] at h
  | succ n ih =>
    by_cases hn : n < l.length
    · rw [placesTo_next hn rfl] at h
      split at h
      · obtain ⟨h1, h2⟩ := ih h
        exact ⟨by omega, h2⟩
      · unfold llook at h
        rw [List.find?_append] at h
        cases hq : (placesTo l n).find? fun e => decide (k = e.1) with
        | some e =>
          rw [hq] at h
          have h' : llook (placesTo l n) k = some i := by unfold llook; rw [hq]; simpa using h
          obtain ⟨h1, h2⟩ := ih h'
          exact ⟨by omega, h2⟩
        | none =>
          rw [hq] at h
          by_cases hk : k = keyOf l[n]
          · simp [hk] at h
            subst h
            exact ⟨by omega, hn, hk.symm⟩
          · simp [hk] at h
    · have e : placesTo l (n + 1) = placesTo l n := by rw [placesTo, List.getElem?_eq_none (by omega)]
      rw [e] at h
      obtain ⟨h1, h2⟩ := ih h
      exact ⟨by omega, h2⟩

def lmayB (l : List Link) : Bool := decide (l.length ≤ 16) && (!l.any odd && decide ((places l).length = l.length))

theorem LMay_pure (l : List Link) : Pure Tryd.prog 26 [links l] (.bool (lmayB l)) := by
  unfold links
  refine pure_of_tr Tryd.func26 rfl (Nat.le_of_ble_eq_true rfl) rfl fun E hE hP => ?_
  first | refine tr_seq_region (by rw [hE]; rfl) ?_ | (refine Tr.seq ?_; refine tr_seq_region (by rw [hE]; rfl) ?_)
  repeat (refine vc_op rfl ?_; simp only [go_sem, seval])
  refine vc_nil ?_
  by_cases h : l.length ≤ 16
  · have h1 : decide ((l.length : Int) ≤ 16) = true := decide_eq_true (by omega)
    cases h2 : l.any odd with
    | true =>
      have hm : lmayB l = false := by simp only [lmayB, h2]; simp
      first | apply tr_m (by rw [hE]; rfl) | (refine Tr.seq ?_; apply tr_m (by rw [hE]; rfl))
      intro Q hQ
      simp only [List.toList_toArray, List.map_cons, List.map_nil, mo, guardSlot, Option.map_some, Option.map_none, List.getElem?_toArray, List.getElem?_cons_succ, List.getElem?_cons_zero, Option.bind_some]
      iterate 4 ((refine vm_op ?_); intro r hr; simp only [h1, go_sem, seval]; subst hr)
      (first | refine vm_if rfl ?_ | refine vm_no rfl ?_ | refine vm_skip rfl ?_); intro r hr; simp only [h1, go_sem, seval]; subst hr
      (first | refine vm_if rfl ?_ | refine vm_no rfl ?_ | refine vm_skip rfl ?_); intro r hr; simp only [h1, go_sem, seval]
      refine call_fn rfl rfl rfl rfl (enters_of Tryd.func48 (by kernel_rfl) rfl) (LContains_pure l (by omega)) rfl rfl rfl ?_
      simp only [go_sem, seval]
      subst hr
      (first | refine vm_if rfl ?_ | refine vm_no rfl ?_ | refine vm_skip rfl ?_); intro r hr; simp only [h2, go_sem, seval]; subst hr
      iterate 2 ((refine vm_op ?_); intro r hr; simp only [h2, go_sem, seval]; subst hr)
      iterate 6 ((first | refine vm_if rfl ?_ | refine vm_no rfl ?_ | refine vm_skip rfl ?_); intro r hr; simp only [h2, go_sem, seval]; subst hr)
      iterate 2 ((refine vm_op ?_); intro r hr; simp only [h2, go_sem, seval]; subst hr)
      exact hQ
      refine Tr.ret ?_
      simp only [hm, Tryd.f26, go_sem, seval]
    | false =>
      have hm : lmayB l = decide (((places l).length : Int) = l.length) := by simp only [lmayB, h2, h]; simp; omega
      first | apply tr_m (by rw [hE]; rfl) | (refine Tr.seq ?_; apply tr_m (by rw [hE]; rfl))
      intro Q hQ
      simp only [List.toList_toArray, List.map_cons, List.map_nil, mo, guardSlot, Option.map_some, Option.map_none, List.getElem?_toArray, List.getElem?_cons_succ, List.getElem?_cons_zero, Option.bind_some]
      iterate 4 ((refine vm_op ?_); intro r hr; simp only [h1, go_sem, seval]; subst hr)
      (first | refine vm_if rfl ?_ | refine vm_no rfl ?_ | refine vm_skip rfl ?_); intro r hr; simp only [h1, go_sem, seval]; subst hr
      (first | refine vm_if rfl ?_ | refine vm_no rfl ?_ | refine vm_skip rfl ?_); intro r hr; simp only [h1, go_sem, seval]
      refine call_fn rfl rfl rfl rfl (enters_of Tryd.func48 (by kernel_rfl) rfl) (LContains_pure l (by omega)) rfl rfl rfl ?_
      simp only [go_sem, seval]
      subst hr
      (first | refine vm_if rfl ?_ | refine vm_no rfl ?_ | refine vm_skip rfl ?_); intro r hr; simp only [h2, go_sem, seval]; subst hr
      iterate 2 ((refine vm_op ?_); intro r hr; simp only [h2, go_sem, seval]; subst hr)
      (first | refine vm_if rfl ?_ | refine vm_no rfl ?_ | refine vm_skip rfl ?_); intro r hr; simp only [h2, go_sem, seval]; subst hr
      (first | refine vm_if rfl ?_ | refine vm_no rfl ?_ | refine vm_skip rfl ?_); intro r hr; simp only [h2, go_sem, seval]
      refine call_own rfl rfl rfl rfl (enters_of Tryd.func50 (by kernel_rfl) rfl) (places_own l (by omega)) rfl rfl ?_
      simp only [go_sem, seval]
      subst hr
      iterate 4 ((first | refine vm_if rfl ?_ | refine vm_no rfl ?_ | refine vm_skip rfl ?_); intro r hr; simp only [go_sem, seval]; subst hr)
      iterate 2 ((refine vm_op ?_); intro r hr; simp only [go_sem, seval]; subst hr)
      exact hQ
      refine Tr.ret ?_
      simp only [hm, Tryd.f26, go_sem, seval]
  · have h1 : decide ((l.length : Int) ≤ 16) = false := decide_eq_false (by omega)
    have hm : lmayB l = false := by simp [lmayB, h]
    first | apply tr_m (by rw [hE]; rfl) | (refine Tr.seq ?_; apply tr_m (by rw [hE]; rfl))
    intro Q hQ
    simp only [List.toList_toArray, List.map_cons, List.map_nil, mo, guardSlot, Option.map_some, Option.map_none, List.getElem?_toArray, List.getElem?_cons_succ, List.getElem?_cons_zero, Option.bind_some]
    iterate 4 ((refine vm_op ?_); intro r hr; simp only [h1, go_sem, seval]; subst hr)
    iterate 3 ((first | refine vm_if rfl ?_ | refine vm_no rfl ?_ | refine vm_skip rfl ?_); intro r hr; simp only [h1, go_sem, seval]; subst hr)
    iterate 2 ((refine vm_op ?_); intro r hr; simp only [h1, go_sem, seval]; subst hr)
    iterate 6 ((first | refine vm_if rfl ?_ | refine vm_no rfl ?_ | refine vm_skip rfl ?_); intro r hr; simp only [h1, go_sem, seval]; subst hr)
    iterate 2 ((refine vm_op ?_); intro r hr; simp only [h1, go_sem, seval]; subst hr)
    exact hQ
    refine Tr.ret ?_
    simp only [hm, Tryd.f26, go_sem, seval]
