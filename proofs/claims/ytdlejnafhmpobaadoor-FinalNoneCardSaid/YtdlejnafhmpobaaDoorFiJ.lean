/- Who is behind whom; what is told. -/
import Derived.Test.YtdlejnafhmpobaaDoorFiI
set_option linter.unusedSimpArgs false
set_option maxRecDepth 10000
namespace Go.Proofs.YtdlejnafhmpobaaDoor
open Go Go.Ab

def behindB (t : List Node) (c f : Check) : Bool := aboveR t (findR t f.root) (findR t c.root)

theorem behind_pure (t : List Node) (c f : Check) : Pure Tryd.prog 41 [tav t, c.av, f.av] (.bool (behindB t c f)) := by
  have h1 := find_pure t f.root
  have h2 := find_pure t c.root
  have h3 := above_pure t (findR t f.root) (findR t c.root)
  have er : behindB t c f = aboveR t (findR t f.root) (findR t c.root) := rfl
  refine pure_of_tr Tryd.func41 rfl (Nat.le_of_ble_eq_true rfl) rfl fun E hE hP => ?_
  first | refine tr_seq_region (by rw [hE]; rfl) ?_ | (refine Tr.seq ?_; refine tr_seq_region (by rw [hE]; rfl) ?_)
  repeat (refine vc_op rfl ?_; simp only [go_sem, seval])
  refine vc_nil ?_
  first | apply tr_md mixed [0, 16, 32] rfl (by rw [hE]; rfl) (by kernel_rfl) | (refine Tr.seq ?_; apply tr_md mixed [0, 16, 32] rfl (by rw [hE]; rfl) (by kernel_rfl))
  intro Q hQ
  simp only [List.toList_toArray, List.map_cons, List.map_nil, mo, guardSlot, Option.map_some, Option.map_none, List.getElem?_toArray, List.getElem?_cons_succ, List.getElem?_cons_zero, Option.bind_some]
  iterate 4 ((refine vd2_q rfl ?_); intro r hr; simp only [go_sem, seval]; subst hr)
  (refine vd2_x rfl ?_); intro r hr; simp only [go_sem, seval]
  refine call_fn rfl rfl rfl rfl (enters_of Tryd.func24 (by kernel_rfl) rfl) (h1) rfl rfl rfl ?_
  simp only [go_sem, seval]
  subst hr
  iterate 3 ((refine vd2_q rfl ?_); intro r hr; simp only [go_sem, seval]; subst hr)
  (refine vd2_x rfl ?_); intro r hr; simp only [go_sem, seval]
  refine call_fn rfl rfl rfl rfl (enters_of Tryd.func24 (by kernel_rfl) rfl) (h2) rfl rfl rfl ?_
  simp only [go_sem, seval]
  subst hr
  (refine vd2_x rfl ?_); intro r hr; simp only [go_sem, seval]
  refine call_fn rfl rfl rfl rfl (enters_of Tryd.func23 (by kernel_rfl) rfl) (h3) rfl rfl rfl ?_
  simp only [go_sem, seval]
  subst hr
  (refine vd2_q rfl ?_); intro r hr; simp only [go_sem, seval]; subst hr
  exact hQ
  refine Tr.ret ?_
  simp only [er, Tryd.f41, go_sem, seval]

theorem refis_pure (t : List Node) (i : Int) (hl : t.length ≤ 100) : Pure Tryd.prog 87 [tav t, .int .i64 i] (.bool (isB t [i])) := by
  have hc := refmay_pure t hl
  rw [refmay_eq] at hc
  cases hm : mayB t with
  | false =>
    have er : isB t [i] = false := by simp [isB, hm]
    rw [hm] at hc
    refine pure_of_tr Tryd.func87 rfl (Nat.le_of_ble_eq_true rfl) rfl fun E hE hP => ?_
    first | refine tr_seq_region (by rw [hE]; rfl) ?_ | (refine Tr.seq ?_; refine tr_seq_region (by rw [hE]; rfl) ?_)
    repeat (refine vc_op rfl ?_; simp only [go_sem, seval])
    refine vc_nil ?_
    first | apply tr_m (by rw [hE]; rfl) | (refine Tr.seq ?_; apply tr_m (by rw [hE]; rfl))
    intro Q hQ
    simp only [List.toList_toArray, List.map_cons, List.map_nil, mo, guardSlot, Option.map_some, Option.map_none, List.getElem?_toArray, List.getElem?_cons_succ, List.getElem?_cons_zero, Option.bind_some]
    (refine vm_op ?_); intro r hr; simp only [go_sem, seval]; subst hr
    (refine vm_op ?_); intro r hr; simp only [go_sem, seval]
    refine call_fn rfl rfl rfl rfl (enters_of Tryd.func39 (by kernel_rfl) rfl) (hc) rfl rfl rfl ?_
    simp only [go_sem, seval]
    subst hr
    (refine vm_op ?_); intro r hr; simp only [go_sem, seval]; subst hr
    exact hQ
    first | apply tr_m (by rw [hE]; rfl) | (refine Tr.seq ?_; apply tr_m (by rw [hE]; rfl))
    intro Q hQ
    simp only [List.toList_toArray, List.map_cons, List.map_nil, mo, guardSlot, Option.map_some, Option.map_none, List.getElem?_toArray, List.getElem?_cons_succ, List.getElem?_cons_zero, Option.bind_some]
    iterate 2 ((refine vm_op ?_); intro r hr; simp only [go_sem, seval]; subst hr)
    iterate 2 ((first | refine vm_if rfl ?_ | refine vm_no rfl ?_ | refine vm_skip rfl ?_); intro r hr; simp only [go_sem, seval]; subst hr)
    iterate 2 ((refine vm_op ?_); intro r hr; simp only [go_sem, seval]; subst hr)
    iterate 5 ((first | refine vm_if rfl ?_ | refine vm_no rfl ?_ | refine vm_skip rfl ?_); intro r hr; simp only [go_sem, seval]; subst hr)
    iterate 2 ((refine vm_op ?_); intro r hr; simp only [go_sem, seval]; subst hr)
    exact hQ
    refine Tr.ret ?_
    simp only [er, Tryd.f87, go_sem, seval]
  | true =>
    rw [hm] at hc
    by_cases h0 : 0 ≤ i
    · have e0 : decide (0 ≤ i) = true := decide_eq_true h0
      have er : isB t [i] = decide (i < (t.length : Int)) := by
        have : decide (i < 0) = false := decide_eq_false (by omega)
        simp only [isB, badI, hm, List.any_cons, List.any_nil, this, Bool.false_or, Bool.or_false, Bool.true_and]
        rw [← decide_not]
        exact decide_eq_decide.2 (by omega)
      refine pure_of_tr Tryd.func87 rfl (Nat.le_of_ble_eq_true rfl) rfl fun E hE hP => ?_
      first | refine tr_seq_region (by rw [hE]; rfl) ?_ | (refine Tr.seq ?_; refine tr_seq_region (by rw [hE]; rfl) ?_)
      repeat (refine vc_op rfl ?_; simp only [go_sem, seval])
      refine vc_nil ?_
      first | apply tr_m (by rw [hE]; rfl) | (refine Tr.seq ?_; apply tr_m (by rw [hE]; rfl))
      intro Q hQ
      simp only [List.toList_toArray, List.map_cons, List.map_nil, mo, guardSlot, Option.map_some, Option.map_none, List.getElem?_toArray, List.getElem?_cons_succ, List.getElem?_cons_zero, Option.bind_some]
      (refine vm_op ?_); intro r hr; simp only [go_sem, seval]; subst hr
      (refine vm_op ?_); intro r hr; simp only [go_sem, seval]
      refine call_fn rfl rfl rfl rfl (enters_of Tryd.func39 (by kernel_rfl) rfl) (hc) rfl rfl rfl ?_
      simp only [go_sem, seval]
      subst hr
      (refine vm_op ?_); intro r hr; simp only [go_sem, seval]; subst hr
      exact hQ
      first | apply tr_m (by rw [hE]; rfl) | (refine Tr.seq ?_; apply tr_m (by rw [hE]; rfl))
      intro Q hQ
      simp only [List.toList_toArray, List.map_cons, List.map_nil, mo, guardSlot, Option.map_some, Option.map_none, List.getElem?_toArray, List.getElem?_cons_succ, List.getElem?_cons_zero, Option.bind_some]
      iterate 2 ((refine vm_op ?_); intro r hr; simp only [e0, go_sem, seval]; subst hr)
      iterate 2 ((first | refine vm_if rfl ?_ | refine vm_no rfl ?_ | refine vm_skip rfl ?_); intro r hr; simp only [e0, go_sem, seval]; subst hr)
      iterate 2 ((refine vm_op ?_); intro r hr; simp only [go_sem, seval]; subst hr)
      iterate 5 ((first | refine vm_if rfl ?_ | refine vm_no rfl ?_ | refine vm_skip rfl ?_); intro r hr; simp only [go_sem, seval]; subst hr)
      iterate 2 ((refine vm_op ?_); intro r hr; simp only [go_sem, seval]; subst hr)
      exact hQ
      refine Tr.ret ?_
      simp only [er, Tryd.f87, go_sem, seval]
    · have e0 : decide (0 ≤ i) = false := decide_eq_false h0
      have er : isB t [i] = false := by
        have : decide (i < 0) = true := decide_eq_true (by omega)
        simp [isB, badI, this]
      refine pure_of_tr Tryd.func87 rfl (Nat.le_of_ble_eq_true rfl) rfl fun E hE hP => ?_
      first | refine tr_seq_region (by rw [hE]; rfl) ?_ | (refine Tr.seq ?_; refine tr_seq_region (by rw [hE]; rfl) ?_)
      repeat (refine vc_op rfl ?_; simp only [go_sem, seval])
      refine vc_nil ?_
      first | apply tr_m (by rw [hE]; rfl) | (refine Tr.seq ?_; apply tr_m (by rw [hE]; rfl))
      intro Q hQ
      simp only [List.toList_toArray, List.map_cons, List.map_nil, mo, guardSlot, Option.map_some, Option.map_none, List.getElem?_toArray, List.getElem?_cons_succ, List.getElem?_cons_zero, Option.bind_some]
      (refine vm_op ?_); intro r hr; simp only [go_sem, seval]; subst hr
      (refine vm_op ?_); intro r hr; simp only [go_sem, seval]
      refine call_fn rfl rfl rfl rfl (enters_of Tryd.func39 (by kernel_rfl) rfl) (hc) rfl rfl rfl ?_
      simp only [go_sem, seval]
      subst hr
      (refine vm_op ?_); intro r hr; simp only [go_sem, seval]; subst hr
      exact hQ
      first | apply tr_m (by rw [hE]; rfl) | (refine Tr.seq ?_; apply tr_m (by rw [hE]; rfl))
      intro Q hQ
      simp only [List.toList_toArray, List.map_cons, List.map_nil, mo, guardSlot, Option.map_some, Option.map_none, List.getElem?_toArray, List.getElem?_cons_succ, List.getElem?_cons_zero, Option.bind_some]
      iterate 2 ((refine vm_op ?_); intro r hr; simp only [e0, go_sem, seval]; subst hr)
      iterate 2 ((first | refine vm_if rfl ?_ | refine vm_no rfl ?_ | refine vm_skip rfl ?_); intro r hr; simp only [e0, go_sem, seval]; subst hr)
      iterate 2 ((refine vm_op ?_); intro r hr; simp only [e0, go_sem, seval]; subst hr)
      iterate 5 ((first | refine vm_if rfl ?_ | refine vm_no rfl ?_ | refine vm_skip rfl ?_); intro r hr; simp only [e0, go_sem, seval]; subst hr)
      iterate 2 ((refine vm_op ?_); intro r hr; simp only [e0, go_sem, seval]; subst hr)
      exact hQ
      refine Tr.ret ?_
      simp only [er, Tryd.f87, go_sem, seval]

theorem isB_two (t : List Node) (i k : Int) : isB t [i, k] = (isB t [i] && isB t [k]) := by
  simp only [isB, List.any_cons, List.any_nil, Bool.or_false]
  cases mayB t <;> cases badI t i <;> cases badI t k <;> rfl
theorem isB_spec {t : List Node} {i : Int} (h : isB t [i] = true) : mayB t = true ∧ 0 ≤ i ∧ i < t.length := by
  simp only [isB, badI, List.any_cons, List.any_nil, Bool.or_false, Bool.and_eq_true, Bool.not_eq_true', Bool.or_eq_false_iff, decide_eq_false_iff_not] at h
  exact ⟨h.1, by omega, by omega⟩

theorem refabove_pure (t : List Node) (i k : Int) (hl : t.length ≤ 100) : Pure Tryd.prog 65 [tav t, .int .i64 i, .int .i64 k] (.bool (aboveR t i k)) := by
  have h1 := refis_pure t i hl
  have h2 := refis_pure t k hl
  cases hi : isB t [i] with
  | false =>
    have er : aboveR t i k = false := by unfold aboveR; rw [isB_two, hi]; rfl
    rw [hi] at h1
    generalize isB t [k] = c at h2
    refine pure_of_tr Tryd.func65 rfl (Nat.le_of_ble_eq_true rfl) rfl fun E hE hP => ?_
    first | refine tr_seq_region (by rw [hE]; rfl) ?_ | (refine Tr.seq ?_; refine tr_seq_region (by rw [hE]; rfl) ?_)
    repeat (refine vc_op rfl ?_; simp only [go_sem, seval])
    refine vc_nil ?_
    first | apply tr_m (by rw [hE]; rfl) | (refine Tr.seq ?_; apply tr_m (by rw [hE]; rfl))
    intro Q hQ
    simp only [List.toList_toArray, List.map_cons, List.map_nil, mo, guardSlot, Option.map_some, Option.map_none, List.getElem?_toArray, List.getElem?_cons_succ, List.getElem?_cons_zero, Option.bind_some]
    iterate 2 ((refine vm_op ?_); intro r hr; simp only [go_sem, seval]; subst hr)
    (refine vm_op ?_); intro r hr; simp only [go_sem, seval]
    refine call_fn rfl rfl rfl rfl (enters_of Tryd.func87 (by kernel_rfl) rfl) (h1) rfl rfl rfl ?_
    simp only [go_sem, seval]
    subst hr
    (refine vm_op ?_); intro r hr; simp only [go_sem, seval]; subst hr
    exact hQ
    first | apply tr_m (by rw [hE]; rfl) | (refine Tr.seq ?_; apply tr_m (by rw [hE]; rfl))
    intro Q hQ
    simp only [List.toList_toArray, List.map_cons, List.map_nil, mo, guardSlot, Option.map_some, Option.map_none, List.getElem?_toArray, List.getElem?_cons_succ, List.getElem?_cons_zero, Option.bind_some]
    iterate 2 ((refine vm_op ?_); intro r hr; simp only [go_sem, seval]; subst hr)
    (refine vm_op ?_); intro r hr; simp only [go_sem, seval]
    refine call_fn rfl rfl rfl rfl (enters_of Tryd.func87 (by kernel_rfl) rfl) (h2) rfl rfl rfl ?_
    simp only [go_sem, seval]
    subst hr
    (refine vm_op ?_); intro r hr; simp only [go_sem, seval]; subst hr
    exact hQ
    first | apply tr_m (by rw [hE]; rfl) | (refine Tr.seq ?_; apply tr_m (by rw [hE]; rfl))
    intro Q hQ
    simp only [List.toList_toArray, List.map_cons, List.map_nil, mo, guardSlot, Option.map_some, Option.map_none, List.getElem?_toArray, List.getElem?_cons_succ, List.getElem?_cons_zero, Option.bind_some]
    iterate 3 ((refine vm_op ?_); intro r hr; simp only [go_sem, seval]; subst hr)
    iterate 2 ((first | refine vm_if rfl ?_ | refine vm_no rfl ?_ | refine vm_skip rfl ?_); intro r hr; simp only [go_sem, seval]; subst hr)
    (refine vm_op ?_); intro r hr; simp only [go_sem, seval]; subst hr
    exact hQ
    first | refine Tr.cond (b := true) rfl (fun _ => ?_) (fun h => by cases h) | refine Tr.seq (Tr.cond (b := true) rfl (fun _ => ?_) (fun h => by cases h))
    first | refine tr_seq_region (by rw [hE]; rfl) ?_ | (refine Tr.seq ?_; refine tr_seq_region (by rw [hE]; rfl) ?_)
    repeat (refine vc_op rfl ?_; simp only [go_sem, seval])
    refine vc_nil ?_
    refine Tr.ret ?_
    simp only [er, Tryd.f65, go_sem, seval]
  | true =>
    rw [hi] at h1
    cases hk : isB t [k] with
    | false =>
      have er : aboveR t i k = false := by unfold aboveR; rw [isB_two, hi, hk]; rfl
      rw [hk] at h2
      refine pure_of_tr Tryd.func65 rfl (Nat.le_of_ble_eq_true rfl) rfl fun E hE hP => ?_
      first | refine tr_seq_region (by rw [hE]; rfl) ?_ | (refine Tr.seq ?_; refine tr_seq_region (by rw [hE]; rfl) ?_)
      repeat (refine vc_op rfl ?_; simp only [go_sem, seval])
      refine vc_nil ?_
      first | apply tr_m (by rw [hE]; rfl) | (refine Tr.seq ?_; apply tr_m (by rw [hE]; rfl))
      intro Q hQ
      simp only [List.toList_toArray, List.map_cons, List.map_nil, mo, guardSlot, Option.map_some, Option.map_none, List.getElem?_toArray, List.getElem?_cons_succ, List.getElem?_cons_zero, Option.bind_some]
      iterate 2 ((refine vm_op ?_); intro r hr; simp only [go_sem, seval]; subst hr)
      (refine vm_op ?_); intro r hr; simp only [go_sem, seval]
      refine call_fn rfl rfl rfl rfl (enters_of Tryd.func87 (by kernel_rfl) rfl) (h1) rfl rfl rfl ?_
      simp only [go_sem, seval]
      subst hr
      (refine vm_op ?_); intro r hr; simp only [go_sem, seval]; subst hr
      exact hQ
      first | apply tr_m (by rw [hE]; rfl) | (refine Tr.seq ?_; apply tr_m (by rw [hE]; rfl))
      intro Q hQ
      simp only [List.toList_toArray, List.map_cons, List.map_nil, mo, guardSlot, Option.map_some, Option.map_none, List.getElem?_toArray, List.getElem?_cons_succ, List.getElem?_cons_zero, Option.bind_some]
      iterate 2 ((refine vm_op ?_); intro r hr; simp only [go_sem, seval]; subst hr)
      (refine vm_op ?_); intro r hr; simp only [go_sem, seval]
      refine call_fn rfl rfl rfl rfl (enters_of Tryd.func87 (by kernel_rfl) rfl) (h2) rfl rfl rfl ?_
      simp only [go_sem, seval]
      subst hr
      (refine vm_op ?_); intro r hr; simp only [go_sem, seval]; subst hr
      exact hQ
      first | apply tr_m (by rw [hE]; rfl) | (refine Tr.seq ?_; apply tr_m (by rw [hE]; rfl))
      intro Q hQ
      simp only [List.toList_toArray, List.map_cons, List.map_nil, mo, guardSlot, Option.map_some, Option.map_none, List.getElem?_toArray, List.getElem?_cons_succ, List.getElem?_cons_zero, Option.bind_some]
      iterate 3 ((refine vm_op ?_); intro r hr; simp only [go_sem, seval]; subst hr)
      iterate 2 ((first | refine vm_if rfl ?_ | refine vm_no rfl ?_ | refine vm_skip rfl ?_); intro r hr; simp only [go_sem, seval]; subst hr)
      (refine vm_op ?_); intro r hr; simp only [go_sem, seval]; subst hr
      exact hQ
      first | refine Tr.cond (b := true) rfl (fun _ => ?_) (fun h => by cases h) | refine Tr.seq (Tr.cond (b := true) rfl (fun _ => ?_) (fun h => by cases h))
      first | refine tr_seq_region (by rw [hE]; rfl) ?_ | (refine Tr.seq ?_; refine tr_seq_region (by rw [hE]; rfl) ?_)
      repeat (refine vc_op rfl ?_; simp only [go_sem, seval])
      refine vc_nil ?_
      refine Tr.ret ?_
      simp only [er, Tryd.f65, go_sem, seval]
    | true =>
      have er : aboveR t i k = aboveF t i k := by unfold aboveR; rw [isB_two, hi, hk]; rfl
      obtain ⟨hm, hi0, _⟩ := isB_spec hi
      obtain ⟨_, hk0, hk1⟩ := isB_spec hk
      rw [hk] at h2
      refine pure_of_tr Tryd.func65 rfl (Nat.le_of_ble_eq_true rfl) rfl fun E hE hP => ?_
      first | refine tr_seq_region (by rw [hE]; rfl) ?_ | (refine Tr.seq ?_; refine tr_seq_region (by rw [hE]; rfl) ?_)
      repeat (refine vc_op rfl ?_; simp only [go_sem, seval])
      refine vc_nil ?_
      first | apply tr_m (by rw [hE]; rfl) | (refine Tr.seq ?_; apply tr_m (by rw [hE]; rfl))
      intro Q hQ
      simp only [List.toList_toArray, List.map_cons, List.map_nil, mo, guardSlot, Option.map_some, Option.map_none, List.getElem?_toArray, List.getElem?_cons_succ, List.getElem?_cons_zero, Option.bind_some]
      iterate 2 ((refine vm_op ?_); intro r hr; simp only [go_sem, seval]; subst hr)
      (refine vm_op ?_); intro r hr; simp only [go_sem, seval]
      refine call_fn rfl rfl rfl rfl (enters_of Tryd.func87 (by kernel_rfl) rfl) (h1) rfl rfl rfl ?_
      simp only [go_sem, seval]
      subst hr
      (refine vm_op ?_); intro r hr; simp only [go_sem, seval]; subst hr
      exact hQ
      first | apply tr_m (by rw [hE]; rfl) | (refine Tr.seq ?_; apply tr_m (by rw [hE]; rfl))
      intro Q hQ
      simp only [List.toList_toArray, List.map_cons, List.map_nil, mo, guardSlot, Option.map_some, Option.map_none, List.getElem?_toArray, List.getElem?_cons_succ, List.getElem?_cons_zero, Option.bind_some]
      iterate 2 ((refine vm_op ?_); intro r hr; simp only [go_sem, seval]; subst hr)
      (refine vm_op ?_); intro r hr; simp only [go_sem, seval]
      refine call_fn rfl rfl rfl rfl (enters_of Tryd.func87 (by kernel_rfl) rfl) (h2) rfl rfl rfl ?_
      simp only [go_sem, seval]
      subst hr
      (refine vm_op ?_); intro r hr; simp only [go_sem, seval]; subst hr
      exact hQ
      first | apply tr_m (by rw [hE]; rfl) | (refine Tr.seq ?_; apply tr_m (by rw [hE]; rfl))
      intro Q hQ
      simp only [List.toList_toArray, List.map_cons, List.map_nil, mo, guardSlot, Option.map_some, Option.map_none, List.getElem?_toArray, List.getElem?_cons_succ, List.getElem?_cons_zero, Option.bind_some]
      iterate 3 ((refine vm_op ?_); intro r hr; simp only [go_sem, seval]; subst hr)
      iterate 2 ((first | refine vm_if rfl ?_ | refine vm_no rfl ?_ | refine vm_skip rfl ?_); intro r hr; simp only [go_sem, seval]; subst hr)
      (refine vm_op ?_); intro r hr; simp only [go_sem, seval]; subst hr
      exact hQ
      first | refine Tr.cond rfl (fun h => by cases h) (fun _ => ?_) | refine Tr.seq (Tr.cond rfl (fun h => by cases h) (fun _ => ?_))
      refine Tr.skip ?_
      try simp only [blockK, thenK, ↓reduceIte]
      first | refine Tr.block ?_ | (refine Tr.seq ?_; refine Tr.block ?_)
      refine Tr.loop (fun a : Int => (⟨[(1, .int .i64 i), (2, .int .i64 a), (3, .ptr 0 [] 0)], [(0, .var (tav t))], 1, []⟩ : S)) (fun a => (a = -1 ∨ (0 ≤ a ∧ a < t.length)) ∧ aboveF t i a = aboveF t i k) (fun a => (a + 1).toNat) k ⟨.inr ⟨hk0, hk1⟩, rfl⟩ ?_ ?_
      · refine wk_ren (fun n => n) ?_ ?_ rfl rfl rfl
        · repeat' (first | exact rfl | exact trivial | constructor)
        · repeat' (first | exact rfl | exact trivial | constructor)
      · rintro a ⟨ha, habove⟩
        by_cases hai : i < a
        · have e1 : decide (i < a) = true := decide_eq_true hai
          have ha' : 0 ≤ a ∧ a < t.length := by omega
          have hstep := aboveF_step hm (i := i) ha'.1 ha'.2
          rw [if_neg (by omega), if_neg (by omega)] at hstep
          have hpr := par_range hm ha'.1 ha'.2
          obtain ⟨j, rfl⟩ : ∃ j : Nat, a = j := ⟨a.toNat, by omega⟩
          have hn := nth_node (t := t) (k := j) (by omega)
          have hpar : (t.getD j zNode).parent = parI t j := by unfold parI; rw [Int.toNat_natCast]
          first | refine tr_seq_region (by rw [hE]; rfl) ?_ | (refine Tr.seq ?_; refine tr_seq_region (by rw [hE]; rfl) ?_)
          repeat (refine vc_op rfl ?_; simp only [e1, go_sem, seval])
          refine vc_nil ?_
          first | refine Tr.cond (b := true) rfl (fun _ => ?_) (fun h => by cases h) | refine Tr.seq (Tr.cond (b := true) rfl (fun _ => ?_) (fun h => by cases h))
          refine Tr.skip ?_
          try simp only [blockK, thenK, ↓reduceIte]
          first | refine Tr.block ?_ | (refine Tr.seq ?_; refine Tr.block ?_)
          apply tr_ml (by rw [hE]; rfl)
          intro Q hQ
          simp only [List.toList_toArray, List.map_cons, List.map_nil, mo, guardSlot, Option.map_some, Option.map_none, List.getElem?_toArray, List.getElem?_cons_succ, List.getElem?_cons_zero, Option.bind_some]
          iterate 7 ((refine vm_op ?_); intro r hr; simp only [hn, hpar, go_sem, seval]; subst hr)
          exact hQ
          try simp only [blockK, thenK, ↓reduceIte]
          refine ⟨parI t j, ⟨by omega, by rw [← hstep]; exact habove⟩, by omega, ?_⟩
          refine wk_ren (fun n => n) ?_ ?_ rfl rfl rfl
          · repeat' (first | exact rfl | exact trivial | constructor)
          · repeat' (first | exact rfl | exact trivial | constructor)
        · have e1 : decide (i < a) = false := decide_eq_false hai
          have er2 : aboveF t i k = decide (a = i) := by
            rw [← habove]
            rcases ha with ha | ha
            · subst ha
              rw [decide_eq_false (by omega)]; rfl
            · rw [aboveF_step hm (i := i) ha.1 ha.2]
              by_cases h : a = i
              · rw [if_pos h, decide_eq_true h]
              · rw [if_neg h, if_pos (by omega), decide_eq_false h]
          first | refine tr_seq_region (by rw [hE]; rfl) ?_ | (refine Tr.seq ?_; refine tr_seq_region (by rw [hE]; rfl) ?_)
          repeat (refine vc_op rfl ?_; simp only [e1, go_sem, seval])
          refine vc_nil ?_
          first | refine Tr.cond (b := false) rfl (fun h => by cases h) (fun _ => ?_) | refine Tr.seq (Tr.cond (b := false) rfl (fun h => by cases h) (fun _ => ?_))
          refine Tr.exit ?_
          try simp only [blockK, thenK, ↓reduceIte]
          first | refine tr_seq_region (by rw [hE]; rfl) ?_ | (refine Tr.seq ?_; refine tr_seq_region (by rw [hE]; rfl) ?_)
          repeat (refine vc_op rfl ?_; simp only [int_beq, go_sem, seval])
          refine vc_nil ?_
          refine Tr.ret ?_
          simp only [er, er2, Tryd.f65, go_sem, seval]

theorem refbehind_pure (t : List Node) (c f : Check) (hl : t.length ≤ 100) : Pure Tryd.prog 40 [tav t, c.av, f.av] (.bool (behindB t c f)) := by
  have h1 := reffind_pure t f.root hl
  have h2 := reffind_pure t c.root hl
  have h3 := refabove_pure t (findR t f.root) (findR t c.root) hl
  have er : behindB t c f = aboveR t (findR t f.root) (findR t c.root) := rfl
  refine pure_of_tr Tryd.func40 rfl (Nat.le_of_ble_eq_true rfl) rfl fun E hE hP => ?_
  first | refine tr_seq_region (by rw [hE]; rfl) ?_ | (refine Tr.seq ?_; refine tr_seq_region (by rw [hE]; rfl) ?_)
  repeat (refine vc_op rfl ?_; simp only [go_sem, seval])
  refine vc_nil ?_
  first | apply tr_md mixed [0, 16, 32] rfl (by rw [hE]; rfl) (by kernel_rfl) | (refine Tr.seq ?_; apply tr_md mixed [0, 16, 32] rfl (by rw [hE]; rfl) (by kernel_rfl))
  intro Q hQ
  simp only [List.toList_toArray, List.map_cons, List.map_nil, mo, guardSlot, Option.map_some, Option.map_none, List.getElem?_toArray, List.getElem?_cons_succ, List.getElem?_cons_zero, Option.bind_some]
  iterate 4 ((refine vd2_q rfl ?_); intro r hr; simp only [go_sem, seval]; subst hr)
  (refine vd2_x rfl ?_); intro r hr; simp only [go_sem, seval]
  refine call_fn rfl rfl rfl rfl (enters_of Tryd.func66 (by kernel_rfl) rfl) (h1) rfl rfl rfl ?_
  simp only [go_sem, seval]
  subst hr
  iterate 3 ((refine vd2_q rfl ?_); intro r hr; simp only [go_sem, seval]; subst hr)
  (refine vd2_x rfl ?_); intro r hr; simp only [go_sem, seval]
  refine call_fn rfl rfl rfl rfl (enters_of Tryd.func66 (by kernel_rfl) rfl) (h2) rfl rfl rfl ?_
  simp only [go_sem, seval]
  subst hr
  (refine vd2_x rfl ?_); intro r hr; simp only [go_sem, seval]
  refine call_fn rfl rfl rfl rfl (enters_of Tryd.func65 (by kernel_rfl) rfl) (h3) rfl rfl rfl ?_
  simp only [go_sem, seval]
  subst hr
  (refine vd2_q rfl ?_); intro r hr; simp only [go_sem, seval]; subst hr
  exact hQ
  refine Tr.ret ?_
  simp only [er, Tryd.f40, go_sem, seval]
