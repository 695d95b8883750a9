/- Trees: may one be; places by roots. -/
import Derived.Test.YtdlejnafhmpobaaDoorFbB
set_option linter.unusedSimpArgs false
namespace Go.Proofs.YtdlejnafhmpobaaDoor
open Go Go.Ab

def fitsB (t : List Node) (i : Nat) : Bool :=
  match t[i]? with
  | none => false
  | some n => if i = 0 then decide (n.parent = -1) && decide (n.slot ≤ 1099511627776)
    else decide (0 ≤ n.parent) && decide (n.parent < i) && decide (n.slot ≤ 1099511627776) && decide ((t.getD n.parent.toNat zNode).slot < n.slot)

set_option maxRecDepth 10000 in
theorem fits_pure (t : List Node) (i : Nat) (hi : i < t.length) : Pure Tryd.prog 47 [.sl (t.map Node.av) false, .int .i64 i] (.bool (fitsB t i)) := by
  have ha := nth_map_lt Node.av t i hi
  have hf : fitsB t i = (if i = 0 then decide (t[i].parent = -1) && decide (t[i].slot ≤ 1099511627776)
    else decide (0 ≤ t[i].parent) && decide (t[i].parent < i) && decide (t[i].slot ≤ 1099511627776) && decide ((t.getD t[i].parent.toNat zNode).slot < t[i].slot)) := by
    simp [fitsB, hi]
  generalize t[i] = n at ha hf
  refine pure_of_tr Tryd.func47 rfl (Nat.le_of_ble_eq_true rfl) rfl fun E hE hP => ?_
  first | refine tr_seq_region (by rw [hE]; rfl) ?_ | (refine Tr.seq ?_; refine tr_seq_region (by rw [hE]; rfl) ?_)
  repeat (refine vc_op rfl ?_; simp only [go_sem, seval])
  refine vc_nil ?_
  first | refine tr_seq_region (by rw [hE]; rfl) ?_ | (refine Tr.seq ?_; refine tr_seq_region (by rw [hE]; rfl) ?_)
  repeat (refine vc_op rfl ?_; simp only [ha, go_sem, seval])
  refine vc_nil ?_
  by_cases h0 : i = 0
  · have e0 : ((i : Int) == 0) = true := by simp [h0]
    rw [if_pos h0] at hf
    first | refine tr_seq_region (by rw [hE]; rfl) ?_ | (refine Tr.seq ?_; refine tr_seq_region (by rw [hE]; rfl) ?_)
    repeat (refine vc_op rfl ?_; simp only [e0, go_sem, seval])
    refine vc_nil ?_
    first | refine Tr.cond (b := true) rfl (fun _ => ?_) (fun h => by cases h) | refine Tr.seq (Tr.cond (b := true) rfl (fun _ => ?_) (fun h => by cases h))
    by_cases h1 : n.parent = -1
    · have e1 : (n.parent == -1) = true := by simp [h1]
      have er : fitsB t i = decide (n.slot ≤ 1099511627776) := by rw [hf]; simp [h1]
      first | apply tr_m (by rw [hE]; rfl) | (refine Tr.seq ?_; apply tr_m (by rw [hE]; rfl))
      intro Q hQ
      simp only [List.toList_toArray, List.map_cons, List.map_nil, mo, guardSlot, Option.map_some, Option.map_none, List.getElem?_toArray, List.getElem?_cons_succ, List.getElem?_cons_zero, Option.bind_some]
      iterate 4 ((refine vm_op ?_); intro r hr; simp only [e1, go_sem, seval]; subst hr)
      iterate 3 ((first | refine vm_if rfl ?_ | refine vm_no rfl ?_ | refine vm_skip rfl ?_); intro r hr; simp only [e1, go_sem, seval]; subst hr)
      iterate 2 ((refine vm_op ?_); intro r hr; simp only [e1, go_sem, seval]; subst hr)
      exact hQ
      refine Tr.ret ?_
      simp only [er, Tryd.f47, go_sem, seval]
    · have e1 : (n.parent == -1) = false := by simp [h1]
      have er : fitsB t i = false := by rw [hf]; simp [h1]
      first | apply tr_m (by rw [hE]; rfl) | (refine Tr.seq ?_; apply tr_m (by rw [hE]; rfl))
      intro Q hQ
      simp only [List.toList_toArray, List.map_cons, List.map_nil, mo, guardSlot, Option.map_some, Option.map_none, List.getElem?_toArray, List.getElem?_cons_succ, List.getElem?_cons_zero, Option.bind_some]
      iterate 4 ((refine vm_op ?_); intro r hr; simp only [e1, go_sem, seval]; subst hr)
      iterate 3 ((first | refine vm_if rfl ?_ | refine vm_no rfl ?_ | refine vm_skip rfl ?_); intro r hr; simp only [e1, go_sem, seval]; subst hr)
      iterate 2 ((refine vm_op ?_); intro r hr; simp only [e1, go_sem, seval]; subst hr)
      exact hQ
      refine Tr.ret ?_
      simp only [er, Tryd.f47, go_sem, seval]
  · have e0 : ((i : Int) == 0) = false := by simp [h0]
    rw [if_neg h0] at hf
    first | refine tr_seq_region (by rw [hE]; rfl) ?_ | (refine Tr.seq ?_; refine tr_seq_region (by rw [hE]; rfl) ?_)
    repeat (refine vc_op rfl ?_; simp only [e0, go_sem, seval])
    refine vc_nil ?_
    first | refine Tr.cond rfl (fun h => by cases h) (fun _ => ?_) | refine Tr.seq (Tr.cond rfl (fun h => by cases h) (fun _ => ?_))
    refine Tr.skip ?_
    try simp only [blockK, thenK, ↓reduceIte]
    by_cases h1 : 0 ≤ n.parent
    · have e1 : decide (0 ≤ n.parent) = true := decide_eq_true h1
      by_cases h2 : n.parent < i
      · have e2 : decide (n.parent < i) = true := decide_eq_true h2
        by_cases h3 : n.slot ≤ 1099511627776
        · have e3 : decide (n.slot ≤ 1099511627776) = true := decide_eq_true h3
          obtain ⟨p, hp⟩ : ∃ p : Nat, n.parent = p := ⟨n.parent.toNat, by omega⟩
          have hpl : p < t.length := by omega
          have hb := nth_map_lt Node.av t p hpl
          have er : fitsB t i = decide ((t[p]).slot < n.slot) := by rw [hf, e1, e2, e3, hp]; simp [hpl]
          rw [hp] at e1 e2
          first | apply tr_md mixed [80] rfl (by rw [hE]; rfl) (by kernel_rfl) | (refine Tr.seq ?_; apply tr_md mixed [80] rfl (by rw [hE]; rfl) (by kernel_rfl))
          intro Q hQ
          simp only [List.toList_toArray, List.map_cons, List.map_nil, mo, guardSlot, Option.map_some, Option.map_none, List.getElem?_toArray, List.getElem?_cons_succ, List.getElem?_cons_zero, Option.bind_some]
          iterate 4 ((refine vd2_q rfl ?_); intro r hr; simp only [hp, e1, e2, e3, hb, go_sem, seval]; subst hr)
          iterate 4 ((first | refine vd2_goq rfl rfl ?_ | refine vd2_no rfl ?_ | refine vd2_skip rfl ?_); intro r hr; simp only [hp, e1, e2, e3, hb, go_sem, seval]; subst hr)
          iterate 2 ((refine vd2_q rfl ?_); intro r hr; simp only [hp, e1, e2, e3, hb, go_sem, seval]; subst hr)
          iterate 3 ((first | refine vd2_goq rfl rfl ?_ | refine vd2_no rfl ?_ | refine vd2_skip rfl ?_); intro r hr; simp only [hp, e1, e2, e3, hb, go_sem, seval]; subst hr)
          iterate 2 ((refine vd2_q rfl ?_); intro r hr; simp only [hp, e1, e2, e3, hb, go_sem, seval]; subst hr)
          iterate 9 ((first | refine vd2_goq rfl rfl ?_ | refine vd2_no rfl ?_ | refine vd2_skip rfl ?_); intro r hr; simp only [hp, e1, e2, e3, hb, go_sem, seval]; subst hr)
          iterate 2 ((refine vd2_q rfl ?_); intro r hr; simp only [hp, e1, e2, e3, hb, go_sem, seval]; subst hr)
          exact hQ
          refine Tr.ret ?_
          simp only [er, Tryd.f47, go_sem, seval]
        · have e3 : decide (n.slot ≤ 1099511627776) = false := decide_eq_false h3
          have er : fitsB t i = false := by rw [hf]; simp [h3]
          first | apply tr_md mixed [80] rfl (by rw [hE]; rfl) (by kernel_rfl) | (refine Tr.seq ?_; apply tr_md mixed [80] rfl (by rw [hE]; rfl) (by kernel_rfl))
          intro Q hQ
          simp only [List.toList_toArray, List.map_cons, List.map_nil, mo, guardSlot, Option.map_some, Option.map_none, List.getElem?_toArray, List.getElem?_cons_succ, List.getElem?_cons_zero, Option.bind_some]
          iterate 4 ((refine vd2_q rfl ?_); intro r hr; simp only [e1, e2, e3, go_sem, seval]; subst hr)
          iterate 4 ((first | refine vd2_goq rfl rfl ?_ | refine vd2_no rfl ?_ | refine vd2_skip rfl ?_); intro r hr; simp only [e1, e2, e3, go_sem, seval]; subst hr)
          iterate 2 ((refine vd2_q rfl ?_); intro r hr; simp only [e1, e2, e3, go_sem, seval]; subst hr)
          iterate 3 ((first | refine vd2_goq rfl rfl ?_ | refine vd2_no rfl ?_ | refine vd2_skip rfl ?_); intro r hr; simp only [e1, e2, e3, go_sem, seval]; subst hr)
          iterate 2 ((refine vd2_q rfl ?_); intro r hr; simp only [e1, e2, e3, go_sem, seval]; subst hr)
          iterate 9 ((first | refine vd2_goq rfl rfl ?_ | refine vd2_no rfl ?_ | refine vd2_skip rfl ?_); intro r hr; simp only [e1, e2, e3, go_sem, seval]; subst hr)
          iterate 2 ((refine vd2_q rfl ?_); intro r hr; simp only [e1, e2, e3, go_sem, seval]; subst hr)
          exact hQ
          refine Tr.ret ?_
          simp only [er, Tryd.f47, go_sem, seval]
      · have e2 : decide (n.parent < i) = false := decide_eq_false h2
        have er : fitsB t i = false := by rw [hf]; simp [h2]
        first | apply tr_md mixed [80] rfl (by rw [hE]; rfl) (by kernel_rfl) | (refine Tr.seq ?_; apply tr_md mixed [80] rfl (by rw [hE]; rfl) (by kernel_rfl))
        intro Q hQ
        simp only [List.toList_toArray, List.map_cons, List.map_nil, mo, guardSlot, Option.map_some, Option.map_none, List.getElem?_toArray, List.getElem?_cons_succ, List.getElem?_cons_zero, Option.bind_some]
        iterate 4 ((refine vd2_q rfl ?_); intro r hr; simp only [e1, e2, go_sem, seval]; subst hr)
        iterate 4 ((first | refine vd2_goq rfl rfl ?_ | refine vd2_no rfl ?_ | refine vd2_skip rfl ?_); intro r hr; simp only [e1, e2, go_sem, seval]; subst hr)
        iterate 2 ((refine vd2_q rfl ?_); intro r hr; simp only [e1, e2, go_sem, seval]; subst hr)
        iterate 3 ((first | refine vd2_goq rfl rfl ?_ | refine vd2_no rfl ?_ | refine vd2_skip rfl ?_); intro r hr; simp only [e1, e2, go_sem, seval]; subst hr)
        iterate 2 ((refine vd2_q rfl ?_); intro r hr; simp only [e1, e2, go_sem, seval]; subst hr)
        iterate 9 ((first | refine vd2_goq rfl rfl ?_ | refine vd2_no rfl ?_ | refine vd2_skip rfl ?_); intro r hr; simp only [e1, e2, go_sem, seval]; subst hr)
        iterate 2 ((refine vd2_q rfl ?_); intro r hr; simp only [e1, e2, go_sem, seval]; subst hr)
        exact hQ
        refine Tr.ret ?_
        simp only [er, Tryd.f47, go_sem, seval]
    · have e1 : decide (0 ≤ n.parent) = false := decide_eq_false h1
      have er : fitsB t i = false := by rw [hf]; simp [h1]
      first | apply tr_md mixed [80] rfl (by rw [hE]; rfl) (by kernel_rfl) | (refine Tr.seq ?_; apply tr_md mixed [80] rfl (by rw [hE]; rfl) (by kernel_rfl))
      intro Q hQ
      simp only [List.toList_toArray, List.map_cons, List.map_nil, mo, guardSlot, Option.map_some, Option.map_none, List.getElem?_toArray, List.getElem?_cons_succ, List.getElem?_cons_zero, Option.bind_some]
      iterate 4 ((refine vd2_q rfl ?_); intro r hr; simp only [e1, go_sem, seval]; subst hr)
      iterate 4 ((first | refine vd2_goq rfl rfl ?_ | refine vd2_no rfl ?_ | refine vd2_skip rfl ?_); intro r hr; simp only [e1, go_sem, seval]; subst hr)
      iterate 2 ((refine vd2_q rfl ?_); intro r hr; simp only [e1, go_sem, seval]; subst hr)
      iterate 3 ((first | refine vd2_goq rfl rfl ?_ | refine vd2_no rfl ?_ | refine vd2_skip rfl ?_); intro r hr; simp only [e1, go_sem, seval]; subst hr)
      iterate 2 ((refine vd2_q rfl ?_); intro r hr; simp only [e1, go_sem, seval]; subst hr)
      iterate 9 ((first | refine vd2_goq rfl rfl ?_ | refine vd2_no rfl ?_ | refine vd2_skip rfl ?_); intro r hr; simp only [e1, go_sem, seval]; subst hr)
      iterate 2 ((refine vd2_q rfl ?_); intro r hr; simp only [e1, go_sem, seval]; subst hr)
      exact hQ
      refine Tr.ret ?_
      simp only [er, Tryd.f47, go_sem, seval]
