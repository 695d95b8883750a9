/- The reference of layer 15: may links be, and one more attests. -/
import Derived.Test.YtjahbgcdplngcaaLkQ
set_option linter.unusedSimpArgs false
namespace Go.Proofs.Ytjahbgcdplngcaa
open Go Go.Ab

def st18o (l : List Link) (i : Nat) : S where
  fr := [(3, .int .i64 i), (0, .sl (l.map Link.av) false)]
  hp := []
  nx := 0
def st18i (l : List Link) (i j : Nat) : S where
  fr := [(4, .int .i64 j), (3, .int .i64 i), (0, .sl (l.map Link.av) false)]
  hp := []
  nx := 0

theorem may_odd {l : List Link} {i : Nat} (h : i < l.length) (ho : odd l[i] = true) : lmayB l = false := by
  rw [Bool.eq_false_iff]
  intro hm
  rw [(may_spec hm).2.1 _ (List.getElem_mem h)] at ho
  cases ho
theorem may_twice {l : List Link} {i j : Nat} (hi : i < l.length) (hj : j < i) (hk : keyOf l[i] = keyOf (l[j]'(by omega))) : lmayB l = false := by
  rw [Bool.eq_false_iff]
  intro hm
  exact keys_apart l.length (Nat.le_refl _) (may_spec hm).2.2 j i (l[j]'(by omega)) l[i] hj hi (by simp) (by simp) hk.symm

theorem RLMay_pure (l : List Link) (hl : l.length ≤ 100) (hmask : ∀ a ∈ l, 0 ≤ a.mask) : Pure Try.prog 18 [links l] (.bool (lmayB l)) := by
  unfold links
  refine pure_of_tr Try.func18 rfl (Nat.le_of_ble_eq_true rfl) rfl fun E hE => ?_
  first | refine tr_seq_region (by rw [hE]; rfl) ?_ | (refine Tr.seq ?_; refine tr_seq_region (by rw [hE]; rfl) ?_)
  repeat (refine vc_op rfl ?_; simp only [go_sem, ↓Nat.reduceBEq, ↓Nat.reduceAdd, ↓Nat.reduceMul, ↓Nat.reduceEqDiff, ↓Nat.reducePow, ↓Nat.reduceLeDiff, ↓Nat.reduceLT, ↓Int.reduceLE, ↓Int.reduceLT, ↓reduceIte, ↓reduceCtorEq])
  refine vc_nil ?_
  refine Tr.seq ?_
  first | refine tr_seq_region (by rw [hE]; rfl) ?_ | (refine Tr.seq ?_; refine tr_seq_region (by rw [hE]; rfl) ?_)
  repeat (refine vc_op rfl ?_; simp only [go_sem, ↓Nat.reduceBEq, ↓Nat.reduceAdd, ↓Nat.reduceMul, ↓Nat.reduceEqDiff, ↓Nat.reducePow, ↓Nat.reduceLeDiff, ↓Nat.reduceLT, ↓Int.reduceLE, ↓Int.reduceLT, ↓reduceIte, ↓reduceCtorEq])
  refine vc_nil ?_
  refine Tr.block ?_
  refine Tr.loop (st18o l) (fun i => i ≤ l.length ∧ (∀ (j : Nat) (hj : j < l.length), j < i → odd l[j] = false) ∧ ∀ (j m : Nat) (hj : j < l.length) (hm : m < j), j < i → keyOf l[j] ≠ keyOf (l[m]'(by omega))) (fun i => l.length - i) 0 ⟨Nat.zero_le _, fun _ _ h => by omega, fun _ _ _ _ h => by omega⟩ ?_ ?_
  · refine wk_ren (fun n => n) ?_ ?_ rfl rfl rfl
    · repeat' (first | exact rfl | exact trivial | constructor)
    · repeat' (first | exact rfl | exact trivial | constructor)
  · intro i ⟨hi, hbo, hbk⟩
    unfold st18o
    refine Tr.seq ?_
    first | refine tr_seq_region (by rw [hE]; rfl) ?_ | (refine Tr.seq ?_; refine tr_seq_region (by rw [hE]; rfl) ?_)
    repeat (refine vc_op rfl ?_; simp only [go_sem, ↓Nat.reduceBEq, ↓Nat.reduceAdd, ↓Nat.reduceMul, ↓Nat.reduceEqDiff, ↓Nat.reducePow, ↓Nat.reduceLeDiff, ↓Nat.reduceLT, ↓Int.reduceLE, ↓Int.reduceLT, ↓reduceIte, ↓reduceCtorEq])
    refine vc_nil ?_
    refine Tr.cond rfl (fun h1 => ?_) (fun h1 => ?_)
    · refine Tr.skip ?_
      try simp only [blockK, thenK, ↓reduceIte]
      have hlt : i < l.length := by have := of_decide_eq_true h1; omega
      have ha := nth_map_lt Link.av l i hlt
      have hbad' := may_odd hlt
      have htw := fun j => may_twice (j := j) hlt
      have hm0 := hmask l[i] (List.getElem_mem hlt)
      generalize hla : l[i] = a at ha hbad' hm0 htw
      have hw := wrap_next (n := i) (by omega)
      refine Tr.seq ?_
      refine Tr.block ?_
      refine Tr.seq ?_
      by_cases c1 : a.t.epoch ≤ a.s.epoch
      · have e1 : decide (a.t.epoch ≤ a.s.epoch) = true := decide_eq_true c1
        have e2 : True := trivial
        have e3 : True := trivial
        have hbad := hbad' (by simp [odd, c1])
        apply tr_md mixed [] rfl (by rw [hE]; rfl) (by kernel_rfl)
        intro Q hQ
        simp only [List.toList_toArray, List.map_cons, List.map_nil, mo, guardSlot, Option.map_some, Option.map_none, List.getElem?_toArray, List.getElem?_cons_succ, List.getElem?_cons_zero, Option.bind_some]
        (refine vd2_q rfl ?_); intro r hr; simp only [ha, e1, go_sem, ↓Nat.reduceBEq, ↓Nat.reduceAdd, ↓Nat.reduceMul, ↓Nat.reduceEqDiff, ↓Nat.reducePow, ↓Nat.reduceLeDiff, ↓Nat.reduceLT, ↓Int.reduceLE, ↓Int.reduceLT, ↓reduceIte, ↓reduceCtorEq]; subst hr
        (refine vd2_q rfl ?_); intro r hr; simp only [ha, e1, go_sem, ↓Nat.reduceBEq, ↓Nat.reduceAdd, ↓Nat.reduceMul, ↓Nat.reduceEqDiff, ↓Nat.reducePow, ↓Nat.reduceLeDiff, ↓Nat.reduceLT, ↓Int.reduceLE, ↓Int.reduceLT, ↓reduceIte, ↓reduceCtorEq]; subst hr
        (refine vd2_q rfl ?_); intro r hr; simp only [ha, e1, go_sem, ↓Nat.reduceBEq, ↓Nat.reduceAdd, ↓Nat.reduceMul, ↓Nat.reduceEqDiff, ↓Nat.reducePow, ↓Nat.reduceLeDiff, ↓Nat.reduceLT, ↓Int.reduceLE, ↓Int.reduceLT, ↓reduceIte, ↓reduceCtorEq]; subst hr
        (refine vd2_q rfl ?_); intro r hr; simp only [ha, e1, go_sem, ↓Nat.reduceBEq, ↓Nat.reduceAdd, ↓Nat.reduceMul, ↓Nat.reduceEqDiff, ↓Nat.reducePow, ↓Nat.reduceLeDiff, ↓Nat.reduceLT, ↓Int.reduceLE, ↓Int.reduceLT, ↓reduceIte, ↓reduceCtorEq]; subst hr
        (refine vd2_q rfl ?_); intro r hr; simp only [ha, e1, go_sem, ↓Nat.reduceBEq, ↓Nat.reduceAdd, ↓Nat.reduceMul, ↓Nat.reduceEqDiff, ↓Nat.reducePow, ↓Nat.reduceLeDiff, ↓Nat.reduceLT, ↓Int.reduceLE, ↓Int.reduceLT, ↓reduceIte, ↓reduceCtorEq]; subst hr
        (refine vd2_q rfl ?_); intro r hr; simp only [ha, e1, go_sem, ↓Nat.reduceBEq, ↓Nat.reduceAdd, ↓Nat.reduceMul, ↓Nat.reduceEqDiff, ↓Nat.reducePow, ↓Nat.reduceLeDiff, ↓Nat.reduceLT, ↓Int.reduceLE, ↓Int.reduceLT, ↓reduceIte, ↓reduceCtorEq]; subst hr
        (refine vd2_q rfl ?_); intro r hr; simp only [ha, e1, go_sem, ↓Nat.reduceBEq, ↓Nat.reduceAdd, ↓Nat.reduceMul, ↓Nat.reduceEqDiff, ↓Nat.reducePow, ↓Nat.reduceLeDiff, ↓Nat.reduceLT, ↓Int.reduceLE, ↓Int.reduceLT, ↓reduceIte, ↓reduceCtorEq]; subst hr
        (refine vd2_q rfl ?_); intro r hr; simp only [ha, e1, go_sem, ↓Nat.reduceBEq, ↓Nat.reduceAdd, ↓Nat.reduceMul, ↓Nat.reduceEqDiff, ↓Nat.reducePow, ↓Nat.reduceLeDiff, ↓Nat.reduceLT, ↓Int.reduceLE, ↓Int.reduceLT, ↓reduceIte, ↓reduceCtorEq]; subst hr
        (refine vd2_q rfl ?_); intro r hr; simp only [ha, e1, go_sem, ↓Nat.reduceBEq, ↓Nat.reduceAdd, ↓Nat.reduceMul, ↓Nat.reduceEqDiff, ↓Nat.reducePow, ↓Nat.reduceLeDiff, ↓Nat.reduceLT, ↓Int.reduceLE, ↓Int.reduceLT, ↓reduceIte, ↓reduceCtorEq]; subst hr
        (refine vd2_q rfl ?_); intro r hr; simp only [ha, e1, go_sem, ↓Nat.reduceBEq, ↓Nat.reduceAdd, ↓Nat.reduceMul, ↓Nat.reduceEqDiff, ↓Nat.reducePow, ↓Nat.reduceLeDiff, ↓Nat.reduceLT, ↓Int.reduceLE, ↓Int.reduceLT, ↓reduceIte, ↓reduceCtorEq]; subst hr
        (refine vd2_q rfl ?_); intro r hr; simp only [ha, e1, go_sem, ↓Nat.reduceBEq, ↓Nat.reduceAdd, ↓Nat.reduceMul, ↓Nat.reduceEqDiff, ↓Nat.reducePow, ↓Nat.reduceLeDiff, ↓Nat.reduceLT, ↓Int.reduceLE, ↓Int.reduceLT, ↓reduceIte, ↓reduceCtorEq]; subst hr
        (refine vd2_q rfl ?_); intro r hr; simp only [ha, e1, go_sem, ↓Nat.reduceBEq, ↓Nat.reduceAdd, ↓Nat.reduceMul, ↓Nat.reduceEqDiff, ↓Nat.reducePow, ↓Nat.reduceLeDiff, ↓Nat.reduceLT, ↓Int.reduceLE, ↓Int.reduceLT, ↓reduceIte, ↓reduceCtorEq]; subst hr
        (refine vd2_q rfl ?_); intro r hr; simp only [ha, e1, go_sem, ↓Nat.reduceBEq, ↓Nat.reduceAdd, ↓Nat.reduceMul, ↓Nat.reduceEqDiff, ↓Nat.reducePow, ↓Nat.reduceLeDiff, ↓Nat.reduceLT, ↓Int.reduceLE, ↓Int.reduceLT, ↓reduceIte, ↓reduceCtorEq]; subst hr
        (refine vd2_q rfl ?_); intro r hr; simp only [ha, e1, go_sem, ↓Nat.reduceBEq, ↓Nat.reduceAdd, ↓Nat.reduceMul, ↓Nat.reduceEqDiff, ↓Nat.reducePow, ↓Nat.reduceLeDiff, ↓Nat.reduceLT, ↓Int.reduceLE, ↓Int.reduceLT, ↓reduceIte, ↓reduceCtorEq]; subst hr
        (first | refine vd2_goq rfl rfl ?_ | refine vd2_no rfl ?_ | refine vd2_skip rfl ?_); intro r hr; simp only [ha, e1, go_sem, ↓Nat.reduceBEq, ↓Nat.reduceAdd, ↓Nat.reduceMul, ↓Nat.reduceEqDiff, ↓Nat.reducePow, ↓Nat.reduceLeDiff, ↓Nat.reduceLT, ↓Int.reduceLE, ↓Int.reduceLT, ↓reduceIte, ↓reduceCtorEq]; subst hr
        (first | refine vd2_goq rfl rfl ?_ | refine vd2_no rfl ?_ | refine vd2_skip rfl ?_); intro r hr; simp only [ha, e1, go_sem, ↓Nat.reduceBEq, ↓Nat.reduceAdd, ↓Nat.reduceMul, ↓Nat.reduceEqDiff, ↓Nat.reducePow, ↓Nat.reduceLeDiff, ↓Nat.reduceLT, ↓Int.reduceLE, ↓Int.reduceLT, ↓reduceIte, ↓reduceCtorEq]; subst hr
        (first | refine vd2_goq rfl rfl ?_ | refine vd2_no rfl ?_ | refine vd2_skip rfl ?_); intro r hr; simp only [ha, e1, go_sem, ↓Nat.reduceBEq, ↓Nat.reduceAdd, ↓Nat.reduceMul, ↓Nat.reduceEqDiff, ↓Nat.reducePow, ↓Nat.reduceLeDiff, ↓Nat.reduceLT, ↓Int.reduceLE, ↓Int.reduceLT, ↓reduceIte, ↓reduceCtorEq]; subst hr
        (first | refine vd2_goq rfl rfl ?_ | refine vd2_no rfl ?_ | refine vd2_skip rfl ?_); intro r hr; simp only [ha, e1, go_sem, ↓Nat.reduceBEq, ↓Nat.reduceAdd, ↓Nat.reduceMul, ↓Nat.reduceEqDiff, ↓Nat.reducePow, ↓Nat.reduceLeDiff, ↓Nat.reduceLT, ↓Int.reduceLE, ↓Int.reduceLT, ↓reduceIte, ↓reduceCtorEq]; subst hr
        (first | refine vd2_goq rfl rfl ?_ | refine vd2_no rfl ?_ | refine vd2_skip rfl ?_); intro r hr; simp only [ha, e1, go_sem, ↓Nat.reduceBEq, ↓Nat.reduceAdd, ↓Nat.reduceMul, ↓Nat.reduceEqDiff, ↓Nat.reducePow, ↓Nat.reduceLeDiff, ↓Nat.reduceLT, ↓Int.reduceLE, ↓Int.reduceLT, ↓reduceIte, ↓reduceCtorEq]; subst hr
        (first | refine vd2_goq rfl rfl ?_ | refine vd2_no rfl ?_ | refine vd2_skip rfl ?_); intro r hr; simp only [ha, e1, go_sem, ↓Nat.reduceBEq, ↓Nat.reduceAdd, ↓Nat.reduceMul, ↓Nat.reduceEqDiff, ↓Nat.reducePow, ↓Nat.reduceLeDiff, ↓Nat.reduceLT, ↓Int.reduceLE, ↓Int.reduceLT, ↓reduceIte, ↓reduceCtorEq]; subst hr
        (refine vd2_q rfl ?_); intro r hr; simp only [ha, e1, go_sem, ↓Nat.reduceBEq, ↓Nat.reduceAdd, ↓Nat.reduceMul, ↓Nat.reduceEqDiff, ↓Nat.reducePow, ↓Nat.reduceLeDiff, ↓Nat.reduceLT, ↓Int.reduceLE, ↓Int.reduceLT, ↓reduceIte, ↓reduceCtorEq]; subst hr
        (refine vd2_q rfl ?_); intro r hr; simp only [ha, e1, go_sem, ↓Nat.reduceBEq, ↓Nat.reduceAdd, ↓Nat.reduceMul, ↓Nat.reduceEqDiff, ↓Nat.reducePow, ↓Nat.reduceLeDiff, ↓Nat.reduceLT, ↓Int.reduceLE, ↓Int.reduceLT, ↓reduceIte, ↓reduceCtorEq]; subst hr
        (first | refine vd2_goq rfl rfl ?_ | refine vd2_no rfl ?_ | refine vd2_skip rfl ?_); intro r hr; simp only [ha, e1, go_sem, ↓Nat.reduceBEq, ↓Nat.reduceAdd, ↓Nat.reduceMul, ↓Nat.reduceEqDiff, ↓Nat.reducePow, ↓Nat.reduceLeDiff, ↓Nat.reduceLT, ↓Int.reduceLE, ↓Int.reduceLT, ↓reduceIte, ↓reduceCtorEq]; subst hr
        (first | refine vd2_goq rfl rfl ?_ | refine vd2_no rfl ?_ | refine vd2_skip rfl ?_); intro r hr; simp only [ha, e1, go_sem, ↓Nat.reduceBEq, ↓Nat.reduceAdd, ↓Nat.reduceMul, ↓Nat.reduceEqDiff, ↓Nat.reducePow, ↓Nat.reduceLeDiff, ↓Nat.reduceLT, ↓Int.reduceLE, ↓Int.reduceLT, ↓reduceIte, ↓reduceCtorEq]; subst hr
        (first | refine vd2_goq rfl rfl ?_ | refine vd2_no rfl ?_ | refine vd2_skip rfl ?_); intro r hr; simp only [ha, e1, go_sem, ↓Nat.reduceBEq, ↓Nat.reduceAdd, ↓Nat.reduceMul, ↓Nat.reduceEqDiff, ↓Nat.reducePow, ↓Nat.reduceLeDiff, ↓Nat.reduceLT, ↓Int.reduceLE, ↓Int.reduceLT, ↓reduceIte, ↓reduceCtorEq]; subst hr
        (first | refine vd2_goq rfl rfl ?_ | refine vd2_no rfl ?_ | refine vd2_skip rfl ?_); intro r hr; simp only [ha, e1, go_sem, ↓Nat.reduceBEq, ↓Nat.reduceAdd, ↓Nat.reduceMul, ↓Nat.reduceEqDiff, ↓Nat.reducePow, ↓Nat.reduceLeDiff, ↓Nat.reduceLT, ↓Int.reduceLE, ↓Int.reduceLT, ↓reduceIte, ↓reduceCtorEq]; subst hr
        (first | refine vd2_goq rfl rfl ?_ | refine vd2_no rfl ?_ | refine vd2_skip rfl ?_); intro r hr; simp only [ha, e1, go_sem, ↓Nat.reduceBEq, ↓Nat.reduceAdd, ↓Nat.reduceMul, ↓Nat.reduceEqDiff, ↓Nat.reducePow, ↓Nat.reduceLeDiff, ↓Nat.reduceLT, ↓Int.reduceLE, ↓Int.reduceLT, ↓reduceIte, ↓reduceCtorEq]; subst hr
        (first | refine vd2_goq rfl rfl ?_ | refine vd2_no rfl ?_ | refine vd2_skip rfl ?_); intro r hr; simp only [ha, e1, go_sem, ↓Nat.reduceBEq, ↓Nat.reduceAdd, ↓Nat.reduceMul, ↓Nat.reduceEqDiff, ↓Nat.reducePow, ↓Nat.reduceLeDiff, ↓Nat.reduceLT, ↓Int.reduceLE, ↓Int.reduceLT, ↓reduceIte, ↓reduceCtorEq]; subst hr
        (refine vd2_q rfl ?_); intro r hr; simp only [ha, e1, go_sem, ↓Nat.reduceBEq, ↓Nat.reduceAdd, ↓Nat.reduceMul, ↓Nat.reduceEqDiff, ↓Nat.reducePow, ↓Nat.reduceLeDiff, ↓Nat.reduceLT, ↓Int.reduceLE, ↓Int.reduceLT, ↓reduceIte, ↓reduceCtorEq]; subst hr
        exact hQ
        refine Tr.cond rfl (fun h => ?_) (fun h => by cases h)
        first | refine tr_seq_region (by rw [hE]; rfl) ?_ | (refine Tr.seq ?_; refine tr_seq_region (by rw [hE]; rfl) ?_)
        repeat (refine vc_op rfl ?_; simp only [go_sem, ↓Nat.reduceBEq, ↓Nat.reduceAdd, ↓Nat.reduceMul, ↓Nat.reduceEqDiff, ↓Nat.reducePow, ↓Nat.reduceLeDiff, ↓Nat.reduceLT, ↓Int.reduceLE, ↓Int.reduceLT, ↓reduceIte, ↓reduceCtorEq])
        refine vc_nil ?_
        refine Tr.ret ?_
        simp only [hbad, Try.f18, go_sem, ↓Nat.reduceBEq, ↓Nat.reduceAdd, ↓Nat.reduceMul, ↓Nat.reduceEqDiff, ↓Nat.reducePow, ↓Nat.reduceLeDiff, ↓Nat.reduceLT, ↓Int.reduceLE, ↓Int.reduceLT, ↓reduceIte, ↓reduceCtorEq]
      · have e1 : decide (a.t.epoch ≤ a.s.epoch) = false := decide_eq_false c1
        by_cases c2 : a.mask < 1
        · have e2 : decide (a.mask < 1) = true := decide_eq_true c2
          have hbad := hbad' (by simp [odd]; omega)
          apply tr_md mixed [] rfl (by rw [hE]; rfl) (by kernel_rfl)
          intro Q hQ
          simp only [List.toList_toArray, List.map_cons, List.map_nil, mo, guardSlot, Option.map_some, Option.map_none, List.getElem?_toArray, List.getElem?_cons_succ, List.getElem?_cons_zero, Option.bind_some]
          (refine vd2_q rfl ?_); intro r hr; simp only [ha, e1, e2, go_sem, ↓Nat.reduceBEq, ↓Nat.reduceAdd, ↓Nat.reduceMul, ↓Nat.reduceEqDiff, ↓Nat.reducePow, ↓Nat.reduceLeDiff, ↓Nat.reduceLT, ↓Int.reduceLE, ↓Int.reduceLT, ↓reduceIte, ↓reduceCtorEq]; subst hr
          (refine vd2_q rfl ?_); intro r hr; simp only [ha, e1, e2, go_sem, ↓Nat.reduceBEq, ↓Nat.reduceAdd, ↓Nat.reduceMul, ↓Nat.reduceEqDiff, ↓Nat.reducePow, ↓Nat.reduceLeDiff, ↓Nat.reduceLT, ↓Int.reduceLE, ↓Int.reduceLT, ↓reduceIte, ↓reduceCtorEq]; subst hr
          (refine vd2_q rfl ?_); intro r hr; simp only [ha, e1, e2, go_sem, ↓Nat.reduceBEq, ↓Nat.reduceAdd, ↓Nat.reduceMul, ↓Nat.reduceEqDiff, ↓Nat.reducePow, ↓Nat.reduceLeDiff, ↓Nat.reduceLT, ↓Int.reduceLE, ↓Int.reduceLT, ↓reduceIte, ↓reduceCtorEq]; subst hr
          (refine vd2_q rfl ?_); intro r hr; simp only [ha, e1, e2, go_sem, ↓Nat.reduceBEq, ↓Nat.reduceAdd, ↓Nat.reduceMul, ↓Nat.reduceEqDiff, ↓Nat.reducePow, ↓Nat.reduceLeDiff, ↓Nat.reduceLT, ↓Int.reduceLE, ↓Int.reduceLT, ↓reduceIte, ↓reduceCtorEq]; subst hr
          (refine vd2_q rfl ?_); intro r hr; simp only [ha, e1, e2, go_sem, ↓Nat.reduceBEq, ↓Nat.reduceAdd, ↓Nat.reduceMul, ↓Nat.reduceEqDiff, ↓Nat.reducePow, ↓Nat.reduceLeDiff, ↓Nat.reduceLT, ↓Int.reduceLE, ↓Int.reduceLT, ↓reduceIte, ↓reduceCtorEq]; subst hr
          (refine vd2_q rfl ?_); intro r hr; simp only [ha, e1, e2, go_sem, ↓Nat.reduceBEq, ↓Nat.reduceAdd, ↓Nat.reduceMul, ↓Nat.reduceEqDiff, ↓Nat.reducePow, ↓Nat.reduceLeDiff, ↓Nat.reduceLT, ↓Int.reduceLE, ↓Int.reduceLT, ↓reduceIte, ↓reduceCtorEq]; subst hr
          (refine vd2_q rfl ?_); intro r hr; simp only [ha, e1, e2, go_sem, ↓Nat.reduceBEq, ↓Nat.reduceAdd, ↓Nat.reduceMul, ↓Nat.reduceEqDiff, ↓Nat.reducePow, ↓Nat.reduceLeDiff, ↓Nat.reduceLT, ↓Int.reduceLE, ↓Int.reduceLT, ↓reduceIte, ↓reduceCtorEq]; subst hr
          (refine vd2_q rfl ?_); intro r hr; simp only [ha, e1, e2, go_sem, ↓Nat.reduceBEq, ↓Nat.reduceAdd, ↓Nat.reduceMul, ↓Nat.reduceEqDiff, ↓Nat.reducePow, ↓Nat.reduceLeDiff, ↓Nat.reduceLT, ↓Int.reduceLE, ↓Int.reduceLT, ↓reduceIte, ↓reduceCtorEq]; subst hr
          (refine vd2_q rfl ?_); intro r hr; simp only [ha, e1, e2, go_sem, ↓Nat.reduceBEq, ↓Nat.reduceAdd, ↓Nat.reduceMul, ↓Nat.reduceEqDiff, ↓Nat.reducePow, ↓Nat.reduceLeDiff, ↓Nat.reduceLT, ↓Int.reduceLE, ↓Int.reduceLT, ↓reduceIte, ↓reduceCtorEq]; subst hr
          (refine vd2_q rfl ?_); intro r hr; simp only [ha, e1, e2, go_sem, ↓Nat.reduceBEq, ↓Nat.reduceAdd, ↓Nat.reduceMul, ↓Nat.reduceEqDiff, ↓Nat.reducePow, ↓Nat.reduceLeDiff, ↓Nat.reduceLT, ↓Int.reduceLE, ↓Int.reduceLT, ↓reduceIte, ↓reduceCtorEq]; subst hr
          (refine vd2_q rfl ?_); intro r hr; simp only [ha, e1, e2, go_sem, ↓Nat.reduceBEq, ↓Nat.reduceAdd, ↓Nat.reduceMul, ↓Nat.reduceEqDiff, ↓Nat.reducePow, ↓Nat.reduceLeDiff, ↓Nat.reduceLT, ↓Int.reduceLE, ↓Int.reduceLT, ↓reduceIte, ↓reduceCtorEq]; subst hr
          (refine vd2_q rfl ?_); intro r hr; simp only [ha, e1, e2, go_sem, ↓Nat.reduceBEq, ↓Nat.reduceAdd, ↓Nat.reduceMul, ↓Nat.reduceEqDiff, ↓Nat.reducePow, ↓Nat.reduceLeDiff, ↓Nat.reduceLT, ↓Int.reduceLE, ↓Int.reduceLT, ↓reduceIte, ↓reduceCtorEq]; subst hr
          (refine vd2_q rfl ?_); intro r hr; simp only [ha, e1, e2, go_sem, ↓Nat.reduceBEq, ↓Nat.reduceAdd, ↓Nat.reduceMul, ↓Nat.reduceEqDiff, ↓Nat.reducePow, ↓Nat.reduceLeDiff, ↓Nat.reduceLT, ↓Int.reduceLE, ↓Int.reduceLT, ↓reduceIte, ↓reduceCtorEq]; subst hr
          (refine vd2_q rfl ?_); intro r hr; simp only [ha, e1, e2, go_sem, ↓Nat.reduceBEq, ↓Nat.reduceAdd, ↓Nat.reduceMul, ↓Nat.reduceEqDiff, ↓Nat.reducePow, ↓Nat.reduceLeDiff, ↓Nat.reduceLT, ↓Int.reduceLE, ↓Int.reduceLT, ↓reduceIte, ↓reduceCtorEq]; subst hr
          (first | refine vd2_goq rfl rfl ?_ | refine vd2_no rfl ?_ | refine vd2_skip rfl ?_); intro r hr; simp only [ha, e1, e2, go_sem, ↓Nat.reduceBEq, ↓Nat.reduceAdd, ↓Nat.reduceMul, ↓Nat.reduceEqDiff, ↓Nat.reducePow, ↓Nat.reduceLeDiff, ↓Nat.reduceLT, ↓Int.reduceLE, ↓Int.reduceLT, ↓reduceIte, ↓reduceCtorEq]; subst hr
          (first | refine vd2_goq rfl rfl ?_ | refine vd2_no rfl ?_ | refine vd2_skip rfl ?_); intro r hr; simp only [ha, e1, e2, go_sem, ↓Nat.reduceBEq, ↓Nat.reduceAdd, ↓Nat.reduceMul, ↓Nat.reduceEqDiff, ↓Nat.reducePow, ↓Nat.reduceLeDiff, ↓Nat.reduceLT, ↓Int.reduceLE, ↓Int.reduceLT, ↓reduceIte, ↓reduceCtorEq]; subst hr
          (first | refine vd2_goq rfl rfl ?_ | refine vd2_no rfl ?_ | refine vd2_skip rfl ?_); intro r hr; simp only [ha, e1, e2, go_sem, ↓Nat.reduceBEq, ↓Nat.reduceAdd, ↓Nat.reduceMul, ↓Nat.reduceEqDiff, ↓Nat.reducePow, ↓Nat.reduceLeDiff, ↓Nat.reduceLT, ↓Int.reduceLE, ↓Int.reduceLT, ↓reduceIte, ↓reduceCtorEq]; subst hr
          (first | refine vd2_goq rfl rfl ?_ | refine vd2_no rfl ?_ | refine vd2_skip rfl ?_); intro r hr; simp only [ha, e1, e2, go_sem, ↓Nat.reduceBEq, ↓Nat.reduceAdd, ↓Nat.reduceMul, ↓Nat.reduceEqDiff, ↓Nat.reducePow, ↓Nat.reduceLeDiff, ↓Nat.reduceLT, ↓Int.reduceLE, ↓Int.reduceLT, ↓reduceIte, ↓reduceCtorEq]; subst hr
          (first | refine vd2_goq rfl rfl ?_ | refine vd2_no rfl ?_ | refine vd2_skip rfl ?_); intro r hr; simp only [ha, e1, e2, go_sem, ↓Nat.reduceBEq, ↓Nat.reduceAdd, ↓Nat.reduceMul, ↓Nat.reduceEqDiff, ↓Nat.reducePow, ↓Nat.reduceLeDiff, ↓Nat.reduceLT, ↓Int.reduceLE, ↓Int.reduceLT, ↓reduceIte, ↓reduceCtorEq]; subst hr
          (first | refine vd2_goq rfl rfl ?_ | refine vd2_no rfl ?_ | refine vd2_skip rfl ?_); intro r hr; simp only [ha, e1, e2, go_sem, ↓Nat.reduceBEq, ↓Nat.reduceAdd, ↓Nat.reduceMul, ↓Nat.reduceEqDiff, ↓Nat.reducePow, ↓Nat.reduceLeDiff, ↓Nat.reduceLT, ↓Int.reduceLE, ↓Int.reduceLT, ↓reduceIte, ↓reduceCtorEq]; subst hr
          (refine vd2_q rfl ?_); intro r hr; simp only [ha, e1, e2, go_sem, ↓Nat.reduceBEq, ↓Nat.reduceAdd, ↓Nat.reduceMul, ↓Nat.reduceEqDiff, ↓Nat.reducePow, ↓Nat.reduceLeDiff, ↓Nat.reduceLT, ↓Int.reduceLE, ↓Int.reduceLT, ↓reduceIte, ↓reduceCtorEq]; subst hr
          (refine vd2_q rfl ?_); intro r hr; simp only [ha, e1, e2, go_sem, ↓Nat.reduceBEq, ↓Nat.reduceAdd, ↓Nat.reduceMul, ↓Nat.reduceEqDiff, ↓Nat.reducePow, ↓Nat.reduceLeDiff, ↓Nat.reduceLT, ↓Int.reduceLE, ↓Int.reduceLT, ↓reduceIte, ↓reduceCtorEq]; subst hr
          (first | refine vd2_goq rfl rfl ?_ | refine vd2_no rfl ?_ | refine vd2_skip rfl ?_); intro r hr; simp only [ha, e1, e2, go_sem, ↓Nat.reduceBEq, ↓Nat.reduceAdd, ↓Nat.reduceMul, ↓Nat.reduceEqDiff, ↓Nat.reducePow, ↓Nat.reduceLeDiff, ↓Nat.reduceLT, ↓Int.reduceLE, ↓Int.reduceLT, ↓reduceIte, ↓reduceCtorEq]; subst hr
          (first | refine vd2_goq rfl rfl ?_ | refine vd2_no rfl ?_ | refine vd2_skip rfl ?_); intro r hr; simp only [ha, e1, e2, go_sem, ↓Nat.reduceBEq, ↓Nat.reduceAdd, ↓Nat.reduceMul, ↓Nat.reduceEqDiff, ↓Nat.reducePow, ↓Nat.reduceLeDiff, ↓Nat.reduceLT, ↓Int.reduceLE, ↓Int.reduceLT, ↓reduceIte, ↓reduceCtorEq]; subst hr
          (first | refine vd2_goq rfl rfl ?_ | refine vd2_no rfl ?_ | refine vd2_skip rfl ?_); intro r hr; simp only [ha, e1, e2, go_sem, ↓Nat.reduceBEq, ↓Nat.reduceAdd, ↓Nat.reduceMul, ↓Nat.reduceEqDiff, ↓Nat.reducePow, ↓Nat.reduceLeDiff, ↓Nat.reduceLT, ↓Int.reduceLE, ↓Int.reduceLT, ↓reduceIte, ↓reduceCtorEq]; subst hr
          (first | refine vd2_goq rfl rfl ?_ | refine vd2_no rfl ?_ | refine vd2_skip rfl ?_); intro r hr; simp only [ha, e1, e2, go_sem, ↓Nat.reduceBEq, ↓Nat.reduceAdd, ↓Nat.reduceMul, ↓Nat.reduceEqDiff, ↓Nat.reducePow, ↓Nat.reduceLeDiff, ↓Nat.reduceLT, ↓Int.reduceLE, ↓Int.reduceLT, ↓reduceIte, ↓reduceCtorEq]; subst hr
          (first | refine vd2_goq rfl rfl ?_ | refine vd2_no rfl ?_ | refine vd2_skip rfl ?_); intro r hr; simp only [ha, e1, e2, go_sem, ↓Nat.reduceBEq, ↓Nat.reduceAdd, ↓Nat.reduceMul, ↓Nat.reduceEqDiff, ↓Nat.reducePow, ↓Nat.reduceLeDiff, ↓Nat.reduceLT, ↓Int.reduceLE, ↓Int.reduceLT, ↓reduceIte, ↓reduceCtorEq]; subst hr
          (first | refine vd2_goq rfl rfl ?_ | refine vd2_no rfl ?_ | refine vd2_skip rfl ?_); intro r hr; simp only [ha, e1, e2, go_sem, ↓Nat.reduceBEq, ↓Nat.reduceAdd, ↓Nat.reduceMul, ↓Nat.reduceEqDiff, ↓Nat.reducePow, ↓Nat.reduceLeDiff, ↓Nat.reduceLT, ↓Int.reduceLE, ↓Int.reduceLT, ↓reduceIte, ↓reduceCtorEq]; subst hr
          (refine vd2_q rfl ?_); intro r hr; simp only [ha, e1, e2, go_sem, ↓Nat.reduceBEq, ↓Nat.reduceAdd, ↓Nat.reduceMul, ↓Nat.reduceEqDiff, ↓Nat.reducePow, ↓Nat.reduceLeDiff, ↓Nat.reduceLT, ↓Int.reduceLE, ↓Int.reduceLT, ↓reduceIte, ↓reduceCtorEq]; subst hr
          exact hQ
          refine Tr.cond rfl (fun h => ?_) (fun h => by cases h)
          first | refine tr_seq_region (by rw [hE]; rfl) ?_ | (refine Tr.seq ?_; refine tr_seq_region (by rw [hE]; rfl) ?_)
          repeat (refine vc_op rfl ?_; simp only [go_sem, ↓Nat.reduceBEq, ↓Nat.reduceAdd, ↓Nat.reduceMul, ↓Nat.reduceEqDiff, ↓Nat.reducePow, ↓Nat.reduceLeDiff, ↓Nat.reduceLT, ↓Int.reduceLE, ↓Int.reduceLT, ↓reduceIte, ↓reduceCtorEq])
          refine vc_nil ?_
          refine Tr.ret ?_
          simp only [hbad, Try.f18, go_sem, ↓Nat.reduceBEq, ↓Nat.reduceAdd, ↓Nat.reduceMul, ↓Nat.reduceEqDiff, ↓Nat.reducePow, ↓Nat.reduceLeDiff, ↓Nat.reduceLT, ↓Int.reduceLE, ↓Int.reduceLT, ↓reduceIte, ↓reduceCtorEq]
        · have e2 : decide (a.mask < 1) = false := decide_eq_false c2
          by_cases c3 : 255 < a.mask
          · have e3 : decide (255 < a.mask) = true := decide_eq_true c3
            have hbad := hbad' (by simp [odd]; omega)
            apply tr_md mixed [] rfl (by rw [hE]; rfl) (by kernel_rfl)
            intro Q hQ
            simp only [List.toList_toArray, List.map_cons, List.map_nil, mo, guardSlot, Option.map_some, Option.map_none, List.getElem?_toArray, List.getElem?_cons_succ, List.getElem?_cons_zero, Option.bind_some]
            (refine vd2_q rfl ?_); intro r hr; simp only [ha, e1, e2, e3, go_sem, ↓Nat.reduceBEq, ↓Nat.reduceAdd, ↓Nat.reduceMul, ↓Nat.reduceEqDiff, ↓Nat.reducePow, ↓Nat.reduceLeDiff, ↓Nat.reduceLT, ↓Int.reduceLE, ↓Int.reduceLT, ↓reduceIte, ↓reduceCtorEq]; subst hr
            (refine vd2_q rfl ?_); intro r hr; simp only [ha, e1, e2, e3, go_sem, ↓Nat.reduceBEq, ↓Nat.reduceAdd, ↓Nat.reduceMul, ↓Nat.reduceEqDiff, ↓Nat.reducePow, ↓Nat.reduceLeDiff, ↓Nat.reduceLT, ↓Int.reduceLE, ↓Int.reduceLT, ↓reduceIte, ↓reduceCtorEq]; subst hr
            (refine vd2_q rfl ?_); intro r hr; simp only [ha, e1, e2, e3, go_sem, ↓Nat.reduceBEq, ↓Nat.reduceAdd, ↓Nat.reduceMul, ↓Nat.reduceEqDiff, ↓Nat.reducePow, ↓Nat.reduceLeDiff, ↓Nat.reduceLT, ↓Int.reduceLE, ↓Int.reduceLT, ↓reduceIte, ↓reduceCtorEq]; subst hr
            (refine vd2_q rfl ?_); intro r hr; simp only [ha, e1, e2, e3, go_sem, ↓Nat.reduceBEq, ↓Nat.reduceAdd, ↓Nat.reduceMul, ↓Nat.reduceEqDiff, ↓Nat.reducePow, ↓Nat.reduceLeDiff, ↓Nat.reduceLT, ↓Int.reduceLE, ↓Int.reduceLT, ↓reduceIte, ↓reduceCtorEq]; subst hr
            (refine vd2_q rfl ?_); intro r hr; simp only [ha, e1, e2, e3, go_sem, ↓Nat.reduceBEq, ↓Nat.reduceAdd, ↓Nat.reduceMul, ↓Nat.reduceEqDiff, ↓Nat.reducePow, ↓Nat.reduceLeDiff, ↓Nat.reduceLT, ↓Int.reduceLE, ↓Int.reduceLT, ↓reduceIte, ↓reduceCtorEq]; subst hr
            (refine vd2_q rfl ?_); intro r hr; simp only [ha, e1, e2, e3, go_sem, ↓Nat.reduceBEq, ↓Nat.reduceAdd, ↓Nat.reduceMul, ↓Nat.reduceEqDiff, ↓Nat.reducePow, ↓Nat.reduceLeDiff, ↓Nat.reduceLT, ↓Int.reduceLE, ↓Int.reduceLT, ↓reduceIte, ↓reduceCtorEq]; subst hr
            (refine vd2_q rfl ?_); intro r hr; simp only [ha, e1, e2, e3, go_sem, ↓Nat.reduceBEq, ↓Nat.reduceAdd, ↓Nat.reduceMul, ↓Nat.reduceEqDiff, ↓Nat.reducePow, ↓Nat.reduceLeDiff, ↓Nat.reduceLT, ↓Int.reduceLE, ↓Int.reduceLT, ↓reduceIte, ↓reduceCtorEq]; subst hr
            (refine vd2_q rfl ?_); intro r hr; simp only [ha, e1, e2, e3, go_sem, ↓Nat.reduceBEq, ↓Nat.reduceAdd, ↓Nat.reduceMul, ↓Nat.reduceEqDiff, ↓Nat.reducePow, ↓Nat.reduceLeDiff, ↓Nat.reduceLT, ↓Int.reduceLE, ↓Int.reduceLT, ↓reduceIte, ↓reduceCtorEq]; subst hr
            (refine vd2_q rfl ?_); intro r hr; simp only [ha, e1, e2, e3, go_sem, ↓Nat.reduceBEq, ↓Nat.reduceAdd, ↓Nat.reduceMul, ↓Nat.reduceEqDiff, ↓Nat.reducePow, ↓Nat.reduceLeDiff, ↓Nat.reduceLT, ↓Int.reduceLE, ↓Int.reduceLT, ↓reduceIte, ↓reduceCtorEq]; subst hr
            (refine vd2_q rfl ?_); intro r hr; simp only [ha, e1, e2, e3, go_sem, ↓Nat.reduceBEq, ↓Nat.reduceAdd, ↓Nat.reduceMul, ↓Nat.reduceEqDiff, ↓Nat.reducePow, ↓Nat.reduceLeDiff, ↓Nat.reduceLT, ↓Int.reduceLE, ↓Int.reduceLT, ↓reduceIte, ↓reduceCtorEq]; subst hr
            (refine vd2_q rfl ?_); intro r hr; simp only [ha, e1, e2, e3, go_sem, ↓Nat.reduceBEq, ↓Nat.reduceAdd, ↓Nat.reduceMul, ↓Nat.reduceEqDiff, ↓Nat.reducePow, ↓Nat.reduceLeDiff, ↓Nat.reduceLT, ↓Int.reduceLE, ↓Int.reduceLT, ↓reduceIte, ↓reduceCtorEq]; subst hr
            (refine vd2_q rfl ?_); intro r hr; simp only [ha, e1, e2, e3, go_sem, ↓Nat.reduceBEq, ↓Nat.reduceAdd, ↓Nat.reduceMul, ↓Nat.reduceEqDiff, ↓Nat.reducePow, ↓Nat.reduceLeDiff, ↓Nat.reduceLT, ↓Int.reduceLE, ↓Int.reduceLT, ↓reduceIte, ↓reduceCtorEq]; subst hr
            (refine vd2_q rfl ?_); intro r hr; simp only [ha, e1, e2, e3, go_sem, ↓Nat.reduceBEq, ↓Nat.reduceAdd, ↓Nat.reduceMul, ↓Nat.reduceEqDiff, ↓Nat.reducePow, ↓Nat.reduceLeDiff, ↓Nat.reduceLT, ↓Int.reduceLE, ↓Int.reduceLT, ↓reduceIte, ↓reduceCtorEq]; subst hr
            (refine vd2_q rfl ?_); intro r hr; simp only [ha, e1, e2, e3, go_sem, ↓Nat.reduceBEq, ↓Nat.reduceAdd, ↓Nat.reduceMul, ↓Nat.reduceEqDiff, ↓Nat.reducePow, ↓Nat.reduceLeDiff, ↓Nat.reduceLT, ↓Int.reduceLE, ↓Int.reduceLT, ↓reduceIte, ↓reduceCtorEq]; subst hr
            (first | refine vd2_goq rfl rfl ?_ | refine vd2_no rfl ?_ | refine vd2_skip rfl ?_); intro r hr; simp only [ha, e1, e2, e3, go_sem, ↓Nat.reduceBEq, ↓Nat.reduceAdd, ↓Nat.reduceMul, ↓Nat.reduceEqDiff, ↓Nat.reducePow, ↓Nat.reduceLeDiff, ↓Nat.reduceLT, ↓Int.reduceLE, ↓Int.reduceLT, ↓reduceIte, ↓reduceCtorEq]; subst hr
            (first | refine vd2_goq rfl rfl ?_ | refine vd2_no rfl ?_ | refine vd2_skip rfl ?_); intro r hr; simp only [ha, e1, e2, e3, go_sem, ↓Nat.reduceBEq, ↓Nat.reduceAdd, ↓Nat.reduceMul, ↓Nat.reduceEqDiff, ↓Nat.reducePow, ↓Nat.reduceLeDiff, ↓Nat.reduceLT, ↓Int.reduceLE, ↓Int.reduceLT, ↓reduceIte, ↓reduceCtorEq]; subst hr
            (first | refine vd2_goq rfl rfl ?_ | refine vd2_no rfl ?_ | refine vd2_skip rfl ?_); intro r hr; simp only [ha, e1, e2, e3, go_sem, ↓Nat.reduceBEq, ↓Nat.reduceAdd, ↓Nat.reduceMul, ↓Nat.reduceEqDiff, ↓Nat.reducePow, ↓Nat.reduceLeDiff, ↓Nat.reduceLT, ↓Int.reduceLE, ↓Int.reduceLT, ↓reduceIte, ↓reduceCtorEq]; subst hr
            (first | refine vd2_goq rfl rfl ?_ | refine vd2_no rfl ?_ | refine vd2_skip rfl ?_); intro r hr; simp only [ha, e1, e2, e3, go_sem, ↓Nat.reduceBEq, ↓Nat.reduceAdd, ↓Nat.reduceMul, ↓Nat.reduceEqDiff, ↓Nat.reducePow, ↓Nat.reduceLeDiff, ↓Nat.reduceLT, ↓Int.reduceLE, ↓Int.reduceLT, ↓reduceIte, ↓reduceCtorEq]; subst hr
            (first | refine vd2_goq rfl rfl ?_ | refine vd2_no rfl ?_ | refine vd2_skip rfl ?_); intro r hr; simp only [ha, e1, e2, e3, go_sem, ↓Nat.reduceBEq, ↓Nat.reduceAdd, ↓Nat.reduceMul, ↓Nat.reduceEqDiff, ↓Nat.reducePow, ↓Nat.reduceLeDiff, ↓Nat.reduceLT, ↓Int.reduceLE, ↓Int.reduceLT, ↓reduceIte, ↓reduceCtorEq]; subst hr
            (first | refine vd2_goq rfl rfl ?_ | refine vd2_no rfl ?_ | refine vd2_skip rfl ?_); intro r hr; simp only [ha, e1, e2, e3, go_sem, ↓Nat.reduceBEq, ↓Nat.reduceAdd, ↓Nat.reduceMul, ↓Nat.reduceEqDiff, ↓Nat.reducePow, ↓Nat.reduceLeDiff, ↓Nat.reduceLT, ↓Int.reduceLE, ↓Int.reduceLT, ↓reduceIte, ↓reduceCtorEq]; subst hr
            (refine vd2_q rfl ?_); intro r hr; simp only [ha, e1, e2, e3, go_sem, ↓Nat.reduceBEq, ↓Nat.reduceAdd, ↓Nat.reduceMul, ↓Nat.reduceEqDiff, ↓Nat.reducePow, ↓Nat.reduceLeDiff, ↓Nat.reduceLT, ↓Int.reduceLE, ↓Int.reduceLT, ↓reduceIte, ↓reduceCtorEq]; subst hr
            (refine vd2_q rfl ?_); intro r hr; simp only [ha, e1, e2, e3, go_sem, ↓Nat.reduceBEq, ↓Nat.reduceAdd, ↓Nat.reduceMul, ↓Nat.reduceEqDiff, ↓Nat.reducePow, ↓Nat.reduceLeDiff, ↓Nat.reduceLT, ↓Int.reduceLE, ↓Int.reduceLT, ↓reduceIte, ↓reduceCtorEq]; subst hr
            (first | refine vd2_goq rfl rfl ?_ | refine vd2_no rfl ?_ | refine vd2_skip rfl ?_); intro r hr; simp only [ha, e1, e2, e3, go_sem, ↓Nat.reduceBEq, ↓Nat.reduceAdd, ↓Nat.reduceMul, ↓Nat.reduceEqDiff, ↓Nat.reducePow, ↓Nat.reduceLeDiff, ↓Nat.reduceLT, ↓Int.reduceLE, ↓Int.reduceLT, ↓reduceIte, ↓reduceCtorEq]; subst hr
            (first | refine vd2_goq rfl rfl ?_ | refine vd2_no rfl ?_ | refine vd2_skip rfl ?_); intro r hr; simp only [ha, e1, e2, e3, go_sem, ↓Nat.reduceBEq, ↓Nat.reduceAdd, ↓Nat.reduceMul, ↓Nat.reduceEqDiff, ↓Nat.reducePow, ↓Nat.reduceLeDiff, ↓Nat.reduceLT, ↓Int.reduceLE, ↓Int.reduceLT, ↓reduceIte, ↓reduceCtorEq]; subst hr
            (first | refine vd2_goq rfl rfl ?_ | refine vd2_no rfl ?_ | refine vd2_skip rfl ?_); intro r hr; simp only [ha, e1, e2, e3, go_sem, ↓Nat.reduceBEq, ↓Nat.reduceAdd, ↓Nat.reduceMul, ↓Nat.reduceEqDiff, ↓Nat.reducePow, ↓Nat.reduceLeDiff, ↓Nat.reduceLT, ↓Int.reduceLE, ↓Int.reduceLT, ↓reduceIte, ↓reduceCtorEq]; subst hr
            (first | refine vd2_goq rfl rfl ?_ | refine vd2_no rfl ?_ | refine vd2_skip rfl ?_); intro r hr; simp only [ha, e1, e2, e3, go_sem, ↓Nat.reduceBEq, ↓Nat.reduceAdd, ↓Nat.reduceMul, ↓Nat.reduceEqDiff, ↓Nat.reducePow, ↓Nat.reduceLeDiff, ↓Nat.reduceLT, ↓Int.reduceLE, ↓Int.reduceLT, ↓reduceIte, ↓reduceCtorEq]; subst hr
            (first | refine vd2_goq rfl rfl ?_ | refine vd2_no rfl ?_ | refine vd2_skip rfl ?_); intro r hr; simp only [ha, e1, e2, e3, go_sem, ↓Nat.reduceBEq, ↓Nat.reduceAdd, ↓Nat.reduceMul, ↓Nat.reduceEqDiff, ↓Nat.reducePow, ↓Nat.reduceLeDiff, ↓Nat.reduceLT, ↓Int.reduceLE, ↓Int.reduceLT, ↓reduceIte, ↓reduceCtorEq]; subst hr
            (first | refine vd2_goq rfl rfl ?_ | refine vd2_no rfl ?_ | refine vd2_skip rfl ?_); intro r hr; simp only [ha, e1, e2, e3, go_sem, ↓Nat.reduceBEq, ↓Nat.reduceAdd, ↓Nat.reduceMul, ↓Nat.reduceEqDiff, ↓Nat.reducePow, ↓Nat.reduceLeDiff, ↓Nat.reduceLT, ↓Int.reduceLE, ↓Int.reduceLT, ↓reduceIte, ↓reduceCtorEq]; subst hr
            (refine vd2_q rfl ?_); intro r hr; simp only [ha, e1, e2, e3, go_sem, ↓Nat.reduceBEq, ↓Nat.reduceAdd, ↓Nat.reduceMul, ↓Nat.reduceEqDiff, ↓Nat.reducePow, ↓Nat.reduceLeDiff, ↓Nat.reduceLT, ↓Int.reduceLE, ↓Int.reduceLT, ↓reduceIte, ↓reduceCtorEq]; subst hr
            exact hQ
            refine Tr.cond rfl (fun h => ?_) (fun h => by cases h)
            first | refine tr_seq_region (by rw [hE]; rfl) ?_ | (refine Tr.seq ?_; refine tr_seq_region (by rw [hE]; rfl) ?_)
            repeat (refine vc_op rfl ?_; simp only [go_sem, ↓Nat.reduceBEq, ↓Nat.reduceAdd, ↓Nat.reduceMul, ↓Nat.reduceEqDiff, ↓Nat.reducePow, ↓Nat.reduceLeDiff, ↓Nat.reduceLT, ↓Int.reduceLE, ↓Int.reduceLT, ↓reduceIte, ↓reduceCtorEq])
            refine vc_nil ?_
            refine Tr.ret ?_
            simp only [hbad, Try.f18, go_sem, ↓Nat.reduceBEq, ↓Nat.reduceAdd, ↓Nat.reduceMul, ↓Nat.reduceEqDiff, ↓Nat.reducePow, ↓Nat.reduceLeDiff, ↓Nat.reduceLT, ↓Int.reduceLE, ↓Int.reduceLT, ↓reduceIte, ↓reduceCtorEq]
          · have e3 : decide (255 < a.mask) = false := decide_eq_false c3
            have hgood : odd a = false := by rw [odd_false]; omega
            apply tr_md mixed [] rfl (by rw [hE]; rfl) (by kernel_rfl)
            intro Q hQ
            simp only [List.toList_toArray, List.map_cons, List.map_nil, mo, guardSlot, Option.map_some, Option.map_none, List.getElem?_toArray, List.getElem?_cons_succ, List.getElem?_cons_zero, Option.bind_some]
            (refine vd2_q rfl ?_); intro r hr; simp only [ha, e1, e2, e3, go_sem, ↓Nat.reduceBEq, ↓Nat.reduceAdd, ↓Nat.reduceMul, ↓Nat.reduceEqDiff, ↓Nat.reducePow, ↓Nat.reduceLeDiff, ↓Nat.reduceLT, ↓Int.reduceLE, ↓Int.reduceLT, ↓reduceIte, ↓reduceCtorEq]; subst hr
            (refine vd2_q rfl ?_); intro r hr; simp only [ha, e1, e2, e3, go_sem, ↓Nat.reduceBEq, ↓Nat.reduceAdd, ↓Nat.reduceMul, ↓Nat.reduceEqDiff, ↓Nat.reducePow, ↓Nat.reduceLeDiff, ↓Nat.reduceLT, ↓Int.reduceLE, ↓Int.reduceLT, ↓reduceIte, ↓reduceCtorEq]; subst hr
            (refine vd2_q rfl ?_); intro r hr; simp only [ha, e1, e2, e3, go_sem, ↓Nat.reduceBEq, ↓Nat.reduceAdd, ↓Nat.reduceMul, ↓Nat.reduceEqDiff, ↓Nat.reducePow, ↓Nat.reduceLeDiff, ↓Nat.reduceLT, ↓Int.reduceLE, ↓Int.reduceLT, ↓reduceIte, ↓reduceCtorEq]; subst hr
            (refine vd2_q rfl ?_); intro r hr; simp only [ha, e1, e2, e3, go_sem, ↓Nat.reduceBEq, ↓Nat.reduceAdd, ↓Nat.reduceMul, ↓Nat.reduceEqDiff, ↓Nat.reducePow, ↓Nat.reduceLeDiff, ↓Nat.reduceLT, ↓Int.reduceLE, ↓Int.reduceLT, ↓reduceIte, ↓reduceCtorEq]; subst hr
            (refine vd2_q rfl ?_); intro r hr; simp only [ha, e1, e2, e3, go_sem, ↓Nat.reduceBEq, ↓Nat.reduceAdd, ↓Nat.reduceMul, ↓Nat.reduceEqDiff, ↓Nat.reducePow, ↓Nat.reduceLeDiff, ↓Nat.reduceLT, ↓Int.reduceLE, ↓Int.reduceLT, ↓reduceIte, ↓reduceCtorEq]; subst hr
            (refine vd2_q rfl ?_); intro r hr; simp only [ha, e1, e2, e3, go_sem, ↓Nat.reduceBEq, ↓Nat.reduceAdd, ↓Nat.reduceMul, ↓Nat.reduceEqDiff, ↓Nat.reducePow, ↓Nat.reduceLeDiff, ↓Nat.reduceLT, ↓Int.reduceLE, ↓Int.reduceLT, ↓reduceIte, ↓reduceCtorEq]; subst hr
            (refine vd2_q rfl ?_); intro r hr; simp only [ha, e1, e2, e3, go_sem, ↓Nat.reduceBEq, ↓Nat.reduceAdd, ↓Nat.reduceMul, ↓Nat.reduceEqDiff, ↓Nat.reducePow, ↓Nat.reduceLeDiff, ↓Nat.reduceLT, ↓Int.reduceLE, ↓Int.reduceLT, ↓reduceIte, ↓reduceCtorEq]; subst hr
            (refine vd2_q rfl ?_); intro r hr; simp only [ha, e1, e2, e3, go_sem, ↓Nat.reduceBEq, ↓Nat.reduceAdd, ↓Nat.reduceMul, ↓Nat.reduceEqDiff, ↓Nat.reducePow, ↓Nat.reduceLeDiff, ↓Nat.reduceLT, ↓Int.reduceLE, ↓Int.reduceLT, ↓reduceIte, ↓reduceCtorEq]; subst hr
            (refine vd2_q rfl ?_); intro r hr; simp only [ha, e1, e2, e3, go_sem, ↓Nat.reduceBEq, ↓Nat.reduceAdd, ↓Nat.reduceMul, ↓Nat.reduceEqDiff, ↓Nat.reducePow, ↓Nat.reduceLeDiff, ↓Nat.reduceLT, ↓Int.reduceLE, ↓Int.reduceLT, ↓reduceIte, ↓reduceCtorEq]; subst hr
            (refine vd2_q rfl ?_); intro r hr; simp only [ha, e1, e2, e3, go_sem, ↓Nat.reduceBEq, ↓Nat.reduceAdd, ↓Nat.reduceMul, ↓Nat.reduceEqDiff, ↓Nat.reducePow, ↓Nat.reduceLeDiff, ↓Nat.reduceLT, ↓Int.reduceLE, ↓Int.reduceLT, ↓reduceIte, ↓reduceCtorEq]; subst hr
            (refine vd2_q rfl ?_); intro r hr; simp only [ha, e1, e2, e3, go_sem, ↓Nat.reduceBEq, ↓Nat.reduceAdd, ↓Nat.reduceMul, ↓Nat.reduceEqDiff, ↓Nat.reducePow, ↓Nat.reduceLeDiff, ↓Nat.reduceLT, ↓Int.reduceLE, ↓Int.reduceLT, ↓reduceIte, ↓reduceCtorEq]; subst hr
            (refine vd2_q rfl ?_); intro r hr; simp only [ha, e1, e2, e3, go_sem, ↓Nat.reduceBEq, ↓Nat.reduceAdd, ↓Nat.reduceMul, ↓Nat.reduceEqDiff, ↓Nat.reducePow, ↓Nat.reduceLeDiff, ↓Nat.reduceLT, ↓Int.reduceLE, ↓Int.reduceLT, ↓reduceIte, ↓reduceCtorEq]; subst hr
            (refine vd2_q rfl ?_); intro r hr; simp only [ha, e1, e2, e3, go_sem, ↓Nat.reduceBEq, ↓Nat.reduceAdd, ↓Nat.reduceMul, ↓Nat.reduceEqDiff, ↓Nat.reducePow, ↓Nat.reduceLeDiff, ↓Nat.reduceLT, ↓Int.reduceLE, ↓Int.reduceLT, ↓reduceIte, ↓reduceCtorEq]; subst hr
            (refine vd2_q rfl ?_); intro r hr; simp only [ha, e1, e2, e3, go_sem, ↓Nat.reduceBEq, ↓Nat.reduceAdd, ↓Nat.reduceMul, ↓Nat.reduceEqDiff, ↓Nat.reducePow, ↓Nat.reduceLeDiff, ↓Nat.reduceLT, ↓Int.reduceLE, ↓Int.reduceLT, ↓reduceIte, ↓reduceCtorEq]; subst hr
            (first | refine vd2_goq rfl rfl ?_ | refine vd2_no rfl ?_ | refine vd2_skip rfl ?_); intro r hr; simp only [ha, e1, e2, e3, go_sem, ↓Nat.reduceBEq, ↓Nat.reduceAdd, ↓Nat.reduceMul, ↓Nat.reduceEqDiff, ↓Nat.reducePow, ↓Nat.reduceLeDiff, ↓Nat.reduceLT, ↓Int.reduceLE, ↓Int.reduceLT, ↓reduceIte, ↓reduceCtorEq]; subst hr
            (first | refine vd2_goq rfl rfl ?_ | refine vd2_no rfl ?_ | refine vd2_skip rfl ?_); intro r hr; simp only [ha, e1, e2, e3, go_sem, ↓Nat.reduceBEq, ↓Nat.reduceAdd, ↓Nat.reduceMul, ↓Nat.reduceEqDiff, ↓Nat.reducePow, ↓Nat.reduceLeDiff, ↓Nat.reduceLT, ↓Int.reduceLE, ↓Int.reduceLT, ↓reduceIte, ↓reduceCtorEq]; subst hr
            (first | refine vd2_goq rfl rfl ?_ | refine vd2_no rfl ?_ | refine vd2_skip rfl ?_); intro r hr; simp only [ha, e1, e2, e3, go_sem, ↓Nat.reduceBEq, ↓Nat.reduceAdd, ↓Nat.reduceMul, ↓Nat.reduceEqDiff, ↓Nat.reducePow, ↓Nat.reduceLeDiff, ↓Nat.reduceLT, ↓Int.reduceLE, ↓Int.reduceLT, ↓reduceIte, ↓reduceCtorEq]; subst hr
            (first | refine vd2_goq rfl rfl ?_ | refine vd2_no rfl ?_ | refine vd2_skip rfl ?_); intro r hr; simp only [ha, e1, e2, e3, go_sem, ↓Nat.reduceBEq, ↓Nat.reduceAdd, ↓Nat.reduceMul, ↓Nat.reduceEqDiff, ↓Nat.reducePow, ↓Nat.reduceLeDiff, ↓Nat.reduceLT, ↓Int.reduceLE, ↓Int.reduceLT, ↓reduceIte, ↓reduceCtorEq]; subst hr
            (first | refine vd2_goq rfl rfl ?_ | refine vd2_no rfl ?_ | refine vd2_skip rfl ?_); intro r hr; simp only [ha, e1, e2, e3, go_sem, ↓Nat.reduceBEq, ↓Nat.reduceAdd, ↓Nat.reduceMul, ↓Nat.reduceEqDiff, ↓Nat.reducePow, ↓Nat.reduceLeDiff, ↓Nat.reduceLT, ↓Int.reduceLE, ↓Int.reduceLT, ↓reduceIte, ↓reduceCtorEq]; subst hr
            (first | refine vd2_goq rfl rfl ?_ | refine vd2_no rfl ?_ | refine vd2_skip rfl ?_); intro r hr; simp only [ha, e1, e2, e3, go_sem, ↓Nat.reduceBEq, ↓Nat.reduceAdd, ↓Nat.reduceMul, ↓Nat.reduceEqDiff, ↓Nat.reducePow, ↓Nat.reduceLeDiff, ↓Nat.reduceLT, ↓Int.reduceLE, ↓Int.reduceLT, ↓reduceIte, ↓reduceCtorEq]; subst hr
            (refine vd2_q rfl ?_); intro r hr; simp only [ha, e1, e2, e3, go_sem, ↓Nat.reduceBEq, ↓Nat.reduceAdd, ↓Nat.reduceMul, ↓Nat.reduceEqDiff, ↓Nat.reducePow, ↓Nat.reduceLeDiff, ↓Nat.reduceLT, ↓Int.reduceLE, ↓Int.reduceLT, ↓reduceIte, ↓reduceCtorEq]; subst hr
            (refine vd2_q rfl ?_); intro r hr; simp only [ha, e1, e2, e3, go_sem, ↓Nat.reduceBEq, ↓Nat.reduceAdd, ↓Nat.reduceMul, ↓Nat.reduceEqDiff, ↓Nat.reducePow, ↓Nat.reduceLeDiff, ↓Nat.reduceLT, ↓Int.reduceLE, ↓Int.reduceLT, ↓reduceIte, ↓reduceCtorEq]; subst hr
            (first | refine vd2_goq rfl rfl ?_ | refine vd2_no rfl ?_ | refine vd2_skip rfl ?_); intro r hr; simp only [ha, e1, e2, e3, go_sem, ↓Nat.reduceBEq, ↓Nat.reduceAdd, ↓Nat.reduceMul, ↓Nat.reduceEqDiff, ↓Nat.reducePow, ↓Nat.reduceLeDiff, ↓Nat.reduceLT, ↓Int.reduceLE, ↓Int.reduceLT, ↓reduceIte, ↓reduceCtorEq]; subst hr
            (first | refine vd2_goq rfl rfl ?_ | refine vd2_no rfl ?_ | refine vd2_skip rfl ?_); intro r hr; simp only [ha, e1, e2, e3, go_sem, ↓Nat.reduceBEq, ↓Nat.reduceAdd, ↓Nat.reduceMul, ↓Nat.reduceEqDiff, ↓Nat.reducePow, ↓Nat.reduceLeDiff, ↓Nat.reduceLT, ↓Int.reduceLE, ↓Int.reduceLT, ↓reduceIte, ↓reduceCtorEq]; subst hr
            (first | refine vd2_goq rfl rfl ?_ | refine vd2_no rfl ?_ | refine vd2_skip rfl ?_); intro r hr; simp only [ha, e1, e2, e3, go_sem, ↓Nat.reduceBEq, ↓Nat.reduceAdd, ↓Nat.reduceMul, ↓Nat.reduceEqDiff, ↓Nat.reducePow, ↓Nat.reduceLeDiff, ↓Nat.reduceLT, ↓Int.reduceLE, ↓Int.reduceLT, ↓reduceIte, ↓reduceCtorEq]; subst hr
            (first | refine vd2_goq rfl rfl ?_ | refine vd2_no rfl ?_ | refine vd2_skip rfl ?_); intro r hr; simp only [ha, e1, e2, e3, go_sem, ↓Nat.reduceBEq, ↓Nat.reduceAdd, ↓Nat.reduceMul, ↓Nat.reduceEqDiff, ↓Nat.reducePow, ↓Nat.reduceLeDiff, ↓Nat.reduceLT, ↓Int.reduceLE, ↓Int.reduceLT, ↓reduceIte, ↓reduceCtorEq]; subst hr
            (first | refine vd2_goq rfl rfl ?_ | refine vd2_no rfl ?_ | refine vd2_skip rfl ?_); intro r hr; simp only [ha, e1, e2, e3, go_sem, ↓Nat.reduceBEq, ↓Nat.reduceAdd, ↓Nat.reduceMul, ↓Nat.reduceEqDiff, ↓Nat.reducePow, ↓Nat.reduceLeDiff, ↓Nat.reduceLT, ↓Int.reduceLE, ↓Int.reduceLT, ↓reduceIte, ↓reduceCtorEq]; subst hr
            (first | refine vd2_goq rfl rfl ?_ | refine vd2_no rfl ?_ | refine vd2_skip rfl ?_); intro r hr; simp only [ha, e1, e2, e3, go_sem, ↓Nat.reduceBEq, ↓Nat.reduceAdd, ↓Nat.reduceMul, ↓Nat.reduceEqDiff, ↓Nat.reducePow, ↓Nat.reduceLeDiff, ↓Nat.reduceLT, ↓Int.reduceLE, ↓Int.reduceLT, ↓reduceIte, ↓reduceCtorEq]; subst hr
            (refine vd2_q rfl ?_); intro r hr; simp only [ha, e1, e2, e3, go_sem, ↓Nat.reduceBEq, ↓Nat.reduceAdd, ↓Nat.reduceMul, ↓Nat.reduceEqDiff, ↓Nat.reducePow, ↓Nat.reduceLeDiff, ↓Nat.reduceLT, ↓Int.reduceLE, ↓Int.reduceLT, ↓reduceIte, ↓reduceCtorEq]; subst hr
            exact hQ
            refine Tr.cond rfl (fun h => by cases h) (fun h => ?_)
            refine Tr.skip ?_
            try simp only [blockK, thenK, ↓reduceIte]
            first | refine tr_seq_region (by rw [hE]; rfl) ?_ | (refine Tr.seq ?_; refine tr_seq_region (by rw [hE]; rfl) ?_)
            repeat (refine vc_op rfl ?_; simp only [go_sem, ↓Nat.reduceBEq, ↓Nat.reduceAdd, ↓Nat.reduceMul, ↓Nat.reduceEqDiff, ↓Nat.reducePow, ↓Nat.reduceLeDiff, ↓Nat.reduceLT, ↓Int.reduceLE, ↓Int.reduceLT, ↓reduceIte, ↓reduceCtorEq])
            refine vc_nil ?_
            refine Tr.block ?_
            refine Tr.loop (st18i l i) (fun j => j ≤ i ∧ ∀ (m : Nat) (hm : m < l.length), m < j → keyOf a ≠ keyOf l[m]) (fun j => i - j) 0 ⟨Nat.zero_le _, fun _ _ h => by omega⟩ ?_ ?_
            · refine wk_ren (fun n => n) ?_ ?_ rfl rfl rfl
              · repeat' (first | exact rfl | exact trivial | constructor)
              · repeat' (first | exact rfl | exact trivial | constructor)
            · intro j ⟨hj, hbj⟩
              unfold st18i
              refine Tr.seq ?_
              first | refine tr_seq_region (by rw [hE]; rfl) ?_ | (refine Tr.seq ?_; refine tr_seq_region (by rw [hE]; rfl) ?_)
              repeat (refine vc_op rfl ?_; simp only [go_sem, ↓Nat.reduceBEq, ↓Nat.reduceAdd, ↓Nat.reduceMul, ↓Nat.reduceEqDiff, ↓Nat.reducePow, ↓Nat.reduceLeDiff, ↓Nat.reduceLT, ↓Int.reduceLE, ↓Int.reduceLT, ↓reduceIte, ↓reduceCtorEq])
              refine vc_nil ?_
              refine Tr.cond rfl (fun h2 => ?_) (fun h2 => ?_)
              · refine Tr.skip ?_
                try simp only [blockK, thenK, ↓reduceIte]
                have hji : j < i := by have := of_decide_eq_true h2; omega
                have hjt : j < l.length := by omega
                have hb := nth_map_lt Link.av l j hjt
                have htwj := htw j hji
                generalize hlb : l[j] = b at hb htwj
                have hw2 := wrap_next (n := j) (by omega)
                refine Tr.seq ?_
                refine Tr.block ?_
                first | refine tr_seq_drawn mixed [] rfl (by rw [hE]; rfl) (by kernel_rfl) ?_ | (refine Tr.seq ?_; refine tr_seq_drawn mixed [] rfl (by rw [hE]; rfl) (by kernel_rfl) ?_)
                repeat (first | (refine vd_q rfl rfl ?_; simp only [ha, hb, go_sem, ↓Nat.reduceBEq, ↓Nat.reduceAdd, ↓Nat.reduceMul, ↓Nat.reduceEqDiff, ↓Nat.reducePow, ↓Nat.reduceLeDiff, ↓Nat.reduceLT, ↓Int.reduceLE, ↓Int.reduceLT, ↓reduceIte, ↓reduceCtorEq]) | (refine vd_x rfl rfl ?_; simp only [ha, hb, go_sem, ↓Nat.reduceBEq, ↓Nat.reduceAdd, ↓Nat.reduceMul, ↓Nat.reduceEqDiff, ↓Nat.reducePow, ↓Nat.reduceLeDiff, ↓Nat.reduceLT, ↓Int.reduceLE, ↓Int.reduceLT, ↓reduceIte, ↓reduceCtorEq]) | (refine vd_goq rfl rfl rfl rfl ?_; simp only [ha, hb, go_sem, ↓Nat.reduceBEq, ↓Nat.reduceAdd, ↓Nat.reduceMul, ↓Nat.reduceEqDiff, ↓Nat.reducePow, ↓Nat.reduceLeDiff, ↓Nat.reduceLT, ↓Int.reduceLE, ↓Int.reduceLT, ↓reduceIte, ↓reduceCtorEq]) | (refine vd_gox rfl rfl rfl rfl ?_; simp only [ha, hb, go_sem, ↓Nat.reduceBEq, ↓Nat.reduceAdd, ↓Nat.reduceMul, ↓Nat.reduceEqDiff, ↓Nat.reducePow, ↓Nat.reduceLeDiff, ↓Nat.reduceLT, ↓Int.reduceLE, ↓Int.reduceLT, ↓reduceIte, ↓reduceCtorEq]) | (refine vd_no rfl rfl rfl ?_; simp only [ha, hb, go_sem, ↓Nat.reduceBEq, ↓Nat.reduceAdd, ↓Nat.reduceMul, ↓Nat.reduceEqDiff, ↓Nat.reducePow, ↓Nat.reduceLeDiff, ↓Nat.reduceLT, ↓Int.reduceLE, ↓Int.reduceLT, ↓reduceIte, ↓reduceCtorEq]) | (refine vd_skip rfl rfl rfl ?_; simp only [ha, hb, go_sem, ↓Nat.reduceBEq, ↓Nat.reduceAdd, ↓Nat.reduceMul, ↓Nat.reduceEqDiff, ↓Nat.reducePow, ↓Nat.reduceLeDiff, ↓Nat.reduceLT, ↓Int.reduceLE, ↓Int.reduceLT, ↓reduceIte, ↓reduceCtorEq]))
                refine call_fn rfl rfl rfl rfl (enters_of Try.func43 (by kernel_rfl) rfl) (ROne_pure a b) rfl rfl rfl ?_
                simp only [go_sem, ↓Nat.reduceBEq, ↓Nat.reduceAdd, ↓Nat.reduceMul, ↓Nat.reduceEqDiff, ↓Nat.reducePow, ↓Nat.reduceLeDiff, ↓Nat.reduceLT, ↓Int.reduceLE, ↓Int.reduceLT, ↓reduceIte, ↓reduceCtorEq]
                repeat (first | (refine vd_q rfl rfl ?_; simp only [go_sem, ↓Nat.reduceBEq, ↓Nat.reduceAdd, ↓Nat.reduceMul, ↓Nat.reduceEqDiff, ↓Nat.reducePow, ↓Nat.reduceLeDiff, ↓Nat.reduceLT, ↓Int.reduceLE, ↓Int.reduceLT, ↓reduceIte, ↓reduceCtorEq]) | (refine vd_x rfl rfl ?_; simp only [go_sem, ↓Nat.reduceBEq, ↓Nat.reduceAdd, ↓Nat.reduceMul, ↓Nat.reduceEqDiff, ↓Nat.reducePow, ↓Nat.reduceLeDiff, ↓Nat.reduceLT, ↓Int.reduceLE, ↓Int.reduceLT, ↓reduceIte, ↓reduceCtorEq]) | (refine vd_goq rfl rfl rfl rfl ?_; simp only [go_sem, ↓Nat.reduceBEq, ↓Nat.reduceAdd, ↓Nat.reduceMul, ↓Nat.reduceEqDiff, ↓Nat.reducePow, ↓Nat.reduceLeDiff, ↓Nat.reduceLT, ↓Int.reduceLE, ↓Int.reduceLT, ↓reduceIte, ↓reduceCtorEq]) | (refine vd_gox rfl rfl rfl rfl ?_; simp only [go_sem, ↓Nat.reduceBEq, ↓Nat.reduceAdd, ↓Nat.reduceMul, ↓Nat.reduceEqDiff, ↓Nat.reducePow, ↓Nat.reduceLeDiff, ↓Nat.reduceLT, ↓Int.reduceLE, ↓Int.reduceLT, ↓reduceIte, ↓reduceCtorEq]) | (refine vd_no rfl rfl rfl ?_; simp only [go_sem, ↓Nat.reduceBEq, ↓Nat.reduceAdd, ↓Nat.reduceMul, ↓Nat.reduceEqDiff, ↓Nat.reducePow, ↓Nat.reduceLeDiff, ↓Nat.reduceLT, ↓Int.reduceLE, ↓Int.reduceLT, ↓reduceIte, ↓reduceCtorEq]) | (refine vd_skip rfl rfl rfl ?_; simp only [go_sem, ↓Nat.reduceBEq, ↓Nat.reduceAdd, ↓Nat.reduceMul, ↓Nat.reduceEqDiff, ↓Nat.reducePow, ↓Nat.reduceLeDiff, ↓Nat.reduceLT, ↓Int.reduceLE, ↓Int.reduceLT, ↓reduceIte, ↓reduceCtorEq]))
                refine vd_nil ?_
                first | refine tr_seq_region (by rw [hE]; rfl) ?_ | (refine Tr.seq ?_; refine tr_seq_region (by rw [hE]; rfl) ?_)
                repeat (refine vc_op rfl ?_; simp only [go_sem, ↓Nat.reduceBEq, ↓Nat.reduceAdd, ↓Nat.reduceMul, ↓Nat.reduceEqDiff, ↓Nat.reducePow, ↓Nat.reduceLeDiff, ↓Nat.reduceLT, ↓Int.reduceLE, ↓Int.reduceLT, ↓reduceIte, ↓reduceCtorEq])
                refine vc_nil ?_
                refine Tr.cond rfl (fun h3 => ?_) (fun h3 => ?_)
                · have hbad := htwj (of_decide_eq_true h3)
                  first | refine tr_seq_region (by rw [hE]; rfl) ?_ | (refine Tr.seq ?_; refine tr_seq_region (by rw [hE]; rfl) ?_)
                  repeat (refine vc_op rfl ?_; simp only [go_sem, ↓Nat.reduceBEq, ↓Nat.reduceAdd, ↓Nat.reduceMul, ↓Nat.reduceEqDiff, ↓Nat.reducePow, ↓Nat.reduceLeDiff, ↓Nat.reduceLT, ↓Int.reduceLE, ↓Int.reduceLT, ↓reduceIte, ↓reduceCtorEq])
                  refine vc_nil ?_
                  refine Tr.ret ?_
                  simp only [hbad, Try.f18, go_sem, ↓Nat.reduceBEq, ↓Nat.reduceAdd, ↓Nat.reduceMul, ↓Nat.reduceEqDiff, ↓Nat.reducePow, ↓Nat.reduceLeDiff, ↓Nat.reduceLT, ↓Int.reduceLE, ↓Int.reduceLT, ↓reduceIte, ↓reduceCtorEq]
                · have hne := of_decide_eq_false h3
                  refine Tr.skip ?_
                  try simp only [blockK, thenK, ↓reduceIte]
                  refine tr_region (by rw [hE]; rfl) ?_
                  repeat (refine vc_op rfl ?_; simp only [hw2, go_sem, ↓Nat.reduceBEq, ↓Nat.reduceAdd, ↓Nat.reduceMul, ↓Nat.reduceEqDiff, ↓Nat.reducePow, ↓Nat.reduceLeDiff, ↓Nat.reduceLT, ↓Int.reduceLE, ↓Int.reduceLT, ↓reduceIte, ↓reduceCtorEq])
                  refine vc_nil ?_
                  try simp only [blockK, thenK, ↓reduceIte]
                  refine ⟨j + 1, ⟨hji, fun m hm hmj => ?_⟩, by omega, ?_⟩
                  · by_cases h : m = j
                    · subst h; rw [hlb]; exact hne
                    · exact hbj m hm (by omega)
                  · refine wk_ren (fun n => n) ?_ ?_ rfl rfl rfl
                    · repeat' (first | exact rfl | exact trivial | constructor)
                    · repeat' (first | exact rfl | exact trivial | constructor)
              · refine Tr.exit ?_
                try simp only [blockK, thenK, ↓reduceIte]
                have hjl : j = i := by
                  have := of_decide_eq_false h2
                  omega
                subst hjl
                refine tr_region (by rw [hE]; rfl) ?_
                repeat (refine vc_op rfl ?_; simp only [hw, go_sem, ↓Nat.reduceBEq, ↓Nat.reduceAdd, ↓Nat.reduceMul, ↓Nat.reduceEqDiff, ↓Nat.reducePow, ↓Nat.reduceLeDiff, ↓Nat.reduceLT, ↓Int.reduceLE, ↓Int.reduceLT, ↓reduceIte, ↓reduceCtorEq])
                refine vc_nil ?_
                try simp only [blockK, thenK, ↓reduceIte]
                refine ⟨j + 1, ⟨hlt, fun m hm hmj => ?_, fun m m' hm hm' hmj => ?_⟩, by omega, ?_⟩
                · by_cases h : m = j
                  · subst h; rw [hla]; exact hgood
                  · exact hbo m hm (by omega)
                · by_cases h : m = j
                  · subst h; rw [hla]; exact hbj m' (by omega) hm'
                  · exact hbk m m' hm hm' (by omega)
                · refine wk_ren (fun n => n) ?_ ?_ rfl rfl rfl
                  · repeat' (first | exact rfl | exact trivial | constructor)
                  · repeat' (first | exact rfl | exact trivial | constructor)
    · refine Tr.exit ?_
      try simp only [blockK, thenK, ↓reduceIte]
      have hil : i = l.length := by
        have := of_decide_eq_false h1
        omega
      subst hil
      have hpl : (places l).length = l.length := places_len fun x y a b hxy hx hy => by
        have hyl := (List.getElem?_eq_some_iff.1 hy).1
        have e1 : l[x]'(by omega) = a := (List.getElem?_eq_some_iff.1 hx).2
        have e2 : l[y] = b := (List.getElem?_eq_some_iff.1 hy).2
        have := hbk y x hyl hxy hyl
        rw [e1, e2] at this
        exact fun h => this h.symm
      have hodd : l.any odd = false := by
        rw [List.any_eq_false]
        intro a ha
        obtain ⟨j, hj, rfl⟩ := List.mem_iff_getElem.1 ha
        simp [hbo j hj hj]
      have hfin : lmayB l = decide ((l.length : Int) ≤ 16) := by
        simp only [lmayB, hodd, hpl]
        simp
        omega
      first | refine tr_seq_region (by rw [hE]; rfl) ?_ | (refine Tr.seq ?_; refine tr_seq_region (by rw [hE]; rfl) ?_)
      repeat (refine vc_op rfl ?_; simp only [go_sem, ↓Nat.reduceBEq, ↓Nat.reduceAdd, ↓Nat.reduceMul, ↓Nat.reduceEqDiff, ↓Nat.reducePow, ↓Nat.reduceLeDiff, ↓Nat.reduceLT, ↓Int.reduceLE, ↓Int.reduceLT, ↓reduceIte, ↓reduceCtorEq])
      refine vc_nil ?_
      refine Tr.ret ?_
      simp only [hfin, Try.f18, go_sem, ↓Nat.reduceBEq, ↓Nat.reduceAdd, ↓Nat.reduceMul, ↓Nat.reduceEqDiff, ↓Nat.reducePow, ↓Nat.reduceLeDiff, ↓Nat.reduceLT, ↓Int.reduceLE, ↓Int.reduceLT, ↓reduceIte, ↓reduceCtorEq]

def st16 (l : List Link) (s t : Check) (v : Nat) (i : Nat) : S where
  fr := [(13, .int .i64 i), (0, .sl (l.map Link.av) false), (5, .ptr 0 [] 0), (6, .ptr 16 [] 0), (11, .ms 32 67 l.length), (12, .int .u64 (bit v))]
  hp := [(32, .row 67 (l.map Link.av)), (16, .var t.av), (0, .var s.av)]
  nx := 33

theorem RLPut_pure (l : List Link) (s t : Check) (v : Int) (hl : l.length ≤ 100) (hmask : ∀ a ∈ l, 0 ≤ a.mask) : Pure Try.prog 16 [links l, s.av, t.av, .int .i64 v] (.tup [links (lputL l s t v), .int .i64 (lputE l s t v)]) := by
  have bad : lputE l s t v ≠ 0 → lputL l s t v = l := fun h => by simp [lputL, h]
  unfold links
  refine pure_of_tr Try.func16 rfl (Nat.le_of_ble_eq_true rfl) rfl fun E hE => ?_
  first | refine tr_seq_region (by rw [hE]; rfl) ?_ | (refine Tr.seq ?_; refine tr_seq_region (by rw [hE]; rfl) ?_)
  repeat (refine vc_op rfl ?_; simp only [go_sem, ↓Nat.reduceBEq, ↓Nat.reduceAdd, ↓Nat.reduceMul, ↓Nat.reduceEqDiff, ↓Nat.reducePow, ↓Nat.reduceLeDiff, ↓Nat.reduceLT, ↓Int.reduceLE, ↓Int.reduceLT, ↓reduceIte, ↓reduceCtorEq])
  refine vc_nil ?_
  first | refine tr_seq_region (by rw [hE]; rfl) ?_ | (refine Tr.seq ?_; refine tr_seq_region (by rw [hE]; rfl) ?_)
  repeat (refine vc_op rfl ?_; simp only [go_sem, ↓Nat.reduceBEq, ↓Nat.reduceAdd, ↓Nat.reduceMul, ↓Nat.reduceEqDiff, ↓Nat.reducePow, ↓Nat.reduceLeDiff, ↓Nat.reduceLT, ↓Int.reduceLE, ↓Int.reduceLT, ↓reduceIte, ↓reduceCtorEq])
  refine call_fn rfl rfl rfl rfl (enters_of Try.func18 (by kernel_rfl) rfl) (RLMay_pure l hl hmask) rfl rfl rfl ?_
  simp only [go_sem, ↓Nat.reduceBEq, ↓Nat.reduceAdd, ↓Nat.reduceMul, ↓Nat.reduceEqDiff, ↓Nat.reducePow, ↓Nat.reduceLeDiff, ↓Nat.reduceLT, ↓Int.reduceLE, ↓Int.reduceLT, ↓reduceIte, ↓reduceCtorEq]
  repeat (refine vc_op rfl ?_; simp only [go_sem, ↓Nat.reduceBEq, ↓Nat.reduceAdd, ↓Nat.reduceMul, ↓Nat.reduceEqDiff, ↓Nat.reducePow, ↓Nat.reduceLeDiff, ↓Nat.reduceLT, ↓Int.reduceLE, ↓Int.reduceLT, ↓reduceIte, ↓reduceCtorEq])
  refine vc_nil ?_
  refine Tr.seq ?_
  by_cases hm : lmayB l = true
  · rw [hm]
    first | refine tr_seq_region (by rw [hE]; rfl) ?_ | (refine Tr.seq ?_; refine tr_seq_region (by rw [hE]; rfl) ?_)
    repeat (refine vc_op rfl ?_; simp only [go_sem, ↓Nat.reduceBEq, ↓Nat.reduceAdd, ↓Nat.reduceMul, ↓Nat.reduceEqDiff, ↓Nat.reducePow, ↓Nat.reduceLeDiff, ↓Nat.reduceLT, ↓Int.reduceLE, ↓Int.reduceLT, ↓reduceIte, ↓reduceCtorEq])
    refine vc_nil ?_
    refine Tr.cond rfl (fun h1 => by cases h1) (fun h1 => ?_)
    refine Tr.skip ?_
    try simp only [blockK, thenK, ↓reduceIte]
    refine Tr.seq ?_
    by_cases hv : v < 0 ∨ 8 ≤ v
    · have he : lputE l s t v = 10 := by simp [lputE, hm, hv]
      have hb := bad (by rw [he]; decide)
      by_cases h0 : v < 0
      · have e0 : decide (v < 0) = true := decide_eq_true h0
        first | apply tr_m (by rw [hE]; rfl) | (refine Tr.seq ?_; apply tr_m (by rw [hE]; rfl))
        intro Q hQ
        simp only [List.toList_toArray, List.map_cons, List.map_nil, mo, guardSlot, Option.map_some, Option.map_none, List.getElem?_toArray, List.getElem?_cons_succ, List.getElem?_cons_zero, Option.bind_some]
        (refine vm_op ?_); intro r hr; simp only [e0, go_sem, ↓Nat.reduceBEq, ↓Nat.reduceAdd, ↓Nat.reduceMul, ↓Nat.reduceEqDiff, ↓Nat.reducePow, ↓Nat.reduceLeDiff, ↓Nat.reduceLT, ↓Int.reduceLE, ↓Int.reduceLT, ↓reduceIte, ↓reduceCtorEq]; subst hr
        (refine vm_op ?_); intro r hr; simp only [e0, go_sem, ↓Nat.reduceBEq, ↓Nat.reduceAdd, ↓Nat.reduceMul, ↓Nat.reduceEqDiff, ↓Nat.reducePow, ↓Nat.reduceLeDiff, ↓Nat.reduceLT, ↓Int.reduceLE, ↓Int.reduceLT, ↓reduceIte, ↓reduceCtorEq]; subst hr
        (refine vm_op ?_); intro r hr; simp only [e0, go_sem, ↓Nat.reduceBEq, ↓Nat.reduceAdd, ↓Nat.reduceMul, ↓Nat.reduceEqDiff, ↓Nat.reducePow, ↓Nat.reduceLeDiff, ↓Nat.reduceLT, ↓Int.reduceLE, ↓Int.reduceLT, ↓reduceIte, ↓reduceCtorEq]; subst hr
        (first | refine vm_if rfl ?_ | refine vm_no rfl ?_ | refine vm_skip rfl ?_); intro r hr; simp only [e0, go_sem, ↓Nat.reduceBEq, ↓Nat.reduceAdd, ↓Nat.reduceMul, ↓Nat.reduceEqDiff, ↓Nat.reducePow, ↓Nat.reduceLeDiff, ↓Nat.reduceLT, ↓Int.reduceLE, ↓Int.reduceLT, ↓reduceIte, ↓reduceCtorEq]; subst hr
        (first | refine vm_if rfl ?_ | refine vm_no rfl ?_ | refine vm_skip rfl ?_); intro r hr; simp only [e0, go_sem, ↓Nat.reduceBEq, ↓Nat.reduceAdd, ↓Nat.reduceMul, ↓Nat.reduceEqDiff, ↓Nat.reducePow, ↓Nat.reduceLeDiff, ↓Nat.reduceLT, ↓Int.reduceLE, ↓Int.reduceLT, ↓reduceIte, ↓reduceCtorEq]; subst hr
        (refine vm_op ?_); intro r hr; simp only [e0, go_sem, ↓Nat.reduceBEq, ↓Nat.reduceAdd, ↓Nat.reduceMul, ↓Nat.reduceEqDiff, ↓Nat.reducePow, ↓Nat.reduceLeDiff, ↓Nat.reduceLT, ↓Int.reduceLE, ↓Int.reduceLT, ↓reduceIte, ↓reduceCtorEq]; subst hr
        exact hQ
        refine Tr.cond rfl (fun h2 => ?_) (fun h2 => by cases h2)
        first | refine tr_seq_region (by rw [hE]; rfl) ?_ | (refine Tr.seq ?_; refine tr_seq_region (by rw [hE]; rfl) ?_)
        repeat (refine vc_op rfl ?_; simp only [go_sem, ↓Nat.reduceBEq, ↓Nat.reduceAdd, ↓Nat.reduceMul, ↓Nat.reduceEqDiff, ↓Nat.reducePow, ↓Nat.reduceLeDiff, ↓Nat.reduceLT, ↓Int.reduceLE, ↓Int.reduceLT, ↓reduceIte, ↓reduceCtorEq])
        refine vc_nil ?_
        refine Tr.ret ?_
        simp only [he, hb, Try.f16, go_sem, ↓Nat.reduceBEq, ↓Nat.reduceAdd, ↓Nat.reduceMul, ↓Nat.reduceEqDiff, ↓Nat.reducePow, ↓Nat.reduceLeDiff, ↓Nat.reduceLT, ↓Int.reduceLE, ↓Int.reduceLT, ↓reduceIte, ↓reduceCtorEq]
      · have e0 : decide (v < 0) = false := decide_eq_false h0
        have e8 : decide (8 ≤ v) = true := decide_eq_true (by omega)
        first | apply tr_m (by rw [hE]; rfl) | (refine Tr.seq ?_; apply tr_m (by rw [hE]; rfl))
        intro Q hQ
        simp only [List.toList_toArray, List.map_cons, List.map_nil, mo, guardSlot, Option.map_some, Option.map_none, List.getElem?_toArray, List.getElem?_cons_succ, List.getElem?_cons_zero, Option.bind_some]
        (refine vm_op ?_); intro r hr; simp only [e0, e8, go_sem, ↓Nat.reduceBEq, ↓Nat.reduceAdd, ↓Nat.reduceMul, ↓Nat.reduceEqDiff, ↓Nat.reducePow, ↓Nat.reduceLeDiff, ↓Nat.reduceLT, ↓Int.reduceLE, ↓Int.reduceLT, ↓reduceIte, ↓reduceCtorEq]; subst hr
        (refine vm_op ?_); intro r hr; simp only [e0, e8, go_sem, ↓Nat.reduceBEq, ↓Nat.reduceAdd, ↓Nat.reduceMul, ↓Nat.reduceEqDiff, ↓Nat.reducePow, ↓Nat.reduceLeDiff, ↓Nat.reduceLT, ↓Int.reduceLE, ↓Int.reduceLT, ↓reduceIte, ↓reduceCtorEq]; subst hr
        (refine vm_op ?_); intro r hr; simp only [e0, e8, go_sem, ↓Nat.reduceBEq, ↓Nat.reduceAdd, ↓Nat.reduceMul, ↓Nat.reduceEqDiff, ↓Nat.reducePow, ↓Nat.reduceLeDiff, ↓Nat.reduceLT, ↓Int.reduceLE, ↓Int.reduceLT, ↓reduceIte, ↓reduceCtorEq]; subst hr
        (first | refine vm_if rfl ?_ | refine vm_no rfl ?_ | refine vm_skip rfl ?_); intro r hr; simp only [e0, e8, go_sem, ↓Nat.reduceBEq, ↓Nat.reduceAdd, ↓Nat.reduceMul, ↓Nat.reduceEqDiff, ↓Nat.reducePow, ↓Nat.reduceLeDiff, ↓Nat.reduceLT, ↓Int.reduceLE, ↓Int.reduceLT, ↓reduceIte, ↓reduceCtorEq]; subst hr
        (first | refine vm_if rfl ?_ | refine vm_no rfl ?_ | refine vm_skip rfl ?_); intro r hr; simp only [e0, e8, go_sem, ↓Nat.reduceBEq, ↓Nat.reduceAdd, ↓Nat.reduceMul, ↓Nat.reduceEqDiff, ↓Nat.reducePow, ↓Nat.reduceLeDiff, ↓Nat.reduceLT, ↓Int.reduceLE, ↓Int.reduceLT, ↓reduceIte, ↓reduceCtorEq]; subst hr
        (refine vm_op ?_); intro r hr; simp only [e0, e8, go_sem, ↓Nat.reduceBEq, ↓Nat.reduceAdd, ↓Nat.reduceMul, ↓Nat.reduceEqDiff, ↓Nat.reducePow, ↓Nat.reduceLeDiff, ↓Nat.reduceLT, ↓Int.reduceLE, ↓Int.reduceLT, ↓reduceIte, ↓reduceCtorEq]; subst hr
        exact hQ
        refine Tr.cond rfl (fun h2 => ?_) (fun h2 => by cases h2)
        first | refine tr_seq_region (by rw [hE]; rfl) ?_ | (refine Tr.seq ?_; refine tr_seq_region (by rw [hE]; rfl) ?_)
        repeat (refine vc_op rfl ?_; simp only [go_sem, ↓Nat.reduceBEq, ↓Nat.reduceAdd, ↓Nat.reduceMul, ↓Nat.reduceEqDiff, ↓Nat.reducePow, ↓Nat.reduceLeDiff, ↓Nat.reduceLT, ↓Int.reduceLE, ↓Int.reduceLT, ↓reduceIte, ↓reduceCtorEq])
        refine vc_nil ?_
        refine Tr.ret ?_
        simp only [he, hb, Try.f16, go_sem, ↓Nat.reduceBEq, ↓Nat.reduceAdd, ↓Nat.reduceMul, ↓Nat.reduceEqDiff, ↓Nat.reducePow, ↓Nat.reduceLeDiff, ↓Nat.reduceLT, ↓Int.reduceLE, ↓Int.reduceLT, ↓reduceIte, ↓reduceCtorEq]
    · obtain ⟨n, rfl⟩ : ∃ n : Nat, v = n := ⟨v.toNat, by omega⟩
      have hn7 : n ≤ 7 := by omega
      have e0 : decide ((n : Int) < 0) = false := decide_eq_false (by omega)
      have e8 : decide (8 ≤ (n : Int)) = false := decide_eq_false (by omega)
      first | apply tr_m (by rw [hE]; rfl) | (refine Tr.seq ?_; apply tr_m (by rw [hE]; rfl))
      intro Q hQ
      simp only [List.toList_toArray, List.map_cons, List.map_nil, mo, guardSlot, Option.map_some, Option.map_none, List.getElem?_toArray, List.getElem?_cons_succ, List.getElem?_cons_zero, Option.bind_some]
      (refine vm_op ?_); intro r hr; simp only [e0, e8, go_sem, ↓Nat.reduceBEq, ↓Nat.reduceAdd, ↓Nat.reduceMul, ↓Nat.reduceEqDiff, ↓Nat.reducePow, ↓Nat.reduceLeDiff, ↓Nat.reduceLT, ↓Int.reduceLE, ↓Int.reduceLT, ↓reduceIte, ↓reduceCtorEq]; subst hr
      (refine vm_op ?_); intro r hr; simp only [e0, e8, go_sem, ↓Nat.reduceBEq, ↓Nat.reduceAdd, ↓Nat.reduceMul, ↓Nat.reduceEqDiff, ↓Nat.reducePow, ↓Nat.reduceLeDiff, ↓Nat.reduceLT, ↓Int.reduceLE, ↓Int.reduceLT, ↓reduceIte, ↓reduceCtorEq]; subst hr
      (refine vm_op ?_); intro r hr; simp only [e0, e8, go_sem, ↓Nat.reduceBEq, ↓Nat.reduceAdd, ↓Nat.reduceMul, ↓Nat.reduceEqDiff, ↓Nat.reducePow, ↓Nat.reduceLeDiff, ↓Nat.reduceLT, ↓Int.reduceLE, ↓Int.reduceLT, ↓reduceIte, ↓reduceCtorEq]; subst hr
      (first | refine vm_if rfl ?_ | refine vm_no rfl ?_ | refine vm_skip rfl ?_); intro r hr; simp only [e0, e8, go_sem, ↓Nat.reduceBEq, ↓Nat.reduceAdd, ↓Nat.reduceMul, ↓Nat.reduceEqDiff, ↓Nat.reducePow, ↓Nat.reduceLeDiff, ↓Nat.reduceLT, ↓Int.reduceLE, ↓Int.reduceLT, ↓reduceIte, ↓reduceCtorEq]; subst hr
      (first | refine vm_if rfl ?_ | refine vm_no rfl ?_ | refine vm_skip rfl ?_); intro r hr; simp only [e0, e8, go_sem, ↓Nat.reduceBEq, ↓Nat.reduceAdd, ↓Nat.reduceMul, ↓Nat.reduceEqDiff, ↓Nat.reducePow, ↓Nat.reduceLeDiff, ↓Nat.reduceLT, ↓Int.reduceLE, ↓Int.reduceLT, ↓reduceIte, ↓reduceCtorEq]; subst hr
      (refine vm_op ?_); intro r hr; simp only [e0, e8, go_sem, ↓Nat.reduceBEq, ↓Nat.reduceAdd, ↓Nat.reduceMul, ↓Nat.reduceEqDiff, ↓Nat.reducePow, ↓Nat.reduceLeDiff, ↓Nat.reduceLT, ↓Int.reduceLE, ↓Int.reduceLT, ↓reduceIte, ↓reduceCtorEq]; subst hr
      exact hQ
      refine Tr.cond rfl (fun h2 => by cases h2) (fun h2 => ?_)
      refine Tr.skip ?_
      try simp only [blockK, thenK, ↓reduceIte]
      refine Tr.seq ?_
      first | refine tr_seq_region (by rw [hE]; rfl) ?_ | (refine Tr.seq ?_; refine tr_seq_region (by rw [hE]; rfl) ?_)
      repeat (refine vc_op rfl ?_; simp only [go_sem, ↓Nat.reduceBEq, ↓Nat.reduceAdd, ↓Nat.reduceMul, ↓Nat.reduceEqDiff, ↓Nat.reducePow, ↓Nat.reduceLeDiff, ↓Nat.reduceLT, ↓Int.reduceLE, ↓Int.reduceLT, ↓reduceIte, ↓reduceCtorEq])
      refine vc_nil ?_
      refine Tr.cond rfl (fun h3 => ?_) (fun h3 => ?_)
      · have he : lputE l s t n = 9 := by simp [lputE, hm, hv, of_decide_eq_true h3]
        have hb := bad (by rw [he]; decide)
        first | refine tr_seq_region (by rw [hE]; rfl) ?_ | (refine Tr.seq ?_; refine tr_seq_region (by rw [hE]; rfl) ?_)
        repeat (refine vc_op rfl ?_; simp only [go_sem, ↓Nat.reduceBEq, ↓Nat.reduceAdd, ↓Nat.reduceMul, ↓Nat.reduceEqDiff, ↓Nat.reducePow, ↓Nat.reduceLeDiff, ↓Nat.reduceLT, ↓Int.reduceLE, ↓Int.reduceLT, ↓reduceIte, ↓reduceCtorEq])
        refine vc_nil ?_
        refine Tr.ret ?_
        simp only [he, hb, Try.f16, go_sem, ↓Nat.reduceBEq, ↓Nat.reduceAdd, ↓Nat.reduceMul, ↓Nat.reduceEqDiff, ↓Nat.reducePow, ↓Nat.reduceLeDiff, ↓Nat.reduceLT, ↓Int.reduceLE, ↓Int.reduceLT, ↓reduceIte, ↓reduceCtorEq]
      · have h3' := of_decide_eq_false h3
        refine Tr.skip ?_
        try simp only [blockK, thenK, ↓reduceIte]
        first | refine tr_seq_region (by rw [hE]; rfl) ?_ | (refine Tr.seq ?_; refine tr_seq_region (by rw [hE]; rfl) ?_)
        repeat (refine vc_op rfl ?_; simp only [go_sem, ↓Nat.reduceBEq, ↓Nat.reduceAdd, ↓Nat.reduceMul, ↓Nat.reduceEqDiff, ↓Nat.reducePow, ↓Nat.reduceLeDiff, ↓Nat.reduceLT, ↓Int.reduceLE, ↓Int.reduceLT, ↓reduceIte, ↓reduceCtorEq])
        refine ⟨lens_links l, by omega, by omega, .inl trivial, ?_⟩
        repeat (refine vc_op rfl ?_; simp only [go_sem, ↓Nat.reduceBEq, ↓Nat.reduceAdd, ↓Nat.reduceMul, ↓Nat.reduceEqDiff, ↓Nat.reducePow, ↓Nat.reduceLeDiff, ↓Nat.reduceLT, ↓Int.reduceLE, ↓Int.reduceLT, ↓reduceIte, ↓reduceCtorEq])
        refine vc_nil ?_
        first | refine tr_seq_region (by rw [hE]; rfl) ?_ | (refine Tr.seq ?_; refine tr_seq_region (by rw [hE]; rfl) ?_)
        repeat (refine vc_op rfl ?_; simp only [go_sem, ↓Nat.reduceBEq, ↓Nat.reduceAdd, ↓Nat.reduceMul, ↓Nat.reduceEqDiff, ↓Nat.reducePow, ↓Nat.reduceLeDiff, ↓Nat.reduceLT, ↓Int.reduceLE, ↓Int.reduceLT, ↓reduceIte, ↓reduceCtorEq])
        refine call_fn rfl rfl rfl rfl (enters_of Try.func42 (by kernel_rfl) rfl) (RBit_pure n hn7) rfl rfl rfl ?_
        simp only [go_sem, ↓Nat.reduceBEq, ↓Nat.reduceAdd, ↓Nat.reduceMul, ↓Nat.reduceEqDiff, ↓Nat.reducePow, ↓Nat.reduceLeDiff, ↓Nat.reduceLT, ↓Int.reduceLE, ↓Int.reduceLT, ↓reduceIte, ↓reduceCtorEq]
        repeat (refine vc_op rfl ?_; simp only [go_sem, ↓Nat.reduceBEq, ↓Nat.reduceAdd, ↓Nat.reduceMul, ↓Nat.reduceEqDiff, ↓Nat.reducePow, ↓Nat.reduceLeDiff, ↓Nat.reduceLT, ↓Int.reduceLE, ↓Int.reduceLT, ↓reduceIte, ↓reduceCtorEq])
        refine vc_nil ?_
        refine Tr.seq ?_
        first | refine tr_seq_region (by rw [hE]; rfl) ?_ | (refine Tr.seq ?_; refine tr_seq_region (by rw [hE]; rfl) ?_)
        repeat (refine vc_op rfl ?_; simp only [go_sem, ↓Nat.reduceBEq, ↓Nat.reduceAdd, ↓Nat.reduceMul, ↓Nat.reduceEqDiff, ↓Nat.reducePow, ↓Nat.reduceLeDiff, ↓Nat.reduceLT, ↓Int.reduceLE, ↓Int.reduceLT, ↓reduceIte, ↓reduceCtorEq])
        refine vc_nil ?_
        refine Tr.block ?_
        refine Tr.loop (st16 l s t n) (fun i => i ≤ l.length ∧ ∀ (j : Nat) (hj : j < l.length), j < i → keyOf l[j] ≠ ⟨s, t⟩) (fun i => l.length - i) 0 ⟨Nat.zero_le _, fun _ _ h => by omega⟩ ?_ ?_
        · refine wk_ren (fun | 32 => 336 | n => n) ?_ ?_ rfl rfl rfl
          · repeat' (first | exact rfl | exact trivial | constructor)
          · repeat' (first | exact rfl | exact trivial | constructor)
        · intro i ⟨hi, hbefore⟩
          unfold st16
          refine Tr.seq ?_
          first | refine tr_seq_region (by rw [hE]; rfl) ?_ | (refine Tr.seq ?_; refine tr_seq_region (by rw [hE]; rfl) ?_)
          repeat (refine vc_op rfl ?_; simp only [go_sem, ↓Nat.reduceBEq, ↓Nat.reduceAdd, ↓Nat.reduceMul, ↓Nat.reduceEqDiff, ↓Nat.reducePow, ↓Nat.reduceLeDiff, ↓Nat.reduceLT, ↓Int.reduceLE, ↓Int.reduceLT, ↓reduceIte, ↓reduceCtorEq])
          refine vc_nil ?_
          refine Tr.cond rfl (fun h4 => ?_) (fun h4 => ?_)
          · refine Tr.skip ?_
            try simp only [blockK, thenK, ↓reduceIte]
            have hlt : i < l.length := by have := of_decide_eq_true h4; omega
            have hx : (l.map Link.av)[i]? = some l[i].av := by simp [hlt]
            have hlook := look_at (l := l) (k := ⟨s, t⟩) hlt
            have hL' : look (places l) ⟨s, t⟩ = some i → lputE l s t n = 0 ∧ lputL l s t n = l.set i { l[i] with mask := orU l[i].mask (bit n) } := fun h => by
              have h1 : lputE l s t n = 0 := by simp [lputE, hm, hv, h3', h]
              exact ⟨h1, by simp [lputL, h1, h, hlt]⟩
            generalize hla : l[i] = a at hx hlook hL'
            have hw := wrap_next (n := i) (by omega)
            have p1 : (0 ≤ (i : Int)) = True := eq_true (by omega)
            have p2 : ((i : Int) < (l.length : Int)) = True := eq_true (by omega)
            refine Tr.seq ?_
            refine Tr.block ?_
            by_cases c1 : a.s = s
            · have d1 : decide (a.s = s) = true := decide_eq_true c1
              by_cases c2 : a.t = t
              · have d2 : decide (a.t = t) = true := decide_eq_true c2
                obtain ⟨he, hL⟩ := hL' (hlook (key_eq c1 c2) hbefore)
                apply tr_md mixed [0, 16, 32] rfl (by rw [hE]; rfl) (by kernel_rfl)
                intro Q hQ
                simp only [List.toList_toArray, List.map_cons, List.map_nil, mo, guardSlot, Option.map_some, Option.map_none, List.getElem?_toArray, List.getElem?_cons_succ, List.getElem?_cons_zero, Option.bind_some]
                (refine vd2_q rfl ?_); intro r hr; simp only [hx, d1, d2, p1, p2, true_and, Int.toNat_natCast, go_sem, ↓Nat.reduceBEq, ↓Nat.reduceAdd, ↓Nat.reduceMul, ↓Nat.reduceEqDiff, ↓Nat.reducePow, ↓Nat.reduceLeDiff, ↓Nat.reduceLT, ↓Int.reduceLE, ↓Int.reduceLT, ↓reduceIte, ↓reduceCtorEq]; subst hr
                (refine vd2_q rfl ?_); intro r hr; simp only [hx, d1, d2, p1, p2, true_and, Int.toNat_natCast, go_sem, ↓Nat.reduceBEq, ↓Nat.reduceAdd, ↓Nat.reduceMul, ↓Nat.reduceEqDiff, ↓Nat.reducePow, ↓Nat.reduceLeDiff, ↓Nat.reduceLT, ↓Int.reduceLE, ↓Int.reduceLT, ↓reduceIte, ↓reduceCtorEq]; subst hr
                (refine vd2_q rfl ?_); intro r hr; simp only [hx, d1, d2, p1, p2, true_and, Int.toNat_natCast, go_sem, ↓Nat.reduceBEq, ↓Nat.reduceAdd, ↓Nat.reduceMul, ↓Nat.reduceEqDiff, ↓Nat.reducePow, ↓Nat.reduceLeDiff, ↓Nat.reduceLT, ↓Int.reduceLE, ↓Int.reduceLT, ↓reduceIte, ↓reduceCtorEq]; subst hr
                (refine vd2_q rfl ?_); intro r hr; simp only [hx, d1, d2, p1, p2, true_and, Int.toNat_natCast, go_sem, ↓Nat.reduceBEq, ↓Nat.reduceAdd, ↓Nat.reduceMul, ↓Nat.reduceEqDiff, ↓Nat.reducePow, ↓Nat.reduceLeDiff, ↓Nat.reduceLT, ↓Int.reduceLE, ↓Int.reduceLT, ↓reduceIte, ↓reduceCtorEq]; subst hr
                (refine vd2_q rfl ?_); intro r hr; simp only [hx, d1, d2, p1, p2, true_and, Int.toNat_natCast, go_sem, ↓Nat.reduceBEq, ↓Nat.reduceAdd, ↓Nat.reduceMul, ↓Nat.reduceEqDiff, ↓Nat.reducePow, ↓Nat.reduceLeDiff, ↓Nat.reduceLT, ↓Int.reduceLE, ↓Int.reduceLT, ↓reduceIte, ↓reduceCtorEq]; subst hr
                (refine vd2_q rfl ?_); intro r hr; simp only [hx, d1, d2, p1, p2, true_and, Int.toNat_natCast, go_sem, ↓Nat.reduceBEq, ↓Nat.reduceAdd, ↓Nat.reduceMul, ↓Nat.reduceEqDiff, ↓Nat.reducePow, ↓Nat.reduceLeDiff, ↓Nat.reduceLT, ↓Int.reduceLE, ↓Int.reduceLT, ↓reduceIte, ↓reduceCtorEq]; subst hr
                (refine vd2_q rfl ?_); intro r hr; simp only [hx, d1, d2, p1, p2, true_and, Int.toNat_natCast, go_sem, ↓Nat.reduceBEq, ↓Nat.reduceAdd, ↓Nat.reduceMul, ↓Nat.reduceEqDiff, ↓Nat.reducePow, ↓Nat.reduceLeDiff, ↓Nat.reduceLT, ↓Int.reduceLE, ↓Int.reduceLT, ↓reduceIte, ↓reduceCtorEq]; subst hr
                (refine vd2_q rfl ?_); intro r hr; simp only [hx, d1, d2, p1, p2, true_and, Int.toNat_natCast, go_sem, ↓Nat.reduceBEq, ↓Nat.reduceAdd, ↓Nat.reduceMul, ↓Nat.reduceEqDiff, ↓Nat.reducePow, ↓Nat.reduceLeDiff, ↓Nat.reduceLT, ↓Int.reduceLE, ↓Int.reduceLT, ↓reduceIte, ↓reduceCtorEq]; subst hr
                (first | refine vd2_goq rfl rfl ?_ | refine vd2_no rfl ?_ | refine vd2_skip rfl ?_); intro r hr; simp only [hx, d1, d2, p1, p2, true_and, Int.toNat_natCast, go_sem, ↓Nat.reduceBEq, ↓Nat.reduceAdd, ↓Nat.reduceMul, ↓Nat.reduceEqDiff, ↓Nat.reducePow, ↓Nat.reduceLeDiff, ↓Nat.reduceLT, ↓Int.reduceLE, ↓Int.reduceLT, ↓reduceIte, ↓reduceCtorEq]; subst hr
                (first | refine vd2_goq rfl rfl ?_ | refine vd2_no rfl ?_ | refine vd2_skip rfl ?_); intro r hr; simp only [hx, d1, d2, p1, p2, true_and, Int.toNat_natCast, go_sem, ↓Nat.reduceBEq, ↓Nat.reduceAdd, ↓Nat.reduceMul, ↓Nat.reduceEqDiff, ↓Nat.reducePow, ↓Nat.reduceLeDiff, ↓Nat.reduceLT, ↓Int.reduceLE, ↓Int.reduceLT, ↓reduceIte, ↓reduceCtorEq]; subst hr
                (first | refine vd2_goq rfl rfl ?_ | refine vd2_no rfl ?_ | refine vd2_skip rfl ?_); intro r hr; simp only [hx, d1, d2, p1, p2, true_and, Int.toNat_natCast, go_sem, ↓Nat.reduceBEq, ↓Nat.reduceAdd, ↓Nat.reduceMul, ↓Nat.reduceEqDiff, ↓Nat.reducePow, ↓Nat.reduceLeDiff, ↓Nat.reduceLT, ↓Int.reduceLE, ↓Int.reduceLT, ↓reduceIte, ↓reduceCtorEq]; subst hr
                (first | refine vd2_goq rfl rfl ?_ | refine vd2_no rfl ?_ | refine vd2_skip rfl ?_); intro r hr; simp only [hx, d1, d2, p1, p2, true_and, Int.toNat_natCast, go_sem, ↓Nat.reduceBEq, ↓Nat.reduceAdd, ↓Nat.reduceMul, ↓Nat.reduceEqDiff, ↓Nat.reducePow, ↓Nat.reduceLeDiff, ↓Nat.reduceLT, ↓Int.reduceLE, ↓Int.reduceLT, ↓reduceIte, ↓reduceCtorEq]; subst hr
                (first | refine vd2_goq rfl rfl ?_ | refine vd2_no rfl ?_ | refine vd2_skip rfl ?_); intro r hr; simp only [hx, d1, d2, p1, p2, true_and, Int.toNat_natCast, go_sem, ↓Nat.reduceBEq, ↓Nat.reduceAdd, ↓Nat.reduceMul, ↓Nat.reduceEqDiff, ↓Nat.reducePow, ↓Nat.reduceLeDiff, ↓Nat.reduceLT, ↓Int.reduceLE, ↓Int.reduceLT, ↓reduceIte, ↓reduceCtorEq]; subst hr
                (first | refine vd2_goq rfl rfl ?_ | refine vd2_no rfl ?_ | refine vd2_skip rfl ?_); intro r hr; simp only [hx, d1, d2, p1, p2, true_and, Int.toNat_natCast, go_sem, ↓Nat.reduceBEq, ↓Nat.reduceAdd, ↓Nat.reduceMul, ↓Nat.reduceEqDiff, ↓Nat.reducePow, ↓Nat.reduceLeDiff, ↓Nat.reduceLT, ↓Int.reduceLE, ↓Int.reduceLT, ↓reduceIte, ↓reduceCtorEq]; subst hr
                (first | refine vd2_goq rfl rfl ?_ | refine vd2_no rfl ?_ | refine vd2_skip rfl ?_); intro r hr; simp only [hx, d1, d2, p1, p2, true_and, Int.toNat_natCast, go_sem, ↓Nat.reduceBEq, ↓Nat.reduceAdd, ↓Nat.reduceMul, ↓Nat.reduceEqDiff, ↓Nat.reducePow, ↓Nat.reduceLeDiff, ↓Nat.reduceLT, ↓Int.reduceLE, ↓Int.reduceLT, ↓reduceIte, ↓reduceCtorEq]; subst hr
                (refine vd2_q rfl ?_); intro r hr; simp only [hx, d1, d2, p1, p2, true_and, Int.toNat_natCast, go_sem, ↓Nat.reduceBEq, ↓Nat.reduceAdd, ↓Nat.reduceMul, ↓Nat.reduceEqDiff, ↓Nat.reducePow, ↓Nat.reduceLeDiff, ↓Nat.reduceLT, ↓Int.reduceLE, ↓Int.reduceLT, ↓reduceIte, ↓reduceCtorEq]; subst hr
                exact hQ
                refine Tr.cond rfl (fun h => ?_) (fun h => by cases h)
                first | apply tr_m (by rw [hE]; rfl) | (refine Tr.seq ?_; apply tr_m (by rw [hE]; rfl))
                intro Q hQ
                simp only [List.toList_toArray, List.map_cons, List.map_nil, mo, guardSlot, Option.map_some, Option.map_none, List.getElem?_toArray, List.getElem?_cons_succ, List.getElem?_cons_zero, Option.bind_some]
                (refine vm_op ?_); intro r hr; simp only [hx, p1, p2, true_and, Int.toNat_natCast, go_sem, ↓Nat.reduceBEq, ↓Nat.reduceAdd, ↓Nat.reduceMul, ↓Nat.reduceEqDiff, ↓Nat.reducePow, ↓Nat.reduceLeDiff, ↓Nat.reduceLT, ↓Int.reduceLE, ↓Int.reduceLT, ↓reduceIte, ↓reduceCtorEq]; subst hr
                (refine vm_op ?_); intro r hr; simp only [hx, p1, p2, true_and, Int.toNat_natCast, go_sem, ↓Nat.reduceBEq, ↓Nat.reduceAdd, ↓Nat.reduceMul, ↓Nat.reduceEqDiff, ↓Nat.reducePow, ↓Nat.reduceLeDiff, ↓Nat.reduceLT, ↓Int.reduceLE, ↓Int.reduceLT, ↓reduceIte, ↓reduceCtorEq]; subst hr
                (refine vm_op ?_); intro r hr; simp only [hx, p1, p2, true_and, Int.toNat_natCast, go_sem, ↓Nat.reduceBEq, ↓Nat.reduceAdd, ↓Nat.reduceMul, ↓Nat.reduceEqDiff, ↓Nat.reducePow, ↓Nat.reduceLeDiff, ↓Nat.reduceLT, ↓Int.reduceLE, ↓Int.reduceLT, ↓reduceIte, ↓reduceCtorEq]; subst hr
                (refine vm_op ?_); intro r hr; simp only [hx, p1, p2, true_and, Int.toNat_natCast, go_sem, ↓Nat.reduceBEq, ↓Nat.reduceAdd, ↓Nat.reduceMul, ↓Nat.reduceEqDiff, ↓Nat.reducePow, ↓Nat.reduceLeDiff, ↓Nat.reduceLT, ↓Int.reduceLE, ↓Int.reduceLT, ↓reduceIte, ↓reduceCtorEq]; subst hr
                (refine vm_op ?_); intro r hr; simp only [hx, p1, p2, true_and, Int.toNat_natCast, go_sem, ↓Nat.reduceBEq, ↓Nat.reduceAdd, ↓Nat.reduceMul, ↓Nat.reduceEqDiff, ↓Nat.reducePow, ↓Nat.reduceLeDiff, ↓Nat.reduceLT, ↓Int.reduceLE, ↓Int.reduceLT, ↓reduceIte, ↓reduceCtorEq]; subst hr
                (refine vm_op ?_); intro r hr; simp only [hx, p1, p2, true_and, Int.toNat_natCast, go_sem, ↓Nat.reduceBEq, ↓Nat.reduceAdd, ↓Nat.reduceMul, ↓Nat.reduceEqDiff, ↓Nat.reducePow, ↓Nat.reduceLeDiff, ↓Nat.reduceLT, ↓Int.reduceLE, ↓Int.reduceLT, ↓reduceIte, ↓reduceCtorEq]; subst hr
                (refine vm_op ?_); intro r hr; simp only [hx, p1, p2, true_and, Int.toNat_natCast, go_sem, ↓Nat.reduceBEq, ↓Nat.reduceAdd, ↓Nat.reduceMul, ↓Nat.reduceEqDiff, ↓Nat.reducePow, ↓Nat.reduceLeDiff, ↓Nat.reduceLT, ↓Int.reduceLE, ↓Int.reduceLT, ↓reduceIte, ↓reduceCtorEq]; subst hr
                (refine vm_op ?_); intro r hr; simp only [hx, p1, p2, true_and, Int.toNat_natCast, go_sem, ↓Nat.reduceBEq, ↓Nat.reduceAdd, ↓Nat.reduceMul, ↓Nat.reduceEqDiff, ↓Nat.reducePow, ↓Nat.reduceLeDiff, ↓Nat.reduceLT, ↓Int.reduceLE, ↓Int.reduceLT, ↓reduceIte, ↓reduceCtorEq]; subst hr
                (refine vm_op ?_); intro r hr; simp only [hx, p1, p2, true_and, Int.toNat_natCast, go_sem, ↓Nat.reduceBEq, ↓Nat.reduceAdd, ↓Nat.reduceMul, ↓Nat.reduceEqDiff, ↓Nat.reducePow, ↓Nat.reduceLeDiff, ↓Nat.reduceLT, ↓Int.reduceLE, ↓Int.reduceLT, ↓reduceIte, ↓reduceCtorEq]; subst hr
                (refine vm_op ?_); intro r hr; simp only [hx, p1, p2, true_and, Int.toNat_natCast, go_sem, ↓Nat.reduceBEq, ↓Nat.reduceAdd, ↓Nat.reduceMul, ↓Nat.reduceEqDiff, ↓Nat.reducePow, ↓Nat.reduceLeDiff, ↓Nat.reduceLT, ↓Int.reduceLE, ↓Int.reduceLT, ↓reduceIte, ↓reduceCtorEq]; subst hr
                (refine vm_op ?_); intro r hr; simp only [hx, p1, p2, true_and, Int.toNat_natCast, go_sem, ↓Nat.reduceBEq, ↓Nat.reduceAdd, ↓Nat.reduceMul, ↓Nat.reduceEqDiff, ↓Nat.reducePow, ↓Nat.reduceLeDiff, ↓Nat.reduceLT, ↓Int.reduceLE, ↓Int.reduceLT, ↓reduceIte, ↓reduceCtorEq]; subst hr
                (refine vm_op ?_); intro r hr; simp only [hx, p1, p2, true_and, Int.toNat_natCast, go_sem, ↓Nat.reduceBEq, ↓Nat.reduceAdd, ↓Nat.reduceMul, ↓Nat.reduceEqDiff, ↓Nat.reducePow, ↓Nat.reduceLeDiff, ↓Nat.reduceLT, ↓Int.reduceLE, ↓Int.reduceLT, ↓reduceIte, ↓reduceCtorEq]; subst hr
                rw [← List.map_set]
                exact hQ
                first | refine tr_seq_region (by rw [hE]; rfl) ?_ | (refine Tr.seq ?_; refine tr_seq_region (by rw [hE]; rfl) ?_)
                repeat (refine vc_op rfl ?_; simp only [go_sem, ↓Nat.reduceBEq, ↓Nat.reduceAdd, ↓Nat.reduceMul, ↓Nat.reduceEqDiff, ↓Nat.reducePow, ↓Nat.reduceLeDiff, ↓Nat.reduceLT, ↓Int.reduceLE, ↓Int.reduceLT, ↓reduceIte, ↓reduceCtorEq])
                refine vc_nil ?_
                refine Tr.ret ?_
                rw [he, hL]
                simp only [Try.f16, List.length_set, orU, go_sem, ↓Nat.reduceBEq, ↓Nat.reduceAdd, ↓Nat.reduceMul, ↓Nat.reduceEqDiff, ↓Nat.reducePow, ↓Nat.reduceLeDiff, ↓Nat.reduceLT, ↓Int.reduceLE, ↓Int.reduceLT, ↓reduceIte, ↓reduceCtorEq]
              · have d2 : decide (a.t = t) = false := decide_eq_false c2
                have hkn : keyOf a ≠ ⟨s, t⟩ := key_ne2 c2
                apply tr_md mixed [0, 16, 32] rfl (by rw [hE]; rfl) (by kernel_rfl)
                intro Q hQ
                simp only [List.toList_toArray, List.map_cons, List.map_nil, mo, guardSlot, Option.map_some, Option.map_none, List.getElem?_toArray, List.getElem?_cons_succ, List.getElem?_cons_zero, Option.bind_some]
                (refine vd2_q rfl ?_); intro r hr; simp only [hx, d1, d2, p1, p2, true_and, Int.toNat_natCast, go_sem, ↓Nat.reduceBEq, ↓Nat.reduceAdd, ↓Nat.reduceMul, ↓Nat.reduceEqDiff, ↓Nat.reducePow, ↓Nat.reduceLeDiff, ↓Nat.reduceLT, ↓Int.reduceLE, ↓Int.reduceLT, ↓reduceIte, ↓reduceCtorEq]; subst hr
                (refine vd2_q rfl ?_); intro r hr; simp only [hx, d1, d2, p1, p2, true_and, Int.toNat_natCast, go_sem, ↓Nat.reduceBEq, ↓Nat.reduceAdd, ↓Nat.reduceMul, ↓Nat.reduceEqDiff, ↓Nat.reducePow, ↓Nat.reduceLeDiff, ↓Nat.reduceLT, ↓Int.reduceLE, ↓Int.reduceLT, ↓reduceIte, ↓reduceCtorEq]; subst hr
                (refine vd2_q rfl ?_); intro r hr; simp only [hx, d1, d2, p1, p2, true_and, Int.toNat_natCast, go_sem, ↓Nat.reduceBEq, ↓Nat.reduceAdd, ↓Nat.reduceMul, ↓Nat.reduceEqDiff, ↓Nat.reducePow, ↓Nat.reduceLeDiff, ↓Nat.reduceLT, ↓Int.reduceLE, ↓Int.reduceLT, ↓reduceIte, ↓reduceCtorEq]; subst hr
                (refine vd2_q rfl ?_); intro r hr; simp only [hx, d1, d2, p1, p2, true_and, Int.toNat_natCast, go_sem, ↓Nat.reduceBEq, ↓Nat.reduceAdd, ↓Nat.reduceMul, ↓Nat.reduceEqDiff, ↓Nat.reducePow, ↓Nat.reduceLeDiff, ↓Nat.reduceLT, ↓Int.reduceLE, ↓Int.reduceLT, ↓reduceIte, ↓reduceCtorEq]; subst hr
                (refine vd2_q rfl ?_); intro r hr; simp only [hx, d1, d2, p1, p2, true_and, Int.toNat_natCast, go_sem, ↓Nat.reduceBEq, ↓Nat.reduceAdd, ↓Nat.reduceMul, ↓Nat.reduceEqDiff, ↓Nat.reducePow, ↓Nat.reduceLeDiff, ↓Nat.reduceLT, ↓Int.reduceLE, ↓Int.reduceLT, ↓reduceIte, ↓reduceCtorEq]; subst hr
                (refine vd2_q rfl ?_); intro r hr; simp only [hx, d1, d2, p1, p2, true_and, Int.toNat_natCast, go_sem, ↓Nat.reduceBEq, ↓Nat.reduceAdd, ↓Nat.reduceMul, ↓Nat.reduceEqDiff, ↓Nat.reducePow, ↓Nat.reduceLeDiff, ↓Nat.reduceLT, ↓Int.reduceLE, ↓Int.reduceLT, ↓reduceIte, ↓reduceCtorEq]; subst hr
                (refine vd2_q rfl ?_); intro r hr; simp only [hx, d1, d2, p1, p2, true_and, Int.toNat_natCast, go_sem, ↓Nat.reduceBEq, ↓Nat.reduceAdd, ↓Nat.reduceMul, ↓Nat.reduceEqDiff, ↓Nat.reducePow, ↓Nat.reduceLeDiff, ↓Nat.reduceLT, ↓Int.reduceLE, ↓Int.reduceLT, ↓reduceIte, ↓reduceCtorEq]; subst hr
                (refine vd2_q rfl ?_); intro r hr; simp only [hx, d1, d2, p1, p2, true_and, Int.toNat_natCast, go_sem, ↓Nat.reduceBEq, ↓Nat.reduceAdd, ↓Nat.reduceMul, ↓Nat.reduceEqDiff, ↓Nat.reducePow, ↓Nat.reduceLeDiff, ↓Nat.reduceLT, ↓Int.reduceLE, ↓Int.reduceLT, ↓reduceIte, ↓reduceCtorEq]; subst hr
                (first | refine vd2_goq rfl rfl ?_ | refine vd2_no rfl ?_ | refine vd2_skip rfl ?_); intro r hr; simp only [hx, d1, d2, p1, p2, true_and, Int.toNat_natCast, go_sem, ↓Nat.reduceBEq, ↓Nat.reduceAdd, ↓Nat.reduceMul, ↓Nat.reduceEqDiff, ↓Nat.reducePow, ↓Nat.reduceLeDiff, ↓Nat.reduceLT, ↓Int.reduceLE, ↓Int.reduceLT, ↓reduceIte, ↓reduceCtorEq]; subst hr
                (first | refine vd2_goq rfl rfl ?_ | refine vd2_no rfl ?_ | refine vd2_skip rfl ?_); intro r hr; simp only [hx, d1, d2, p1, p2, true_and, Int.toNat_natCast, go_sem, ↓Nat.reduceBEq, ↓Nat.reduceAdd, ↓Nat.reduceMul, ↓Nat.reduceEqDiff, ↓Nat.reducePow, ↓Nat.reduceLeDiff, ↓Nat.reduceLT, ↓Int.reduceLE, ↓Int.reduceLT, ↓reduceIte, ↓reduceCtorEq]; subst hr
                (first | refine vd2_goq rfl rfl ?_ | refine vd2_no rfl ?_ | refine vd2_skip rfl ?_); intro r hr; simp only [hx, d1, d2, p1, p2, true_and, Int.toNat_natCast, go_sem, ↓Nat.reduceBEq, ↓Nat.reduceAdd, ↓Nat.reduceMul, ↓Nat.reduceEqDiff, ↓Nat.reducePow, ↓Nat.reduceLeDiff, ↓Nat.reduceLT, ↓Int.reduceLE, ↓Int.reduceLT, ↓reduceIte, ↓reduceCtorEq]; subst hr
                (first | refine vd2_goq rfl rfl ?_ | refine vd2_no rfl ?_ | refine vd2_skip rfl ?_); intro r hr; simp only [hx, d1, d2, p1, p2, true_and, Int.toNat_natCast, go_sem, ↓Nat.reduceBEq, ↓Nat.reduceAdd, ↓Nat.reduceMul, ↓Nat.reduceEqDiff, ↓Nat.reducePow, ↓Nat.reduceLeDiff, ↓Nat.reduceLT, ↓Int.reduceLE, ↓Int.reduceLT, ↓reduceIte, ↓reduceCtorEq]; subst hr
                (first | refine vd2_goq rfl rfl ?_ | refine vd2_no rfl ?_ | refine vd2_skip rfl ?_); intro r hr; simp only [hx, d1, d2, p1, p2, true_and, Int.toNat_natCast, go_sem, ↓Nat.reduceBEq, ↓Nat.reduceAdd, ↓Nat.reduceMul, ↓Nat.reduceEqDiff, ↓Nat.reducePow, ↓Nat.reduceLeDiff, ↓Nat.reduceLT, ↓Int.reduceLE, ↓Int.reduceLT, ↓reduceIte, ↓reduceCtorEq]; subst hr
                (first | refine vd2_goq rfl rfl ?_ | refine vd2_no rfl ?_ | refine vd2_skip rfl ?_); intro r hr; simp only [hx, d1, d2, p1, p2, true_and, Int.toNat_natCast, go_sem, ↓Nat.reduceBEq, ↓Nat.reduceAdd, ↓Nat.reduceMul, ↓Nat.reduceEqDiff, ↓Nat.reducePow, ↓Nat.reduceLeDiff, ↓Nat.reduceLT, ↓Int.reduceLE, ↓Int.reduceLT, ↓reduceIte, ↓reduceCtorEq]; subst hr
                (first | refine vd2_goq rfl rfl ?_ | refine vd2_no rfl ?_ | refine vd2_skip rfl ?_); intro r hr; simp only [hx, d1, d2, p1, p2, true_and, Int.toNat_natCast, go_sem, ↓Nat.reduceBEq, ↓Nat.reduceAdd, ↓Nat.reduceMul, ↓Nat.reduceEqDiff, ↓Nat.reducePow, ↓Nat.reduceLeDiff, ↓Nat.reduceLT, ↓Int.reduceLE, ↓Int.reduceLT, ↓reduceIte, ↓reduceCtorEq]; subst hr
                (refine vd2_q rfl ?_); intro r hr; simp only [hx, d1, d2, p1, p2, true_and, Int.toNat_natCast, go_sem, ↓Nat.reduceBEq, ↓Nat.reduceAdd, ↓Nat.reduceMul, ↓Nat.reduceEqDiff, ↓Nat.reducePow, ↓Nat.reduceLeDiff, ↓Nat.reduceLT, ↓Int.reduceLE, ↓Int.reduceLT, ↓reduceIte, ↓reduceCtorEq]; subst hr
                exact hQ
                refine Tr.cond rfl (fun h => by cases h) (fun h => ?_)
                refine Tr.skip ?_
                try simp only [blockK, thenK, ↓reduceIte]
                refine tr_region (by rw [hE]; rfl) ?_
                repeat (refine vc_op rfl ?_; simp only [hw, go_sem, ↓Nat.reduceBEq, ↓Nat.reduceAdd, ↓Nat.reduceMul, ↓Nat.reduceEqDiff, ↓Nat.reducePow, ↓Nat.reduceLeDiff, ↓Nat.reduceLT, ↓Int.reduceLE, ↓Int.reduceLT, ↓reduceIte, ↓reduceCtorEq])
                refine vc_nil ?_
                try simp only [blockK, thenK, ↓reduceIte]
                refine ⟨i + 1, ⟨hlt, fun j hj hji => ?_⟩, by omega, ?_⟩
                · by_cases h : j = i
                  · subst h; rw [hla]; exact hkn
                  · exact hbefore j hj (by omega)
                · refine wk_ren (fun n => n) ?_ ?_ rfl rfl rfl
                  · repeat' (first | exact rfl | exact trivial | constructor)
                  · repeat' (first | exact rfl | exact trivial | constructor)
            · have d1 : decide (a.s = s) = false := decide_eq_false c1
              have hkn : keyOf a ≠ ⟨s, t⟩ := key_ne1 c1
              apply tr_md mixed [0, 16, 32] rfl (by rw [hE]; rfl) (by kernel_rfl)
              intro Q hQ
              simp only [List.toList_toArray, List.map_cons, List.map_nil, mo, guardSlot, Option.map_some, Option.map_none, List.getElem?_toArray, List.getElem?_cons_succ, List.getElem?_cons_zero, Option.bind_some]
              (refine vd2_q rfl ?_); intro r hr; simp only [hx, d1, p1, p2, true_and, Int.toNat_natCast, go_sem, ↓Nat.reduceBEq, ↓Nat.reduceAdd, ↓Nat.reduceMul, ↓Nat.reduceEqDiff, ↓Nat.reducePow, ↓Nat.reduceLeDiff, ↓Nat.reduceLT, ↓Int.reduceLE, ↓Int.reduceLT, ↓reduceIte, ↓reduceCtorEq]; subst hr
              (refine vd2_q rfl ?_); intro r hr; simp only [hx, d1, p1, p2, true_and, Int.toNat_natCast, go_sem, ↓Nat.reduceBEq, ↓Nat.reduceAdd, ↓Nat.reduceMul, ↓Nat.reduceEqDiff, ↓Nat.reducePow, ↓Nat.reduceLeDiff, ↓Nat.reduceLT, ↓Int.reduceLE, ↓Int.reduceLT, ↓reduceIte, ↓reduceCtorEq]; subst hr
              (refine vd2_q rfl ?_); intro r hr; simp only [hx, d1, p1, p2, true_and, Int.toNat_natCast, go_sem, ↓Nat.reduceBEq, ↓Nat.reduceAdd, ↓Nat.reduceMul, ↓Nat.reduceEqDiff, ↓Nat.reducePow, ↓Nat.reduceLeDiff, ↓Nat.reduceLT, ↓Int.reduceLE, ↓Int.reduceLT, ↓reduceIte, ↓reduceCtorEq]; subst hr
              (refine vd2_q rfl ?_); intro r hr; simp only [hx, d1, p1, p2, true_and, Int.toNat_natCast, go_sem, ↓Nat.reduceBEq, ↓Nat.reduceAdd, ↓Nat.reduceMul, ↓Nat.reduceEqDiff, ↓Nat.reducePow, ↓Nat.reduceLeDiff, ↓Nat.reduceLT, ↓Int.reduceLE, ↓Int.reduceLT, ↓reduceIte, ↓reduceCtorEq]; subst hr
              (refine vd2_q rfl ?_); intro r hr; simp only [hx, d1, p1, p2, true_and, Int.toNat_natCast, go_sem, ↓Nat.reduceBEq, ↓Nat.reduceAdd, ↓Nat.reduceMul, ↓Nat.reduceEqDiff, ↓Nat.reducePow, ↓Nat.reduceLeDiff, ↓Nat.reduceLT, ↓Int.reduceLE, ↓Int.reduceLT, ↓reduceIte, ↓reduceCtorEq]; subst hr
              (refine vd2_q rfl ?_); intro r hr; simp only [hx, d1, p1, p2, true_and, Int.toNat_natCast, go_sem, ↓Nat.reduceBEq, ↓Nat.reduceAdd, ↓Nat.reduceMul, ↓Nat.reduceEqDiff, ↓Nat.reducePow, ↓Nat.reduceLeDiff, ↓Nat.reduceLT, ↓Int.reduceLE, ↓Int.reduceLT, ↓reduceIte, ↓reduceCtorEq]; subst hr
              (refine vd2_q rfl ?_); intro r hr; simp only [hx, d1, p1, p2, true_and, Int.toNat_natCast, go_sem, ↓Nat.reduceBEq, ↓Nat.reduceAdd, ↓Nat.reduceMul, ↓Nat.reduceEqDiff, ↓Nat.reducePow, ↓Nat.reduceLeDiff, ↓Nat.reduceLT, ↓Int.reduceLE, ↓Int.reduceLT, ↓reduceIte, ↓reduceCtorEq]; subst hr
              (refine vd2_q rfl ?_); intro r hr; simp only [hx, d1, p1, p2, true_and, Int.toNat_natCast, go_sem, ↓Nat.reduceBEq, ↓Nat.reduceAdd, ↓Nat.reduceMul, ↓Nat.reduceEqDiff, ↓Nat.reducePow, ↓Nat.reduceLeDiff, ↓Nat.reduceLT, ↓Int.reduceLE, ↓Int.reduceLT, ↓reduceIte, ↓reduceCtorEq]; subst hr
              (first | refine vd2_goq rfl rfl ?_ | refine vd2_no rfl ?_ | refine vd2_skip rfl ?_); intro r hr; simp only [hx, d1, p1, p2, true_and, Int.toNat_natCast, go_sem, ↓Nat.reduceBEq, ↓Nat.reduceAdd, ↓Nat.reduceMul, ↓Nat.reduceEqDiff, ↓Nat.reducePow, ↓Nat.reduceLeDiff, ↓Nat.reduceLT, ↓Int.reduceLE, ↓Int.reduceLT, ↓reduceIte, ↓reduceCtorEq]; subst hr
              (first | refine vd2_goq rfl rfl ?_ | refine vd2_no rfl ?_ | refine vd2_skip rfl ?_); intro r hr; simp only [hx, d1, p1, p2, true_and, Int.toNat_natCast, go_sem, ↓Nat.reduceBEq, ↓Nat.reduceAdd, ↓Nat.reduceMul, ↓Nat.reduceEqDiff, ↓Nat.reducePow, ↓Nat.reduceLeDiff, ↓Nat.reduceLT, ↓Int.reduceLE, ↓Int.reduceLT, ↓reduceIte, ↓reduceCtorEq]; subst hr
              (first | refine vd2_goq rfl rfl ?_ | refine vd2_no rfl ?_ | refine vd2_skip rfl ?_); intro r hr; simp only [hx, d1, p1, p2, true_and, Int.toNat_natCast, go_sem, ↓Nat.reduceBEq, ↓Nat.reduceAdd, ↓Nat.reduceMul, ↓Nat.reduceEqDiff, ↓Nat.reducePow, ↓Nat.reduceLeDiff, ↓Nat.reduceLT, ↓Int.reduceLE, ↓Int.reduceLT, ↓reduceIte, ↓reduceCtorEq]; subst hr
              (first | refine vd2_goq rfl rfl ?_ | refine vd2_no rfl ?_ | refine vd2_skip rfl ?_); intro r hr; simp only [hx, d1, p1, p2, true_and, Int.toNat_natCast, go_sem, ↓Nat.reduceBEq, ↓Nat.reduceAdd, ↓Nat.reduceMul, ↓Nat.reduceEqDiff, ↓Nat.reducePow, ↓Nat.reduceLeDiff, ↓Nat.reduceLT, ↓Int.reduceLE, ↓Int.reduceLT, ↓reduceIte, ↓reduceCtorEq]; subst hr
              (first | refine vd2_goq rfl rfl ?_ | refine vd2_no rfl ?_ | refine vd2_skip rfl ?_); intro r hr; simp only [hx, d1, p1, p2, true_and, Int.toNat_natCast, go_sem, ↓Nat.reduceBEq, ↓Nat.reduceAdd, ↓Nat.reduceMul, ↓Nat.reduceEqDiff, ↓Nat.reducePow, ↓Nat.reduceLeDiff, ↓Nat.reduceLT, ↓Int.reduceLE, ↓Int.reduceLT, ↓reduceIte, ↓reduceCtorEq]; subst hr
              (first | refine vd2_goq rfl rfl ?_ | refine vd2_no rfl ?_ | refine vd2_skip rfl ?_); intro r hr; simp only [hx, d1, p1, p2, true_and, Int.toNat_natCast, go_sem, ↓Nat.reduceBEq, ↓Nat.reduceAdd, ↓Nat.reduceMul, ↓Nat.reduceEqDiff, ↓Nat.reducePow, ↓Nat.reduceLeDiff, ↓Nat.reduceLT, ↓Int.reduceLE, ↓Int.reduceLT, ↓reduceIte, ↓reduceCtorEq]; subst hr
              (first | refine vd2_goq rfl rfl ?_ | refine vd2_no rfl ?_ | refine vd2_skip rfl ?_); intro r hr; simp only [hx, d1, p1, p2, true_and, Int.toNat_natCast, go_sem, ↓Nat.reduceBEq, ↓Nat.reduceAdd, ↓Nat.reduceMul, ↓Nat.reduceEqDiff, ↓Nat.reducePow, ↓Nat.reduceLeDiff, ↓Nat.reduceLT, ↓Int.reduceLE, ↓Int.reduceLT, ↓reduceIte, ↓reduceCtorEq]; subst hr
              (refine vd2_q rfl ?_); intro r hr; simp only [hx, d1, p1, p2, true_and, Int.toNat_natCast, go_sem, ↓Nat.reduceBEq, ↓Nat.reduceAdd, ↓Nat.reduceMul, ↓Nat.reduceEqDiff, ↓Nat.reducePow, ↓Nat.reduceLeDiff, ↓Nat.reduceLT, ↓Int.reduceLE, ↓Int.reduceLT, ↓reduceIte, ↓reduceCtorEq]; subst hr
              exact hQ
              refine Tr.cond rfl (fun h => by cases h) (fun h => ?_)
              refine Tr.skip ?_
              try simp only [blockK, thenK, ↓reduceIte]
              refine tr_region (by rw [hE]; rfl) ?_
              repeat (refine vc_op rfl ?_; simp only [hw, go_sem, ↓Nat.reduceBEq, ↓Nat.reduceAdd, ↓Nat.reduceMul, ↓Nat.reduceEqDiff, ↓Nat.reducePow, ↓Nat.reduceLeDiff, ↓Nat.reduceLT, ↓Int.reduceLE, ↓Int.reduceLT, ↓reduceIte, ↓reduceCtorEq])
              refine vc_nil ?_
              try simp only [blockK, thenK, ↓reduceIte]
              refine ⟨i + 1, ⟨hlt, fun j hj hji => ?_⟩, by omega, ?_⟩
              · by_cases h : j = i
                · subst h; rw [hla]; exact hkn
                · exact hbefore j hj (by omega)
              · refine wk_ren (fun n => n) ?_ ?_ rfl rfl rfl
                · repeat' (first | exact rfl | exact trivial | constructor)
                · repeat' (first | exact rfl | exact trivial | constructor)
          · refine Tr.exit ?_
            try simp only [blockK, thenK, ↓reduceIte]
            have hil : i = l.length := by
              have := of_decide_eq_false h4
              omega
            subst hil
            have hn : look (places l) ⟨s, t⟩ = none := look_no fun j hj => hbefore j hj hj
            refine Tr.seq ?_
            first | refine tr_seq_region (by rw [hE]; rfl) ?_ | (refine Tr.seq ?_; refine tr_seq_region (by rw [hE]; rfl) ?_)
            repeat (refine vc_op rfl ?_; simp only [go_sem, ↓Nat.reduceBEq, ↓Nat.reduceAdd, ↓Nat.reduceMul, ↓Nat.reduceEqDiff, ↓Nat.reducePow, ↓Nat.reduceLeDiff, ↓Nat.reduceLT, ↓Int.reduceLE, ↓Int.reduceLT, ↓reduceIte, ↓reduceCtorEq])
            refine vc_nil ?_
            refine Tr.cond rfl (fun h6 => ?_) (fun h6 => ?_)
            · have he : lputE l s t n = 3 := by
                have := of_decide_eq_true h6
                simp [lputE, hm, hv, h3', hn]; omega
              have hb := bad (by rw [he]; decide)
              first | refine tr_seq_region (by rw [hE]; rfl) ?_ | (refine Tr.seq ?_; refine tr_seq_region (by rw [hE]; rfl) ?_)
              repeat (refine vc_op rfl ?_; simp only [go_sem, ↓Nat.reduceBEq, ↓Nat.reduceAdd, ↓Nat.reduceMul, ↓Nat.reduceEqDiff, ↓Nat.reducePow, ↓Nat.reduceLeDiff, ↓Nat.reduceLT, ↓Int.reduceLE, ↓Int.reduceLT, ↓reduceIte, ↓reduceCtorEq])
              refine vc_nil ?_
              refine Tr.ret ?_
              simp only [he, hb, Try.f16, go_sem, ↓Nat.reduceBEq, ↓Nat.reduceAdd, ↓Nat.reduceMul, ↓Nat.reduceEqDiff, ↓Nat.reducePow, ↓Nat.reduceLeDiff, ↓Nat.reduceLT, ↓Int.reduceLE, ↓Int.reduceLT, ↓reduceIte, ↓reduceCtorEq]
            · have he : lputE l s t n = 0 := by
                have := of_decide_eq_false h6
                simp [lputE, hm, hv, h3', hn]; omega
              have hL : lputL l s t n = l ++ [⟨s, t, bit n⟩] := by simp [lputL, he, hn]
              refine Tr.skip ?_
              try simp only [blockK, thenK, ↓reduceIte]
              first | refine tr_seq_region (by rw [hE]; rfl) ?_ | (refine Tr.seq ?_; refine tr_seq_region (by rw [hE]; rfl) ?_)
              repeat (refine vc_op rfl ?_; simp only [go_sem, ↓Nat.reduceBEq, ↓Nat.reduceAdd, ↓Nat.reduceMul, ↓Nat.reduceEqDiff, ↓Nat.reducePow, ↓Nat.reduceLeDiff, ↓Nat.reduceLT, ↓Int.reduceLE, ↓Int.reduceLT, ↓reduceIte, ↓reduceCtorEq])
              refine ⟨by omega, by omega, ?_⟩
              repeat (refine vc_op rfl ?_; simp only [go_sem, ↓Nat.reduceBEq, ↓Nat.reduceAdd, ↓Nat.reduceMul, ↓Nat.reduceEqDiff, ↓Nat.reducePow, ↓Nat.reduceLeDiff, ↓Nat.reduceLT, ↓Int.reduceLE, ↓Int.reduceLT, ↓reduceIte, ↓reduceCtorEq])
              refine vc_nil ?_
              refine Tr.ret ?_
              rw [he, hL]
              simp only [Try.f16, List.map_append, go_sem, ↓Nat.reduceBEq, ↓Nat.reduceAdd, ↓Nat.reduceMul, ↓Nat.reduceEqDiff, ↓Nat.reducePow, ↓Nat.reduceLeDiff, ↓Nat.reduceLT, ↓Int.reduceLE, ↓Int.reduceLT, ↓reduceIte, ↓reduceCtorEq]
  · have hm' : lmayB l = false := by simpa using hm
    rw [hm']
    have he : lputE l s t v = 1 := by simp [lputE, hm']
    have hb := bad (by rw [he]; decide)
    first | refine tr_seq_region (by rw [hE]; rfl) ?_ | (refine Tr.seq ?_; refine tr_seq_region (by rw [hE]; rfl) ?_)
    repeat (refine vc_op rfl ?_; simp only [go_sem, ↓Nat.reduceBEq, ↓Nat.reduceAdd, ↓Nat.reduceMul, ↓Nat.reduceEqDiff, ↓Nat.reducePow, ↓Nat.reduceLeDiff, ↓Nat.reduceLT, ↓Int.reduceLE, ↓Int.reduceLT, ↓reduceIte, ↓reduceCtorEq])
    refine vc_nil ?_
    refine Tr.cond rfl (fun h1 => ?_) (fun h1 => by cases h1)
    first | refine tr_seq_region (by rw [hE]; rfl) ?_ | (refine Tr.seq ?_; refine tr_seq_region (by rw [hE]; rfl) ?_)
    repeat (refine vc_op rfl ?_; simp only [go_sem, ↓Nat.reduceBEq, ↓Nat.reduceAdd, ↓Nat.reduceMul, ↓Nat.reduceEqDiff, ↓Nat.reducePow, ↓Nat.reduceLeDiff, ↓Nat.reduceLT, ↓Int.reduceLE, ↓Int.reduceLT, ↓reduceIte, ↓reduceCtorEq])
    refine vc_nil ?_
    refine Tr.ret ?_
    simp only [he, hb, Try.f16, go_sem, ↓Nat.reduceBEq, ↓Nat.reduceAdd, ↓Nat.reduceMul, ↓Nat.reduceEqDiff, ↓Nat.reducePow, ↓Nat.reduceLeDiff, ↓Nat.reduceLT, ↓Int.reduceLE, ↓Int.reduceLT, ↓reduceIte, ↓reduceCtorEq]
