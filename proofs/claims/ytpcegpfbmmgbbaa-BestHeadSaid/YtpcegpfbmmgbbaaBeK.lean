/- The head; the document's line. -/
import Derived.Test.YtpcegpfbmmgbbaaBeJ
set_option linter.unusedSimpArgs false
namespace Go.Proofs.Ytpcegpfbmmgbbaa
open Go Go.Ab

def headR (t : List Node) (w : List Int) (ld : List Bool) (i : Int) : Int := (lineR t w ld i).getLastD (-1)

theorem lineR_len (t : List Node) (w : List Int) (ld : List Bool) (i : Int) : (lineR t w ld i).length ≤ 12 := by
  unfold lineR
  split
  · rename_i h
    exact Nat.le_trans (lineF_len i h.2.1) (may_len (told_facts h.1).1).2
  · simp

def st26 (t : List Node) (w : List Int) (ld : List Bool) (p : List Int × Int) : S where
  fr := [(1, .sl (w.map uav) false), (2, .sl (ld.map .bool) false), (3, .int .i64 p.2), (4, .ptr 0 [] 0), (9, .ms 1 1 p.1.length), (10, .bool (toldB t w ld))]
  hp := [(0, .var (tav t)), (1, .row 1 (p.1.map iav))]
  nx := 2

set_option maxRecDepth 10000 in
theorem refline_pure (t : List Node) (w : List Int) (ld : List Bool) (i : Int) (hl : t.length ≤ 100) : Pure Try.prog 26 [tav t, .sl (w.map uav) false, .sl (ld.map .bool) false, .int .i64 i] (.sl ((lineR t w ld i).map iav) false) := by
  refine pure_of_tr Try.func26 rfl (Nat.le_of_ble_eq_true rfl) rfl fun E hE hP => ?_
  first | refine tr_seq_region (by rw [hE]; rfl) ?_ | (refine Tr.seq ?_; refine tr_seq_region (by rw [hE]; rfl) ?_)
  repeat (refine vc_op rfl ?_; simp only [go_sem, ↓Nat.reduceBEq, ↓Nat.reduceAdd, ↓Nat.reduceSub, ↓Nat.reduceMul, ↓Nat.reduceEqDiff, ↓Nat.reducePow, ↓Nat.reduceLeDiff, ↓Nat.reduceLT, ↓Int.reduceLE, ↓Int.reduceLT, ↓reduceIte, ↓reduceCtorEq])
  refine vc_nil ?_
  first | refine tr_seq_region (by rw [hE]; rfl) ?_ | (refine Tr.seq ?_; refine tr_seq_region (by rw [hE]; rfl) ?_)
  repeat (refine vc_op rfl ?_; simp only [go_sem, ↓Nat.reduceBEq, ↓Nat.reduceAdd, ↓Nat.reduceSub, ↓Nat.reduceMul, ↓Nat.reduceEqDiff, ↓Nat.reducePow, ↓Nat.reduceLeDiff, ↓Nat.reduceLT, ↓Int.reduceLE, ↓Int.reduceLT, ↓reduceIte, ↓reduceCtorEq])
  refine vc_nil ?_
  first | apply tr_m (by rw [hE]; rfl) | (refine Tr.seq ?_; apply tr_m (by rw [hE]; rfl))
  intro Q hQ
  simp only [List.toList_toArray, List.map_cons, List.map_nil, mo, guardSlot, Option.map_some, Option.map_none, List.getElem?_toArray, List.getElem?_cons_succ, List.getElem?_cons_zero, Option.bind_some]
  iterate 3 ((refine vm_op ?_); intro r hr; simp only [go_sem, ↓Nat.reduceBEq, ↓Nat.reduceAdd, ↓Nat.reduceSub, ↓Nat.reduceMul, ↓Nat.reduceEqDiff, ↓Nat.reducePow, ↓Nat.reduceLeDiff, ↓Nat.reduceLT, ↓Int.reduceLE, ↓Int.reduceLT, ↓reduceIte, ↓reduceCtorEq]; subst hr)
  (refine vm_op ?_); intro r hr; simp only [go_sem, ↓Nat.reduceBEq, ↓Nat.reduceAdd, ↓Nat.reduceSub, ↓Nat.reduceMul, ↓Nat.reduceEqDiff, ↓Nat.reducePow, ↓Nat.reduceLeDiff, ↓Nat.reduceLT, ↓Int.reduceLE, ↓Int.reduceLT, ↓reduceIte, ↓reduceCtorEq]
  refine call_fn rfl rfl rfl rfl (enters_of Try.func53 (by kernel_rfl) rfl) (reftold_pure t w ld hl) rfl rfl rfl ?_
  simp only [go_sem, ↓Nat.reduceBEq, ↓Nat.reduceAdd, ↓Nat.reduceSub, ↓Nat.reduceMul, ↓Nat.reduceEqDiff, ↓Nat.reducePow, ↓Nat.reduceLeDiff, ↓Nat.reduceLT, ↓Int.reduceLE, ↓Int.reduceLT, ↓reduceIte, ↓reduceCtorEq]
  subst hr
  (refine vm_op ?_); intro r hr; simp only [go_sem, ↓Nat.reduceBEq, ↓Nat.reduceAdd, ↓Nat.reduceSub, ↓Nat.reduceMul, ↓Nat.reduceEqDiff, ↓Nat.reducePow, ↓Nat.reduceLeDiff, ↓Nat.reduceLT, ↓Int.reduceLE, ↓Int.reduceLT, ↓reduceIte, ↓reduceCtorEq]; subst hr
  exact hQ
  by_cases h1 : t.length ≤ i
  · have e1 : decide ((t.length : Int) ≤ i) = true := decide_eq_true h1
    have er : lineR t w ld i = [] := by unfold lineR; rw [if_neg (by omega)]
    first | apply tr_m (by rw [hE]; rfl) | (refine Tr.seq ?_; apply tr_m (by rw [hE]; rfl))
    intro Q hQ
    simp only [List.toList_toArray, List.map_cons, List.map_nil, mo, guardSlot, Option.map_some, Option.map_none, List.getElem?_toArray, List.getElem?_cons_succ, List.getElem?_cons_zero, Option.bind_some]
    iterate 5 ((refine vm_op ?_); intro r hr; simp only [e1, go_sem, ↓Nat.reduceBEq, ↓Nat.reduceAdd, ↓Nat.reduceSub, ↓Nat.reduceMul, ↓Nat.reduceEqDiff, ↓Nat.reducePow, ↓Nat.reduceLeDiff, ↓Nat.reduceLT, ↓Int.reduceLE, ↓Int.reduceLT, ↓reduceIte, ↓reduceCtorEq]; subst hr)
    exact hQ
    first | refine Tr.cond (b := true) rfl (fun _ => ?_) (fun h => by cases h) | refine Tr.seq (Tr.cond (b := true) rfl (fun _ => ?_) (fun h => by cases h))
    first | refine tr_seq_region (by rw [hE]; rfl) ?_ | (refine Tr.seq ?_; refine tr_seq_region (by rw [hE]; rfl) ?_)
    repeat (refine vc_op rfl ?_; simp only [go_sem, ↓Nat.reduceBEq, ↓Nat.reduceAdd, ↓Nat.reduceSub, ↓Nat.reduceMul, ↓Nat.reduceEqDiff, ↓Nat.reducePow, ↓Nat.reduceLeDiff, ↓Nat.reduceLT, ↓Int.reduceLE, ↓Int.reduceLT, ↓reduceIte, ↓reduceCtorEq])
    refine vc_nil ?_
    rw [er]
    refine Tr.ret ?_
    simp only [Try.f26, go_sem, ↓Nat.reduceBEq, ↓Nat.reduceAdd, ↓Nat.reduceSub, ↓Nat.reduceMul, ↓Nat.reduceEqDiff, ↓Nat.reducePow, ↓Nat.reduceLeDiff, ↓Nat.reduceLT, ↓Int.reduceLE, ↓Int.reduceLT, ↓reduceIte, ↓reduceCtorEq]
  · have e1 : decide ((t.length : Int) ≤ i) = false := decide_eq_false h1
    first | apply tr_m (by rw [hE]; rfl) | (refine Tr.seq ?_; apply tr_m (by rw [hE]; rfl))
    intro Q hQ
    simp only [List.toList_toArray, List.map_cons, List.map_nil, mo, guardSlot, Option.map_some, Option.map_none, List.getElem?_toArray, List.getElem?_cons_succ, List.getElem?_cons_zero, Option.bind_some]
    iterate 5 ((refine vm_op ?_); intro r hr; simp only [e1, go_sem, ↓Nat.reduceBEq, ↓Nat.reduceAdd, ↓Nat.reduceSub, ↓Nat.reduceMul, ↓Nat.reduceEqDiff, ↓Nat.reducePow, ↓Nat.reduceLeDiff, ↓Nat.reduceLT, ↓Int.reduceLE, ↓Int.reduceLT, ↓reduceIte, ↓reduceCtorEq]; subst hr)
    exact hQ
    first | refine Tr.cond rfl (fun h => by cases h) (fun _ => ?_) | refine Tr.seq (Tr.cond rfl (fun h => by cases h) (fun _ => ?_))
    refine Tr.skip ?_
    try simp only [blockK, thenK, ↓reduceIte]
    first | refine Tr.block ?_ | (refine Tr.seq ?_; refine Tr.block ?_)
    by_cases hgo : toldB t w ld = true ∧ 0 ≤ i
    · obtain ⟨ht, h0⟩ := hgo
      obtain ⟨hm, hwl, hdl⟩ := told_facts ht
      have er : lineR t w ld i = lineF t w ld i := by unfold lineR; rw [if_pos ⟨ht, h0, by omega⟩]
      refine Tr.loop (st26 t w ld) (fun p => (p.2 = -1 ∨ (0 ≤ p.2 ∧ p.2 < t.length)) ∧ p.1 ++ lineF t w ld p.2 = lineF t w ld i) (fun p => (lineF t w ld p.2).length) ([], i) ⟨.inr ⟨h0, by omega⟩, rfl⟩ ?_ ?_
      · refine (Wk.nil 9 1 rfl).trans ?_
        refine wk_ren (fun | 1 => 208 | n => n) ?_ ?_ rfl rfl rfl
        · repeat' (first | exact rfl | exact trivial | constructor)
        · repeat' (first | exact rfl | exact trivial | constructor)
      · rintro ⟨d, c⟩ ⟨hc, hline⟩
        unfold st26
        simp only [ht]
        have hline : d ++ lineF t w ld c = lineF t w ld i := hline
        rcases hc with hc | ⟨hc0, hc1⟩
        · have hc : c = -1 := hc
          subst hc
          have hd : d = lineF t w ld i := by
            have h := hline
            rw [lineF_none, List.append_nil] at h
            exact h
          have hlen : d.length = (d.map iav).length := by simp
          rw [er, ← hd]
          first | apply tr_m (by rw [hE]; rfl) | (refine Tr.seq ?_; apply tr_m (by rw [hE]; rfl))
          intro Q hQ
          simp only [List.toList_toArray, List.map_cons, List.map_nil, mo, guardSlot, Option.map_some, Option.map_none, List.getElem?_toArray, List.getElem?_cons_succ, List.getElem?_cons_zero, Option.bind_some]
          iterate 2 ((refine vm_op ?_); intro r hr; simp only [go_sem, ↓Nat.reduceBEq, ↓Nat.reduceAdd, ↓Nat.reduceSub, ↓Nat.reduceMul, ↓Nat.reduceEqDiff, ↓Nat.reducePow, ↓Nat.reduceLeDiff, ↓Nat.reduceLT, ↓Int.reduceLE, ↓Int.reduceLT, ↓reduceIte, ↓reduceCtorEq]; subst hr)
          iterate 2 ((first | refine vm_if rfl ?_ | refine vm_no rfl ?_ | refine vm_skip rfl ?_); intro r hr; simp only [go_sem, ↓Nat.reduceBEq, ↓Nat.reduceAdd, ↓Nat.reduceSub, ↓Nat.reduceMul, ↓Nat.reduceEqDiff, ↓Nat.reducePow, ↓Nat.reduceLeDiff, ↓Nat.reduceLT, ↓Int.reduceLE, ↓Int.reduceLT, ↓reduceIte, ↓reduceCtorEq]; subst hr)
          (refine vm_op ?_); intro r hr; simp only [go_sem, ↓Nat.reduceBEq, ↓Nat.reduceAdd, ↓Nat.reduceSub, ↓Nat.reduceMul, ↓Nat.reduceEqDiff, ↓Nat.reducePow, ↓Nat.reduceLeDiff, ↓Nat.reduceLT, ↓Int.reduceLE, ↓Int.reduceLT, ↓reduceIte, ↓reduceCtorEq]; subst hr
          exact hQ
          first | refine Tr.cond (b := false) rfl (fun h => by cases h) (fun _ => ?_) | refine Tr.seq (Tr.cond (b := false) rfl (fun h => by cases h) (fun _ => ?_))
          refine Tr.exit ?_
          try simp only [blockK, thenK, ↓reduceIte]
          first | refine tr_seq_region (by rw [hE]; rfl) ?_ | (refine Tr.seq ?_; refine tr_seq_region (by rw [hE]; rfl) ?_)
          repeat (refine vc_op rfl ?_; simp only [go_sem, ↓Nat.reduceBEq, ↓Nat.reduceAdd, ↓Nat.reduceSub, ↓Nat.reduceMul, ↓Nat.reduceEqDiff, ↓Nat.reducePow, ↓Nat.reduceLeDiff, ↓Nat.reduceLT, ↓Int.reduceLE, ↓Int.reduceLT, ↓reduceIte, ↓reduceCtorEq])
          refine vc_nil ?_
          refine Tr.ret ?_
          simp only [← hlen, Try.f26, go_sem, ↓Nat.reduceBEq, ↓Nat.reduceAdd, ↓Nat.reduceSub, ↓Nat.reduceMul, ↓Nat.reduceEqDiff, ↓Nat.reducePow, ↓Nat.reduceLeDiff, ↓Nat.reduceLT, ↓Int.reduceLE, ↓Int.reduceLT, ↓reduceIte, ↓reduceCtorEq]
        · have hc0 : 0 ≤ c := hc0
          have hc1 : c < t.length := hc1
          have e0 : decide (0 ≤ c) = true := decide_eq_true hc0
          have hd12 : d.length ≤ 12 := by
            have h1 := congrArg List.length hline
            have h2 := lineF_len (t := t) (w := w) (ld := ld) i (by omega)
            rw [List.length_append] at h1
            have := (may_len hm).2
            omega
          have hk : kidR t w ld c = kidF t w ld c := by unfold kidR; rw [if_pos ⟨ht, hc0⟩]
          have hnext := lineF_next (w := w) (ld := ld) hm hc0 hc1
          have hkr := kidF_range (w := w) (ld := ld) hm c hc0
          first | apply tr_m (by rw [hE]; rfl) | (refine Tr.seq ?_; apply tr_m (by rw [hE]; rfl))
          intro Q hQ
          simp only [List.toList_toArray, List.map_cons, List.map_nil, mo, guardSlot, Option.map_some, Option.map_none, List.getElem?_toArray, List.getElem?_cons_succ, List.getElem?_cons_zero, Option.bind_some]
          iterate 2 ((refine vm_op ?_); intro r hr; simp only [e0, go_sem, ↓Nat.reduceBEq, ↓Nat.reduceAdd, ↓Nat.reduceSub, ↓Nat.reduceMul, ↓Nat.reduceEqDiff, ↓Nat.reducePow, ↓Nat.reduceLeDiff, ↓Nat.reduceLT, ↓Int.reduceLE, ↓Int.reduceLT, ↓reduceIte, ↓reduceCtorEq]; subst hr)
          iterate 2 ((first | refine vm_if rfl ?_ | refine vm_no rfl ?_ | refine vm_skip rfl ?_); intro r hr; simp only [e0, go_sem, ↓Nat.reduceBEq, ↓Nat.reduceAdd, ↓Nat.reduceSub, ↓Nat.reduceMul, ↓Nat.reduceEqDiff, ↓Nat.reducePow, ↓Nat.reduceLeDiff, ↓Nat.reduceLT, ↓Int.reduceLE, ↓Int.reduceLT, ↓reduceIte, ↓reduceCtorEq]; subst hr)
          (refine vm_op ?_); intro r hr; simp only [e0, go_sem, ↓Nat.reduceBEq, ↓Nat.reduceAdd, ↓Nat.reduceSub, ↓Nat.reduceMul, ↓Nat.reduceEqDiff, ↓Nat.reducePow, ↓Nat.reduceLeDiff, ↓Nat.reduceLT, ↓Int.reduceLE, ↓Int.reduceLT, ↓reduceIte, ↓reduceCtorEq]; subst hr
          exact hQ
          first | refine Tr.cond (b := true) rfl (fun _ => ?_) (fun h => by cases h) | refine Tr.seq (Tr.cond (b := true) rfl (fun _ => ?_) (fun h => by cases h))
          refine Tr.skip ?_
          try simp only [blockK, thenK, ↓reduceIte]
          first | refine Tr.block ?_ | (refine Tr.seq ?_; refine Tr.block ?_)
          first | apply tr_m (by rw [hE]; rfl) | (refine Tr.seq ?_; apply tr_m (by rw [hE]; rfl))
          intro Q hQ
          simp only [List.toList_toArray, List.map_cons, List.map_nil, mo, guardSlot, Option.map_some, Option.map_none, List.getElem?_toArray, List.getElem?_cons_succ, List.getElem?_cons_zero, Option.bind_some]
          iterate 3 ((refine vm_op ?_); intro r hr; simp only [go_sem, ↓Nat.reduceBEq, ↓Nat.reduceAdd, ↓Nat.reduceSub, ↓Nat.reduceMul, ↓Nat.reduceEqDiff, ↓Nat.reducePow, ↓Nat.reduceLeDiff, ↓Nat.reduceLT, ↓Int.reduceLE, ↓Int.reduceLT, ↓reduceIte, ↓reduceCtorEq]; subst hr)
          (refine vm_op ?_); intro r hr; simp only [go_sem, ↓Nat.reduceBEq, ↓Nat.reduceAdd, ↓Nat.reduceSub, ↓Nat.reduceMul, ↓Nat.reduceEqDiff, ↓Nat.reducePow, ↓Nat.reduceLeDiff, ↓Nat.reduceLT, ↓Int.reduceLE, ↓Int.reduceLT, ↓reduceIte, ↓reduceCtorEq]
          refine ⟨by omega, by omega, ?_⟩
          simp only [List.filter_cons, List.filter_nil, Bool.not_false, Bool.not_true, if_true, Bool.false_eq_true, if_false, go_sem, ↓Nat.reduceBEq, ↓Nat.reduceAdd, ↓Nat.reduceSub, ↓Nat.reduceMul, ↓Nat.reduceEqDiff, ↓Nat.reducePow, ↓Nat.reduceLeDiff, ↓Nat.reduceLT, ↓Int.reduceLE, ↓Int.reduceLT, ↓reduceIte, ↓reduceCtorEq]
          subst hr
          (refine vm_op ?_); intro r hr; simp only [go_sem, ↓Nat.reduceBEq, ↓Nat.reduceAdd, ↓Nat.reduceSub, ↓Nat.reduceMul, ↓Nat.reduceEqDiff, ↓Nat.reducePow, ↓Nat.reduceLeDiff, ↓Nat.reduceLT, ↓Int.reduceLE, ↓Int.reduceLT, ↓reduceIte, ↓reduceCtorEq]; subst hr
          exact hQ
          apply tr_ml (by rw [hE]; rfl)
          intro Q hQ
          simp only [List.toList_toArray, List.map_cons, List.map_nil, mo, guardSlot, Option.map_some, Option.map_none, List.getElem?_toArray, List.getElem?_cons_succ, List.getElem?_cons_zero, Option.bind_some]
          iterate 4 ((refine vm_op ?_); intro r hr; simp only [go_sem, ↓Nat.reduceBEq, ↓Nat.reduceAdd, ↓Nat.reduceSub, ↓Nat.reduceMul, ↓Nat.reduceEqDiff, ↓Nat.reducePow, ↓Nat.reduceLeDiff, ↓Nat.reduceLT, ↓Int.reduceLE, ↓Int.reduceLT, ↓reduceIte, ↓reduceCtorEq]; subst hr)
          (refine vm_op ?_); intro r hr; simp only [go_sem, ↓Nat.reduceBEq, ↓Nat.reduceAdd, ↓Nat.reduceSub, ↓Nat.reduceMul, ↓Nat.reduceEqDiff, ↓Nat.reducePow, ↓Nat.reduceLeDiff, ↓Nat.reduceLT, ↓Int.reduceLE, ↓Int.reduceLT, ↓reduceIte, ↓reduceCtorEq]
          refine call_fn rfl rfl rfl rfl (enters_of Try.func31 (by kernel_rfl) rfl) (refkid_pure t w ld c hl) rfl rfl rfl ?_
          simp only [go_sem, ↓Nat.reduceBEq, ↓Nat.reduceAdd, ↓Nat.reduceSub, ↓Nat.reduceMul, ↓Nat.reduceEqDiff, ↓Nat.reducePow, ↓Nat.reduceLeDiff, ↓Nat.reduceLT, ↓Int.reduceLE, ↓Int.reduceLT, ↓reduceIte, ↓reduceCtorEq]
          subst hr
          (refine vm_op ?_); intro r hr; simp only [hk, go_sem, ↓Nat.reduceBEq, ↓Nat.reduceAdd, ↓Nat.reduceSub, ↓Nat.reduceMul, ↓Nat.reduceEqDiff, ↓Nat.reducePow, ↓Nat.reduceLeDiff, ↓Nat.reduceLT, ↓Int.reduceLE, ↓Int.reduceLT, ↓reduceIte, ↓reduceCtorEq]; subst hr
          exact hQ
          try simp only [blockK, thenK, ↓reduceIte]
          refine ⟨(d ++ [c], kidF t w ld c), ⟨by omega, ?_⟩, ?_, ?_⟩
          · show (d ++ [c]) ++ lineF t w ld (kidF t w ld c) = _
            rw [List.append_assoc, List.singleton_append, ← hnext]; exact hline
          · show (lineF t w ld (kidF t w ld c)).length < (lineF t w ld c).length
            rw [hnext]; simp
          · simp only [st26, ht, List.map_append, List.length_append, List.length_singleton, List.map_cons, List.map_nil]
            refine wk_ren (fun | 1 => 130 | n => n) ?_ ?_ rfl rfl rfl
            · repeat' (first | exact rfl | exact trivial | constructor)
            · repeat' (first | exact rfl | exact trivial | constructor)
    · have er : lineR t w ld i = [] := by unfold lineR; rw [if_neg fun h => hgo ⟨h.1, h.2.1⟩]
      rw [er]
      refine Tr.loop (st26 t w ld) (fun p => p = ([], i)) (fun p => 0) ([], i) rfl ?_ ?_
      · refine (Wk.nil 9 1 rfl).trans ?_
        refine wk_ren (fun | 1 => 208 | n => n) ?_ ?_ rfl rfl rfl
        · repeat' (first | exact rfl | exact trivial | constructor)
        · repeat' (first | exact rfl | exact trivial | constructor)
      · rintro p rfl
        unfold st26
        by_cases ht : toldB t w ld = true
        · have e0 : decide (0 ≤ i) = false := decide_eq_false fun h => hgo ⟨ht, h⟩
          simp only [ht]
          first | apply tr_m (by rw [hE]; rfl) | (refine Tr.seq ?_; apply tr_m (by rw [hE]; rfl))
          intro Q hQ
          simp only [List.toList_toArray, List.map_cons, List.map_nil, mo, guardSlot, Option.map_some, Option.map_none, List.getElem?_toArray, List.getElem?_cons_succ, List.getElem?_cons_zero, Option.bind_some]
          iterate 2 ((refine vm_op ?_); intro r hr; simp only [e0, go_sem, ↓Nat.reduceBEq, ↓Nat.reduceAdd, ↓Nat.reduceSub, ↓Nat.reduceMul, ↓Nat.reduceEqDiff, ↓Nat.reducePow, ↓Nat.reduceLeDiff, ↓Nat.reduceLT, ↓Int.reduceLE, ↓Int.reduceLT, ↓reduceIte, ↓reduceCtorEq]; subst hr)
          iterate 2 ((first | refine vm_if rfl ?_ | refine vm_no rfl ?_ | refine vm_skip rfl ?_); intro r hr; simp only [e0, go_sem, ↓Nat.reduceBEq, ↓Nat.reduceAdd, ↓Nat.reduceSub, ↓Nat.reduceMul, ↓Nat.reduceEqDiff, ↓Nat.reducePow, ↓Nat.reduceLeDiff, ↓Nat.reduceLT, ↓Int.reduceLE, ↓Int.reduceLT, ↓reduceIte, ↓reduceCtorEq]; subst hr)
          (refine vm_op ?_); intro r hr; simp only [e0, go_sem, ↓Nat.reduceBEq, ↓Nat.reduceAdd, ↓Nat.reduceSub, ↓Nat.reduceMul, ↓Nat.reduceEqDiff, ↓Nat.reducePow, ↓Nat.reduceLeDiff, ↓Nat.reduceLT, ↓Int.reduceLE, ↓Int.reduceLT, ↓reduceIte, ↓reduceCtorEq]; subst hr
          exact hQ
          first | refine Tr.cond (b := false) rfl (fun h => by cases h) (fun _ => ?_) | refine Tr.seq (Tr.cond (b := false) rfl (fun h => by cases h) (fun _ => ?_))
          refine Tr.exit ?_
          try simp only [blockK, thenK, ↓reduceIte]
          first | refine tr_seq_region (by rw [hE]; rfl) ?_ | (refine Tr.seq ?_; refine tr_seq_region (by rw [hE]; rfl) ?_)
          repeat (refine vc_op rfl ?_; simp only [go_sem, ↓Nat.reduceBEq, ↓Nat.reduceAdd, ↓Nat.reduceSub, ↓Nat.reduceMul, ↓Nat.reduceEqDiff, ↓Nat.reducePow, ↓Nat.reduceLeDiff, ↓Nat.reduceLT, ↓Int.reduceLE, ↓Int.reduceLT, ↓reduceIte, ↓reduceCtorEq])
          refine vc_nil ?_
          refine Tr.ret ?_
          simp only [Try.f26, go_sem, ↓Nat.reduceBEq, ↓Nat.reduceAdd, ↓Nat.reduceSub, ↓Nat.reduceMul, ↓Nat.reduceEqDiff, ↓Nat.reducePow, ↓Nat.reduceLeDiff, ↓Nat.reduceLT, ↓Int.reduceLE, ↓Int.reduceLT, ↓reduceIte, ↓reduceCtorEq]
        · have ht : toldB t w ld = false := by simpa using ht
          simp only [ht]
          first | apply tr_m (by rw [hE]; rfl) | (refine Tr.seq ?_; apply tr_m (by rw [hE]; rfl))
          intro Q hQ
          simp only [List.toList_toArray, List.map_cons, List.map_nil, mo, guardSlot, Option.map_some, Option.map_none, List.getElem?_toArray, List.getElem?_cons_succ, List.getElem?_cons_zero, Option.bind_some]
          iterate 2 ((refine vm_op ?_); intro r hr; simp only [go_sem, ↓Nat.reduceBEq, ↓Nat.reduceAdd, ↓Nat.reduceSub, ↓Nat.reduceMul, ↓Nat.reduceEqDiff, ↓Nat.reducePow, ↓Nat.reduceLeDiff, ↓Nat.reduceLT, ↓Int.reduceLE, ↓Int.reduceLT, ↓reduceIte, ↓reduceCtorEq]; subst hr)
          iterate 2 ((first | refine vm_if rfl ?_ | refine vm_no rfl ?_ | refine vm_skip rfl ?_); intro r hr; simp only [go_sem, ↓Nat.reduceBEq, ↓Nat.reduceAdd, ↓Nat.reduceSub, ↓Nat.reduceMul, ↓Nat.reduceEqDiff, ↓Nat.reducePow, ↓Nat.reduceLeDiff, ↓Nat.reduceLT, ↓Int.reduceLE, ↓Int.reduceLT, ↓reduceIte, ↓reduceCtorEq]; subst hr)
          (refine vm_op ?_); intro r hr; simp only [go_sem, ↓Nat.reduceBEq, ↓Nat.reduceAdd, ↓Nat.reduceSub, ↓Nat.reduceMul, ↓Nat.reduceEqDiff, ↓Nat.reducePow, ↓Nat.reduceLeDiff, ↓Nat.reduceLT, ↓Int.reduceLE, ↓Int.reduceLT, ↓reduceIte, ↓reduceCtorEq]; subst hr
          exact hQ
          first | refine Tr.cond (b := false) rfl (fun h => by cases h) (fun _ => ?_) | refine Tr.seq (Tr.cond (b := false) rfl (fun h => by cases h) (fun _ => ?_))
          refine Tr.exit ?_
          try simp only [blockK, thenK, ↓reduceIte]
          first | refine tr_seq_region (by rw [hE]; rfl) ?_ | (refine Tr.seq ?_; refine tr_seq_region (by rw [hE]; rfl) ?_)
          repeat (refine vc_op rfl ?_; simp only [go_sem, ↓Nat.reduceBEq, ↓Nat.reduceAdd, ↓Nat.reduceSub, ↓Nat.reduceMul, ↓Nat.reduceEqDiff, ↓Nat.reducePow, ↓Nat.reduceLeDiff, ↓Nat.reduceLT, ↓Int.reduceLE, ↓Int.reduceLT, ↓reduceIte, ↓reduceCtorEq])
          refine vc_nil ?_
          refine Tr.ret ?_
          simp only [Try.f26, go_sem, ↓Nat.reduceBEq, ↓Nat.reduceAdd, ↓Nat.reduceSub, ↓Nat.reduceMul, ↓Nat.reduceEqDiff, ↓Nat.reducePow, ↓Nat.reduceLeDiff, ↓Nat.reduceLT, ↓Int.reduceLE, ↓Int.reduceLT, ↓reduceIte, ↓reduceCtorEq]

def st32 (l : List Int) (k : Nat) : S where
  fr := [(9, .int .i64 ((l.take k).getLastD (-1))), (16, .sl (l.map iav) false), (17, .int .i64 l.length), (18, .int .i64 k)]
  hp := []
  nx := 0

theorem take_last {l : List Int} {k : Nat} (h : k < l.length) : (l.take (k + 1)).getLastD (-1) = l[k] := by
  rw [take_next h rfl, List.getLastD_concat]

set_option maxRecDepth 10000 in
theorem head_pure (t : List Node) (w : List Int) (ld : List Bool) (i : Int) : Pure Try.prog 32 [tav t, .sl (w.map uav) false, .sl (ld.map .bool) false, .int .i64 i] (.int .i64 (headR t w ld i)) := by
  have hll := lineR_len t w ld i
  have hlp := line_pure t w ld i
  have hr : headR t w ld i = (lineR t w ld i).getLastD (-1) := rfl
  generalize lineR t w ld i = l at hll hlp hr
  rw [hr]
  refine pure_of_tr Try.func32 rfl (Nat.le_of_ble_eq_true rfl) rfl fun E hE hP => ?_
  first | refine tr_seq_region (by rw [hE]; rfl) ?_ | (refine Tr.seq ?_; refine tr_seq_region (by rw [hE]; rfl) ?_)
  repeat (refine vc_op rfl ?_; simp only [go_sem, ↓Nat.reduceBEq, ↓Nat.reduceAdd, ↓Nat.reduceSub, ↓Nat.reduceMul, ↓Nat.reduceEqDiff, ↓Nat.reducePow, ↓Nat.reduceLeDiff, ↓Nat.reduceLT, ↓Int.reduceLE, ↓Int.reduceLT, ↓reduceIte, ↓reduceCtorEq])
  refine vc_nil ?_
  first | refine tr_seq_region (by rw [hE]; rfl) ?_ | (refine Tr.seq ?_; refine tr_seq_region (by rw [hE]; rfl) ?_)
  repeat (refine vc_op rfl ?_; simp only [go_sem, ↓Nat.reduceBEq, ↓Nat.reduceAdd, ↓Nat.reduceSub, ↓Nat.reduceMul, ↓Nat.reduceEqDiff, ↓Nat.reducePow, ↓Nat.reduceLeDiff, ↓Nat.reduceLT, ↓Int.reduceLE, ↓Int.reduceLT, ↓reduceIte, ↓reduceCtorEq])
  refine vc_nil ?_
  first | apply tr_m (by rw [hE]; rfl) | (refine Tr.seq ?_; apply tr_m (by rw [hE]; rfl))
  intro Q hQ
  simp only [List.toList_toArray, List.map_cons, List.map_nil, mo, guardSlot, Option.map_some, Option.map_none, List.getElem?_toArray, List.getElem?_cons_succ, List.getElem?_cons_zero, Option.bind_some]
  iterate 4 ((refine vm_op ?_); intro r hr; simp only [go_sem, ↓Nat.reduceBEq, ↓Nat.reduceAdd, ↓Nat.reduceSub, ↓Nat.reduceMul, ↓Nat.reduceEqDiff, ↓Nat.reducePow, ↓Nat.reduceLeDiff, ↓Nat.reduceLT, ↓Int.reduceLE, ↓Int.reduceLT, ↓reduceIte, ↓reduceCtorEq]; subst hr)
  (refine vm_op ?_); intro r hr; simp only [go_sem, ↓Nat.reduceBEq, ↓Nat.reduceAdd, ↓Nat.reduceSub, ↓Nat.reduceMul, ↓Nat.reduceEqDiff, ↓Nat.reducePow, ↓Nat.reduceLeDiff, ↓Nat.reduceLT, ↓Int.reduceLE, ↓Int.reduceLT, ↓reduceIte, ↓reduceCtorEq]
  refine call_fn rfl rfl rfl rfl (enters_of Try.func25 (by kernel_rfl) rfl) (hlp) rfl rfl rfl ?_
  simp only [go_sem, ↓Nat.reduceBEq, ↓Nat.reduceAdd, ↓Nat.reduceSub, ↓Nat.reduceMul, ↓Nat.reduceEqDiff, ↓Nat.reducePow, ↓Nat.reduceLeDiff, ↓Nat.reduceLT, ↓Int.reduceLE, ↓Int.reduceLT, ↓reduceIte, ↓reduceCtorEq]
  subst hr
  iterate 2 ((refine vm_op ?_); intro r hr; simp only [List.length_map, go_sem, ↓Nat.reduceBEq, ↓Nat.reduceAdd, ↓Nat.reduceSub, ↓Nat.reduceMul, ↓Nat.reduceEqDiff, ↓Nat.reducePow, ↓Nat.reduceLeDiff, ↓Nat.reduceLT, ↓Int.reduceLE, ↓Int.reduceLT, ↓reduceIte, ↓reduceCtorEq]; subst hr)
  exact hQ
  first | refine Tr.block ?_ | (refine Tr.seq ?_; refine Tr.block ?_)
  refine Tr.loop (st32 l) (fun k => k ≤ l.length) (fun k => l.length - k) 0 (Nat.zero_le _) ?_ ?_
  · refine wk_ren (fun n => n) ?_ ?_ rfl rfl rfl
    · repeat' (first | exact rfl | exact trivial | constructor)
    · repeat' (first | exact rfl | exact trivial | constructor)
  · intro k hk
    unfold st32
    first | refine tr_seq_region (by rw [hE]; rfl) ?_ | (refine Tr.seq ?_; refine tr_seq_region (by rw [hE]; rfl) ?_)
    repeat (refine vc_op rfl ?_; simp only [go_sem, ↓Nat.reduceBEq, ↓Nat.reduceAdd, ↓Nat.reduceSub, ↓Nat.reduceMul, ↓Nat.reduceEqDiff, ↓Nat.reducePow, ↓Nat.reduceLeDiff, ↓Nat.reduceLT, ↓Int.reduceLE, ↓Int.reduceLT, ↓reduceIte, ↓reduceCtorEq])
    refine vc_nil ?_
    first | refine Tr.cond rfl (fun h1 => ?_) (fun h1 => ?_) | refine Tr.seq (Tr.cond rfl (fun h1 => ?_) (fun h1 => ?_))
    · refine Tr.skip ?_
      try simp only [blockK, thenK, ↓reduceIte]
      have hlt : k < l.length := by have := of_decide_eq_true h1; omega
      have ha := nth_map_lt iav l k hlt
      simp only [iav] at ha
      have hw := wrap_next (n := k) (by omega)
      have ht := take_last hlt
      first | refine Tr.block ?_ | (refine Tr.seq ?_; refine Tr.block ?_)
      first | refine tr_seq_region (by rw [hE]; rfl) ?_ | (refine Tr.seq ?_; refine tr_seq_region (by rw [hE]; rfl) ?_)
      repeat (refine vc_op rfl ?_; simp only [iav, ha, go_sem, ↓Nat.reduceBEq, ↓Nat.reduceAdd, ↓Nat.reduceSub, ↓Nat.reduceMul, ↓Nat.reduceEqDiff, ↓Nat.reducePow, ↓Nat.reduceLeDiff, ↓Nat.reduceLT, ↓Int.reduceLE, ↓Int.reduceLT, ↓reduceIte, ↓reduceCtorEq])
      refine vc_nil ?_
      refine tr_region (by rw [hE]; rfl) ?_
      repeat (refine vc_op rfl ?_; simp only [go_sem, ↓Nat.reduceBEq, ↓Nat.reduceAdd, ↓Nat.reduceSub, ↓Nat.reduceMul, ↓Nat.reduceEqDiff, ↓Nat.reducePow, ↓Nat.reduceLeDiff, ↓Nat.reduceLT, ↓Int.reduceLE, ↓Int.reduceLT, ↓reduceIte, ↓reduceCtorEq])
      refine vc_nil ?_
      try simp only [blockK, thenK, ↓reduceIte]
      refine tr_region (by rw [hE]; rfl) ?_
      repeat (refine vc_op rfl ?_; simp only [go_sem, ↓Nat.reduceBEq, ↓Nat.reduceAdd, ↓Nat.reduceSub, ↓Nat.reduceMul, ↓Nat.reduceEqDiff, ↓Nat.reducePow, ↓Nat.reduceLeDiff, ↓Nat.reduceLT, ↓Int.reduceLE, ↓Int.reduceLT, ↓reduceIte, ↓reduceCtorEq])
      refine vc_nil ?_
      rw [hw]
      try simp only [blockK, thenK, ↓reduceIte]
      refine ⟨k + 1, hlt, by omega, ?_⟩
      rw [ht]
      refine wk_ren (fun n => n) ?_ ?_ rfl rfl rfl
      · repeat' (first | exact rfl | exact trivial | constructor)
      · repeat' (first | exact rfl | exact trivial | constructor)
    · refine Tr.exit ?_
      try simp only [blockK, thenK, ↓reduceIte]
      have hkl : k = l.length := by have := of_decide_eq_false h1; omega
      have er : (l.take k).getLastD (-1) = l.getLastD (-1) := by rw [hkl, List.take_length]
      first | refine tr_seq_region (by rw [hE]; rfl) ?_ | (refine Tr.seq ?_; refine tr_seq_region (by rw [hE]; rfl) ?_)
      repeat (refine vc_op rfl ?_; simp only [go_sem, ↓Nat.reduceBEq, ↓Nat.reduceAdd, ↓Nat.reduceSub, ↓Nat.reduceMul, ↓Nat.reduceEqDiff, ↓Nat.reducePow, ↓Nat.reduceLeDiff, ↓Nat.reduceLT, ↓Int.reduceLE, ↓Int.reduceLT, ↓reduceIte, ↓reduceCtorEq])
      refine vc_nil ?_
      refine Tr.ret ?_
      simp only [er, Try.f32, go_sem, ↓Nat.reduceBEq, ↓Nat.reduceAdd, ↓Nat.reduceSub, ↓Nat.reduceMul, ↓Nat.reduceEqDiff, ↓Nat.reducePow, ↓Nat.reduceLeDiff, ↓Nat.reduceLT, ↓Int.reduceLE, ↓Int.reduceLT, ↓reduceIte, ↓reduceCtorEq]

theorem last_getD {l : List Int} (h : 1 ≤ l.length) : l.getLastD (-1) = l[l.length - 1] := by
  have := take_last (l := l) (k := l.length - 1) (by omega)
  rwa [show l.length - 1 + 1 = l.length by omega, List.take_length] at this

set_option maxRecDepth 10000 in
theorem refhead_pure (t : List Node) (w : List Int) (ld : List Bool) (i : Int) (hl : t.length ≤ 100) : Pure Try.prog 33 [tav t, .sl (w.map uav) false, .sl (ld.map .bool) false, .int .i64 i] (.int .i64 (headR t w ld i)) := by
  have hll := lineR_len t w ld i
  have hlp := refline_pure t w ld i hl
  have hr : headR t w ld i = (lineR t w ld i).getLastD (-1) := rfl
  generalize lineR t w ld i = l at hll hlp hr
  rw [hr]
  refine pure_of_tr Try.func33 rfl (Nat.le_of_ble_eq_true rfl) rfl fun E hE hP => ?_
  first | refine tr_seq_region (by rw [hE]; rfl) ?_ | (refine Tr.seq ?_; refine tr_seq_region (by rw [hE]; rfl) ?_)
  repeat (refine vc_op rfl ?_; simp only [go_sem, ↓Nat.reduceBEq, ↓Nat.reduceAdd, ↓Nat.reduceSub, ↓Nat.reduceMul, ↓Nat.reduceEqDiff, ↓Nat.reducePow, ↓Nat.reduceLeDiff, ↓Nat.reduceLT, ↓Int.reduceLE, ↓Int.reduceLT, ↓reduceIte, ↓reduceCtorEq])
  refine vc_nil ?_
  first | apply tr_m (by rw [hE]; rfl) | (refine Tr.seq ?_; apply tr_m (by rw [hE]; rfl))
  intro Q hQ
  simp only [List.toList_toArray, List.map_cons, List.map_nil, mo, guardSlot, Option.map_some, Option.map_none, List.getElem?_toArray, List.getElem?_cons_succ, List.getElem?_cons_zero, Option.bind_some]
  iterate 4 ((refine vm_op ?_); intro r hr; simp only [go_sem, ↓Nat.reduceBEq, ↓Nat.reduceAdd, ↓Nat.reduceSub, ↓Nat.reduceMul, ↓Nat.reduceEqDiff, ↓Nat.reducePow, ↓Nat.reduceLeDiff, ↓Nat.reduceLT, ↓Int.reduceLE, ↓Int.reduceLT, ↓reduceIte, ↓reduceCtorEq]; subst hr)
  (refine vm_op ?_); intro r hr; simp only [go_sem, ↓Nat.reduceBEq, ↓Nat.reduceAdd, ↓Nat.reduceSub, ↓Nat.reduceMul, ↓Nat.reduceEqDiff, ↓Nat.reducePow, ↓Nat.reduceLeDiff, ↓Nat.reduceLT, ↓Int.reduceLE, ↓Int.reduceLT, ↓reduceIte, ↓reduceCtorEq]
  refine call_fn rfl rfl rfl rfl (enters_of Try.func26 (by kernel_rfl) rfl) (hlp) rfl rfl rfl ?_
  simp only [go_sem, ↓Nat.reduceBEq, ↓Nat.reduceAdd, ↓Nat.reduceSub, ↓Nat.reduceMul, ↓Nat.reduceEqDiff, ↓Nat.reducePow, ↓Nat.reduceLeDiff, ↓Nat.reduceLT, ↓Int.reduceLE, ↓Int.reduceLT, ↓reduceIte, ↓reduceCtorEq]
  subst hr
  (refine vm_op ?_); intro r hr; simp only [go_sem, ↓Nat.reduceBEq, ↓Nat.reduceAdd, ↓Nat.reduceSub, ↓Nat.reduceMul, ↓Nat.reduceEqDiff, ↓Nat.reducePow, ↓Nat.reduceLeDiff, ↓Nat.reduceLT, ↓Int.reduceLE, ↓Int.reduceLT, ↓reduceIte, ↓reduceCtorEq]; subst hr
  exact hQ
  rcases Nat.eq_zero_or_pos l.length with h0 | h0
  · have e0 : ((l.length : Int) == 0) = true := by rw [int_beq]; exact decide_eq_true (by omega)
    have er : l.getLastD (-1) = -1 := by rw [List.length_eq_zero_iff.1 h0]; rfl
    first | apply tr_m (by rw [hE]; rfl) | (refine Tr.seq ?_; apply tr_m (by rw [hE]; rfl))
    intro Q hQ
    simp only [List.toList_toArray, List.map_cons, List.map_nil, mo, guardSlot, Option.map_some, Option.map_none, List.getElem?_toArray, List.getElem?_cons_succ, List.getElem?_cons_zero, Option.bind_some]
    iterate 3 ((refine vm_op ?_); intro r hr; simp only [List.length_map, e0, go_sem, ↓Nat.reduceBEq, ↓Nat.reduceAdd, ↓Nat.reduceSub, ↓Nat.reduceMul, ↓Nat.reduceEqDiff, ↓Nat.reducePow, ↓Nat.reduceLeDiff, ↓Nat.reduceLT, ↓Int.reduceLE, ↓Int.reduceLT, ↓reduceIte, ↓reduceCtorEq]; subst hr)
    exact hQ
    first | refine Tr.cond (b := true) rfl (fun _ => ?_) (fun h => by cases h) | refine Tr.seq (Tr.cond (b := true) rfl (fun _ => ?_) (fun h => by cases h))
    first | refine tr_seq_region (by rw [hE]; rfl) ?_ | (refine Tr.seq ?_; refine tr_seq_region (by rw [hE]; rfl) ?_)
    repeat (refine vc_op rfl ?_; simp only [go_sem, ↓Nat.reduceBEq, ↓Nat.reduceAdd, ↓Nat.reduceSub, ↓Nat.reduceMul, ↓Nat.reduceEqDiff, ↓Nat.reducePow, ↓Nat.reduceLeDiff, ↓Nat.reduceLT, ↓Int.reduceLE, ↓Int.reduceLT, ↓reduceIte, ↓reduceCtorEq])
    refine vc_nil ?_
    refine Tr.ret ?_
    simp only [er, Try.f33, go_sem, ↓Nat.reduceBEq, ↓Nat.reduceAdd, ↓Nat.reduceSub, ↓Nat.reduceMul, ↓Nat.reduceEqDiff, ↓Nat.reducePow, ↓Nat.reduceLeDiff, ↓Nat.reduceLT, ↓Int.reduceLE, ↓Int.reduceLT, ↓reduceIte, ↓reduceCtorEq]
  · have e0 : ((l.length : Int) == 0) = false := by rw [int_beq]; exact decide_eq_false (by omega)
    have hw : IntKind.i64.wrap ((l.length : Int) - 1) = ((l.length - 1 : Nat) : Int) := by rw [wrap64_id (by omega) (by omega)]; omega
    have ha := nth_map_lt iav l (l.length - 1) (by omega)
    have er := last_getD h0
    simp only [iav] at ha
    first | apply tr_m (by rw [hE]; rfl) | (refine Tr.seq ?_; apply tr_m (by rw [hE]; rfl))
    intro Q hQ
    simp only [List.toList_toArray, List.map_cons, List.map_nil, mo, guardSlot, Option.map_some, Option.map_none, List.getElem?_toArray, List.getElem?_cons_succ, List.getElem?_cons_zero, Option.bind_some]
    iterate 3 ((refine vm_op ?_); intro r hr; simp only [List.length_map, e0, go_sem, ↓Nat.reduceBEq, ↓Nat.reduceAdd, ↓Nat.reduceSub, ↓Nat.reduceMul, ↓Nat.reduceEqDiff, ↓Nat.reducePow, ↓Nat.reduceLeDiff, ↓Nat.reduceLT, ↓Int.reduceLE, ↓Int.reduceLT, ↓reduceIte, ↓reduceCtorEq]; subst hr)
    exact hQ
    first | refine Tr.cond rfl (fun h => by cases h) (fun _ => ?_) | refine Tr.seq (Tr.cond rfl (fun h => by cases h) (fun _ => ?_))
    refine Tr.skip ?_
    try simp only [blockK, thenK, ↓reduceIte]
    first | apply tr_m (by rw [hE]; rfl) | (refine Tr.seq ?_; apply tr_m (by rw [hE]; rfl))
    intro Q hQ
    simp only [List.toList_toArray, List.map_cons, List.map_nil, mo, guardSlot, Option.map_some, Option.map_none, List.getElem?_toArray, List.getElem?_cons_succ, List.getElem?_cons_zero, Option.bind_some]
    iterate 7 ((refine vm_op ?_); intro r hr; simp only [List.length_map, hw, iav, ha, go_sem, ↓Nat.reduceBEq, ↓Nat.reduceAdd, ↓Nat.reduceSub, ↓Nat.reduceMul, ↓Nat.reduceEqDiff, ↓Nat.reducePow, ↓Nat.reduceLeDiff, ↓Nat.reduceLT, ↓Int.reduceLE, ↓Int.reduceLT, ↓reduceIte, ↓reduceCtorEq]; subst hr)
    exact hQ
    refine Tr.ret ?_
    simp only [er, Try.f33, go_sem, ↓Nat.reduceBEq, ↓Nat.reduceAdd, ↓Nat.reduceSub, ↓Nat.reduceMul, ↓Nat.reduceEqDiff, ↓Nat.reducePow, ↓Nat.reduceLeDiff, ↓Nat.reduceLT, ↓Int.reduceLE, ↓Int.reduceLT, ↓reduceIte, ↓reduceCtorEq]

def st24 (a b : List Int) (i : Nat) : S where
  fr := [(0, .sl (a.map iav) false), (1, .sl (b.map iav) false), (5, .int .i64 i)]
  hp := []
  nx := 0

set_option maxRecDepth 10000 in
theorem ints_pure (a b : List Int) (hl : a.length ≤ 100) : Pure Try.prog 24 [.sl (a.map iav) false, .sl (b.map iav) false] (.bool (decide (a = b))) := by
  refine pure_of_tr Try.func24 rfl (Nat.le_of_ble_eq_true rfl) rfl fun E hE hP => ?_
  first | refine tr_seq_region (by rw [hE]; rfl) ?_ | (refine Tr.seq ?_; refine tr_seq_region (by rw [hE]; rfl) ?_)
  repeat (refine vc_op rfl ?_; simp only [go_sem, ↓Nat.reduceBEq, ↓Nat.reduceAdd, ↓Nat.reduceSub, ↓Nat.reduceMul, ↓Nat.reduceEqDiff, ↓Nat.reducePow, ↓Nat.reduceLeDiff, ↓Nat.reduceLT, ↓Int.reduceLE, ↓Int.reduceLT, ↓reduceIte, ↓reduceCtorEq])
  refine vc_nil ?_
  by_cases hlen : a.length = b.length
  · have e0 : ((a.length : Int) != (b.length : Int)) = false := by rw [int_bne, decide_eq_true (by omega)]; rfl
    first | apply tr_m (by rw [hE]; rfl) | (refine Tr.seq ?_; apply tr_m (by rw [hE]; rfl))
    intro Q hQ
    simp only [List.toList_toArray, List.map_cons, List.map_nil, mo, guardSlot, Option.map_some, Option.map_none, List.getElem?_toArray, List.getElem?_cons_succ, List.getElem?_cons_zero, Option.bind_some]
    iterate 5 ((refine vm_op ?_); intro r hr; simp only [List.length_map, e0, go_sem, ↓Nat.reduceBEq, ↓Nat.reduceAdd, ↓Nat.reduceSub, ↓Nat.reduceMul, ↓Nat.reduceEqDiff, ↓Nat.reducePow, ↓Nat.reduceLeDiff, ↓Nat.reduceLT, ↓Int.reduceLE, ↓Int.reduceLT, ↓reduceIte, ↓reduceCtorEq]; subst hr)
    exact hQ
    first | refine Tr.cond rfl (fun h => by cases h) (fun _ => ?_) | refine Tr.seq (Tr.cond rfl (fun h => by cases h) (fun _ => ?_))
    refine Tr.skip ?_
    try simp only [blockK, thenK, ↓reduceIte]
    first | refine tr_seq_region (by rw [hE]; rfl) ?_ | (refine Tr.seq ?_; refine tr_seq_region (by rw [hE]; rfl) ?_)
    repeat (refine vc_op rfl ?_; simp only [go_sem, ↓Nat.reduceBEq, ↓Nat.reduceAdd, ↓Nat.reduceSub, ↓Nat.reduceMul, ↓Nat.reduceEqDiff, ↓Nat.reducePow, ↓Nat.reduceLeDiff, ↓Nat.reduceLT, ↓Int.reduceLE, ↓Int.reduceLT, ↓reduceIte, ↓reduceCtorEq])
    refine vc_nil ?_
    first | refine Tr.block ?_ | (refine Tr.seq ?_; refine Tr.block ?_)
    refine Tr.loop (st24 a b) (fun i => i ≤ a.length ∧ a.take i = b.take i) (fun i => a.length - i) 0 ⟨Nat.zero_le _, rfl⟩ ?_ ?_
    · refine wk_ren (fun n => n) ?_ ?_ rfl rfl rfl
      · repeat' (first | exact rfl | exact trivial | constructor)
      · repeat' (first | exact rfl | exact trivial | constructor)
    · rintro i ⟨hi, htk⟩
      unfold st24
      first | refine tr_seq_region (by rw [hE]; rfl) ?_ | (refine Tr.seq ?_; refine tr_seq_region (by rw [hE]; rfl) ?_)
      repeat (refine vc_op rfl ?_; simp only [List.length_map, go_sem, ↓Nat.reduceBEq, ↓Nat.reduceAdd, ↓Nat.reduceSub, ↓Nat.reduceMul, ↓Nat.reduceEqDiff, ↓Nat.reducePow, ↓Nat.reduceLeDiff, ↓Nat.reduceLT, ↓Int.reduceLE, ↓Int.reduceLT, ↓reduceIte, ↓reduceCtorEq])
      refine vc_nil ?_
      first | refine Tr.cond rfl (fun h1 => ?_) (fun h1 => ?_) | refine Tr.seq (Tr.cond rfl (fun h1 => ?_) (fun h1 => ?_))
      · refine Tr.skip ?_
        try simp only [blockK, thenK, ↓reduceIte]
        have hlt : i < a.length := by have := of_decide_eq_true h1; omega
        have hltb : i < b.length := by omega
        have ha := nth_map_lt iav a i hlt
        have hb := nth_map_lt iav b i hltb
        simp only [iav] at ha hb
        have hw := wrap_next (n := i) (by omega)
        first | refine Tr.block ?_ | (refine Tr.seq ?_; refine Tr.block ?_)
        by_cases hab : a[i] = b[i]
        · have e1 : (a[i] != b[i]) = false := by rw [int_bne, decide_eq_true hab]; rfl
          first | apply tr_md mixed [] rfl (by rw [hE]; rfl) (by kernel_rfl) | (refine Tr.seq ?_; apply tr_md mixed [] rfl (by rw [hE]; rfl) (by kernel_rfl))
          intro Q hQ
          simp only [List.toList_toArray, List.map_cons, List.map_nil, mo, guardSlot, Option.map_some, Option.map_none, List.getElem?_toArray, List.getElem?_cons_succ, List.getElem?_cons_zero, Option.bind_some]
          iterate 9 ((refine vd2_q rfl ?_); intro r hr; simp only [iav, ha, hb, e1, go_sem, ↓Nat.reduceBEq, ↓Nat.reduceAdd, ↓Nat.reduceSub, ↓Nat.reduceMul, ↓Nat.reduceEqDiff, ↓Nat.reducePow, ↓Nat.reduceLeDiff, ↓Nat.reduceLT, ↓Int.reduceLE, ↓Int.reduceLT, ↓reduceIte, ↓reduceCtorEq]; subst hr)
          exact hQ
          first | refine Tr.cond rfl (fun h => by cases h) (fun _ => ?_) | refine Tr.seq (Tr.cond rfl (fun h => by cases h) (fun _ => ?_))
          refine Tr.skip ?_
          try simp only [blockK, thenK, ↓reduceIte]
          refine tr_region (by rw [hE]; rfl) ?_
          repeat (refine vc_op rfl ?_; simp only [go_sem, ↓Nat.reduceBEq, ↓Nat.reduceAdd, ↓Nat.reduceSub, ↓Nat.reduceMul, ↓Nat.reduceEqDiff, ↓Nat.reducePow, ↓Nat.reduceLeDiff, ↓Nat.reduceLT, ↓Int.reduceLE, ↓Int.reduceLT, ↓reduceIte, ↓reduceCtorEq])
          refine vc_nil ?_
          rw [hw]
          try simp only [blockK, thenK, ↓reduceIte]
          refine ⟨i + 1, ⟨hlt, by rw [take_next hlt rfl, take_next hltb rfl, htk, hab]⟩, by omega, ?_⟩
          refine wk_ren (fun n => n) ?_ ?_ rfl rfl rfl
          · repeat' (first | exact rfl | exact trivial | constructor)
          · repeat' (first | exact rfl | exact trivial | constructor)
        · have e1 : (a[i] != b[i]) = true := by rw [int_bne, decide_eq_false hab]; rfl
          have er : decide (a = b) = false := decide_eq_false fun h => hab (by subst h; rfl)
          first | apply tr_md mixed [] rfl (by rw [hE]; rfl) (by kernel_rfl) | (refine Tr.seq ?_; apply tr_md mixed [] rfl (by rw [hE]; rfl) (by kernel_rfl))
          intro Q hQ
          simp only [List.toList_toArray, List.map_cons, List.map_nil, mo, guardSlot, Option.map_some, Option.map_none, List.getElem?_toArray, List.getElem?_cons_succ, List.getElem?_cons_zero, Option.bind_some]
          iterate 9 ((refine vd2_q rfl ?_); intro r hr; simp only [iav, ha, hb, e1, go_sem, ↓Nat.reduceBEq, ↓Nat.reduceAdd, ↓Nat.reduceSub, ↓Nat.reduceMul, ↓Nat.reduceEqDiff, ↓Nat.reducePow, ↓Nat.reduceLeDiff, ↓Nat.reduceLT, ↓Int.reduceLE, ↓Int.reduceLT, ↓reduceIte, ↓reduceCtorEq]; subst hr)
          exact hQ
          first | refine Tr.cond (b := true) rfl (fun _ => ?_) (fun h => by cases h) | refine Tr.seq (Tr.cond (b := true) rfl (fun _ => ?_) (fun h => by cases h))
          first | refine tr_seq_region (by rw [hE]; rfl) ?_ | (refine Tr.seq ?_; refine tr_seq_region (by rw [hE]; rfl) ?_)
          repeat (refine vc_op rfl ?_; simp only [go_sem, ↓Nat.reduceBEq, ↓Nat.reduceAdd, ↓Nat.reduceSub, ↓Nat.reduceMul, ↓Nat.reduceEqDiff, ↓Nat.reducePow, ↓Nat.reduceLeDiff, ↓Nat.reduceLT, ↓Int.reduceLE, ↓Int.reduceLT, ↓reduceIte, ↓reduceCtorEq])
          refine vc_nil ?_
          refine Tr.ret ?_
          simp only [er, Try.f24, go_sem, ↓Nat.reduceBEq, ↓Nat.reduceAdd, ↓Nat.reduceSub, ↓Nat.reduceMul, ↓Nat.reduceEqDiff, ↓Nat.reducePow, ↓Nat.reduceLeDiff, ↓Nat.reduceLT, ↓Int.reduceLE, ↓Int.reduceLT, ↓reduceIte, ↓reduceCtorEq]
      · refine Tr.exit ?_
        try simp only [blockK, thenK, ↓reduceIte]
        have hil : i = a.length := by have := of_decide_eq_false h1; omega
        have er : decide (a = b) = true := decide_eq_true (by rw [hil, List.take_length, hlen, List.take_length] at htk; exact htk)
        first | refine tr_seq_region (by rw [hE]; rfl) ?_ | (refine Tr.seq ?_; refine tr_seq_region (by rw [hE]; rfl) ?_)
        repeat (refine vc_op rfl ?_; simp only [go_sem, ↓Nat.reduceBEq, ↓Nat.reduceAdd, ↓Nat.reduceSub, ↓Nat.reduceMul, ↓Nat.reduceEqDiff, ↓Nat.reducePow, ↓Nat.reduceLeDiff, ↓Nat.reduceLT, ↓Int.reduceLE, ↓Int.reduceLT, ↓reduceIte, ↓reduceCtorEq])
        refine vc_nil ?_
        refine Tr.ret ?_
        simp only [er, Try.f24, go_sem, ↓Nat.reduceBEq, ↓Nat.reduceAdd, ↓Nat.reduceSub, ↓Nat.reduceMul, ↓Nat.reduceEqDiff, ↓Nat.reducePow, ↓Nat.reduceLeDiff, ↓Nat.reduceLT, ↓Int.reduceLE, ↓Int.reduceLT, ↓reduceIte, ↓reduceCtorEq]
  · have e0 : ((a.length : Int) != (b.length : Int)) = true := by rw [int_bne, decide_eq_false (by omega)]; rfl
    have er : decide (a = b) = false := decide_eq_false fun h => hlen (by rw [h])
    first | apply tr_m (by rw [hE]; rfl) | (refine Tr.seq ?_; apply tr_m (by rw [hE]; rfl))
    intro Q hQ
    simp only [List.toList_toArray, List.map_cons, List.map_nil, mo, guardSlot, Option.map_some, Option.map_none, List.getElem?_toArray, List.getElem?_cons_succ, List.getElem?_cons_zero, Option.bind_some]
    iterate 5 ((refine vm_op ?_); intro r hr; simp only [List.length_map, e0, go_sem, ↓Nat.reduceBEq, ↓Nat.reduceAdd, ↓Nat.reduceSub, ↓Nat.reduceMul, ↓Nat.reduceEqDiff, ↓Nat.reducePow, ↓Nat.reduceLeDiff, ↓Nat.reduceLT, ↓Int.reduceLE, ↓Int.reduceLT, ↓reduceIte, ↓reduceCtorEq]; subst hr)
    exact hQ
    first | refine Tr.cond (b := true) rfl (fun _ => ?_) (fun h => by cases h) | refine Tr.seq (Tr.cond (b := true) rfl (fun _ => ?_) (fun h => by cases h))
    first | refine tr_seq_region (by rw [hE]; rfl) ?_ | (refine Tr.seq ?_; refine tr_seq_region (by rw [hE]; rfl) ?_)
    repeat (refine vc_op rfl ?_; simp only [go_sem, ↓Nat.reduceBEq, ↓Nat.reduceAdd, ↓Nat.reduceSub, ↓Nat.reduceMul, ↓Nat.reduceEqDiff, ↓Nat.reducePow, ↓Nat.reduceLeDiff, ↓Nat.reduceLT, ↓Int.reduceLE, ↓Int.reduceLT, ↓reduceIte, ↓reduceCtorEq])
    refine vc_nil ?_
    refine Tr.ret ?_
    simp only [er, Try.f24, go_sem, ↓Nat.reduceBEq, ↓Nat.reduceAdd, ↓Nat.reduceSub, ↓Nat.reduceMul, ↓Nat.reduceEqDiff, ↓Nat.reducePow, ↓Nat.reduceLeDiff, ↓Nat.reduceLT, ↓Int.reduceLE, ↓Int.reduceLT, ↓reduceIte, ↓reduceCtorEq]
